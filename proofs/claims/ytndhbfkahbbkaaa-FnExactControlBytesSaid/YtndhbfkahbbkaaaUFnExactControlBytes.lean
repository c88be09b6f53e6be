/- FnExactControlBytes' model is true at every input. -/
import Derived.Test.YtndhbfkahbbkaaaPd
set_option linter.unusedVariables false
set_option linter.unusedSimpArgs false
namespace Go.Proofs.Ytndhbfkahbbkaaa
open Go V
theorem laws_FnExactControlBytes_true (a0 : Control) (h0 : ok23 a0) : laws_FnExactControlBytes.f a0 = some true := by
  unfold laws_FnExactControlBytes.f laws_toControl.f
  have hl := cb_len a0
  have hm := markByteS (CB a0) 1 (by omega) (by omega) (by omega)
  have hh := heldByteS 1 (CB a0).length (by omega) (by omega) (by omega)
  simp only [Option.bind_some, spec_ControlBytes a0 h0, impl_ControlBytes a0 h0, eqByteS _ _ (show (CB a0).length ≤ maxLen by simp only [maxLen]; omega), hm, hh, decide_true, Bool.not_true, Bool.false_eq_true, if_false]
  rw [if_neg (by simp; omega), if_neg (by simp), if_neg (by simp; omega), if_neg (by simp)]
end Go.Proofs.Ytndhbfkahbbkaaa
