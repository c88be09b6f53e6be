/- FnExactControlRead's model is true at every input. -/
import Derived.Test.YtndhbfkahbbkaaaPh
set_option linter.unusedVariables false
set_option linter.unusedSimpArgs false
namespace Go.Proofs.Ytndhbfkahbbkaaa
open Go V
theorem laws_FnExactControlRead_true (a0 : (List Int)) (h0 : (a0.length ≤ maxLen ∧ ∀ y ∈ a0, InK .u8 y)) : laws_FnExactControlRead.f a0 = some true := by
  unfold laws_FnExactControlRead.f
  by_cases hb : (a0.length : Int) > 1048576
  · rw [if_pos (by simpa using hb)]
  · rw [if_neg (by simpa using hb), toByteS a0 (by omega)]
    simp only [Option.bind_some, spec_ControlRead a0 h0.2 (by omega), impl_ControlRead a0 h0.2 (by omega), eqControl, eqByteS a0 a0 h0.1, decide_true, Bool.not_true, Bool.false_eq_true, if_false, Bool.false_or]
    simp
end Go.Proofs.Ytndhbfkahbbkaaa
