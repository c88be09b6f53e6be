import Derived.Test.YtiofnjnnocjbhaaDoorP1
/- FnExactOpText's model is true at every input. -/
set_option linter.unusedVariables false
set_option linter.unusedSimpArgs false
set_option linter.unusedSectionVars false
namespace Go.Proofs.YtiofnjnnocjbhaaDoor
open Go V Ieee
theorem laws_FnExactOpText_true (a0 : Op) (h0 : ok_Op a0) : laws_FnExactOpText.f a0 = some true := by
  unfold laws_FnExactOpText.f
  obtain ⟨r, er, hr, hr2⟩ := szOp a0 1048576 h0 (by omega) (by omega)
  rw [er, Option.bind_some]
  by_cases hn : r < 0
  · rw [if_pos (by simpa using hn)]
  · rw [if_neg (by simpa using hn)]
    have hz : zOp a0 ≤ 1048576 := by have := hr2 (by omega); omega
    have hl := OPO_len a0 h0
    obtain ⟨q, b, hb, hq⟩ := markOp a0 hz
    obtain ⟨d, hm, _, hh⟩ := markByteS (OPO a0) 1 (by omega) (by omega)
    have he : laws_eqByteS.f (OPO a0) (OPO a0) = some true := eqByteS _ (by omega)
    simp only [toOp a0 hz, Option.bind_some, spec_OpText' a0 h0, impl_OpText a0 h0, he, eqOp a0 hz, hb, hm, hh, Bool.not_true, Bool.false_eq_true, if_false]
    rw [if_neg (by simp; omega)]
    simp only [Option.bind_some, Bool.not_true, Bool.false_eq_true, if_false]
    rw [if_neg (by simp; omega), if_neg (by simp), if_neg (by simp; omega), if_neg (by simp)]
end Go.Proofs.YtiofnjnnocjbhaaDoor
