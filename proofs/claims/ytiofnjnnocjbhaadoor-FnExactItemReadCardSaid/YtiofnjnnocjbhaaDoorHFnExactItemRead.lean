import Derived.Test.YtiofnjnnocjbhaaDoorP1
/- FnExactItemRead's model is true at every input. -/
set_option linter.unusedVariables false
set_option linter.unusedSimpArgs false
set_option linter.unusedSectionVars false
namespace Go.Proofs.YtiofnjnnocjbhaaDoor
open Go V Ieee
theorem laws_FnExactItemRead_true (a0 : List Int) (h0 : a0.length ≤ maxLen ∧ ∀ y ∈ a0, InK .u8 y) : laws_FnExactItemRead.f a0 = some true := by
  unfold laws_FnExactItemRead.f
  by_cases hn : a0.length > 1048576
  · rw [if_pos (by simp; omega)]
  · rw [if_neg (by simp; omega)]
    obtain ⟨⟨r, ok⟩, hs, hi, hT⟩ := ItemRead_same a0 h0.2 (by omega)
    simp only at hT
    obtain ⟨d, hm, _, _⟩ := markByteS a0 1 (by omega) (by omega)
    obtain ⟨e, em, _, eh⟩ := markByteS r.T 1 (by omega) (by omega)
    have hmi : laws_markItem.f r 1 = some (1 + (r.T.length : Int), e) := by unfold laws_markItem.f; rw [em]; rfl
    have hhi : laws_heldItem.f (Item.mk r.Kind r.N r.F e) 1 = some (1 + (r.T.length : Int)) := by
      unfold laws_heldItem.f
      simp only []
      rw [eh, Option.bind_some, if_neg (by simp; omega)]
    have e1 := eqItem r (by omega)
    have e2 : laws_eqByteS.f a0 a0 = some true := eqByteS _ (by omega)
    simp only [toByteS a0 (by omega), Option.bind_some, hs, hi, e1, e2, hm, hmi, hhi, Bool.not_true, Bool.false_or, beq_self_eq_true, Bool.false_eq_true, if_false]
    rw [if_neg (by simp; omega)]
    simp only [Option.bind_some, Bool.not_true, Bool.false_eq_true, if_false, Bool.or_self]
    rw [if_neg (by simp; omega), if_neg (by simp), if_neg (by simp; omega), if_neg (by simp)]
end Go.Proofs.YtiofnjnnocjbhaaDoor
