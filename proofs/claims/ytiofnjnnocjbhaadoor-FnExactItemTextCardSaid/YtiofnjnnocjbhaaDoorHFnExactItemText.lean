import Derived.Test.YtiofnjnnocjbhaaDoorP1
/- FnExactItemText's model is true at every input. -/
set_option linter.unusedVariables false
set_option linter.unusedSimpArgs false
set_option linter.unusedSectionVars false
namespace Go.Proofs.YtiofnjnnocjbhaaDoor
open Go V Ieee
theorem laws_FnExactItemText_true (a0 : Item) (h0 : ok_Item a0) : laws_FnExactItemText.f a0 = some true := by
  unfold laws_FnExactItemText.f
  obtain ⟨r, er, hr, hr2⟩ := szItem a0 1048576 h0 (by omega) (by omega)
  rw [er, Option.bind_some]
  by_cases hn : r < 0
  · rw [if_pos (by simpa using hn)]
  · rw [if_neg (by simpa using hn)]
    have hT : a0.T.length ≤ 1048576 := by have := hr2 (by omega); omega
    have hl := TXO_len a0 h0.2.1
    obtain ⟨b, hb⟩ : ∃ b, laws_markItem.f a0 1 = some (1 + (a0.T.length : Int), b) := by
      obtain ⟨e, em, _, _⟩ := markByteS a0.T 1 (by omega) (by omega)
      unfold laws_markItem.f
      rw [em]; exact ⟨e, rfl⟩
    obtain ⟨d, hm, _, hh⟩ := markByteS (TXO a0) 1 (by omega) (by omega)
    have he : laws_eqByteS.f (TXO a0) (TXO a0) = some true := eqByteS _ (by omega)
    simp only [toItem a0 hT, Option.bind_some, spec_ItemText a0 h0, impl_ItemText a0 h0, he, eqItem a0 hT, hb, hm, hh, Bool.not_true, Bool.false_eq_true, if_false]
    rw [if_neg (by simp; omega)]
    simp only [Option.bind_some, Bool.not_true, Bool.false_eq_true, if_false]
    rw [if_neg (by simp; omega), if_neg (by simp), if_neg (by simp; omega), if_neg (by simp)]
end Go.Proofs.YtiofnjnnocjbhaaDoor
