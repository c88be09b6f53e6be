import Derived.Test.YtdhefendaopcbaaGreatDoorP1
/- FnItemTexts's model is true at every input. -/
set_option linter.unusedVariables false
set_option linter.unusedSimpArgs false
set_option linter.unusedSectionVars false
namespace Go.Proofs.YtdhefendaopcbaaGreatDoor
open Go V Ieee
theorem sameI (a : Item) (h : okF a.F) : laws_sameItem.f a a = some true := by
  unfold laws_sameItem.f
  simp only [beq_self_eq_true, if_true, spec_FloatBits a.F h, Option.bind_some]
theorem ItemRead_back (a : Item) (h : okJ a) : ∃ b : Item, impl_ItemRead.f (TXO a) = some (b, IOK a) ∧ (IOK a = true → b = a) := by
  unfold impl_ItemRead.f TXO
  by_cases hi : IOK a = true
  · have hv : VI a := ⟨h.1, hi⟩
    rw [if_pos hi, impl_yes a hv _ (bts_str (TX_u8 a h.1.2.2.2.2)), Option.bind_some, hi]
    exact ⟨a, rfl, fun _ => rfl⟩
  · rw [if_neg hi, impl_no (str []) (by rw [bts_str U8_nil]; simp) fun c hc he => ?_, Option.bind_some]
    · cases hh : IOK a with
      | true => exact absurd hh hi
      | false => exact ⟨zI0, rfl, fun h => by cases h⟩
    · rw [bts_str U8_nil] at he
      have := (TX_81 hc).1
      rw [he] at this; simp at this
theorem laws_FnItemTexts_true (a0 : List Int) (h0 : a0.length ≤ maxLen ∧ ∀ y ∈ a0, InK .u8 y) : laws_FnItemTexts.f a0 = some true := by
  unfold laws_FnItemTexts.f laws_big.f
  rw [Option.bind_some]
  by_cases hn : a0.length > 1048576
  · rw [if_pos (by simp; omega)]
  · rw [if_neg (by simp; omega)]
    obtain ⟨a, ea, oa⟩ := DrawItemText_ok a0 (by omega)
    obtain ⟨o, eo, oo⟩ := DrawOpText_ok a0 (by omega)
    obtain ⟨b, hb, hba⟩ := ItemRead_back a oa
    obtain ⟨p, hp, hpo⟩ := OpRead_back o (okO_ok oo)
    simp only [ea, eo, Option.bind_some, impl_ItemText a oa.1, hb, spec_ItemOk a oa.1.2.2.1, impl_OpText o (okO_ok oo), hp, spec_OpOk o (okO_ok oo), beq_self_eq_true, Bool.not_true, Bool.false_eq_true, if_false]
    have e1 : (if IOK a = true then (laws_sameItem.f a b).bind fun r41 => some (!r41) else some false) = some false := by
      by_cases hi : IOK a = true
      · rw [if_pos hi, hba hi, sameI a oa.1.2.2.1]; rfl
      · rw [if_neg hi]
    simp only [e1, Option.bind_some, Bool.false_eq_true, if_false]
    by_cases hO : OOK o = true
    · obtain ⟨q1, q2, q3⟩ := hpo hO
      rw [hO, if_neg (by decide), q1, Option.bind_some, if_pos (by simp), Option.bind_some, q2]
      simp [q3]
    · rw [if_pos (by simpa using hO)]; rfl
end Go.Proofs.YtdhefendaopcbaaGreatDoor
