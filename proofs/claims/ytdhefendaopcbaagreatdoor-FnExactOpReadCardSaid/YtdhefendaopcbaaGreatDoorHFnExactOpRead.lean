import Derived.Test.YtdhefendaopcbaaGreatDoorP1
/- FnExactOpRead's model is true at every input. -/
set_option linter.unusedVariables false
set_option linter.unusedSimpArgs false
set_option linter.unusedSectionVars false
namespace Go.Proofs.YtdhefendaopcbaaGreatDoor
open Go V Ieee
theorem OpRead_same (b : List Int) (hb : U8 b) : ∃ (o : Op) (ok : Bool), spec_OpRead.f b = some (o, ok) ∧ impl_OpRead.f b = some (o, ok) ∧ (zOp o ≤ 10000) := by
  by_cases hh : ∃ o, VO o ∧ OPT o = b
  · obtain ⟨o, h, rfl⟩ := hh
    refine ⟨o, true, spec_OpRead_yes o h, impl_OpRead_yes o h hb, ?_⟩
    have hF := opF h.ook
    have hz := h.zo
    have hk := rin_iff.1 hF.kind
    have kT : o.Key.T.length ≤ 40 := by
      by_cases c : 2 ≤ o.Kind ∧ o.Kind ≤ 6
      · exact iok_T (hF.key c.1 c.2)
      · rw [hz.key c]; simp [zI0]
    have tT : o.To.T.length ≤ 40 := by
      by_cases c : o.Kind = 5 ∨ o.Kind = 6
      · exact iok_T (hF.to c)
      · rw [hz.to (by omega) (by omega)]; simp [zI0]
    have vT : o.Value.T.length ≤ 40 := by
      by_cases c : o.Kind = 3
      · exact iok_T (hF.value c)
      · rw [hz.value c]; simp [zI0]
    have kp : o.Keep.length ≤ 600 := by
      by_cases c : o.Kind = 13
      · exact hF.keep c
      · rw [hz.keep c]; simp
    unfold zOp; omega
  · have hno : ∀ o, VO o → OPT o ≠ b := fun o h e => hh ⟨o, h, e⟩
    exact ⟨zO, false, spec_OpRead_no b hb hno, impl_OpRead_no b hb hno, by decide⟩
theorem laws_FnExactOpRead_true (a0 : List Int) (h0 : a0.length ≤ maxLen ∧ ∀ y ∈ a0, InK .u8 y) : laws_FnExactOpRead.f a0 = some true := by
  unfold laws_FnExactOpRead.f
  by_cases hn : a0.length > 1048576
  · rw [if_pos (by simp; omega)]
  · rw [if_neg (by simp; omega)]
    obtain ⟨o, ok, hs, hi, hz⟩ := OpRead_same a0 h0.2
    obtain ⟨d, hm, _, _⟩ := markByteS a0 1 (by omega) (by omega)
    obtain ⟨q, e, em, hq, eh⟩ := markHeldOp o (by omega)
    have e2 : laws_eqByteS.f a0 a0 = some true := eqByteS _ (by omega)
    have e1 := eqOp o (by omega)
    simp only [toByteS a0 (by omega), Option.bind_some, hs, hi, e1, e2, hm, em, eh, Bool.not_true, Bool.false_or, beq_self_eq_true, Bool.false_eq_true, if_false]
    rw [if_neg (by simp; omega)]
    simp only [Option.bind_some, Bool.not_true, Bool.false_eq_true, if_false, Bool.or_self]
    rw [if_neg (by simp; omega), if_neg (by simp), if_neg (by simp; omega), if_neg (by simp)]
end Go.Proofs.YtdhefendaopcbaaGreatDoor
