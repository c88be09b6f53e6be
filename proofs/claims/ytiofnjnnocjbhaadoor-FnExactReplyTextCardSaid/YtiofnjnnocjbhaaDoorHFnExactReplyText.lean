import Derived.Test.YtiofnjnnocjbhaaDoorP1
/- FnExactReplyText's model is true at every input. -/
set_option linter.unusedVariables false
set_option linter.unusedSimpArgs false
set_option linter.unusedSectionVars false
namespace Go.Proofs.YtiofnjnnocjbhaaDoor
open Go V Ieee
theorem eqBytes_self (a : List Int) (h : a.length ≤ 1000000000000) : laws_eqByteS.f a a = some true := by
  unfold laws_eqByteS.f
  have := eqS_gen (body := laws_eqByteS.b0 a a) a a (fun k hk _ => by
    unfold laws_eqByteS.b0
    rw [if_pos (by simp; omega), if_pos ⟨by omega, by omega⟩, if_pos ⟨by omega, by omega⟩, at_nat _ k hk, w64 (by omega) (by omega)]
    simp) (by
    unfold laws_eqByteS.b0
    rw [if_neg (by simp)]; rfl)
  rw [this]; simp
theorem laws_FnExactReplyText_true (a0 : Reply) (h0 : ok_Reply a0) : laws_FnExactReplyText.f a0 = some true := by
  unfold laws_FnExactReplyText.f
  obtain ⟨r, er, hr, hr2⟩ := szReply a0 1048576 h0 (by omega) (by omega)
  rw [er, Option.bind_some]
  by_cases hn : r < 0
  · rw [if_pos (by simpa using hn)]
  · rw [if_neg (by simpa using hn)]
    have hz := hr2 (by omega)
    have hT : a0.Value.T.length ≤ 1048576 := by omega
    have hR : a0.Rows.length ≤ 1048576 := by omega
    have hP := lgPr_of a0.Rows (by omega)
    have hl := RTX_len a0 h0
    have hw := wPr_le a0.Rows
    obtain ⟨b, hb⟩ := markReply a0 (by omega)
    obtain ⟨d, hm, _, hh⟩ := markByteS (RTX a0) 1 (by omega) (by omega)
    have he := eqBytes_self (RTX a0) (by omega)
    simp only [toReply a0 hT hR hP, Option.bind_some, spec_ReplyText a0 h0 hR, impl_ReplyText a0 h0 hR, he, eqReply a0 (sameFloat _) hT hR hP, hb, hm, hh, Bool.not_true, Bool.false_eq_true, if_false]
    rw [if_neg (by simp; omega)]
    simp only [Option.bind_some, Bool.not_true, Bool.false_eq_true, if_false]
    rw [if_neg (by simp; omega), if_neg (by simp), if_neg (by simp; omega), if_neg (by simp)]
end Go.Proofs.YtiofnjnnocjbhaaDoor
