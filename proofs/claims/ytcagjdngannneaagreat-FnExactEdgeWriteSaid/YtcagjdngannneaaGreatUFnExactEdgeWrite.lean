/- FnExactEdgeWrite's model is true at every input. -/
import Derived.Test.YtcagjdngannneaaGreatRs
set_option linter.unusedVariables false
set_option linter.unusedSimpArgs false
namespace Go.Proofs.YtcagjdngannneaaGreat
open Go V
theorem ur_lg (l : List Track) (own : Nat) (hit : Track → Bool) (hlg : ∀ t ∈ l, lgT t) : ∀ k, k ≤ l.length → ∀ t ∈ UR l own hit k, lgT t
  | 0, _, t, ht => hlg t ht
  | k + 1, hk, t, ht => by
    rw [ur_succ] at ht
    split at ht
    · rcases List.mem_or_eq_of_mem_set ht with h | h
      · exact ur_lg l own hit hlg k (by omega) t h
      · subst h
        exact hlg (at_ l (k : Int)) (by rw [at_nat _ k (by omega)]; exact List.getElem_mem _)
    · exact ur_lg l own hit hlg k (by omega) t ht
theorem ewr_lg (l : List Track) (xid : Int) (key : Item) (hsz : l.length + wsum zT l + key.T.length ≤ 1048576) : (EWr l xid key).1.length ≤ 64 ∧ ∀ t ∈ (EWr l xid key).1, lgT t := by
  unfold EWr
  have hlg : ∀ t ∈ l, lgT t := fun d hd => by have := wsum_mem zT l d hd; unfold lgT; omega
  cases hA : (!TKK l || decide (ACT l xid < 0) || !KOK key) with
  | true => exact ⟨by simp, fun t ht => by simp at ht⟩
  | false =>
    simp only [Bool.false_eq_true, if_false]
    simp only [Bool.or_eq_false_iff, Bool.not_eq_false', decide_eq_false_iff_not] at hA
    obtain ⟨own, ho, hlt⟩ := act_lt l xid hA.1.2
    obtain ⟨h64, _⟩ := tkk_len hA.1.1
    rw [ho, Int.toNat_natCast]
    split
    · exact ⟨by simp, fun t ht => by simp at ht⟩
    refine ⟨by rw [List.length_set, ur_len]; exact h64, fun t ht => ?_⟩
    rcases List.mem_or_eq_of_mem_set ht with h | h
    · exact ur_lg l own _ hlg _ (Nat.le_refl _) t h
    · subst h
      have hm : at_ l (own : Int) ∈ l := by rw [at_nat _ own hlt]; exact List.getElem_mem _
      have h1 := wsum_mem zT l _ hm
      show (at_ l (own : Int)).Reads.length + wsum zSp (at_ l (own : Int)).Reads + ((WTT (at_ l (own : Int)) key).Writes.length + wsum zI (WTT (at_ l (own : Int)) key).Writes) ≤ 1048576
      have h2 : (WTT (at_ l (own : Int)) key).Writes.length + wsum zI (WTT (at_ l (own : Int)) key).Writes ≤ (at_ l (own : Int)).Writes.length + wsum zI (at_ l (own : Int)).Writes + 1 + key.T.length := by
        unfold WTT
        simp only []
        split
        · omega
        · rw [List.length_append, wsum_app]; simp [wsum, zI]; omega
      have h3 : zT (at_ l (own : Int)) = ((at_ l (own : Int)).Reads.length + wsum zSp (at_ l (own : Int)).Reads) + ((at_ l (own : Int)).Writes.length + wsum zI (at_ l (own : Int)).Writes) := rfl
      omega
theorem laws_FnExactEdgeWrite_true (a0 : (List Track)) (a1 : Int) (a2 : Item) (h0 : (a0.length ≤ maxLen ∧ ∀ y ∈ a0, ok_Track y)) (h1 : InK .i64 a1) (h2 : ok_Item a2) : laws_FnExactEdgeWrite.f a0 a1 a2 = some true := by
  unfold laws_FnExactEdgeWrite.f
  obtain ⟨r, er, hr, hr2⟩ := szTrackS a0 1048576 h0.1 h0.2 (by decide) (by decide)
  rw [er, Option.bind_some]
  by_cases hneg : r < 0
  · rw [if_pos (by simpa using hneg)]
  · rw [if_neg (by simpa using hneg)]
    have hs := hr2 (by omega)
    obtain ⟨q, eq, hq, hq2⟩ := szItem a2 r h2 (by omega) (by omega)
    rw [eq, Option.bind_some]
    by_cases hneg2 : q < 0
    · rw [if_pos (by simpa using hneg2)]
    · rw [if_neg (by simpa using hneg2)]
      have hs2 := hq2 (by omega)
      have hlg : ∀ d ∈ a0, lgT d := fun d hd => by have := wsum_mem zT a0 d hd; unfold lgT; omega
      have hok : ∀ d ∈ a0, okTk d := fun d hd => ⟨h0.2 d hd, hlg d hd⟩
      have hsl : lgI a2 := by unfold lgI; omega
      have hw := wT_le a0
      have t0 := toTrackS a0 (by omega) hlg
      have q0 := eqTrackS a0 (by omega) hlg
      have t2 := toItem a2 hsl
      have q2 := eqItem a2 hsl
      have es := spec_EdgeWrite a0 (by omega) hok a1 a2 h2 hsl
      have ei := impl_EdgeWrite a0 (by omega) hok a1 a2 h2 hsl
      obtain ⟨hR1, hR2⟩ := ewr_lg a0 a1 a2 (by omega)
      generalize EWr a0 a1 a2 = R at es ei hR1 hR2
      obtain ⟨R1, R2⟩ := R
      simp only [] at hR1 hR2
      have hwR : wsum wT R1 ≤ 10000000000 := by
        have h3 := wsum_bd wT 7340039 R1 fun t ht => by
          have h4 := hR2 t ht
          have h5 := wT_le [t]
          simp [wsum] at h5
          unfold lgT at h4
          omega
        have h6 : R1.length * 7340039 ≤ 64 * 7340039 := Nat.mul_le_mul_right _ hR1
        omega
      obtain ⟨m0, em0, _⟩ := markTrackH a0 1 (by omega) hlg (by omega) (by omega)
      obtain ⟨m2, em2⟩ := markItem1 a2 (1 + (wsum wT a0 : Int)) (by omega) (by omega)
      obtain ⟨m1, em1, _, eh1⟩ := markTrackH R1 1 (by omega) hR2 (by omega) (by omega)
      have q1 := eqTrackS R1 (by omega) hR2
      have n0 : ¬ (1 + (wsum wT a0 : Int) + (a2.T.length : Int) < 0) := by omega
      have n1 : ¬ (1 + (wsum wT R1 : Int) < 0) := by omega
      simp only [t0, t2, es, ei, q0, q1, q2, em0, em1, em2, eh1, Option.bind_some]
      simp [n0, n1]
end Go.Proofs.YtcagjdngannneaaGreat
