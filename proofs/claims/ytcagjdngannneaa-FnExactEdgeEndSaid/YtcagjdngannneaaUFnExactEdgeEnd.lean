/- FnExactEdgeEnd's model is true at every input. -/
import Derived.Test.YtcagjdngannneaaRt
set_option linter.unusedVariables false
set_option linter.unusedSimpArgs false
namespace Go.Proofs.Ytcagjdngannneaa
open Go V
theorem eend_lg (l : List Track) (xid now : Int) (done : Bool) (hlg : ∀ t ∈ l, lgT t) : (EEnd l xid now done).1.length ≤ 64 ∧ ∀ t ∈ (EEnd l xid now done).1, lgT t := by
  unfold EEnd
  cases hA : (!TKK l || decide (ACT l xid < 0) || decide (now ≤ (at_ l (ACT l xid)).Begun)) with
  | true => exact ⟨by simp, fun t ht => by simp at ht⟩
  | false =>
    simp only [Bool.false_eq_true, if_false]
    simp only [Bool.or_eq_false_iff, Bool.not_eq_false', decide_eq_false_iff_not] at hA
    obtain ⟨own, ho, hlt⟩ := act_lt l xid hA.1.2
    obtain ⟨h64, _⟩ := tkk_len hA.1.1
    rw [ho, Int.toNat_natCast]
    split
    · exact ⟨h64, hlg⟩
    · refine ⟨Nat.le_trans (List.length_filter_le _ _) (Nat.le_trans (lft_len l own now done) h64), fun t ht => lft_lg l own hlt now done hlg t (List.mem_filter.1 ht).1⟩
theorem laws_FnExactEdgeEnd_true (a0 : (List Track)) (a1 : Int) (a2 : Int) (a3 : Bool) (h0 : (a0.length ≤ maxLen ∧ ∀ y ∈ a0, ok_Track y)) (h1 : InK .i64 a1) (h2 : InK .i64 a2) (h3 : True) : laws_FnExactEdgeEnd.f a0 a1 a2 a3 = some true := by
  unfold laws_FnExactEdgeEnd.f
  obtain ⟨r, er, hr, hr2⟩ := szTrackS a0 1048576 h0.1 h0.2 (by decide) (by decide)
  rw [er, Option.bind_some]
  by_cases hneg : r < 0
  · rw [if_pos (by simpa using hneg)]
  · rw [if_neg (by simpa using hneg)]
    have hs := hr2 (by omega)
    have hlg : ∀ d ∈ a0, lgT d := fun d hd => by have := wsum_mem zT a0 d hd; unfold lgT; omega
    have hok : ∀ d ∈ a0, okTk d := fun d hd => ⟨h0.2 d hd, hlg d hd⟩
    have hw := wT_le a0
    have t0 := toTrackS a0 (by omega) hlg
    have q0 := eqTrackS a0 (by omega) hlg
    have es := spec_EdgeEnd a0 (by omega) hok a1 a2 a3
    have ei := impl_EdgeEnd a0 (by omega) hok a1 a2 a3
    obtain ⟨hR1, hR2⟩ := eend_lg a0 a1 a2 a3 hlg
    generalize EEnd a0 a1 a2 a3 = R at es ei hR1 hR2
    obtain ⟨R1, R2⟩ := R
    simp only [] at hR1 hR2
    have hwR : wsum wT R1 ≤ 10000000000 := by
      have h3 := wsum_bd wT 7340039 R1 fun t ht => by
        have h4 := hR2 t ht
        have h5 := wT_le [t]
        simp [wsum] at h5
        unfold lgT at h4
        omega
      have h6 : R1.length * 7340039 ≤ 64 * 7340039 := Nat.mul_le_mul_right _ hR1
      omega
    obtain ⟨m0, em0, _⟩ := markTrackH a0 1 (by omega) hlg (by omega) (by omega)
    obtain ⟨m1, em1, _, eh1⟩ := markTrackH R1 1 (by omega) hR2 (by omega) (by omega)
    have q1 := eqTrackS R1 (by omega) hR2
    have n0 : ¬ (1 + (wsum wT a0 : Int) < 0) := by omega
    have n1 : ¬ (1 + (wsum wT R1 : Int) < 0) := by omega
    simp only [t0, es, ei, q0, q1, em0, em1, eh1, Option.bind_some]
    simp [n0, n1]
end Go.Proofs.Ytcagjdngannneaa
