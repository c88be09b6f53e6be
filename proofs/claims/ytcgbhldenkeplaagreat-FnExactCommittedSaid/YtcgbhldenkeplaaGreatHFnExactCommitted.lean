import Derived.Test.YtcgbhldenkeplaaGreatP1
/- FnExactCommitted's model is true at every input. -/
set_option linter.unusedVariables false
set_option linter.unusedSimpArgs false
set_option linter.unusedSectionVars false
namespace Go.Proofs.YtcgbhldenkeplaaGreat
open Go V Ieee
theorem laws_FnExactCommitted_true (a0 : Heap) (a1 : (List Int)) (h0 : ok_Heap a0) (h1 : (a1.length ≤ maxLen ∧ ∀ y ∈ a1, InK .i64 y)) : laws_FnExactCommitted.f a0 a1 = some true := by
  unfold laws_FnExactCommitted.f
  by_cases hn : a1.length > 1048576
  · rw [if_pos (by simp; omega)]
  · rw [if_neg (by simp; omega)]
    obtain ⟨r, er, hr, hr2⟩ := szHeap a0 1048576 h0 (by decide) (by decide)
    rw [er, Option.bind_some]
    by_cases hneg : r < 0
    · rw [if_pos (by simpa using hneg)]
    · rw [if_neg (by simpa using hneg)]
      have hs := hr2 (by omega)
      have hw := wH_le a0
      have hh := okH_of a0 h0 (by omega)
      have es := spec_Committed a0 a1 hh
      have ei := impl_Committed a0 a1 hh
      obtain ⟨c1, c2⟩ := com_small a0 a1 hh
      generalize COM a0 a1 = R at es ei c1 c2
      have hwR : wsum wPr R ≤ 86 * R.length := by
        have := wsum_le wPr (fun _ => 0) 86 R fun p hp => by have := c2 p hp; unfold wPr wI; omega
        have e0 : wsum (fun _ : Pair => 0) R = 0 := by
          clear es ei c1 c2 this
          induction R with
          | nil => rfl
          | cons x l ih => rw [wsum_cons, ih]
        omega
      obtain ⟨m0, em0⟩ := markHeapz a0 1 hh (by omega) (by omega)
      obtain ⟨m1, em1, _⟩ := markIntS a1 (1 + (wH a0 : Int)) (by omega) (by omega)
      obtain ⟨m2, em2, _, eh2⟩ := markPairH R 1 (by omega) (by omega) (by omega)
      have t0 := toHeap a0 hh
      have t1 := toIntS' a1 (by omega)
      have q0 := eqHeap a0 hh
      have q1 := eqIntS a1 (by omega)
      have q2 := eqPairS R (by omega) (fun p hp => by have := c2 p hp; exact ⟨by show _ ≤ _; omega, by show _ ≤ _; omega⟩)
      have n0 : ¬ (1 + (wH a0 : Int) + (a1.length : Int) < 0) := by omega
      have n1 : ¬ (1 + (wsum wPr R : Int) < 0) := by omega
      simp only [t0, t1, es, ei, q0, q1, q2, em0, em1, em2, eh2, Option.bind_some]
      simp [n0, n1]
end Go.Proofs.YtcgbhldenkeplaaGreat
