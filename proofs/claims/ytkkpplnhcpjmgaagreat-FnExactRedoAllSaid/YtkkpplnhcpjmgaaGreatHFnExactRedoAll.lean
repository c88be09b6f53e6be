import Derived.Test.YtkkpplnhcpjmgaaGreatP1
/- FnExactRedoAll's model is true at every input. -/
set_option linter.unusedVariables false
set_option linter.unusedSimpArgs false
namespace Go.Proofs.YtkkpplnhcpjmgaaGreat
open Go V
theorem dsum_w (a : List Record) : dsum a = wsum zR a := rfl
theorem laws_FnExactRedoAll_true (a0 : Heap) (a1 : (List Record)) (h0 : ok_Heap a0) (h1 : (a1.length ≤ maxLen ∧ ∀ y ∈ a1, ok_Record y)) : laws_FnExactRedoAll.f a0 a1 = some true := by
  unfold laws_FnExactRedoAll.f
  obtain ⟨r, er, hr, hr2⟩ := szHeap a0 1048576 h0 (by decide) (by decide)
  rw [er, Option.bind_some]
  by_cases hneg : r < 0
  · rw [if_pos (by simpa using hneg)]
  · rw [if_neg (by simpa using hneg)]
    have hs := hr2 (by omega)
    obtain ⟨s, eqs, hq, hq2⟩ := szRecordS a1 r h1.1 h1.2 (by omega) (by omega)
    rw [eqs, Option.bind_some]
    by_cases hneg2 : s < 0
    · rw [if_pos (by simpa using hneg2)]
    · rw [if_neg (by simpa using hneg2)]
      have hs2 := hq2 (by omega)
      have hw := wH_le a0
      have hh := okH_of a0 h0 (by omega)
      have hz : a1.length ≤ 1048576 := by omega
      have hzz : ∀ b ∈ a1, zR b ≤ 1048576 := fun b hb => by have := wsum_mem zR a1 b hb; omega
      obtain ⟨hR, hk⟩ := ra_ok a0 a1 hh h1.2 hz
      have hRw := wH_hok hk
      have es := spec_RedoAll a0 a1 hh h1.2 hz
      have ei := impl_RedoAll a0 a1 hh h1.2 hz
      generalize RA a0 a1 = R at hR hk hRw es ei
      obtain ⟨m0, em0, _⟩ := markHeap a0 1 hh (by omega) (by omega)
      obtain ⟨m2, l2, em2, hm2⟩ := markRecordS a1 (1 + (wH a0 : Int)) (by omega) (by omega) (by omega) (by rw [dsum_w]; omega)
      obtain ⟨m1, em1, eh1⟩ := markHeap R.1 1 hR (by omega) (by omega)
      have t0 := toHeap a0 hh
      have t1 := toRecordS a1 hz hzz
      have q0 := eqHeap a0 hh
      have q2 := eqRecordS a1 hz hzz
      have q1 := eqHeap R.1 hR
      have n0 : ¬ (m2 < 0) := by omega
      have n1 : ¬ (1 + (wH R.1 : Int) < 0) := by omega
      have q1' : laws_eqHeap.f R.1 (Heap.mk R.1.Pages) = some true := q1
      have q1'' : laws_eqHeap.f (Heap.mk R.1.Pages) (Heap.mk R.1.Pages) = some true := q1
      simp only [t0, t1, es, ei, q0, q2, q1, q1', q1'', em0, em1, em2, eh1, Option.bind_some]
      simp [n0, n1]
end Go.Proofs.YtkkpplnhcpjmgaaGreat
