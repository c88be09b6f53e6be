/- FnExactHeapMark's model is true at every input. -/
import Derived.Test.YtcagjdngannneaaGreatQo
set_option linter.unusedVariables false
set_option linter.unusedSimpArgs false
namespace Go.Proofs.YtcagjdngannneaaGreat
open Go V
theorem laws_FnExactHeapMark_true (a0 : Heap) (a1 : Int) (a2 : Int) (a3 : Int) (a4 : Int) (h0 : ok_Heap a0) (h1 : InK .i64 a1) (h2 : InK .i64 a2) (h3 : InK .i64 a3) (h4 : InK .i64 a4) : laws_FnExactHeapMark.f a0 a1 a2 a3 a4 = some true := by
  unfold laws_FnExactHeapMark.f
  obtain ⟨r, er, hr, hr2⟩ := szHeap a0 1048576 h0 (by decide) (by decide)
  rw [er, Option.bind_some]
  by_cases hneg : r < 0
  · rw [if_pos (by simpa using hneg)]
  · rw [if_neg (by simpa using hneg)]
    have hs := hr2 (by omega)
    have hw := wH_le a0
    have hh := okH_of a0 h0 (by omega)
    obtain ⟨hR, hRw⟩ := hmk_ok a0 a1 a2 a3 a4 hh h3 h4
    have es := spec_HeapMark a0 a1 a2 a3 a4 hh h3 h4
    have ei := impl_HeapMark a0 a1 a2 a3 a4 hh h3 h4
    generalize HMk a0 a1 a2 a3 a4 = R at hR hRw es ei
    obtain ⟨m0, em0, _⟩ := markHeap a0 1 hh (by omega) (by omega)
    obtain ⟨m1, em1, eh1⟩ := markHeap R.1 1 hR (by omega) (by omega)
    have t0 := toHeap a0 hh
    have q0 := eqHeap a0 hh
    have q1 := eqHeap R.1 hR
    have n0 : ¬ (1 + (wH a0 : Int) < 0) := by omega
    have n1 : ¬ (1 + (wH R.1 : Int) < 0) := by omega
    simp only [t0, es, ei, q0, q1, em0, em1, eh1, Option.bind_some]
    simp [n0, n1]
end Go.Proofs.YtcagjdngannneaaGreat
