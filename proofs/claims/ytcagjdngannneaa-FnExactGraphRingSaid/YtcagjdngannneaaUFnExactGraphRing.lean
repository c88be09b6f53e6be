/- FnExactGraphRing's model is true at every input. -/
import Derived.Test.YtcagjdngannneaaRk
import Derived.Test.YtcagjdngannneaaRm
set_option linter.unusedVariables false
set_option linter.unusedSimpArgs false
namespace Go.Proofs.Ytcagjdngannneaa
open Go V
theorem rg_len (l : List Deed) (is : List Bool) : ∀ (n : Nat) (s : Nat × List Int), (RG l is n s).length ≤ s.2.length + n
  | 0, s => by simp [RG]
  | n + 1, s => by
    unfold RG
    simp only []
    split
    · simp; omega
    · have := rg_len l is n ((NX l is s.1).toNat, s.2 ++ [((s.1 : Nat) : Int)])
      simp at this ⊢
      omega
theorem laws_FnExactGraphRing_true (a0 : (List Deed)) (h0 : (a0.length ≤ maxLen ∧ ∀ y ∈ a0, ok_Deed y)) : laws_FnExactGraphRing.f a0 = some true := by
  unfold laws_FnExactGraphRing.f
  obtain ⟨r, er, hr, hr2⟩ := szDeedS a0 1048576 h0.1 h0.2 (by decide) (by decide)
  rw [er, Option.bind_some]
  by_cases hneg : r < 0
  · rw [if_pos (by simpa using hneg)]
  · rw [if_neg (by simpa using hneg)]
    have hs := hr2 (by omega)
    have hlg : ∀ d ∈ a0, lgD d := fun d hd => by have := wsum_mem zDd a0 d hd; unfold lgD; omega
    have hok : ∀ d ∈ a0, okDd d := fun d hd => by
      have := hlg d hd
      unfold lgD zDd at this
      exact ⟨h0.2 d hd, by omega, by omega⟩
    have hw := wDd_le a0
    have t0 := toDeedS a0 (by omega) hlg
    have q0 := eqDeedS a0 (by omega) hlg
    have es := spec_GraphRing a0 hok
    have ei := impl_GraphRing a0 hok
    have hlen : (GRR a0).length ≤ a0.length + 1 := by
      unfold GRR
      split
      · simp
      · split
        · simp
        · have := rg_len a0 (RES a0).2 (a0.length + 1) ((IXF (fun x => false == x) (RES a0).2 0).toNat, [])
          simpa using this
    generalize GRR a0 = R at hlen es ei
    obtain ⟨m0, em0, _⟩ := markDeedS a0 1 (by omega) hlg (by omega) (by omega)
    obtain ⟨m1, em1, _, eh1⟩ := markIntS R 1 (by omega) (by omega)
    have q1 := eqIntS R (by omega)
    have n0 : ¬ (1 + (wsum wDd a0 : Int) < 0) := by omega
    have n1 : ¬ (1 + (R.length : Int) < 0) := by omega
    simp only [t0, es, ei, q0, q1, em0, em1, eh1, Option.bind_some]
    simp [n0, n1]
end Go.Proofs.Ytcagjdngannneaa
