import Derived.Test.YtbkiaccollbjnaaGreatP1
/- FnExactGraphEdges' model is true at every input. -/
set_option linter.unusedVariables false
set_option linter.unusedSimpArgs false
namespace Go.Proofs.YtbkiaccollbjnaaGreat
open Go V
theorem eqIntA2 (x y : A2Int) : laws_eqIntA2.f x y = some (decide (x = y)) := by
  obtain ⟨a, b⟩ := x
  obtain ⟨c, d⟩ := y
  unfold laws_eqIntA2.f
  simp only [Option.bind_some]
  by_cases h1 : a = c
  · subst h1
    by_cases h2 : b = d
    · subst h2; simp
    · simp [h2]
  · simp [h1]
theorem eqIntA2S (a : List A2Int) (h : a.length ≤ 1000000000) : laws_eqIntA2S.f a a = some true := by
  unfold laws_eqIntA2S.f
  have := eqS_gen (body := laws_eqIntA2S.b0 a a) a a (fun k hk _ => by
    unfold laws_eqIntA2S.b0
    rw [if_pos (by simp; omega), if_pos ⟨by omega, by omega⟩, if_pos ⟨by omega, by omega⟩, at_nat _ k hk, eqIntA2, Option.bind_some, w64 (by omega) (by omega)]
    simp) (by
    unfold laws_eqIntA2S.b0
    rw [if_neg (by simp)]; rfl)
  rw [this]; simp
theorem wsum_two {α : Type} : ∀ l : List α, wsum (fun _ => 2) l = 2 * l.length
  | [] => rfl
  | x :: l => by rw [wsum_cons, wsum_two l, List.length_cons]; omega
theorem markIntA2S (a : List A2Int) (x : Int) (h0 : 0 ≤ x) (h1 : x + (2 * a.length : Int) ≤ 100000000000) : ∃ a', laws_markIntA2S.f a x = some (x + (2 * a.length : Int), a') ∧ a'.length = a.length ∧ laws_heldIntA2S.f a' x = some (x + (2 * a.length : Int)) := by
  have := markS_gen (mb := laws_markIntA2S.b0) (hb := laws_heldIntA2S.b0) (wt := fun _ => 2) (fun e y n => e = A2Int.mk y (y + 1) ∧ n = 2) a x h0 (by rw [wsum_two]; omega)
    (fun l y k hk hla hy hy1 => by
      refine ⟨A2Int.mk y (y + 1), ?_, rfl, rfl⟩
      unfold laws_markIntA2S.b0
      simp only []
      have hat : at_ (l.set ((k : Int)).toNat (A2Int.mk y (at_ l (k : Int)).e1)) (k : Int) = A2Int.mk y (at_ l (k : Int)).e1 := by
        rw [at_nat _ k (by simpa using hk)]; simp
      rw [if_pos (by simp; omega), if_pos ⟨by omega, by omega⟩, if_pos ⟨by omega, by simp; omega⟩, hat, w64 (n := y + 1) (by omega) (by omega), w64 (n := y + 1 + 1) (by omega) (by omega), w64 (n := (k : Int) + 1) (by omega) (by omega)]
      simp only [Option.bind_some, List.set_set, Int.toNat_natCast]
      rw [show y + 1 + 1 = y + ((2 : Nat) : Int) by omega])
    (fun l y hla => by
      unfold laws_markIntA2S.b0
      simp only []
      rw [if_neg (by simp)]; rfl)
    (fun l y k n hk hla he hy hy1 => by
      obtain ⟨e1, rfl⟩ := he
      unfold laws_heldIntA2S.b0
      simp only []
      rw [if_pos (by simp; omega), if_pos ⟨by omega, by omega⟩, at_nat _ k hk, e1, if_neg (by simp), if_pos ⟨by omega, by omega⟩, w64 (n := y + 1) (by omega) (by omega), if_neg (by simp), w64 (n := y + 1 + 1) (by omega) (by omega), w64 (n := (k : Int) + 1) (by omega) (by omega), show y + 1 + 1 = y + ((2 : Nat) : Int) by omega])
    (fun l y hla => by
      unfold laws_heldIntA2S.b0
      simp only []
      rw [if_neg (by simp)]; rfl)
  rw [wsum_two] at this
  have e : ((2 * a.length : Nat) : Int) = 2 * (a.length : Int) := by omega
  rw [e] at this
  exact this
theorem laws_FnExactGraphEdges_true (a0 : (List Deed)) (h0 : (a0.length ≤ maxLen ∧ ∀ y ∈ a0, ok_Deed y)) : laws_FnExactGraphEdges.f a0 = some true := by
  unfold laws_FnExactGraphEdges.f
  obtain ⟨r, er, hr, hr2⟩ := szDeedS a0 1048576 h0.1 h0.2 (by decide) (by decide)
  rw [er, Option.bind_some]
  by_cases hneg : r < 0
  · rw [if_pos (by simpa using hneg)]
  · rw [if_neg (by simpa using hneg)]
    have hs := hr2 (by omega)
    have hlg : ∀ d ∈ a0, lgD d := fun d hd => by have := wsum_mem zDd a0 d hd; unfold lgD; omega
    have hok : ∀ d ∈ a0, okDd d := fun d hd => by
      have := hlg d hd
      unfold lgD zDd at this
      exact ⟨h0.2 d hd, by omega, by omega⟩
    have hw := wDd_le a0
    have t0 := toDeedS a0 (by omega) hlg
    have q0 := eqDeedS a0 (by omega) hlg
    have es := spec_GraphEdges a0 hok
    have ei := impl_GraphEdges a0 hok
    have hlen : (if DKK a0 = true then EDs a0 a0.length else []).length ≤ 10000 := by
      cases hk : DKK a0 with
      | false => simp
      | true =>
        rw [if_pos rfl]
        obtain ⟨hv, hl⟩ := dkk_v a0 hok hk
        have := eds_len a0 hl a0.length
        omega
    generalize (if DKK a0 = true then EDs a0 a0.length else []) = R at hlen es ei
    obtain ⟨m0, em0, _⟩ := markDeedS a0 1 (by omega) hlg (by omega) (by omega)
    obtain ⟨m1, em1, _, eh1⟩ := markIntA2S R 1 (by omega) (by omega)
    have q1 := eqIntA2S R (by omega)
    have n0 : ¬ (1 + (wsum wDd a0 : Int) < 0) := by omega
    have n1 : ¬ (1 + (2 * R.length : Int) < 0) := by omega
    simp only [t0, es, ei, q0, q1, em0, em1, eh1, Option.bind_some]
    simp [n0, n1]
end Go.Proofs.YtbkiaccollbjnaaGreat
