/- Plain laws: statuses settled by the program: as by the reference. -/
import Derived.Test.YtndhbfkahbbkaaaPo
set_option linter.unusedVariables false
set_option linter.unusedSimpArgs false
namespace Go.Proofs.Ytndhbfkahbbkaaa
open Go V
def ss (a : List Int) (n k : Nat) : List Int := (List.range n).map fun i => if i < k then sv1 a i else 0
theorem ss_len (a : List Int) (n k : Nat) : (ss a n k).length = n := by simp [ss]
theorem ss_set (a : List Int) (n k : Nat) (h : k < n) : (ss a n k).set k (sv1 a k) = ss a n (k + 1) := by
  apply List.ext_getElem
  · simp [ss]
  · intro j h1 h2
    rw [List.getElem_set]
    simp [ss]
    by_cases hj : k = j
    · subst hj; simp
    · simp only [hj, if_false]
      by_cases hl : j < k
      · have : j < k + 1 := by omega
        simp [hl, this]
      · have : ¬ j < k + 1 := by omega
        simp [hl, this]
theorem impl_StatusSettle (a : List Int) (n : Int) : impl_StatusSettle.f a n = some (SS a n) := by
  unfold impl_StatusSettle.f SS
  simp only [within_rin, Option.bind_some]
  by_cases hr : rin n 0 401 = true
  · have hn : 0 ≤ n ∧ n ≤ 401 := by simpa [rin] using hr
    rw [if_neg (by simp [hr]), if_pos hr]
    obtain ⟨n, rfl⟩ := Int.eq_ofNat_of_zero_le hn.1
    rw [if_pos (by simp only [Lim]; omega), Int.toNat_natCast]
    have hend : ∀ k, n ≤ k → impl_StatusSettle.b0 a (n : Int) ((List.range n).map (sv1 a), (k : Int)) = some (.inr ((List.range n).map (sv1 a))) := fun k hk => by
      unfold impl_StatusSettle.b0
      simp only []
      rw [if_neg (by simp; omega)]; rfl
    cases n with
    | zero =>
      have := hend 1 (by omega)
      rw [iter_eq]
      have e : (List.replicate 0 (0 : Int), (1 : Int)) = ((List.range 0).map (sv1 a), ((1 : Nat) : Int)) := rfl
      rw [e, this]; rfl
    | succ m =>
      have h0 : List.replicate (m + 1) (0 : Int) = ss a (m + 1) (0 + 1) := by
        apply List.ext_getElem
        · simp [ss]
        · intro j h1 h2
          simp [ss]
          intro hj; subst hj; simp [sv1]
      have hst : (List.replicate (m + 1) (0 : Int), (1 : Int)) = (ss a (m + 1) (0 + 1), ((0 + 1 : Nat) : Int)) := by rw [h0]; rfl
      rw [hst]
      refine iter_for m (fun k => (ss a (m + 1) (k + 1), ((k + 1 : Nat) : Int))) _ (fun k hk => ?_) ?_
      · unfold impl_StatusSettle.b0
        simp only [impl_StatusOf, ss_len, List.length_set, Int.toNat_natCast, List.set_set]
        have g : (0 : Int) ≤ ((k + 1 : Nat) : Int) ∧ ((k + 1 : Nat) : Int) < ((m + 1 : Nat) : Int) := ⟨by omega, by omega⟩
        rw [if_pos (by simp; omega), if_pos g, Option.bind_some, if_pos g, w64 (by omega) (by omega)]
        have e : ((k + 1 : Nat) : Int) + 1 = ((k + 1 + 1 : Nat) : Int) := by omega
        rw [e, ← ss_set a (m + 1) (k + 1) (by omega)]
        have hv : sv1 a (k + 1) = if SO a ((k + 1 : Nat) : Int) = 1 then 1 else 2 := by simp [sv1]
        rw [hv]
        generalize SO a ((k + 1 : Nat) : Int) = q
        by_cases h1 : q = 1 <;> simp [h1]
      · have hfull : ss a (m + 1) (m + 1) = (List.range (m + 1)).map (sv1 a) := by
          unfold ss
          refine List.map_congr_left fun i hi => ?_
          rw [if_pos (List.mem_range.1 hi)]
        rw [hfull]
        exact hend (m + 1) (by omega)
  · rw [if_pos (by simp [hr]), if_neg hr]
end Go.Proofs.Ytndhbfkahbbkaaa
