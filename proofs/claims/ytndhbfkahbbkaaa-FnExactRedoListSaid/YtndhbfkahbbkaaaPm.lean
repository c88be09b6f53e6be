/- Plain laws: lists of records weighed and marked. -/
import Derived.Test.YtndhbfkahbbkaaaPl
set_option linter.unusedVariables false
set_option linter.unusedSimpArgs false
namespace Go.Proofs.Ytndhbfkahbbkaaa
open Go V
def dsum (a : List Record) : Nat := (a.map fun x => x.Data.length).sum
theorem szRecord (a : Record) (n : Int) (h : a.Data.length ≤ maxLen) (h0 : 0 ≤ n) (h1 : n ≤ 1048576) : ∃ r, laws_szRecord.f a n = some r ∧ r ≤ n ∧ (0 ≤ r → r = n - (a.Data.length : Int)) := by
  simp only [maxLen] at h
  unfold laws_szRecord.f laws_szByteS.f
  rw [w64 (by omega) (by omega)]
  by_cases hn : n - (a.Data.length : Int) < 0
  · rw [if_pos (by simpa using hn)]
    exact ⟨-1, rfl, by omega, by omega⟩
  · rw [if_neg (by simpa using hn), Option.bind_some, if_neg (by simpa using hn)]
    exact ⟨_, rfl, by omega, fun _ => rfl⟩
theorem szRecordS (a : List Record) (n : Int) (h : a.length ≤ maxLen) (hd : ∀ x ∈ a, x.Data.length ≤ maxLen) (h0 : 0 ≤ n) (h1 : n ≤ 1048576) : ∃ r, laws_szRecordS.f a n = some r ∧ (0 ≤ r → (a.length : Int) + dsum a ≤ n) := by
  simp only [maxLen] at h
  unfold laws_szRecordS.f
  rw [w64 (by omega) (by omega)]
  by_cases hn : n - (a.length : Int) < 0
  · rw [if_pos (by simpa using hn)]
    exact ⟨-1, rfl, by omega⟩
  · rw [if_neg (by simpa using hn)]
    have key : ∀ (m i : Nat) (n : Int), i + m = a.length → 0 ≤ n → n ≤ 1048576 → ∃ r, iter (laws_szRecordS.b0 a) (n, (i : Int)) = some r ∧ (0 ≤ r → (dsum (a.drop i) : Int) ≤ n) := by
      intro m
      induction m with
      | zero =>
        intro i n hi h0 h1
        rw [iter_eq]
        unfold laws_szRecordS.b0
        simp only []
        rw [if_neg (by simp; omega)]
        refine ⟨n, rfl, fun _ => ?_⟩
        rw [List.drop_eq_nil_of_le (by omega)]
        simp [dsum]; omega
      | succ m ih =>
        intro i n hi h0 h1
        have hk : i < a.length := by omega
        obtain ⟨r, er, hr, hr2⟩ := szRecord a[i] n (hd _ (List.getElem_mem hk)) h0 h1
        have e : (i : Int) + 1 = ((i + 1 : Nat) : Int) := by omega
        have hb : laws_szRecordS.b0 a (n, (i : Int)) = if r < 0 then some (.inr (-1)) else some (.inl (r, ((i + 1 : Nat) : Int))) := by
          unfold laws_szRecordS.b0
          simp only []
          rw [if_pos (by simp; omega), if_pos ⟨by omega, by omega⟩, at_nat a i hk, er, Option.bind_some]
          by_cases hneg : r < 0
          · rw [if_pos (by simpa using hneg), if_pos hneg]
          · rw [if_neg (by simpa using hneg), if_neg hneg, w64 (by omega) (by omega), e]
        rw [iter_eq, hb]
        by_cases hneg : r < 0
        · rw [if_pos hneg]
          exact ⟨-1, rfl, by omega⟩
        · rw [if_neg hneg]
          simp only [Option.bind_some]
          obtain ⟨q, eq, hq⟩ := ih (i + 1) r (by omega) (by omega) (by omega)
          rw [eq]
          refine ⟨q, rfl, fun h => ?_⟩
          have := hq h
          have := hr2 (by omega)
          rw [List.drop_eq_getElem_cons hk]
          simp only [dsum, List.map_cons, List.sum_cons] at *
          omega
    obtain ⟨r, er, hr⟩ := key a.length 0 (n - (a.length : Int)) (by omega) (by omega) (by omega)
    refine ⟨r, er, fun h => ?_⟩
    have := hr h
    rw [List.drop_zero] at this
    omega
theorem dsum_mem (a : List Record) : ∀ x ∈ a, x.Data.length ≤ dsum a := by
  intro x hx
  induction a with
  | nil => cases hx
  | cons y a ih =>
    simp only [dsum, List.map_cons, List.sum_cons] at *
    rcases List.mem_cons.1 hx with rfl | hx
    · omega
    · have := ih hx; omega
end Go.Proofs.Ytndhbfkahbbkaaa
