/- Plain laws: lists of numbers compared, marked, held, copied. -/
import Derived.Test.YtndhbfkahbbkaaaPa
set_option linter.unusedVariables false
set_option linter.unusedSimpArgs false
namespace Go.Proofs.Ytndhbfkahbbkaaa
open Go V
theorem eqIntS (a b : List Int) (h : a.length ≤ maxLen) : laws_eqIntS.f a b = some (decide (a = b)) := by
  unfold laws_eqIntS.f
  simp only [maxLen] at h
  by_cases hl : a.length = b.length
  · have hne : ((a.length : Int) != (b.length : Int)) = false := by simp [hl]
    rw [hne, if_neg (by decide), ← all_eq a b hl]
    refine iter_all a.length _ (fun k hk => ?_) ?_
    · unfold laws_eqIntS.b0
      have h1 : (k : Int) < (a.length : Int) := by omega
      have h2 : (k : Int) < (b.length : Int) := by omega
      have h0 : (0 : Int) ≤ (k : Int) := by omega
      rw [if_pos (by simpa using h1), if_pos ⟨h0, h1⟩, if_pos ⟨h0, h2⟩, at_nat a k hk, at_nat b k (by omega), w64 (by omega) (by omega)]
      rw [List.getElem?_eq_getElem hk, List.getElem?_eq_getElem (by omega)]
      by_cases he : a[k] = b[k] <;> simp [he]
    · unfold laws_eqIntS.b0
      rw [if_neg (by simp)]; rfl
  · have hne : ((a.length : Int) != (b.length : Int)) = true := by simp; omega
    rw [hne, if_pos rfl]
    have : a ≠ b := fun e => hl (by rw [e])
    simp [this]
/-- what marking makes of a list of so many numbers -/
def markI (x : Int) (n : Nat) : List Int := (List.range n).map fun i : Nat => x + (i : Int)
theorem markIntS (a : List Int) (x : Int) (h0 : 0 ≤ x) (h1 : x ≤ 1000000000000) (h : a.length ≤ 1000000000000) : laws_markIntS.f a x = some (x + (a.length : Int), markI x a.length) := by
  unfold laws_markIntS.f
  have hst : (a, x, (0 : Int)) = ((markI x 0 ++ a.drop 0, x + ((0 : Nat) : Int), ((0 : Nat) : Int)) : List Int × Int × Int) := by simp [markI]
  rw [hst]
  refine (iter_for a.length (fun k => (markI x k ++ a.drop k, x + (k : Int), (k : Int))) _ (fun k hk => ?_) ?_)
  · unfold laws_markIntS.b0
    have hlen : (markI x k ++ a.drop k).length = a.length := by simp [markI]; omega
    simp only [hlen]
    have h2 : (k : Int) < (a.length : Int) := by omega
    rw [if_pos (by simpa using h2), if_pos ⟨by omega, h2⟩, w64 (by omega) (by omega), w64 (by omega) (by omega)]
    have hset : (markI x k ++ a.drop k).set ((k : Int)).toNat (x + (k : Int)) = markI x (k + 1) ++ a.drop (k + 1) := by
      rw [Int.toNat_natCast, List.set_append, if_neg (by simp [markI])]
      have hl : (markI x k).length = k := by simp [markI]
      rw [hl, Nat.sub_self]
      rw [List.drop_eq_getElem_cons hk, List.set_cons_zero]
      simp [markI, List.range_succ]
    rw [hset]
    have e1 : x + (k : Int) + 1 = x + ((k + 1 : Nat) : Int) := by omega
    have e2 : (k : Int) + 1 = ((k + 1 : Nat) : Int) := by omega
    rw [e1, e2]
  · unfold laws_markIntS.b0
    have hlen : (markI x a.length ++ a.drop a.length).length = a.length := by simp [markI]
    simp only [hlen]
    rw [if_neg (by simp)]
    simp
theorem heldIntS (x : Int) (n : Nat) (h0 : 0 ≤ x) (h1 : x ≤ 1000000000000) (h : n ≤ 1000000000000) : laws_heldIntS.f (markI x n) x = some (x + (n : Int)) := by
  unfold laws_heldIntS.f
  have hl : (markI x n).length = n := by simp [markI]
  have hst : (x, (0 : Int)) = ((x + ((0 : Nat) : Int), ((0 : Nat) : Int)) : Int × Int) := by simp
  rw [hst]
  refine (iter_for n (fun k => (x + (k : Int), (k : Int))) _ (fun k hk => ?_) ?_)
  · unfold laws_heldIntS.b0
    simp only [hl]
    have h2 : (k : Int) < (n : Int) := by omega
    rw [if_pos (by simpa using h2), if_pos ⟨by omega, h2⟩, at_nat _ k (by omega)]
    have : (markI x n)[k]'(by omega) = x + (k : Int) := by simp [markI]
    rw [this, if_neg (by simp), w64 (by omega) (by omega), w64 (by omega) (by omega)]
    have e1 : x + (k : Int) + 1 = x + ((k + 1 : Nat) : Int) := by omega
    have e2 : (k : Int) + 1 = ((k + 1 : Nat) : Int) := by omega
    rw [e1, e2]
  · unfold laws_heldIntS.b0
    simp only [hl]
    rw [if_neg (by simp)]
    simp
theorem toIntS (a : List Int) (h : a.length ≤ 4294967296) : laws_toIntS.f a = some a := by
  unfold laws_toIntS.f
  rw [if_pos (by simp [Lim]; omega)]
  have hst : (List.replicate ((a.length : Int)).toNat (0 : Int), (0 : Int)) = (a.take 0 ++ List.replicate (a.length - 0) 0, ((0 : Nat) : Int)) := by simp
  rw [hst]
  have e : (some a : Option (List Int)) = some (a.take a.length ++ List.replicate (a.length - a.length) 0) := by simp
  rw [e]
  refine iter_for a.length (fun k => (a.take k ++ List.replicate (a.length - k) 0, (k : Int))) _ (fun k hk => ?_) ?_
  · unfold laws_toIntS.b0
    have hl : (a.take k ++ List.replicate (a.length - k) (0 : Int)).length = a.length := by rw [List.length_append, List.length_take, List.length_replicate]; omega
    simp only [hl]
    rw [if_pos (by simp; omega), if_pos ⟨by omega, by omega⟩, if_pos ⟨by omega, by omega⟩, at_nat a k hk, w64 (by omega) (by omega)]
    have hset : (a.take k ++ List.replicate (a.length - k) (0 : Int)).set ((k : Int)).toNat a[k] = a.take (k + 1) ++ List.replicate (a.length - (k + 1)) 0 := by
      rw [Int.toNat_natCast, List.set_append, if_neg (by simp; omega)]
      have : (a.take k).length = k := by simp; omega
      rw [this, Nat.sub_self, show a.length - k = (a.length - (k + 1)) + 1 by omega, List.replicate_succ, List.set_cons_zero, List.take_succ_eq_append_getElem hk, List.append_assoc]
      rfl
    rw [hset]
    simp
  · unfold laws_toIntS.b0
    simp only []
    rw [if_neg (by simp)]; rfl
end Go.Proofs.Ytndhbfkahbbkaaa
