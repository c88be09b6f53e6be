/- Plain laws: lists of records compared, copied, weighed. -/
import Derived.Test.YtndhbfkahbbkaaaPk
import Derived.Test.YtndhbfkahbbkaaaPg
set_option linter.unusedVariables false
set_option linter.unusedSimpArgs false
namespace Go.Proofs.Ytndhbfkahbbkaaa
open Go V
theorem eqRecord (a b : Record) (h : a.Data.length ≤ maxLen) : laws_eqRecord.f a b = some (decide (a = b)) := by
  unfold laws_eqRecord.f
  rw [eqByteS _ _ h]
  obtain ⟨a1, a2, a3, a4, a5, a6⟩ := a
  obtain ⟨b1, b2, b3, b4, b5, b6⟩ := b
  simp only [Record.mk.injEq, Option.bind_some]
  by_cases h1 : a1 = b1
  · by_cases h2 : a2 = b2
    · by_cases h3 : a3 = b3
      · by_cases h4 : a4 = b4
        · by_cases h5 : a5 = b5
          · by_cases h6 : a6 = b6 <;> simp [h1, h2, h3, h4, h5, h6]
          · simp [h1, h2, h3, h4, h5]
        · simp [h1, h2, h3, h4]
      · simp [h1, h2, h3]
    · simp [h1, h2]
  · simp [h1]
theorem eqRecordS (a b : List Record) (h : a.length ≤ maxLen) (hd : ∀ x ∈ a, x.Data.length ≤ maxLen) : laws_eqRecordS.f a b = some (decide (a = b)) := by
  unfold laws_eqRecordS.f
  simp only [maxLen] at h
  by_cases hl : a.length = b.length
  · have hne : ((a.length : Int) != (b.length : Int)) = false := by simp [hl]
    rw [hne, if_neg (by decide), ← all_eq a b hl]
    refine iter_all a.length _ (fun k hk => ?_) ?_
    · unfold laws_eqRecordS.b0
      have h1 : (k : Int) < (a.length : Int) := by omega
      have h2 : (k : Int) < (b.length : Int) := by omega
      have h0 : (0 : Int) ≤ (k : Int) := by omega
      rw [if_pos (by simpa using h1), if_pos ⟨h0, h1⟩, if_pos ⟨h0, h2⟩, at_nat a k hk, at_nat b k (by omega), eqRecord _ _ (hd _ (List.getElem_mem hk)), w64 (by omega) (by omega)]
      rw [List.getElem?_eq_getElem hk, List.getElem?_eq_getElem (by omega)]
      by_cases he : a[k] = b[k] <;> simp [he]
    · unfold laws_eqRecordS.b0
      rw [if_neg (by simp)]; rfl
  · have hne : ((a.length : Int) != (b.length : Int)) = true := by simp; omega
    rw [hne, if_pos rfl]
    have : a ≠ b := fun e => hl (by rw [e])
    simp [this]
theorem toRecord (a : Record) (h : a.Data.length ≤ 4294967296) : laws_toRecord.f a = some a := by
  unfold laws_toRecord.f
  rw [toByteS _ h]; rfl
theorem toRecordS (a : List Record) (h : a.length ≤ 4294967296) (hd : ∀ x ∈ a, x.Data.length ≤ 4294967296) : laws_toRecordS.f a = some a := by
  unfold laws_toRecordS.f
  rw [if_pos (by simp [Lim]; omega)]
  have hst : (List.replicate ((a.length : Int)).toNat (Record.mk 0 0 0 0 0 []), (0 : Int)) = (a.take 0 ++ List.replicate (a.length - 0) (Record.mk 0 0 0 0 0 []), ((0 : Nat) : Int)) := by simp
  rw [hst]
  have e : (some a : Option (List Record)) = some (a.take a.length ++ List.replicate (a.length - a.length) (Record.mk 0 0 0 0 0 [])) := by simp
  rw [e]
  refine iter_for a.length (fun k => (a.take k ++ List.replicate (a.length - k) (Record.mk 0 0 0 0 0 []), (k : Int))) _ (fun k hk => ?_) ?_
  · unfold laws_toRecordS.b0
    have hl : (a.take k ++ List.replicate (a.length - k) (Record.mk 0 0 0 0 0 [])).length = a.length := by rw [List.length_append, List.length_take, List.length_replicate]; omega
    simp only [hl]
    rw [if_pos (by simp; omega), if_pos ⟨by omega, by omega⟩, at_nat a k hk, toRecord _ (hd _ (List.getElem_mem hk)), Option.bind_some, if_pos ⟨by omega, by omega⟩, w64 (by omega) (by omega)]
    have hset : (a.take k ++ List.replicate (a.length - k) (Record.mk 0 0 0 0 0 [])).set ((k : Int)).toNat a[k] = a.take (k + 1) ++ List.replicate (a.length - (k + 1)) (Record.mk 0 0 0 0 0 []) := by
      rw [Int.toNat_natCast, List.set_append, if_neg (by simp; omega)]
      have : (a.take k).length = k := by simp; omega
      rw [this, Nat.sub_self, show a.length - k = (a.length - (k + 1)) + 1 by omega, List.replicate_succ, List.set_cons_zero, List.take_succ_eq_append_getElem hk, List.append_assoc]
      rfl
    rw [hset]
    simp
  · unfold laws_toRecordS.b0
    simp only []
    rw [if_neg (by simp)]; rfl
end Go.Proofs.Ytndhbfkahbbkaaa
