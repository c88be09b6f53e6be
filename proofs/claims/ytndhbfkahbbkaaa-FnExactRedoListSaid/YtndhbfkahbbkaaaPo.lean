/- Plain laws: valid records, statuses: the program's and the reference's answer the same. -/
import Derived.Test.YtndhbfkahbbkaaaPn
set_option linter.unusedVariables false
set_option linter.unusedSimpArgs false
namespace Go.Proofs.Ytndhbfkahbbkaaa
open Go V
def rin (a b c : Int) : Bool := decide (b ≤ a) && decide (a ≤ c)
theorem in_rin (a b c : Int) : spec_l5in.f a b c = some (rin a b c) := rfl
theorem within_rin (a b c : Int) : impl_within.f a b c = some (rin a b c) := rfl
def ROK (a0 : Record) : Bool :=
  if rin a0.Lsn 1 1000000 = false then false
  else if a0.Kind = 1 then ((rin a0.Page 0 15 && ((a0.Data.length : Int) == 256)) && (a0.Xid == 0)) && (a0.Slot == 0)
  else if a0.Kind = 2 then (((rin a0.Page 0 15 && rin a0.Slot 0 15) && rin a0.Xid 1 400) && decide ((a0.Data.length : Int) ≥ 1)) && decide ((a0.Data.length : Int) ≤ 92)
  else if a0.Kind = 3 then ((rin a0.Page 0 15 && rin a0.Slot 0 15) && rin a0.Xid 1 400) && ((a0.Data.length : Int) == 0)
  else if a0.Kind = 4 then ((rin a0.Page 0 15 && rin a0.Slot 0 15) && (a0.Xid == 0)) && ((a0.Data.length : Int) == 0)
  else if a0.Kind = 5 then ((rin a0.Xid 1 400 && (a0.Page == 0)) && (a0.Slot == 0)) && ((a0.Data.length : Int) == 0)
  else false
theorem spec_RecordOk (a0 : Record) : spec_RecordOk.f a0 = some (ROK a0) := by
  unfold spec_RecordOk.f ROK
  simp only [in_rin, Option.bind_some]
  cases h1 : rin a0.Lsn 1 1000000
  · rfl
  · simp only [Bool.not_true, Bool.false_eq_true, if_false]
    by_cases k1 : a0.Kind = 1
    · simp [k1]
    · by_cases k2 : a0.Kind = 2
      · simp [k2]
      · by_cases k3 : a0.Kind = 3
        · simp [k3]
        · by_cases k4 : a0.Kind = 4
          · simp [k4]
          · by_cases k5 : a0.Kind = 5
            · simp [k5]
            · simp [k1, k2, k3, k4, k5]
theorem impl_RecordOk (a0 : Record) : impl_RecordOk.f a0 = some (ROK a0) := by
  unfold impl_RecordOk.f impl_isLsn.f impl_isPage.f impl_isSlot.f impl_isXid.f ROK
  simp only [within_rin, Option.bind_some]
  have hl : rin (a0.Data.length : Int) 1 92 = (decide ((a0.Data.length : Int) ≥ 1) && decide ((a0.Data.length : Int) ≤ 92)) := rfl
  cases h1 : rin a0.Lsn 1 1000000
  · rfl
  · simp only [Bool.not_true, Bool.false_eq_true, if_false]
    cases h2 : rin a0.Page 0 15 <;> cases h3 : rin a0.Slot 0 15 <;> cases h4 : rin a0.Xid 1 400 <;> by_cases k1 : a0.Kind = 1 <;> by_cases k2 : a0.Kind = 2 <;> by_cases k3 : a0.Kind = 3 <;> by_cases k4 : a0.Kind = 4 <;> by_cases k5 : a0.Kind = 5 <;> simp [k1, k2, k3, k4, k5, hl, Bool.and_assoc] <;> omega
def SO (a : List Int) (x : Int) : Int := if rin x 1 400 = true ∧ x < (a.length : Int) then (if rin (at_ a x) 0 2 = true then at_ a x else 0) else 0
theorem impl_StatusOf (a : List Int) (x : Int) : impl_StatusOf.f a x = some (SO a x) := by
  unfold impl_StatusOf.f impl_isXid.f SO
  simp only [within_rin, Option.bind_some]
  by_cases h1 : rin x 1 400 = true
  · have hx : 1 ≤ x := by simp [rin] at h1; omega
    by_cases h2 : x < (a.length : Int)
    · rw [if_neg (by simp [h1]; omega), if_pos ⟨by omega, h2⟩, if_pos (show rin x 1 400 = true ∧ x < (a.length : Int) from ⟨h1, h2⟩), if_pos ⟨by omega, h2⟩]
      cases h3 : rin (at_ a x) 0 2 <;> simp
    · rw [if_pos (by simp [h1]; omega), if_neg (show ¬ (rin x 1 400 = true ∧ x < (a.length : Int)) from fun h => h2 h.2)]; rfl
  · rw [if_pos (by simp [h1]), if_neg (show ¬ (rin x 1 400 = true ∧ x < (a.length : Int)) from fun h => h1 h.1)]; rfl
theorem spec_StatusOf (a : List Int) (x : Int) : spec_StatusOf.f a x = some (SO a x) := by
  unfold spec_StatusOf.f SO
  simp only [in_rin, Option.bind_some]
  by_cases h1 : rin x 1 400 = true
  · have hx : 1 ≤ x := by simp [rin] at h1; omega
    by_cases h2 : x < (a.length : Int)
    · rw [if_neg (by simp [h1]; omega), if_pos ⟨by omega, h2⟩, if_pos (show rin x 1 400 = true ∧ x < (a.length : Int) from ⟨h1, h2⟩), if_pos ⟨by omega, h2⟩]
      generalize at_ a x = v
      cases h3 : rin v 1 2 <;> cases h4 : rin v 0 2 <;> simp [rin] at h3 h4 ⊢ <;> omega
    · rw [if_pos (by simp [h1]; omega), if_neg (show ¬ (rin x 1 400 = true ∧ x < (a.length : Int)) from fun h => h2 h.2)]; rfl
  · rw [if_pos (by simp [h1]), if_neg (show ¬ (rin x 1 400 = true ∧ x < (a.length : Int)) from fun h => h1 h.1)]; rfl
def sv1 (a : List Int) (i : Nat) : Int := if i = 0 then 0 else if SO a (i : Int) = 1 then 1 else 2
def SS (a : List Int) (n : Int) : List Int := if rin n 0 401 = true then (List.range n.toNat).map (sv1 a) else []
theorem spec_StatusSettle (a : List Int) (n : Int) : spec_StatusSettle.f a n = some (SS a n) := by
  unfold spec_StatusSettle.f SS
  simp only [in_rin, Option.bind_some]
  by_cases hr : rin n 0 401 = true
  · have hn : 0 ≤ n ∧ n ≤ 401 := by simpa [rin] using hr
    rw [if_neg (by simp [hr]), if_pos hr]
    obtain ⟨n, rfl⟩ := Int.eq_ofNat_of_zero_le hn.1
    have hst : (([] : List Int), (0 : Int)) = ((List.range 0).map (sv1 a), ((0 : Nat) : Int)) := rfl
    rw [hst, Int.toNat_natCast]
    refine iter_for n (fun k => ((List.range k).map (sv1 a), (k : Int))) _ (fun k hk => ?_) ?_
    · unfold spec_StatusSettle.b0
      simp only [spec_StatusOf]
      rw [if_pos (by simp; omega), w64 (by omega) (by omega), List.range_succ, List.map_append]
      have hlen : ((List.range k).map (sv1 a)).length = k := by simp
      have hv : (if ((k : Int) == (0 : Int)) = true then (0 : Int) else if SO a (k : Int) = 1 then 1 else 2) = sv1 a k := by
        unfold sv1
        by_cases h0 : k = 0
        · simp [h0]
        · have : ((k : Int) == 0) = false := by simp; omega
          rw [this, if_neg h0]; rfl
      have e1 : (if (SO a (k : Int) == 1) = true then some (1 : Int) else some 2) = some (if SO a (k : Int) = 1 then (1 : Int) else 2) := by
        by_cases h1 : SO a (k : Int) = 1 <;> simp [h1]
      have e2 : ∀ y : Int, (if ((k : Int) == (0 : Int)) = true then some (0 : Int) else some y) = some (if ((k : Int) == (0 : Int)) = true then (0 : Int) else y) := fun y => by split <;> rfl
      simp only [Option.bind_some, e1, e2, hv, hlen]
      rw [if_pos (by simp [Lim]; omega)]
      simp
    · unfold spec_StatusSettle.b0
      simp only []
      rw [if_neg (by simp)]; rfl
  · rw [if_pos (by simp [hr]), if_neg hr]
end Go.Proofs.Ytndhbfkahbbkaaa
