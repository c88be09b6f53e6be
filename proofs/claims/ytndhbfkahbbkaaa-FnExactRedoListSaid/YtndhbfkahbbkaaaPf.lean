/- Plain laws: frames read out of bytes. -/
import Derived.Test.YtndhbfkahbbkaaaPe
import Derived.Laws.Strings
set_option linter.unusedVariables false
set_option linter.unusedSimpArgs false
namespace Go.Proofs.Ytndhbfkahbbkaaa
open Go V
def FA (x : List Int) (a : Int) : Int × List Int × Int × Int :=
  if x.length > 65536 ∨ ¬ (0 ≤ a ∧ a + 3 ≤ (x.length : Int)) then (0, [], 0, 1)
  else if at_ x a = 0 ∨ val (cut x (a.toNat + 1) 2) > 1000 then (0, [], 0, 2)
  else if ¬ a.toNat + 3 + val (cut x (a.toNat + 1) 2) + 4 ≤ x.length then (0, [], 0, 1)
  else if val (cut x (a.toNat + 3 + val (cut x (a.toNat + 1) 2)) 4) ≠ crc (cut x a.toNat (3 + val (cut x (a.toNat + 1) 2))) then (0, [], 0, 3)
  else (at_ x a, cut x (a.toNat + 3) (val (cut x (a.toNat + 1) 2)), ((a.toNat + 3 + val (cut x (a.toNat + 1) 2) + 4 : Nat) : Int), 0)
theorem take_drop (x : List Int) (e a : Nat) : (x.take e).drop a = cut x a (e - a) := by
  unfold cut; rw [List.drop_take]
theorem gn_in (x : List Int) (a k : Nat) (hx : ∀ y ∈ x, InK .u8 y) (h1 : 1 ≤ k) (h2 : k ≤ 7) (h : a + k ≤ x.length) : GN x (a : Int) (k : Int) = (((val (cut x a k) : Nat) : Int), true) := by
  unfold GN
  rw [if_pos ⟨by omega, by omega, by omega, by omega⟩]
  simp only [Int.toNat_natCast]
  have hv := val_lt _ (cut_u8 x a k hx)
  rw [cut_len x _ k h] at hv
  have := Nat.pow_le_pow_right (show 256 > 0 by omega) h2
  rw [if_pos (by omega)]
theorem impl_FrameAt (x : List Int) (a : Int) (hx : ∀ y ∈ x, InK .u8 y) (hl : x.length ≤ 1000000000000) (ha : InK .i64 a) : impl_FrameAt.f x a = some (FA x a) := by
  have ha' := i64_of ha
  unfold impl_FrameAt.f FA impl_hasBytes.f impl_within.f
  simp only [Option.bind_some]
  by_cases hbig : x.length > 65536
  · rw [if_pos (Or.inl hbig), if_pos (by simp; omega)]; rfl
  · rw [if_neg (by simp; omega)]
    by_cases hg : 0 ≤ a ∧ a + 3 ≤ (x.length : Int)
    · obtain ⟨h0, h3⟩ := hg
      rw [if_neg (show ¬ (x.length > 65536 ∨ ¬ (0 ≤ a ∧ a + 3 ≤ (x.length : Int))) from fun h => h.elim hbig fun h => h ⟨h0, h3⟩)]
      obtain ⟨a, rfl⟩ := Int.eq_ofNat_of_zero_le h0
      have hw : IntKind.wrap .i64 ((x.length : Int) - (a : Int)) = (x.length : Int) - (a : Int) := w64 (by omega) (by omega)
      have hc2 : ((decide ((0 : Int) ≤ (a : Int)) && decide ((a : Int) ≤ (x.length : Int))) && decide ((3 : Int) ≤ (x.length : Int) - (a : Int))) = true := by simp; omega
      rw [hw]
      first
        | rw [hc2]
        | (simp only [hc2])
      have ha1 : a < x.length := by omega
      have e1 : (a : Int) + 1 = ((a + 1 : Nat) : Int) := by omega
      have e3 : (a : Int) + 3 = ((a + 3 : Nat) : Int) := by omega
      have hk := u8n (hx x[a] (List.getElem_mem ha1))
      simp only [Option.bind_some, Bool.not_true, Bool.false_eq_true, if_false, Int.toNat_natCast, e1, e3]
      rw [if_pos ⟨by omega, by omega⟩, w64 (n := ((a + 1 : Nat) : Int)) (by omega) (by omega), w64 (n := ((a + 3 : Nat) : Int)) (by omega) (by omega), impl_GetNum x _ 2 hx hl (i64_nat _ (by omega)) (i64_ok (by omega) (by omega)), at_nat x a ha1, wrap_u8n _ (hx x[a] (List.getElem_mem ha1)), show (2 : Int) = ((2 : Nat) : Int) from rfl, gn_in x (a + 1) 2 hx (by omega) (by omega) (by omega)]
      simp only [Option.bind_some]
      generalize hz : val (cut x (a + 1) 2) = z
      by_cases hbad : x[a] = 0 ∨ z > 1000
      · rw [if_pos hbad, if_pos (by simp; omega)]
      · rw [if_neg hbad, if_neg (by simp; omega)]
        have ez : ((a + 3 : Nat) : Int) + (z : Int) = ((a + 3 + z : Nat) : Int) := by omega
        rw [ez, w64 (n := ((a + 3 + z : Nat) : Int)) (by omega) (by omega), impl_GetNum x _ 4 hx hl (i64_nat _ (by omega)) (i64_ok (by omega) (by omega))]
        by_cases hend : a + 3 + z + 4 ≤ x.length
        · rw [if_neg (show ¬ ¬ (a + 3 + z + 4 ≤ x.length) from fun h => h hend), show (4 : Int) = ((4 : Nat) : Int) from rfl, gn_in x (a + 3 + z) 4 hx (by omega) (by omega) (by omega)]
          simp only [Option.bind_some, Bool.not_true, Bool.false_eq_true, if_false, Int.toNat_natCast]
          rw [if_pos ⟨by omega, by omega, by omega⟩, take_drop, show a + 3 + z - a = 3 + z by omega, impl_Crc _ (cut_u8 x a (3 + z) hx) (by rw [cut_len x a (3 + z) (by omega)]; omega)]
          simp only [Option.bind_some]
          by_cases hs : val (cut x (a + 3 + z) 4) = crc (cut x a (3 + z))
          · rw [if_neg (show ¬ (val (cut x (a + 3 + z) 4) ≠ crc (cut x a (3 + z))) from fun h => h hs), hs, if_neg (by simp), if_pos ⟨by omega, by omega, by omega⟩, take_drop, show a + 3 + z - (a + 3) = z by omega]
            unfold slices_Clone_byte_byte.f
            rw [if_pos (by rw [cut_len x _ z (by omega)]; simp [Lim]; omega), w64 (by omega) (by omega)]
            simp only [Option.bind_some, List.nil_append]
            congr 4
          · rw [if_pos hs, if_pos (by simp; omega)]
        · rw [if_pos hend]
          have : GN x ((a + 3 + z : Nat) : Int) 4 = (0, false) := by
            unfold GN
            rw [if_neg (fun h => by have := h.2.2.2; omega)]
          rw [this]
          rfl
    · rw [if_pos (Or.inr hg)]
      by_cases ha2 : 0 ≤ a ∧ a ≤ (x.length : Int)
      · have hw : IntKind.wrap .i64 ((x.length : Int) - a) = (x.length : Int) - a := w64 (by omega) (by omega)
        have hc2 : ((decide ((0 : Int) ≤ a) && decide (a ≤ (x.length : Int))) && decide ((3 : Int) ≤ (x.length : Int) - a)) = false := by simp; omega
        rw [hw]
        first
          | rw [hc2]
          | (simp only [hc2])
        rfl
      · have hc2 : (decide ((0 : Int) ≤ a) && decide (a ≤ (x.length : Int))) = false := by simp; omega
        first
          | rw [hc2]
          | (simp only [hc2])
        rfl
theorem fa_u8 (x : List Int) (a : Int) (hx : ∀ y ∈ x, InK .u8 y) : ∀ y ∈ (FA x a).2.1, InK .u8 y := by
  unfold FA
  split
  · simp
  · split
    · simp
    · split
      · simp
      · split
        · simp
        · exact cut_u8 _ _ _ hx
theorem fa_len (x : List Int) (a : Int) : (FA x a).2.1.length ≤ x.length := by
  unfold FA
  split
  · simp
  · split
    · simp
    · split
      · simp
      · split
        · simp
        · simp [cut]; omega
/-! ### strings of bytes -/
theorem str_list (xs : List Int) : (str xs).toList = xs.map fun n => UInt8.ofNat n.toNat := by
  have key : ∀ (xs : List Int) (b : ByteArray), (xs.foldl (fun r n => r.push (UInt8.ofNat n.toNat)) b).data.toList = b.data.toList ++ xs.map fun n => UInt8.ofNat n.toNat := by
    intro xs
    induction xs with
    | nil => intro b; simp
    | cons x xs ih => intro b; rw [List.foldl_cons, ih]; simp [ByteArray.push]
  have := key xs ByteArray.empty
  rw [show (ByteArray.empty).data.toList = [] from rfl, List.nil_append] at this
  rw [← this]
  unfold str
  exact ByteArray.toList_eq _
end Go.Proofs.Ytndhbfkahbbkaaa
