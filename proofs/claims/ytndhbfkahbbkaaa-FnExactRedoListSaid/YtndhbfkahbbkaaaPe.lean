/- Plain laws: numbers read out of bytes: the program's and the reference's answer the same. -/
import Derived.Test.YtndhbfkahbbkaaaPc
set_option linter.unusedVariables false
set_option linter.unusedSimpArgs false
namespace Go.Proofs.Ytndhbfkahbbkaaa
open Go V
/-- what bytes tell, low first -/
def val (l : List Int) : Nat := l.foldr (fun b acc => b.toNat + 256 * acc) 0
theorem val_cons (b : Int) (l : List Int) : val (b :: l) = b.toNat + 256 * val l := rfl
theorem val_lt (l : List Int) (h : ∀ x ∈ l, InK .u8 x) : val l < 256 ^ l.length := by
  induction l with
  | nil => simp [val]
  | cons b l ih =>
    have hb := u8_of (h b (by simp))
    have := ih fun x hx => h x (by simp [hx])
    rw [val_cons, List.length_cons, Nat.pow_succ]
    omega
theorem val_app (l : List Int) (b : Int) : val (l ++ [b]) = val l + 256 ^ l.length * b.toNat := by
  induction l with
  | nil => simp [val]
  | cons c l ih =>
    rw [List.cons_append, val_cons, val_cons, ih, List.length_cons, Nat.pow_succ, Nat.mul_add, Nat.add_assoc]
    congr 2
    rw [← Nat.mul_assoc, Nat.mul_comm 256]
theorem val_le (n k : Nat) : val (le n k) = n % 256 ^ k := by
  induction k with
  | zero => simp [le, val, Nat.mod_one]
  | succ k ih =>
    rw [le_succ, val_app, ih, le_len, Int.toNat_natCast, Nat.pow_succ, Nat.mod_mul]
/-- the bytes from a place on -/
def cut (x : List Int) (a k : Nat) : List Int := (x.drop a).take k
theorem cut_len (x : List Int) (a k : Nat) (h : a + k ≤ x.length) : (cut x a k).length = k := by simp [cut]; omega
theorem cut_u8 (x : List Int) (a k : Nat) (h : ∀ y ∈ x, InK .u8 y) : ∀ y ∈ cut x a k, InK .u8 y := fun y hy => h y (List.mem_of_mem_drop (List.mem_of_mem_take hy))
theorem cut_succ (x : List Int) (a k : Nat) (h : a < x.length) : cut x a (k + 1) = x[a] :: cut x (a + 1) k := by
  unfold cut
  rw [List.drop_eq_getElem_cons h, List.take_succ_cons]
def GN (x : List Int) (a k : Int) : Int × Bool :=
  if 1 ≤ k ∧ k ≤ 8 ∧ 0 ≤ a ∧ a + k ≤ (x.length : Int) then (if val (cut x a.toNat k.toNat) < 9223372036854775808 then (((val (cut x a.toNat k.toNat) : Nat) : Int), true) else (0, false)) else (0, false)
theorem or_add (n b : Nat) (h : b < 256) : (n * 256) ||| b = n * 256 + b := by
  have := Nat.two_pow_add_eq_or_of_lt (i := 8) (b := b) (by simpa using h) n
  rw [Nat.mul_comm n 256]
  exact this.symm
theorem ior_u64 (a b : Nat) (ha : a < 18446744073709551616) (hb : b < 18446744073709551616) : ior .u64 (a : Int) (b : Int) = ((a ||| b : Nat) : Int) := by
  unfold ior
  have e : (BitVec.ofInt IntKind.u64.bits (a : Int) ||| BitVec.ofInt IntKind.u64.bits (b : Int)).toNat = a ||| b := by
    rw [BitVec.toNat_or, BitVec.ofInt_natCast, BitVec.ofInt_natCast, BitVec.toNat_ofNat, BitVec.toNat_ofNat, Nat.mod_eq_of_lt (show a < 2 ^ IntKind.u64.bits from ha), Nat.mod_eq_of_lt (show b < 2 ^ IntKind.u64.bits from hb)]
  rw [e]
  have hx : (a ||| b) < 2 ^ 64 := Nat.or_lt_two_pow ha hb
  rw [IntKind.wrap_u64]
  omega
theorem pow_le8 (k : Nat) (h : k ≤ 8) : 256 ^ k ≤ 18446744073709551616 := by
  have := Nat.pow_le_pow_right (show 256 > 0 by omega) h
  simpa using this
theorem impl_GetNum (x : List Int) (a k : Int) (hx : ∀ y ∈ x, InK .u8 y) (hl : x.length ≤ 1000000000000) (ha : InK .i64 a) (hk : InK .i64 k) : impl_GetNum.f x a k = some (GN x a k) := by
  have ha' := i64_of ha
  have hk' := i64_of hk
  unfold impl_GetNum.f impl_hasBytes.f impl_within.f GN
  simp only [Option.bind_some]
  by_cases hg : 1 ≤ k ∧ k ≤ 8 ∧ 0 ≤ a ∧ a + k ≤ (x.length : Int)
  · rw [if_pos hg]
    obtain ⟨h1, h2, h3, h4⟩ := hg
    obtain ⟨a, rfl⟩ := Int.eq_ofNat_of_zero_le h3
    obtain ⟨k, rfl⟩ := Int.eq_ofNat_of_zero_le (show 0 ≤ k by omega)
    have hw : IntKind.wrap .i64 ((x.length : Int) - (a : Int)) = (x.length : Int) - (a : Int) := w64 (by omega) (by omega)
    have hc : (!(decide ((1 : Int) ≤ (k : Int)) && decide ((k : Int) ≤ 8))) = false := by simp; omega
    have hc2 : ((decide ((0 : Int) ≤ (a : Int)) && decide ((a : Int) ≤ (x.length : Int))) && decide ((k : Int) ≤ (x.length : Int) - (a : Int))) = true := by simp; omega
    simp only [hc, hw, Bool.false_eq_true, if_false, Option.bind_some]
    first
      | rw [hc2]
      | (simp only [hc2])
    simp only [Option.bind_some, Bool.not_true, Bool.false_eq_true, if_false, Int.toNat_natCast]
    have hst : ((0 : Int), IntKind.wrap .i64 ((k : Int) - 1)) = (((val (cut x (a + (k - 0)) 0) : Nat) : Int), (k : Int) - 1 - ((0 : Nat) : Int)) := by
      rw [w64 (by omega) (by omega)]; simp [cut, val]
    rw [hst]
    refine iter_for k (fun j => (((val (cut x (a + (k - j)) j) : Nat) : Int), (k : Int) - 1 - (j : Int))) _ (fun j hj => ?_) ?_
    · unfold impl_GetNum.b0
      have hi : a + (k - (j + 1)) < x.length := by omega
      have hb := u8n (hx x[a + (k - (j + 1))] (List.getElem_mem hi))
      have hv := val_lt _ (cut_u8 x (a + (k - j)) j hx)
      rw [cut_len x _ j (by omega)] at hv
      have hp := pow_le8 (j + 1) (by omega)
      rw [Nat.pow_succ] at hp
      simp only []
      have hi2 : (a : Int) + ((k : Int) - 1 - (j : Int)) = ((a + (k - (j + 1)) : Nat) : Int) := by omega
      rw [if_pos (by simp; omega), hi2, w64 (by omega) (by omega), if_pos ⟨by omega, by omega⟩, at_nat x _ hi]
      have hcs : cut x (a + (k - (j + 1))) (j + 1) = x[a + (k - (j + 1))] :: cut x (a + (k - j)) j := by
        rw [cut_succ x _ j hi]
        congr 2
        omega
      rw [hcs, val_cons]
      generalize val (cut x (a + (k - j)) j) = n at *
      generalize x[a + (k - (j + 1))] = b at *
      have e1 : ishl .u64 ((n : Nat) : Int) 8 = ((n * 256 : Nat) : Int) := by
        unfold ishl
        have : min (8 : Int).toNat IntKind.u64.bits = 8 := by decide
        rw [this, IntKind.wrap_u64]; omega
      have e2 : IntKind.wrap .u64 b = ((b.toNat : Nat) : Int) := by rw [IntKind.wrap_u64]; omega
      rw [e1, e2, ior_u64 _ _ (by omega) (by omega), or_add _ _ hb.2, w64 (by omega) (by omega)]
      congr 3
      · omega
      · omega
    · unfold impl_GetNum.b0
      simp only [Nat.sub_self, Nat.add_zero]
      have hv := val_lt _ (cut_u8 x a k hx)
      rw [cut_len x _ k (by omega)] at hv
      have hp := pow_le8 k (by omega)
      generalize val (cut x a k) = n at *
      rw [if_neg (by simp; omega)]
      by_cases hn : n < 9223372036854775808
      · rw [if_neg (by simp; omega), if_pos hn, w64 (by omega) (by omega)]; rfl
      · rw [if_pos (by simp; omega), if_neg hn]; rfl
  · rw [if_neg hg]
    by_cases hk1 : 1 ≤ k ∧ k ≤ 8
    · have hc : (!(decide ((1 : Int) ≤ k) && decide (k ≤ 8))) = false := by simp; omega
      simp only [hc, Bool.false_eq_true, if_false, Option.bind_some]
      by_cases ha2 : 0 ≤ a ∧ a ≤ (x.length : Int)
      · have hw : IntKind.wrap .i64 ((x.length : Int) - a) = (x.length : Int) - a := w64 (by omega) (by omega)
        have hc2 : ((decide ((0 : Int) ≤ a) && decide (a ≤ (x.length : Int))) && decide (k ≤ (x.length : Int) - a)) = false := by simp; omega
        rw [hw]
        first
          | rw [hc2]
          | (simp only [hc2])
        rfl
      · have hc2 : (decide ((0 : Int) ≤ a) && decide (a ≤ (x.length : Int))) = false := by simp; omega
        first
          | rw [hc2]
          | (simp only [hc2])
        rfl
    · have hc : (!(decide ((1 : Int) ≤ k) && decide (k ≤ 8))) = true := by simp; omega
      simp only [hc, if_true, Option.bind_some]
theorem spec_GetNum (x : List Int) (a k : Int) (hx : ∀ y ∈ x, InK .u8 y) (hl : x.length ≤ 1000000000000) (ha : InK .i64 a) (hk : InK .i64 k) : spec_GetNum.f x a k = some (GN x a k) := by
  have ha' := i64_of ha
  have hk' := i64_of hk
  unfold spec_GetNum.f GN
  by_cases hg : 1 ≤ k ∧ k ≤ 8 ∧ 0 ≤ a ∧ a + k ≤ (x.length : Int)
  · rw [if_pos hg]
    obtain ⟨h1, h2, h3, h4⟩ := hg
    obtain ⟨a, rfl⟩ := Int.eq_ofNat_of_zero_le h3
    obtain ⟨k, rfl⟩ := Int.eq_ofNat_of_zero_le (show 0 ≤ k by omega)
    have hw : IntKind.wrap .i64 ((x.length : Int) - (a : Int)) = (x.length : Int) - (a : Int) := w64 (by omega) (by omega)
    rw [hw, if_neg (by simp; omega)]
    simp only [Int.toNat_natCast]
    have hst : ((0 : Int), IntKind.wrap .i64 ((k : Int) - 1)) = (((val (cut x (a + (k - 0)) 0) : Nat) : Int), (k : Int) - 1 - ((0 : Nat) : Int)) := by
      rw [w64 (by omega) (by omega)]; simp [cut, val]
    rw [hst]
    by_cases ht : ∃ h8 : k = 8, x[a + 7]'(by omega) > 127
    · obtain ⟨rfl, hbig⟩ := ht
      rw [iter_eq]
      have : val (cut x a 8) ≥ 9223372036854775808 := by
        have e : cut x a 8 = cut x a 7 ++ [x[a + 7]'(by omega)] := by
          unfold cut
          rw [List.take_succ_eq_append_getElem (by simp; omega)]
          simp
        rw [e, val_app, cut_len x a 7 (by omega)]
        have : 128 ≤ (x[a + 7]'(by omega)).toNat := by omega
        have := Nat.mul_le_mul_left (256 ^ 7) this
        omega
      rw [if_neg (by omega)]
      have hb : spec_GetNum.b0 x (a : Int) (((val (cut x (a + (8 - 0)) 0) : Nat) : Int), ((8 : Nat) : Int) - 1 - ((0 : Nat) : Int)) = some (.inr ((0 : Int), false)) := by
        unfold spec_GetNum.b0
        simp only []
        have hi2 : (a : Int) + (((8 : Nat) : Int) - 1 - ((0 : Nat) : Int)) = ((a + 7 : Nat) : Int) := by omega
        rw [if_pos (by simp), hi2, w64 (by omega) (by omega), if_pos ⟨by omega, by omega⟩, at_nat x _ (by omega), wrap_u8n _ (hx _ (List.getElem_mem _)), if_pos (by simp; omega)]
      rw [hb]; rfl
    · have hlow : ∀ h8 : k = 8, x[a + 7]'(by omega) ≤ 127 := fun h8 => by
        by_cases hq : x[a + 7]'(by omega) ≤ 127
        · exact hq
        · exact absurd ⟨h8, by omega⟩ ht
      have hsmall : ∀ j, j ≤ k → val (cut x (a + (k - j)) j) < 9223372036854775808 := by
        intro j hj
        have hv := val_lt _ (cut_u8 x (a + (k - j)) j hx)
        rw [cut_len x _ j (by omega)] at hv
        by_cases h7 : j ≤ 7
        · have := Nat.pow_le_pow_right (show 256 > 0 by omega) h7
          omega
        · have hk8 : k = 8 := by omega
          have hj8 : j = 8 := by omega
          subst hj8; subst hk8
          have hlow := hlow rfl
          have e : cut x (a + (8 - 8)) 8 = cut x a 7 ++ [x[a + 7]'(by omega)] := by
            unfold cut
            rw [List.take_succ_eq_append_getElem (by simp; omega)]
            simp
          have hv7 := val_lt _ (cut_u8 x a 7 hx)
          rw [cut_len x a 7 (by omega)] at hv7
          rw [e, val_app, cut_len x a 7 (by omega)]
          have : (x[a + 7]'(by omega)).toNat ≤ 127 := by omega
          have := Nat.mul_le_mul_left (256 ^ 7) this
          omega
      have hfin := hsmall k (Nat.le_refl _)
      rw [Nat.sub_self, Nat.add_zero] at hfin
      rw [if_pos hfin]
      refine iter_for k (fun j => (((val (cut x (a + (k - j)) j) : Nat) : Int), (k : Int) - 1 - (j : Int))) _ (fun j hj => ?_) ?_
      · unfold spec_GetNum.b0
        have hi : a + (k - (j + 1)) < x.length := by omega
        have hb := u8n (hx x[a + (k - (j + 1))] (List.getElem_mem hi))
        have hs1 := hsmall (j + 1) (by omega)
        simp only []
        have hi2 : (a : Int) + ((k : Int) - 1 - (j : Int)) = ((a + (k - (j + 1)) : Nat) : Int) := by omega
        have hno : ¬ ((((k : Int) - 1 - (j : Int)) == (7 : Int)) && decide (x[a + (k - (j + 1))] > 127)) = true := by
          intro h
          simp only [Bool.and_eq_true, beq_iff_eq, decide_eq_true_eq] at h
          have hk8 : k = 8 := by omega
          have hj0 : j = 0 := by omega
          subst hk8; subst hj0
          have := hlow rfl
          have h2 : x[a + 7]'(by omega) > 127 := h.2
          omega
        rw [if_pos (by simp; omega), hi2, w64 (n := ((a + (k - (j + 1)) : Nat) : Int)) (by omega) (by omega), if_pos ⟨by omega, by omega⟩, at_nat x _ hi, wrap_u8n _ (hx _ (List.getElem_mem hi)), if_neg hno]
        have hcs : cut x (a + (k - (j + 1))) (j + 1) = x[a + (k - (j + 1))] :: cut x (a + (k - j)) j := by
          rw [cut_succ x _ j hi]
          congr 2
          omega
        rw [hcs, val_cons] at hs1 ⊢
        generalize val (cut x (a + (k - j)) j) = n at *
        generalize x[a + (k - (j + 1))] = b at *
        rw [w64 (n := (n : Int) * 256) (by omega) (by omega), w64 (by omega) (by omega), w64 (by omega) (by omega)]
        congr 3
        · omega
        · omega
      · unfold spec_GetNum.b0
        simp only [Nat.sub_self, Nat.add_zero]
        rw [if_neg (by simp; omega)]; rfl
  · rw [if_neg hg]
    by_cases ha2 : 0 ≤ a ∧ a ≤ (x.length : Int)
    · have hw : IntKind.wrap .i64 ((x.length : Int) - a) = (x.length : Int) - a := w64 (by omega) (by omega)
      rw [hw, if_pos (by simp; omega)]
    · rw [if_pos (by simp; omega)]
end Go.Proofs.Ytndhbfkahbbkaaa
