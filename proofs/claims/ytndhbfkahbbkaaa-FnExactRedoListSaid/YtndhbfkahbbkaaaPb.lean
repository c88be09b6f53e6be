/- Plain laws: numbers as bytes, the sum of bytes, frames: the program's and the reference's answer the same. -/
import Derived.Test.YtndhbfkahbbkaaaPa
set_option linter.unusedVariables false
set_option linter.unusedSimpArgs false
namespace Go.Proofs.Ytndhbfkahbbkaaa
open Go V
theorem i64_of {n : Int} (h : InK .i64 n) : -9223372036854775808 ≤ n ∧ n ≤ 9223372036854775807 := by
  simp [InK, IntKind.min, IntKind.max, IntKind.signed, IntKind.bits] at h; omega
theorem u8_of {n : Int} (h : InK .u8 n) : 0 ≤ n ∧ n ≤ 255 := by
  simp [InK, IntKind.min, IntKind.max, IntKind.signed, IntKind.bits] at h; omega
/-- a number's bytes, low first -/
def le (n k : Nat) : List Int := (List.range k).map fun j : Nat => ((n / 256 ^ j % 256 : Nat) : Int)
theorem le_succ (n k : Nat) : le n (k + 1) = le n k ++ [((n / 256 ^ k % 256 : Nat) : Int)] := by simp [le, List.range_succ]
theorem le_len (n k : Nat) : (le n k).length = k := by simp [le]
def PN (n k : Int) : List Int := if 1 ≤ k ∧ k ≤ 8 ∧ 0 ≤ n ∧ n.toNat / 256 ^ k.toNat = 0 then le n.toNat k.toNat else []
theorem pn_len (n k : Int) : (PN n k).length ≤ 8 := by
  unfold PN; split
  · rw [le_len]; omega
  · simp
theorem div_step (n k : Nat) : n / 256 ^ k / 256 = n / 256 ^ (k + 1) := by rw [Nat.div_div_eq_div_mul, Nat.pow_succ]
theorem div_le (n k : Nat) : n / 256 ^ k ≤ n := Nat.div_le_self _ _
theorem div_i64 (n j : Nat) (h : (n : Int) ≤ 9223372036854775807) : -9223372036854775808 ≤ ((n / 256 ^ j : Nat) : Int) ∧ ((n / 256 ^ j : Nat) : Int) ≤ 9223372036854775807 := by
  have := div_le n j
  generalize n / 256 ^ j = q at *
  omega
theorem pos_nat (q : Nat) : decide ((q : Int) > 0) = !(decide (q = 0)) := by
  by_cases h : q = 0
  · simp [h]
  · have : (q : Int) > 0 := by omega
    simp only [this, h, decide_true, decide_false, Bool.not_false]
theorem ne_nat (q : Nat) : ((q : Int) != 0) = !(decide (q = 0)) := by
  by_cases h : q = 0
  · simp [h]
  · have : (q : Int) ≠ 0 := by omega
    simp [h, this]
theorem spec_PutNum (n k : Int) (hn : InK .i64 n) : spec_PutNum.f n k = some (PN n k) := by
  have hn' := i64_of hn
  unfold spec_PutNum.f PN
  by_cases hg : 1 ≤ k ∧ k ≤ 8 ∧ 0 ≤ n
  · obtain ⟨h1, h2, h3⟩ := hg
    rw [if_neg (by simp; omega)]
    obtain ⟨n, rfl⟩ := Int.eq_ofNat_of_zero_le h3
    obtain ⟨k, rfl⟩ := Int.eq_ofNat_of_zero_le (show 0 ≤ k by omega)
    simp only [Int.toNat_natCast]
    have hst : ((n : Int), ([] : List Int), (0 : Int)) = (((n / 256 ^ 0 : Nat) : Int), le n 0, ((0 : Nat) : Int)) := by simp [le]
    rw [hst]
    refine iter_for k (fun j => (((n / 256 ^ j : Nat) : Int), le n j, (j : Int))) _ (fun j hj => ?_) ?_
    · unfold spec_PutNum.b0
      have hd := div_le n j
      simp only []
      rw [if_pos (by simp; omega), if_pos (by rw [le_len]; simp [Lim]; omega)]
      have e1 : Int.tmod ((n / 256 ^ j : Nat) : Int) 256 = ((n / 256 ^ j % 256 : Nat) : Int) := rfl
      have e2 : Int.tdiv ((n / 256 ^ j : Nat) : Int) 256 = ((n / 256 ^ (j + 1) : Nat) : Int) := by rw [← div_step]; rfl
      have e3 : IntKind.wrap .u8 ((n / 256 ^ j % 256 : Nat) : Int) = ((n / 256 ^ j % 256 : Nat) : Int) := by rw [IntKind.wrap_u8]; omega
      have hd2 := div_le n (j + 1)
      have hb := div_i64 n (j + 1) (by omega)
      rw [e1, e2, e3, w64 hb.1 hb.2, w64 (by omega) (by omega), le_succ]
      rfl
    · unfold spec_PutNum.b0
      simp only []
      rw [if_neg (by simp)]
      by_cases hz : n / 256 ^ k = 0
      · rw [pos_nat, if_neg (by simp [hz]), if_pos ⟨by omega, by omega, by omega, hz⟩]; rfl
      · rw [pos_nat, if_pos (by simp [hz]), if_neg (fun h => hz h.2.2.2)]; rfl
  · rw [if_pos (by simp; omega), if_neg (fun h => hg ⟨h.1, h.2.1, h.2.2.1⟩)]
theorem fdiv_nat (a b : Nat) : Int.fdiv (a : Int) (b : Int) = ((a / b : Nat) : Int) := by
  rw [Int.fdiv_eq_ediv_of_nonneg _ (by omega)]; rfl
theorem ishr_nat (k : IntKind) (a b : Nat) (h : b ≤ k.bits) : ishr k (a : Int) (b : Int) = ((a / 2 ^ b : Nat) : Int) := by
  unfold ishr
  rw [Int.toNat_natCast, Nat.min_eq_left h]
  have : (2 : Int) ^ b = ((2 ^ b : Nat) : Int) := by simp
  rw [this, fdiv_nat]
theorem impl_PutNum (n k : Int) (hn : InK .i64 n) (hk : InK .i64 k) : impl_PutNum.f n k = some (PN n k) := by
  have hn' := i64_of hn
  have hk' := i64_of hk
  unfold impl_PutNum.f impl_within.f
  simp only [Option.bind_some]
  by_cases hg : 1 ≤ k ∧ k ≤ 8 ∧ 0 ≤ n
  · obtain ⟨h1, h2, h3⟩ := hg
    have hc : ((!(decide ((1 : Int) ≤ k) && decide (k ≤ 8))) || decide (n < 0)) = false := by simp; omega
    rw [hc, if_neg (by decide)]
    obtain ⟨n, rfl⟩ := Int.eq_ofNat_of_zero_le h3
    obtain ⟨k, rfl⟩ := Int.eq_ofNat_of_zero_le (show 0 ≤ k by omega)
    have hloop : iter (impl_PutNum.b0 (k : Int)) ((n : Int), ([] : List Int), (0 : Int)) = some (le n k) := by
      have hst : ((n : Int), ([] : List Int), (0 : Int)) = (((n / 256 ^ 0 : Nat) : Int), le n 0, ((0 : Nat) : Int)) := by simp [le]
      rw [hst]
      refine iter_for k (fun j => (((n / 256 ^ j : Nat) : Int), le n j, (j : Int))) _ (fun j hj => ?_) ?_
      · unfold impl_PutNum.b0
        simp only []
        rw [if_pos (by simp; omega), if_pos (by rw [le_len]; simp [Lim]; omega)]
        have e2 : ishr .i64 ((n / 256 ^ j : Nat) : Int) 8 = ((n / 256 ^ (j + 1) : Nat) : Int) := by
          rw [show (8 : Int) = ((8 : Nat) : Int) from rfl, ishr_nat _ _ _ (by decide), ← div_step]
        have e3 : IntKind.wrap .u8 ((n / 256 ^ j : Nat) : Int) = ((n / 256 ^ j % 256 : Nat) : Int) := by rw [IntKind.wrap_u8]; omega
        rw [e2, e3, w64 (by omega) (by omega), le_succ]
        rfl
      · unfold impl_PutNum.b0
        simp only []
        rw [if_neg (by simp)]; rfl
    have hm : IntKind.wrap .i64 (8 * (k : Int)) = ((8 * k : Nat) : Int) := by rw [w64 (by omega) (by omega)]; omega
    rw [hm, ishr_nat _ _ _ (by show 8 * k ≤ 64; omega)]
    have hp : 2 ^ (8 * k) = 256 ^ k := by rw [Nat.pow_mul]
    rw [hp, hloop]
    have hP : PN (n : Int) (k : Int) = if n / 256 ^ k = 0 then le n k else [] := by
      unfold PN
      simp only [Int.toNat_natCast]
      by_cases hz : n / 256 ^ k = 0
      · rw [if_pos ⟨by omega, by omega, by omega, hz⟩, if_pos hz]
      · rw [if_neg (fun h => hz h.2.2.2), if_neg hz]
    rw [hP, ne_nat]
    by_cases h8 : k < 8
    · rw [if_pos (by simpa using (show (k : Int) < 8 by omega)), if_pos (by omega)]
      by_cases hz : n / 256 ^ k = 0 <;> simp [hz]
    · obtain rfl : k = 8 := by omega
      have hz : n / 256 ^ 8 = 0 := Nat.div_eq_of_lt (by omega)
      rw [if_neg (by decide), if_pos hz]; rfl
  · have hc : ((!(decide ((1 : Int) ≤ k) && decide (k ≤ 8))) || decide (n < 0)) = true := by simp; omega
    rw [hc, if_pos rfl]
    unfold PN
    rw [if_neg (fun h => hg ⟨h.1, h.2.1, h.2.2.1⟩)]; rfl
/-! ### the sum of bytes -/
def stepN (c : Nat) : Nat := if c % 2 = 1 then (c / 2) ^^^ 3988292384 else c / 2
def stp : Nat → Nat → Nat
  | 0, c => c
  | k + 1, c => stepN (stp k c)
theorem step_xor (a b : Nat) : stepN (a ^^^ b) = stepN a ^^^ stepN b := by
  unfold stepN
  have h1 : (a ^^^ b) / 2 = a / 2 ^^^ b / 2 := Nat.xor_div_two
  have h3 : (a ^^^ b) % 2 = 1 ↔ ¬ (a % 2 = 1 ↔ b % 2 = 1) := Nat.xor_mod_two_eq_one
  have h2 : (a ^^^ b) % 2 = (a + b) % 2 := by omega
  rw [h1]
  rcases Nat.mod_two_eq_zero_or_one a with ha | ha <;> rcases Nat.mod_two_eq_zero_or_one b with hb | hb
  · rw [if_neg (by omega), if_neg (by omega), if_neg (by omega)]
  · rw [if_pos (by omega), if_neg (by omega), if_pos (by omega), Nat.xor_assoc]
  · rw [if_pos (by omega), if_pos (by omega), if_neg (by omega), Nat.xor_assoc, Nat.xor_assoc, Nat.xor_comm (b / 2)]
  · rw [if_neg (by omega), if_pos (by omega), if_pos (by omega)]
    rw [Nat.xor_assoc, ← Nat.xor_assoc 3988292384, Nat.xor_comm 3988292384, Nat.xor_assoc (b / 2), Nat.xor_self, Nat.xor_zero]
theorem stp_xor (k a b : Nat) : stp k (a ^^^ b) = stp k a ^^^ stp k b := by
  induction k with
  | zero => rfl
  | succ k ih => simp only [stp, ih, step_xor]
theorem stp_add (j k c : Nat) : stp (j + k) c = stp j (stp k c) := by
  induction j with
  | zero => rw [Nat.zero_add]; rfl
  | succ j ih => rw [Nat.add_right_comm]; simp only [stp, ih]
theorem step_lt (c : Nat) (h : c < 4294967296) : stepN c < 4294967296 := by
  unfold stepN
  split
  · exact Nat.xor_lt_two_pow (n := 32) (by omega) (by omega)
  · omega
theorem stp_lt (k c : Nat) (h : c < 4294967296) : stp k c < 4294967296 := by
  induction k with
  | zero => exact h
  | succ k ih => exact step_lt _ ih
theorem nib (c : Nat) : stp 4 c = (c / 16) ^^^ stp 4 (c % 16) := by
  have hc : c = (16 * (c / 16)) ^^^ (c % 16) := by
    apply Nat.eq_of_testBit_eq
    intro i
    rw [Nat.testBit_xor, show (16 : Nat) = 2 ^ 4 from rfl, Nat.testBit_two_pow_mul, Nat.testBit_mod_two_pow, Nat.testBit_div_two_pow]
    by_cases hi : i < 4
    · have h4 : ¬ 4 ≤ i := by omega
      simp [hi, h4]
    · have : i - 4 + 4 = i := by omega
      have h4 : 4 ≤ i := by omega
      simp [hi, h4, this]
  have hs : ∀ x, stepN (2 * x) = x := by
    intro x; unfold stepN
    rw [if_neg (by omega)]; omega
  have h16 : stp 4 (16 * (c / 16)) = c / 16 := by
    have : 16 * (c / 16) = 2 * (2 * (2 * (2 * (c / 16)))) := by omega
    rw [this]
    simp only [stp, hs]
  conv => lhs; rw [hc]
  rw [stp_xor, h16]
def crcN (xs : List Int) : Nat := xs.foldl (fun r b => stp 8 (r ^^^ b.toNat)) 4294967295
def crc (xs : List Int) : Nat := crcN xs ^^^ 4294967295
theorem crcN_lt (xs : List Int) (h : ∀ x ∈ xs, InK .u8 x) : crcN xs < 4294967296 := by
  unfold crcN
  have : ∀ (xs : List Int) r, (∀ x ∈ xs, InK .u8 x) → r < 4294967296 → xs.foldl (fun r b => stp 8 (r ^^^ b.toNat)) r < 4294967296 := by
    intro xs
    induction xs with
    | nil => intro r _ h; exact h
    | cons x xs ih =>
      intro r hx hr
      have := u8_of (hx x (by simp))
      exact ih _ (fun y hy => hx y (by simp [hy])) (stp_lt _ _ (Nat.xor_lt_two_pow (n := 32) hr (by omega)))
  exact this xs _ h (by omega)
theorem crc_lt (xs : List Int) (h : ∀ x ∈ xs, InK .u8 x) : crc xs < 4294967296 := Nat.xor_lt_two_pow (n := 32) (crcN_lt xs h) (by omega)
theorem crcN_take (xs : List Int) (i : Nat) (hi : i < xs.length) : crcN (xs.take (i + 1)) = stp 8 (crcN (xs.take i) ^^^ xs[i].toNat) := by
  unfold crcN
  rw [List.take_succ_eq_append_getElem hi, List.foldl_append]; rfl
theorem ixor_nat (k : IntKind) (a b : Nat) (ha : a < 2 ^ (k.bits - 1) ∨ k.signed = false ∧ a < 2 ^ k.bits) (hb : b < 2 ^ (k.bits - 1) ∨ k.signed = false ∧ b < 2 ^ k.bits) : ixor k (a : Int) (b : Int) = ((a ^^^ b : Nat) : Int) := by
  have hpos : 0 < k.bits := by cases k <;> decide
  have hle : 2 ^ (k.bits - 1) ≤ 2 ^ k.bits := Nat.pow_le_pow_right (by omega) (by omega)
  have ha2 : a < 2 ^ k.bits := by rcases ha with h | h <;> omega
  have hb2 : b < 2 ^ k.bits := by rcases hb with h | h <;> omega
  unfold ixor
  have e : (BitVec.ofInt k.bits (a : Int) ^^^ BitVec.ofInt k.bits (b : Int)).toNat = a ^^^ b := by
    rw [BitVec.toNat_xor, BitVec.ofInt_natCast, BitVec.ofInt_natCast, BitVec.toNat_ofNat, BitVec.toNat_ofNat, Nat.mod_eq_of_lt ha2, Nat.mod_eq_of_lt hb2]
  rw [e]
  have hx : (a ^^^ b) < 2 ^ k.bits := Nat.xor_lt_two_pow ha2 hb2
  unfold IntKind.wrap
  have hm : ((a ^^^ b : Nat) : Int) % (2 ^ k.bits : Int) = ((a ^^^ b : Nat) : Int) := by
    have : (2 : Int) ^ k.bits = ((2 ^ k.bits : Nat) : Int) := by simp
    rw [this]
    exact Int.emod_eq_of_lt (by omega) (by omega)
  simp only [hm]
  cases hs : k.signed with
  | false => simp
  | true =>
    rw [hs] at ha hb
    simp only [Bool.true_eq_false, false_and, or_false] at ha hb
    have hx2 : (a ^^^ b) < 2 ^ (k.bits - 1) := Nat.xor_lt_two_pow ha hb
    have : ¬ ((a ^^^ b : Nat) : Int) ≥ 2 ^ (k.bits - 1) := by
      have : (2 : Int) ^ (k.bits - 1) = ((2 ^ (k.bits - 1) : Nat) : Int) := by simp
      rw [this]; omega
    simp [this]
theorem iand_nat (k : IntKind) (a b : Nat) (ha : a < 2 ^ k.bits) (hb : b < 2 ^ (k.bits - 1)) : iand k (a : Int) (b : Int) = ((a &&& b : Nat) : Int) := by
  have hpos : 0 < k.bits := by cases k <;> decide
  have hle : 2 ^ (k.bits - 1) ≤ 2 ^ k.bits := Nat.pow_le_pow_right (by omega) (by omega)
  have hb2 : b < 2 ^ k.bits := by omega
  unfold iand
  have e : (BitVec.ofInt k.bits (a : Int) &&& BitVec.ofInt k.bits (b : Int)).toNat = a &&& b := by
    rw [BitVec.toNat_and, BitVec.ofInt_natCast, BitVec.ofInt_natCast, BitVec.toNat_ofNat, BitVec.toNat_ofNat, Nat.mod_eq_of_lt ha, Nat.mod_eq_of_lt hb2]
  rw [e]
  have hx : (a &&& b) ≤ b := Nat.and_le_right
  unfold IntKind.wrap
  have hm : ((a &&& b : Nat) : Int) % (2 ^ k.bits : Int) = ((a &&& b : Nat) : Int) := by
    have : (2 : Int) ^ k.bits = ((2 ^ k.bits : Nat) : Int) := by simp
    rw [this]
    exact Int.emod_eq_of_lt (by omega) (by omega)
  simp only [hm]
  have : ¬ ((a &&& b : Nat) : Int) ≥ 2 ^ (k.bits - 1) := by
    have : (2 : Int) ^ (k.bits - 1) = ((2 ^ (k.bits - 1) : Nat) : Int) := by simp
    rw [this]; omega
  simp [this]

theorem stp_succ' (k c : Nat) : stp (k + 1) c = stp k (stepN c) := by rw [stp_add k 1]; rfl
theorem wrap_u8n (b : Int) (h : InK .u8 b) : IntKind.wrap .i64 b = b := by have := u8_of h; exact w64 (by omega) (by omega)
theorem u8n {b : Int} (h : InK .u8 b) : b = ((b.toNat : Nat) : Int) ∧ b.toNat < 256 := by have := u8_of h; omega
theorem spec_Crc (xs : List Int) (hx : ∀ x ∈ xs, InK .u8 x) (hl : xs.length ≤ 65536) : spec_Crc.f xs = some ((crc xs : Nat) : Int) := by
  unfold spec_Crc.f
  rw [if_neg (by simp; omega)]
  have hst : ((4294967295 : Int), (0 : Int)) = (((crcN (xs.take 0) : Nat) : Int), ((0 : Nat) : Int)) := by simp [crcN]
  rw [hst]
  refine iter_for xs.length (fun i => (((crcN (xs.take i) : Nat) : Int), (i : Int))) _ (fun i hi => ?_) ?_
  · unfold spec_Crc.b0
    have hlt := crcN_lt (xs.take i) fun x h => hx x (List.mem_of_mem_take h)
    have hb := u8n (hx xs[i] (List.getElem_mem hi))
    simp only []
    rw [if_pos (by simp; omega), if_pos ⟨by omega, by omega⟩, at_nat xs i hi, wrap_u8n _ (hx xs[i] (List.getElem_mem hi)), hb.1, ixor_nat .i64 _ _ (.inl (by simp [IntKind.bits]; omega)) (.inl (by simp [IntKind.bits]; omega))]
    rw [crcN_take xs i hi]
    generalize crcN (xs.take i) = r at *
    have hy : r ^^^ xs[i].toNat < 4294967296 := Nat.xor_lt_two_pow (n := 32) (by omega) (by omega)
    generalize r ^^^ xs[i].toNat = y at *
    have hst : ((y : Int), (0 : Int)) = (((stp 0 y : Nat) : Int), ((0 : Nat) : Int)) := rfl
    rw [hst]
    refine iter_for 8 (fun j => (((stp j y : Nat) : Int), (j : Int))) _ (fun j hj => ?_) ?_
    · unfold spec_Crc.b1
      have hc := stp_lt j y hy
      simp only []
      rw [if_pos (by simp; omega)]
      simp only [stp]
      generalize stp j y = c at *
      have e1 : Int.tmod (c : Int) 2 = ((c % 2 : Nat) : Int) := rfl
      have e2 : Int.tdiv (c : Int) 2 = ((c / 2 : Nat) : Int) := rfl
      rw [e1, e2, w64 (by omega) (by omega), w64 (by omega) (by omega), show (3988292384 : Int) = ((3988292384 : Nat) : Int) from rfl, ixor_nat .i64 _ _ (.inl (by simp [IntKind.bits]; omega)) (.inl (by simp [IntKind.bits]))]
      unfold stepN
      by_cases hm : c % 2 = 1
      · rw [hm]; simp
      · have : c % 2 = 0 := by omega
        rw [this]; simp
    · unfold spec_Crc.b1
      simp only []
      rw [if_neg (by simp), w64 (by omega) (by omega)]
      simp
  · unfold spec_Crc.b0
    have hlt := crcN_lt xs hx
    simp only [List.take_length]
    rw [if_neg (by simp), show (4294967295 : Int) = ((4294967295 : Nat) : Int) from rfl, ixor_nat .i64 _ _ (.inl (by simp [IntKind.bits]; omega)) (.inl (by simp [IntKind.bits]))]
    rfl
def tab (i : Nat) : List Int := (List.range 16).map fun j : Nat => if j < i then ((stp 4 j : Nat) : Int) else 0
theorem impl_Crc (xs : List Int) (hx : ∀ x ∈ xs, InK .u8 x) (hl : xs.length ≤ 65536) : impl_Crc.f xs = some ((crc xs : Nat) : Int) := by
  unfold impl_Crc.f
  rw [if_neg (by simp; omega)]
  have hst : ((0 : Int), List.replicate 16 (0 : Int)) = (((0 : Nat) : Int), tab 0) := rfl
  rw [hst]
  refine iter_for 16 (fun i => ((i : Int), tab i)) _ (fun i hi => ?_) ?_
  · unfold impl_Crc.b0
    simp only []
    rw [if_pos (by simp; omega)]
    have e0 : IntKind.wrap .u32 (i : Int) = ((i : Nat) : Int) := by rw [IntKind.wrap_u32]; omega
    rw [e0]
    have hst : ((i : Int), (0 : Int)) = (((stp 0 i : Nat) : Int), ((0 : Nat) : Int)) := rfl
    rw [hst]
    refine iter_for 4 (fun j => (((stp j i : Nat) : Int), (j : Int))) _ (fun j hj => ?_) ?_
    · unfold impl_Crc.b1
      have hc := stp_lt j i (by omega)
      simp only []
      rw [if_pos (by simp; omega)]
      simp only [stp]
      generalize stp j i = c at *
      rw [show (1 : Int) = ((1 : Nat) : Int) from rfl, ishr_nat .u32 c 1 (by decide), iand_nat .u32 c 1 (by simp [IntKind.bits]; omega) (by decide), Nat.and_one_is_mod, w64 (by omega) (by omega)]
      have e3 : IntKind.wrap .u32 (((c % 2 : Nat) : Int) * 3988292384) = (((c % 2) * 3988292384 : Nat) : Int) := by rw [IntKind.wrap_u32]; omega
      rw [e3, ixor_nat .u32 _ _ (.inr ⟨rfl, by simp [IntKind.bits]; omega⟩) (.inr ⟨rfl, by simp [IntKind.bits]; omega⟩)]
      unfold stepN
      by_cases hm : c % 2 = 1
      · rw [hm]; simp
      · have : c % 2 = 0 := by omega
        rw [this]; simp
    · unfold impl_Crc.b1
      have hlen : (tab i).length = 16 := by simp [tab]
      simp only [hlen]
      rw [if_neg (by simp), if_pos ⟨by omega, by omega⟩, w64 (by omega) (by omega)]
      have hset : (tab i).set ((i : Int)).toNat ((stp 4 i : Nat) : Int) = tab (i + 1) := by
        apply List.ext_getElem
        · simp [tab]
        · intro j h1 h2
          rw [List.getElem_set]
          simp [tab]
          by_cases hj : i = j
          · subst hj; simp
          · simp only [hj, if_false]
            by_cases hl : j < i
            · simp [hl]; omega
            · have : ¬ j < i + 1 := by omega
              simp [hl, this]
      rw [hset]
      simp
  · unfold impl_Crc.b0
    simp only []
    rw [if_neg (by simp)]
    have htab : ∀ j (h : j < 16), at_ (tab 16) ((j : Nat) : Int) = ((stp 4 j : Nat) : Int) := fun j h => by
      rw [at_nat _ _ (by simp [tab]; omega)]; simp [tab, h]
    have hlen : (tab 16).length = 16 := by simp [tab]
    have : iter (impl_Crc.b2 xs (((16 : Nat) : Int), tab 16)) ((4294967295 : Int), (0 : Int)) = some ((crc xs : Nat) : Int) := by
      have hst : ((4294967295 : Int), (0 : Int)) = (((crcN (xs.take 0) : Nat) : Int), ((0 : Nat) : Int)) := by simp [crcN]
      rw [hst]
      refine iter_for xs.length (fun i => (((crcN (xs.take i) : Nat) : Int), (i : Int))) _ (fun i hi => ?_) ?_
      · unfold impl_Crc.b2
        have hlt := crcN_lt (xs.take i) fun x h => hx x (List.mem_of_mem_take h)
        have hb := u8n (hx xs[i] (List.getElem_mem hi))
        simp only [hlen]
        rw [at_nat xs i hi]
        have e0 : IntKind.wrap .u32 xs[i] = ((xs[i].toNat : Nat) : Int) := by rw [IntKind.wrap_u32]; omega
        rw [e0, crcN_take xs i hi, ixor_nat .u32 _ _ (.inr ⟨rfl, by simp [IntKind.bits]; omega⟩) (.inr ⟨rfl, by simp [IntKind.bits]; omega⟩)]
        generalize crcN (xs.take i) = r at *
        have hy : r ^^^ xs[i].toNat < 4294967296 := Nat.xor_lt_two_pow (n := 32) (by omega) (by omega)
        generalize r ^^^ xs[i].toNat = y at *
        have hnib : ∀ y : Nat, y < 4294967296 → ixor .u32 (ishr .u32 (y : Int) 4) (at_ (tab 16) (iand .u32 (y : Int) 15)) = ((stp 4 y : Nat) : Int) := by
          intro y hy
          have h4 := stp_lt 4 (y % 16) (by omega)
          rw [show (4 : Int) = ((4 : Nat) : Int) from rfl, show (15 : Int) = ((15 : Nat) : Int) from rfl, ishr_nat .u32 y 4 (by decide), iand_nat .u32 y 15 (by simp [IntKind.bits]; omega) (by decide), Nat.and_two_pow_sub_one_eq_mod y 4, show 2 ^ 4 = 16 from rfl, htab (y % 16) (by omega), ixor_nat .u32 _ _ (.inr ⟨rfl, by simp [IntKind.bits]; omega⟩) (.inr ⟨rfl, by simp [IntKind.bits]; omega⟩), ← nib]
        have hand : ∀ y : Nat, y < 4294967296 → 0 ≤ iand .u32 ((y : Nat) : Int) 15 ∧ iand .u32 ((y : Nat) : Int) 15 < ((16 : Nat) : Int) := by
          intro y hy
          rw [show (15 : Int) = ((15 : Nat) : Int) from rfl, iand_nat .u32 y 15 (by simp [IntKind.bits]; omega) (by decide), Nat.and_two_pow_sub_one_eq_mod y 4]
          omega
        have h4 := stp_lt 4 y hy
        rw [if_pos (by simp; omega), if_pos ⟨by omega, by omega⟩, if_pos (hand y hy), hnib y hy, if_pos (hand _ h4), hnib _ h4, w64 (by omega) (by omega), ← stp_add 4 4]
        rfl
      · unfold impl_Crc.b2
        have hlt := crcN_lt xs hx
        simp only [List.take_length]
        rw [if_neg (by simp)]
        have hmax : IntKind.max .u32 = ((4294967295 : Nat) : Int) := rfl
        rw [hmax, ixor_nat .u32 _ _ (.inr ⟨rfl, by simp [IntKind.bits]⟩) (.inr ⟨rfl, by simp [IntKind.bits]; omega⟩)]
        have hcr := crc_lt xs hx
        have : (4294967295 ^^^ crcN xs) = crc xs := Nat.xor_comm _ _
        rw [this, w64 (by omega) (by omega)]
        rfl
    rw [this]
    rfl
end Go.Proofs.Ytndhbfkahbbkaaa
