
import Derived.Test.YtcagjdngannneaaGreatQa
import Derived.Test.YtcagjdngannneaaGreatXs
set_option linter.unusedVariables false
set_option linter.unusedSimpArgs false
namespace Go.Proofs.YtcagjdngannneaaGreat
open Go V
def le (n k : Nat) : List Int := (List.range k).map fun j : Nat => ((n / 256 ^ j % 256 : Nat) : Int)
theorem le_succ (n k : Nat) : le n (k + 1) = le n k ++ [((n / 256 ^ k % 256 : Nat) : Int)] := by simp [le, List.range_succ]
theorem le_len (n k : Nat) : (le n k).length = k := by simp [le]
def PN (n k : Int) : List Int := if 1 ≤ k ∧ k ≤ 8 ∧ 0 ≤ n ∧ n.toNat / 256 ^ k.toNat = 0 then le n.toNat k.toNat else []
theorem div_step (n k : Nat) : n / 256 ^ k / 256 = n / 256 ^ (k + 1) := by rw [Nat.div_div_eq_div_mul, Nat.pow_succ]
theorem div_le (n k : Nat) : n / 256 ^ k ≤ n := Nat.div_le_self _ _
theorem div_i64 (n j : Nat) (h : (n : Int) ≤ 9223372036854775807) : -9223372036854775808 ≤ ((n / 256 ^ j : Nat) : Int) ∧ ((n / 256 ^ j : Nat) : Int) ≤ 9223372036854775807 := by
  have := div_le n j
  generalize n / 256 ^ j = q at *
  omega
theorem pos_nat (q : Nat) : decide ((q : Int) > 0) = !(decide (q = 0)) := by
  by_cases h : q = 0
  · simp [h]
  · have : (q : Int) > 0 := by omega
    simp only [this, h, decide_true, decide_false, Bool.not_false]
theorem ne_nat (q : Nat) : ((q : Int) != 0) = !(decide (q = 0)) := by
  by_cases h : q = 0
  · simp [h]
  · have : (q : Int) ≠ 0 := by omega
    simp [h, this]
theorem spec_PutNum (n k : Int) (hn : InK .i64 n) : spec_PutNum.f n k = some (PN n k) := by
  have hn' := i64_of hn
  unfold spec_PutNum.f PN
  by_cases hg : 1 ≤ k ∧ k ≤ 8 ∧ 0 ≤ n
  · obtain ⟨h1, h2, h3⟩ := hg
    rw [if_neg (by simp; omega)]
    obtain ⟨n, rfl⟩ := Int.eq_ofNat_of_zero_le h3
    obtain ⟨k, rfl⟩ := Int.eq_ofNat_of_zero_le (show 0 ≤ k by omega)
    simp only [Int.toNat_natCast]
    have hst : ((n : Int), ([] : List Int), (0 : Int)) = (((n / 256 ^ 0 : Nat) : Int), le n 0, ((0 : Nat) : Int)) := by simp [le]
    rw [hst]
    refine iter_for k (fun j => (((n / 256 ^ j : Nat) : Int), le n j, (j : Int))) _ (fun j hj => ?_) ?_
    · unfold spec_PutNum.b0
      have hd := div_le n j
      simp only []
      rw [if_pos (by simp; omega), if_pos (by rw [le_len]; simp [Lim]; omega)]
      have e1 : Int.tmod ((n / 256 ^ j : Nat) : Int) 256 = ((n / 256 ^ j % 256 : Nat) : Int) := rfl
      have e2 : Int.tdiv ((n / 256 ^ j : Nat) : Int) 256 = ((n / 256 ^ (j + 1) : Nat) : Int) := by rw [← div_step]; rfl
      have e3 : IntKind.wrap .u8 ((n / 256 ^ j % 256 : Nat) : Int) = ((n / 256 ^ j % 256 : Nat) : Int) := by rw [IntKind.wrap_u8]; omega
      have hd2 := div_le n (j + 1)
      have hb := div_i64 n (j + 1) (by omega)
      rw [e1, e2, e3, w64 hb.1 hb.2, w64 (by omega) (by omega), le_succ]
      rfl
    · unfold spec_PutNum.b0
      simp only []
      rw [if_neg (by simp)]
      by_cases hz : n / 256 ^ k = 0
      · rw [pos_nat, if_neg (by simp [hz]), if_pos ⟨by omega, by omega, by omega, hz⟩]; rfl
      · rw [pos_nat, if_pos (by simp [hz]), if_neg (fun h => hz h.2.2.2)]; rfl
  · rw [if_pos (by simp; omega), if_neg (fun h => hg ⟨h.1, h.2.1, h.2.2.1⟩)]
theorem impl_PutNum (n k : Int) (hn : InK .i64 n) (hk : InK .i64 k) : impl_PutNum.f n k = some (PN n k) := by
  have hn' := i64_of hn
  have hk' := i64_of hk
  unfold impl_PutNum.f impl_within.f
  simp only [Option.bind_some]
  by_cases hg : 1 ≤ k ∧ k ≤ 8 ∧ 0 ≤ n
  · obtain ⟨h1, h2, h3⟩ := hg
    have hc : ((!(decide ((1 : Int) ≤ k) && decide (k ≤ 8))) || decide (n < 0)) = false := by simp; omega
    rw [hc, if_neg (by decide)]
    obtain ⟨n, rfl⟩ := Int.eq_ofNat_of_zero_le h3
    obtain ⟨k, rfl⟩ := Int.eq_ofNat_of_zero_le (show 0 ≤ k by omega)
    have hloop : iter (impl_PutNum.b0 (k : Int)) ((n : Int), ([] : List Int), (0 : Int)) = some (le n k) := by
      have hst : ((n : Int), ([] : List Int), (0 : Int)) = (((n / 256 ^ 0 : Nat) : Int), le n 0, ((0 : Nat) : Int)) := by simp [le]
      rw [hst]
      refine iter_for k (fun j => (((n / 256 ^ j : Nat) : Int), le n j, (j : Int))) _ (fun j hj => ?_) ?_
      · unfold impl_PutNum.b0
        simp only []
        rw [if_pos (by simp; omega), if_pos (by rw [le_len]; simp [Lim]; omega)]
        have e2 : ishr .i64 ((n / 256 ^ j : Nat) : Int) 8 = ((n / 256 ^ (j + 1) : Nat) : Int) := by
          rw [show (8 : Int) = ((8 : Nat) : Int) from rfl, ishr_nat _ _ _ (by decide), ← div_step]
        have e3 : IntKind.wrap .u8 ((n / 256 ^ j : Nat) : Int) = ((n / 256 ^ j % 256 : Nat) : Int) := by rw [IntKind.wrap_u8]; omega
        rw [e2, e3, w64 (by omega) (by omega), le_succ]
        rfl
      · unfold impl_PutNum.b0
        simp only []
        rw [if_neg (by simp)]; rfl
    have hm : IntKind.wrap .i64 (8 * (k : Int)) = ((8 * k : Nat) : Int) := by rw [w64 (by omega) (by omega)]; omega
    rw [hm, ishr_nat _ _ _ (by show 8 * k ≤ 64; omega)]
    have hp : 2 ^ (8 * k) = 256 ^ k := by rw [Nat.pow_mul]
    rw [hp, hloop]
    have hP : PN (n : Int) (k : Int) = if n / 256 ^ k = 0 then le n k else [] := by
      unfold PN
      simp only [Int.toNat_natCast]
      by_cases hz : n / 256 ^ k = 0
      · rw [if_pos ⟨by omega, by omega, by omega, hz⟩, if_pos hz]
      · rw [if_neg (fun h => hz h.2.2.2), if_neg hz]
    rw [hP, ne_nat]
    by_cases h8 : k < 8
    · rw [if_pos (by simpa using (show (k : Int) < 8 by omega)), if_pos (by omega)]
      by_cases hz : n / 256 ^ k = 0 <;> simp [hz]
    · obtain rfl : k = 8 := by omega
      have hz : n / 256 ^ 8 = 0 := Nat.div_eq_of_lt (by omega)
      rw [if_neg (by decide), if_pos hz]; rfl
  · have hc : ((!(decide ((1 : Int) ≤ k) && decide (k ≤ 8))) || decide (n < 0)) = true := by simp; omega
    rw [hc, if_pos rfl]
    unfold PN
    rw [if_neg (fun h => hg ⟨h.1, h.2.1, h.2.2.1⟩)]; rfl
theorem grow_nil (n : Int) (h0 : 0 ≤ n) (h1 : n ≤ 1000000000) : slices_Grow_byte_byte_nil.f n = some [] := by
  unfold slices_Grow_byte_byte_nil.f
  have e : IntKind.wrap .i64 (n - IntKind.wrap .i64 ((0 : Int) - (([] : List Int).length : Int))) = n := by
    rw [List.length_nil, w64 (n := (0 : Int) - ((0 : Nat) : Int)) (by omega) (by omega)]
    rw [w64 (by omega) (by omega)]; omega
  rw [e, if_neg (by simp; omega)]
  by_cases hp : n > 0
  · rw [if_pos (by simpa using hp), if_pos (by simp [Lim]; omega), if_pos (by simp; omega)]
    simp
  · rw [if_neg (by simpa using hp)]; rfl
theorem flat_le {α : Type} (xs : List (List α)) (k : Nat) : (xs.take k).flatten.length ≤ xs.flatten.length := by
  conv => rhs; rw [← List.take_append_drop k xs, List.flatten_append, List.length_append]
  omega
theorem flat_succ {α : Type} (xs : List (List α)) (k : Nat) (h : k < xs.length) : (xs.take (k + 1)).flatten = (xs.take k).flatten ++ xs[k] := by
  rw [List.take_succ_eq_append_getElem h, List.flatten_append]; simp
theorem concatB (xs : List (List Int)) (hl : xs.length ≤ 1000000) (ht : xs.flatten.length ≤ 1000000000) : slices_Concat_byte_byte.f xs = some xs.flatten := by
  unfold slices_Concat_byte_byte.f
  have hst : ((0 : Int), (0 : Int)) = ((((xs.take 0).flatten.length : Nat) : Int), ((0 : Nat) : Int)) := by simp
  rw [hst]
  refine iter_for xs.length (fun k => ((((xs.take k).flatten.length : Nat) : Int), (k : Int))) _ (fun k hk => ?_) ?_
  · unfold slices_Concat_byte_byte.b0
    have h1 := flat_le xs (k + 1)
    simp only []
    rw [if_pos (by simp; omega), if_pos ⟨by omega, by omega⟩, at_nat xs k hk]
    rw [flat_succ xs k hk, List.length_append] at h1 ⊢
    rw [w64 (by omega) (by omega), if_neg (by simp; omega), w64 (by omega) (by omega)]
    simp
  · unfold slices_Concat_byte_byte.b0
    simp only [List.take_length]
    rw [if_neg (by simp), grow_nil _ (by omega) (by omega)]
    simp only [Option.bind_some]
    have : iter (slices_Concat_byte_byte.b1 xs) (([] : List Int), (0 : Int)) = some xs.flatten := by
      have hst : (([] : List Int), (0 : Int)) = ((xs.take 0).flatten, ((0 : Nat) : Int)) := by simp
      rw [hst]
      refine iter_for xs.length (fun k => ((xs.take k).flatten, (k : Int))) _ (fun k hk => ?_) ?_
      · unfold slices_Concat_byte_byte.b1
        have h1 := flat_le xs (k + 1)
        simp only []
        rw [if_pos (by simp; omega), if_pos ⟨by omega, by omega⟩, at_nat xs k hk]
        rw [flat_succ xs k hk] at h1 ⊢
        rw [List.length_append] at h1
        rw [if_pos (by simp only [Lim]; omega), w64 (by omega) (by omega)]
        simp
      · unfold slices_Concat_byte_byte.b1
        simp only [List.take_length]
        rw [if_neg (by simp)]; rfl
    rw [this]; rfl
theorem pn_u8 (n k : Int) : ∀ x ∈ PN n k, InK .u8 x := by
  intro x hx
  unfold PN at hx
  split at hx
  · simp only [le, List.mem_map] at hx
    obtain ⟨j, _, rfl⟩ := hx
    have := Nat.mod_lt (n.toNat / 256 ^ j) (show 256 > 0 by omega)
    simp [InK, IntKind.min, IntKind.max, IntKind.signed, IntKind.bits]
    omega
  · cases hx
def val (l : List Int) : Nat := l.foldr (fun b acc => b.toNat + 256 * acc) 0
theorem val_cons (b : Int) (l : List Int) : val (b :: l) = b.toNat + 256 * val l := rfl
theorem val_lt (l : List Int) (h : ∀ x ∈ l, InK .u8 x) : val l < 256 ^ l.length := by
  induction l with
  | nil => simp [val]
  | cons b l ih =>
    have hb := u8_of (h b (by simp))
    have := ih fun x hx => h x (by simp [hx])
    rw [val_cons, List.length_cons, Nat.pow_succ]
    omega
theorem val_app (l : List Int) (b : Int) : val (l ++ [b]) = val l + 256 ^ l.length * b.toNat := by
  induction l with
  | nil => simp [val]
  | cons c l ih =>
    rw [List.cons_append, val_cons, val_cons, ih, List.length_cons, Nat.pow_succ, Nat.mul_add, Nat.add_assoc]
    congr 2
    rw [← Nat.mul_assoc, Nat.mul_comm 256]
def cut (x : List Int) (a k : Nat) : List Int := (x.drop a).take k
theorem cut_len (x : List Int) (a k : Nat) (h : a + k ≤ x.length) : (cut x a k).length = k := by simp [cut]; omega
theorem cut_u8 (x : List Int) (a k : Nat) (h : ∀ y ∈ x, InK .u8 y) : ∀ y ∈ cut x a k, InK .u8 y := fun y hy => h y (List.mem_of_mem_drop (List.mem_of_mem_take hy))
theorem cut_succ (x : List Int) (a k : Nat) (h : a < x.length) : cut x a (k + 1) = x[a] :: cut x (a + 1) k := by
  unfold cut
  rw [List.drop_eq_getElem_cons h, List.take_succ_cons]
def GN (x : List Int) (a k : Int) : Int × Bool :=
  if 1 ≤ k ∧ k ≤ 8 ∧ 0 ≤ a ∧ a + k ≤ (x.length : Int) then (if val (cut x a.toNat k.toNat) < 9223372036854775808 then (((val (cut x a.toNat k.toNat) : Nat) : Int), true) else (0, false)) else (0, false)
theorem pow_le8 (k : Nat) (h : k ≤ 8) : 256 ^ k ≤ 18446744073709551616 := by
  have := Nat.pow_le_pow_right (show 256 > 0 by omega) h
  simpa using this
theorem impl_GetNum (x : List Int) (a k : Int) (hx : ∀ y ∈ x, InK .u8 y) (hl : x.length ≤ 1000000000000) (ha : InK .i64 a) (hk : InK .i64 k) : impl_GetNum.f x a k = some (GN x a k) := by
  have ha' := i64_of ha
  have hk' := i64_of hk
  unfold impl_GetNum.f impl_hasBytes.f impl_within.f GN
  simp only [Option.bind_some]
  by_cases hg : 1 ≤ k ∧ k ≤ 8 ∧ 0 ≤ a ∧ a + k ≤ (x.length : Int)
  · rw [if_pos hg]
    obtain ⟨h1, h2, h3, h4⟩ := hg
    obtain ⟨a, rfl⟩ := Int.eq_ofNat_of_zero_le h3
    obtain ⟨k, rfl⟩ := Int.eq_ofNat_of_zero_le (show 0 ≤ k by omega)
    have hw : IntKind.wrap .i64 ((x.length : Int) - (a : Int)) = (x.length : Int) - (a : Int) := w64 (by omega) (by omega)
    have hc : (!(decide ((1 : Int) ≤ (k : Int)) && decide ((k : Int) ≤ 8))) = false := by simp; omega
    have hc2 : ((decide ((0 : Int) ≤ (a : Int)) && decide ((a : Int) ≤ (x.length : Int))) && decide ((k : Int) ≤ (x.length : Int) - (a : Int))) = true := by simp; omega
    simp only [hc, hw, Bool.false_eq_true, if_false, Option.bind_some]
    first
      | rw [hc2]
      | (simp only [hc2])
    simp only [Option.bind_some, Bool.not_true, Bool.false_eq_true, if_false, Int.toNat_natCast]
    have hst : ((0 : Int), IntKind.wrap .i64 ((k : Int) - 1)) = (((val (cut x (a + (k - 0)) 0) : Nat) : Int), (k : Int) - 1 - ((0 : Nat) : Int)) := by
      rw [w64 (by omega) (by omega)]; simp [cut, val]
    rw [hst]
    refine iter_for k (fun j => (((val (cut x (a + (k - j)) j) : Nat) : Int), (k : Int) - 1 - (j : Int))) _ (fun j hj => ?_) ?_
    · unfold impl_GetNum.b0
      have hi : a + (k - (j + 1)) < x.length := by omega
      have hb := u8n (hx x[a + (k - (j + 1))] (List.getElem_mem hi))
      have hv := val_lt _ (cut_u8 x (a + (k - j)) j hx)
      rw [cut_len x _ j (by omega)] at hv
      have hp := pow_le8 (j + 1) (by omega)
      rw [Nat.pow_succ] at hp
      simp only []
      have hi2 : (a : Int) + ((k : Int) - 1 - (j : Int)) = ((a + (k - (j + 1)) : Nat) : Int) := by omega
      rw [if_pos (by simp; omega), hi2, w64 (by omega) (by omega), if_pos ⟨by omega, by omega⟩, at_nat x _ hi]
      have hcs : cut x (a + (k - (j + 1))) (j + 1) = x[a + (k - (j + 1))] :: cut x (a + (k - j)) j := by
        rw [cut_succ x _ j hi]
        congr 2
        omega
      rw [hcs, val_cons]
      generalize val (cut x (a + (k - j)) j) = n at *
      generalize x[a + (k - (j + 1))] = b at *
      have e1 : ishl .u64 ((n : Nat) : Int) 8 = ((n * 256 : Nat) : Int) := by
        unfold ishl
        have : min (8 : Int).toNat IntKind.u64.bits = 8 := by decide
        rw [this, IntKind.wrap_u64]; omega
      have e2 : IntKind.wrap .u64 b = ((b.toNat : Nat) : Int) := by rw [IntKind.wrap_u64]; omega
      rw [e1, e2, ior_u64 _ _ (by omega) (by omega), or_add 8 _ _ hb.2, w64 (by omega) (by omega)]
      congr 3
      · omega
      · omega
    · unfold impl_GetNum.b0
      simp only [Nat.sub_self, Nat.add_zero]
      have hv := val_lt _ (cut_u8 x a k hx)
      rw [cut_len x _ k (by omega)] at hv
      have hp := pow_le8 k (by omega)
      generalize val (cut x a k) = n at *
      rw [if_neg (by simp; omega)]
      by_cases hn : n < 9223372036854775808
      · rw [if_neg (by simp; omega), if_pos hn, w64 (by omega) (by omega)]; rfl
      · rw [if_pos (by simp; omega), if_neg hn]; rfl
  · rw [if_neg hg]
    by_cases hk1 : 1 ≤ k ∧ k ≤ 8
    · have hc : (!(decide ((1 : Int) ≤ k) && decide (k ≤ 8))) = false := by simp; omega
      simp only [hc, Bool.false_eq_true, if_false, Option.bind_some]
      by_cases ha2 : 0 ≤ a ∧ a ≤ (x.length : Int)
      · have hw : IntKind.wrap .i64 ((x.length : Int) - a) = (x.length : Int) - a := w64 (by omega) (by omega)
        have hc2 : ((decide ((0 : Int) ≤ a) && decide (a ≤ (x.length : Int))) && decide (k ≤ (x.length : Int) - a)) = false := by simp; omega
        rw [hw]
        first
          | rw [hc2]
          | (simp only [hc2])
        rfl
      · have hc2 : (decide ((0 : Int) ≤ a) && decide (a ≤ (x.length : Int))) = false := by simp; omega
        first
          | rw [hc2]
          | (simp only [hc2])
        rfl
    · have hc : (!(decide ((1 : Int) ≤ k) && decide (k ≤ 8))) = true := by simp; omega
      simp only [hc, if_true, Option.bind_some]
theorem spec_GetNum (x : List Int) (a k : Int) (hx : ∀ y ∈ x, InK .u8 y) (hl : x.length ≤ 1000000000000) (ha : InK .i64 a) (hk : InK .i64 k) : spec_GetNum.f x a k = some (GN x a k) := by
  have ha' := i64_of ha
  have hk' := i64_of hk
  unfold spec_GetNum.f GN
  by_cases hg : 1 ≤ k ∧ k ≤ 8 ∧ 0 ≤ a ∧ a + k ≤ (x.length : Int)
  · rw [if_pos hg]
    obtain ⟨h1, h2, h3, h4⟩ := hg
    obtain ⟨a, rfl⟩ := Int.eq_ofNat_of_zero_le h3
    obtain ⟨k, rfl⟩ := Int.eq_ofNat_of_zero_le (show 0 ≤ k by omega)
    have hw : IntKind.wrap .i64 ((x.length : Int) - (a : Int)) = (x.length : Int) - (a : Int) := w64 (by omega) (by omega)
    rw [hw, if_neg (by simp; omega)]
    simp only [Int.toNat_natCast]
    have hst : ((0 : Int), IntKind.wrap .i64 ((k : Int) - 1)) = (((val (cut x (a + (k - 0)) 0) : Nat) : Int), (k : Int) - 1 - ((0 : Nat) : Int)) := by
      rw [w64 (by omega) (by omega)]; simp [cut, val]
    rw [hst]
    by_cases ht : ∃ h8 : k = 8, x[a + 7]'(by omega) > 127
    · obtain ⟨rfl, hbig⟩ := ht
      rw [iter_eq]
      have : val (cut x a 8) ≥ 9223372036854775808 := by
        have e : cut x a 8 = cut x a 7 ++ [x[a + 7]'(by omega)] := by
          unfold cut
          rw [List.take_succ_eq_append_getElem (by simp; omega)]
          simp
        rw [e, val_app, cut_len x a 7 (by omega)]
        have : 128 ≤ (x[a + 7]'(by omega)).toNat := by omega
        have := Nat.mul_le_mul_left (256 ^ 7) this
        omega
      rw [if_neg (by omega)]
      have hb : spec_GetNum.b0 x (a : Int) (((val (cut x (a + (8 - 0)) 0) : Nat) : Int), ((8 : Nat) : Int) - 1 - ((0 : Nat) : Int)) = some (.inr ((0 : Int), false)) := by
        unfold spec_GetNum.b0
        simp only []
        have hi2 : (a : Int) + (((8 : Nat) : Int) - 1 - ((0 : Nat) : Int)) = ((a + 7 : Nat) : Int) := by omega
        rw [if_pos (by simp), hi2, w64 (by omega) (by omega), if_pos ⟨by omega, by omega⟩, at_nat x _ (by omega), wrap_u8n _ (hx _ (List.getElem_mem _)), if_pos (by simp; omega)]
      rw [hb]; rfl
    · have hlow : ∀ h8 : k = 8, x[a + 7]'(by omega) ≤ 127 := fun h8 => by
        by_cases hq : x[a + 7]'(by omega) ≤ 127
        · exact hq
        · exact absurd ⟨h8, by omega⟩ ht
      have hsmall : ∀ j, j ≤ k → val (cut x (a + (k - j)) j) < 9223372036854775808 := by
        intro j hj
        have hv := val_lt _ (cut_u8 x (a + (k - j)) j hx)
        rw [cut_len x _ j (by omega)] at hv
        by_cases h7 : j ≤ 7
        · have := Nat.pow_le_pow_right (show 256 > 0 by omega) h7
          omega
        · have hk8 : k = 8 := by omega
          have hj8 : j = 8 := by omega
          subst hj8; subst hk8
          have hlow := hlow rfl
          have e : cut x (a + (8 - 8)) 8 = cut x a 7 ++ [x[a + 7]'(by omega)] := by
            unfold cut
            rw [List.take_succ_eq_append_getElem (by simp; omega)]
            simp
          have hv7 := val_lt _ (cut_u8 x a 7 hx)
          rw [cut_len x a 7 (by omega)] at hv7
          rw [e, val_app, cut_len x a 7 (by omega)]
          have : (x[a + 7]'(by omega)).toNat ≤ 127 := by omega
          have := Nat.mul_le_mul_left (256 ^ 7) this
          omega
      have hfin := hsmall k (Nat.le_refl _)
      rw [Nat.sub_self, Nat.add_zero] at hfin
      rw [if_pos hfin]
      refine iter_for k (fun j => (((val (cut x (a + (k - j)) j) : Nat) : Int), (k : Int) - 1 - (j : Int))) _ (fun j hj => ?_) ?_
      · unfold spec_GetNum.b0
        have hi : a + (k - (j + 1)) < x.length := by omega
        have hb := u8n (hx x[a + (k - (j + 1))] (List.getElem_mem hi))
        have hs1 := hsmall (j + 1) (by omega)
        simp only []
        have hi2 : (a : Int) + ((k : Int) - 1 - (j : Int)) = ((a + (k - (j + 1)) : Nat) : Int) := by omega
        have hno : ¬ ((((k : Int) - 1 - (j : Int)) == (7 : Int)) && decide (x[a + (k - (j + 1))] > 127)) = true := by
          intro h
          simp only [Bool.and_eq_true, beq_iff_eq, decide_eq_true_eq] at h
          have hk8 : k = 8 := by omega
          have hj0 : j = 0 := by omega
          subst hk8; subst hj0
          have := hlow rfl
          have h2 : x[a + 7]'(by omega) > 127 := h.2
          omega
        rw [if_pos (by simp; omega), hi2, w64 (n := ((a + (k - (j + 1)) : Nat) : Int)) (by omega) (by omega), if_pos ⟨by omega, by omega⟩, at_nat x _ hi, wrap_u8n _ (hx _ (List.getElem_mem hi)), if_neg hno]
        have hcs : cut x (a + (k - (j + 1))) (j + 1) = x[a + (k - (j + 1))] :: cut x (a + (k - j)) j := by
          rw [cut_succ x _ j hi]
          congr 2
          omega
        rw [hcs, val_cons] at hs1 ⊢
        generalize val (cut x (a + (k - j)) j) = n at *
        generalize x[a + (k - (j + 1))] = b at *
        rw [w64 (n := (n : Int) * 256) (by omega) (by omega), w64 (by omega) (by omega), w64 (by omega) (by omega)]
        congr 3
        · omega
        · omega
      · unfold spec_GetNum.b0
        simp only [Nat.sub_self, Nat.add_zero]
        rw [if_neg (by simp; omega)]; rfl
  · rw [if_neg hg]
    by_cases ha2 : 0 ≤ a ∧ a ≤ (x.length : Int)
    · have hw : IntKind.wrap .i64 ((x.length : Int) - a) = (x.length : Int) - a := w64 (by omega) (by omega)
      rw [hw, if_pos (by simp; omega)]
    · rw [if_pos (by simp; omega)]
theorem take_drop (x : List Int) (e a : Nat) : (x.take e).drop a = cut x a (e - a) := by
  unfold cut; rw [List.drop_take]
theorem gn_in (x : List Int) (a k : Nat) (hx : ∀ y ∈ x, InK .u8 y) (h1 : 1 ≤ k) (h2 : k ≤ 7) (h : a + k ≤ x.length) : GN x (a : Int) (k : Int) = (((val (cut x a k) : Nat) : Int), true) := by
  unfold GN
  rw [if_pos ⟨by omega, by omega, by omega, by omega⟩]
  simp only [Int.toNat_natCast]
  have hv := val_lt _ (cut_u8 x a k hx)
  rw [cut_len x _ k h] at hv
  have := Nat.pow_le_pow_right (show 256 > 0 by omega) h2
  rw [if_pos (by omega)]
theorem str_list (xs : List Int) : (str xs).toList = xs.map fun n => UInt8.ofNat n.toNat := by
  have key : ∀ (xs : List Int) (b : ByteArray), (xs.foldl (fun r n => r.push (UInt8.ofNat n.toNat)) b).data.toList = b.data.toList ++ xs.map fun n => UInt8.ofNat n.toNat := by
    intro xs
    induction xs with
    | nil => intro b; simp
    | cons x xs ih => intro b; rw [List.foldl_cons, ih]; simp [ByteArray.push]
  have := key xs ByteArray.empty
  rw [show (ByteArray.empty).data.toList = [] from rfl, List.nil_append] at this
  rw [← this]
  unfold str
  exact ByteArray.toList_eq _
theorem str_eq (a b : List Int) (ha : ∀ x ∈ a, InK .u8 x) (hb : ∀ x ∈ b, InK .u8 x) : ((str a).toList == (str b).toList) = decide (a = b) := by
  rw [str_list, str_list]
  by_cases h : a = b
  · subst h; simp
  · have hne : (a.map fun n => UInt8.ofNat n.toNat) ≠ (b.map fun n => UInt8.ofNat n.toNat) := by
      intro hm
      apply h
      have hlen : a.length = b.length := by simpa using congrArg List.length hm
      apply List.ext_getElem hlen
      intro i h1 h2
      have := congrArg (fun l => l[i]?) hm
      simp only [List.getElem?_map, List.getElem?_eq_getElem h1, List.getElem?_eq_getElem h2, Option.map_some, Option.some.injEq] at this
      have e1 := u8n (ha a[i] (List.getElem_mem h1))
      have e2 := u8n (hb b[i] (List.getElem_mem h2))
      have := congrArg UInt8.toNat this
      simp only [UInt8.toNat_ofNat'] at this
      omega
    simp only [h, decide_false]
    exact beq_eq_false_iff_ne.2 hne
theorem bytesEqual (a b : List Int) (ha : ∀ x ∈ a, InK .u8 x) (hb : ∀ x ∈ b, InK .u8 x) : bytes_Equal.f a b = some (decide (a = b)) := by
  unfold bytes_Equal.f
  rw [str_eq a b ha hb]
theorem cloneB (a : List Int) (h : a.length ≤ 1000000000) : slices_Clone_byte_byte.f a = some a := by
  unfold slices_Clone_byte_byte.f
  rw [if_pos (by simp [Lim]; omega)]; rfl
end Go.Proofs.YtcagjdngannneaaGreat
