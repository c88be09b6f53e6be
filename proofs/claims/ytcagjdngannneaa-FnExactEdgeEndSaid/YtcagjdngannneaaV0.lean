
import Derived.Laws.FloatArith
set_option linter.unusedVariables false
set_option linter.unusedSimpArgs false
namespace Go.Proofs.Ytcagjdngannneaa.V
open Go Ieee

abbrev D : Format := double
theorem binD : D.binade = 4503599627370496 := rfl
theorem infD : D.infRung = 9218868437227405312 := rfl
theorem swD : D.signWeight = 9223372036854775808 := rfl
theorem lpD : D.leastPlace = -1074 := rfl
theorem fbD : D.fractionBits = 52 := rfl

theorem readD (w : Nat) : D.read w = if w % 9223372036854775808 < 4503599627370496 then .number (w / 9223372036854775808 % 2 == 1) (w % 9223372036854775808) (-1074)
    else if w % 9223372036854775808 < 9218868437227405312 then .number (w / 9223372036854775808 % 2 == 1) (4503599627370496 + w % 9223372036854775808 % 4503599627370496) (-1074 + ((w % 9223372036854775808 / 4503599627370496 - 1 : Nat) : Int))
    else if w % 9223372036854775808 = 9218868437227405312 then .infinity (w / 9223372036854775808 % 2 == 1) else .nan (w / 9223372036854775808 % 2 == 1) (w % 9223372036854775808 - 9218868437227405312) := rfl

def pw (n : Nat) : Nat := 2 ^ n
theorem pw_add (a b : Nat) : pw (a + b) = pw a * pw b := Nat.pow_add 2 a b
theorem pw_succ (a : Nat) : pw (a + 1) = pw a * 2 := Nat.pow_succ 2 a
theorem pw_pos (a : Nat) : 0 < pw a := Nat.two_pow_pos a
theorem pw_le {a b : Nat} (h : a ≤ b) : pw a ≤ pw b := Nat.pow_le_pow_right (by omega) h
def Rep (u : Nat) : Prop := ∃ M e : Nat, M < 9007199254740992 ∧ (e = 0 ∨ 4503599627370496 ≤ M) ∧ e ≤ 2045 ∧ u = M * pw e
def IsV (w : Nat) (s : Bool) (u : Nat) : Prop := ∃ M e : Nat, M < 9007199254740992 ∧ (e = 0 ∨ 4503599627370496 ≤ M) ∧ e ≤ 2045 ∧ u = M * pw e ∧ w = D.word s (e * 4503599627370496 + M)
theorem word_div (s : Bool) (r : Nat) (h : r < 9223372036854775808) : (D.word s r / 9223372036854775808 % 2 == 1) = s ∧ D.word s r % 9223372036854775808 = r := by
  unfold Format.word
  rw [swD]
  cases s with
  | false => simp only [Bool.false_eq_true, if_false]; exact ⟨by rw [Nat.div_eq_of_lt h]; rfl, Nat.mod_eq_of_lt h⟩
  | true =>
    simp only [if_true]
    refine ⟨?_, ?_⟩
    · rw [show (9223372036854775808 + r) / 9223372036854775808 = 1 by omega]; rfl
    · omega
theorem read_me (s : Bool) (M e : Nat) (h1 : M < 9007199254740992) (h2 : e = 0 ∨ 4503599627370496 ≤ M) (h3 : e ≤ 2045) : D.read (D.word s (e * 4503599627370496 + M)) = .number s M ((e : Int) - 1074) := by
  have hr : e * 4503599627370496 + M < 9218868437227405312 := by omega
  obtain ⟨d1, d2⟩ := word_div s (e * 4503599627370496 + M) (by omega)
  rw [readD, d1, d2]
  by_cases hm : M < 4503599627370496
  · have he : e = 0 := by omega
    subst he
    rw [if_pos (by omega), Nat.zero_mul, Nat.zero_add]
    rfl
  · rw [if_neg (by omega), if_pos hr]
    have e1 : (e * 4503599627370496 + M) % 4503599627370496 = M - 4503599627370496 := by omega
    have e2 : (e * 4503599627370496 + M) / 4503599627370496 - 1 = e := by omega
    rw [e1, e2, show 4503599627370496 + (M - 4503599627370496) = M by omega, show (-1074 : Int) + (e : Int) = (e : Int) - 1074 by omega]
theorem IsV.read {w : Nat} {s : Bool} {u : Nat} (h : IsV w s u) : ∃ M e : Nat, M < 9007199254740992 ∧ (e = 0 ∨ 4503599627370496 ≤ M) ∧ e ≤ 2045 ∧ u = M * 2 ^ e ∧ w = D.word s (e * 4503599627370496 + M) ∧ D.read w = .number s M ((e : Int) - 1074) := by
  obtain ⟨M, e, h1, h2, h3, h4, h5⟩ := h
  exact ⟨M, e, h1, h2, h3, h4, h5, by rw [h5]; exact read_me s M e h1 h2 h3⟩
theorem log2_le52 {M : Nat} (h : M < 9007199254740992) : M.log2 ≤ 52 := by
  by_cases hm : M = 0
  · subst hm; decide
  · have := Nat.log2_self_le hm
    have h2 : 2 ^ M.log2 < 2 ^ 53 := Nat.lt_of_le_of_lt this h
    have := (Nat.pow_lt_pow_iff_right (by omega : 1 < 2)).1 h2
    omega
theorem log2_ge52 {M : Nat} (h : 4503599627370496 ≤ M) : 52 ≤ M.log2 := (Nat.le_log2 (by omega)).2 h
theorem log2_mul_pow {M : Nat} (h : M ≠ 0) (k : Nat) : (M * 2 ^ k).log2 = M.log2 + k := by
  have hp : 0 < 2 ^ k := Nat.two_pow_pos k
  have hne : M * 2 ^ k ≠ 0 := by
    intro h0
    rcases Nat.mul_eq_zero.1 h0 with h0 | h0 <;> omega
  refine (Nat.log2_eq_iff hne).2 ⟨?_, ?_⟩
  · rw [Nat.pow_add]; exact Nat.mul_le_mul_right _ (Nat.log2_self_le h)
  · rw [show M.log2 + k + 1 = (M.log2 + 1) + k by omega, Nat.pow_add]
    exact Nat.mul_lt_mul_of_pos_right Nat.lt_log2_self hp
theorem cut_exact (s : Bool) (M k : Nat) (h : M ≠ 0) : Toward.even.cut s (M * 2 ^ k) k = M := by
  unfold Toward.cut
  have hl := log2_mul_pow h k
  have hmin : min k ((M * 2 ^ k).log2 + 2) = k := by omega
  have hp : 0 < 2 ^ k := Nat.two_pow_pos k
  simp only [hmin, Nat.one_shiftLeft, Nat.mul_div_cancel _ hp, Nat.mul_mod_left]
  have h1 : ¬ (2 ^ k < 2 * 0) := by omega
  have h2 : ((2 ^ k == 2 * 0) && (M % 2 == 1)) = false := by
    have : (2 ^ k == 2 * 0) = false := by simp
    rw [this]; rfl
  simp [h1, h2]
theorem write_me (s : Bool) (mag : Nat) (place : Int) (M e : Nat) (h1 : M < 9007199254740992) (h2 : e = 0 ∨ 4503599627370496 ≤ M) (h3 : e ≤ 2045) (hm : M ≠ 0)
    (h : (∃ k : Nat, mag * 2 ^ k = M ∧ place = (e : Int) - 1074 + k) ∨ (∃ k : Nat, mag = M * 2 ^ k ∧ place = (e : Int) - 1074 - k)) : D.write (.number s mag place) = D.word s (e * 4503599627370496 + M) := by
  have hM := log2_le52 h1
  have hr : e * 4503599627370496 + M < 9218868437227405312 := by omega
  have hlast : ((e : Int) - 1074 + M.log2 - 52 ≤ -1074 ∧ e = 0) ∨ M.log2 = 52 := by
    rcases h2 with h2 | h2
    · left; omega
    · right; have := log2_ge52 h2; omega
  show D.nearest s mag place = _
  unfold Format.nearest
  rw [fbD, lpD, binD, infD]
  rcases h with ⟨k, hk, hp⟩ | ⟨k, hk, hp⟩
  · have hmag : mag ≠ 0 := by intro h0; subst h0; simp at hk; omega
    have hl := log2_mul_pow hmag k
    rw [hk] at hl
    have elast : max (place + (mag.log2 : Int) - (52 : Nat)) (-1074) = (e : Int) - 1074 := by omega
    simp only [if_neg hmag, elast]
    have e1 : (place - ((e : Int) - 1074)).toNat = k := by omega
    have e2 : ((e : Int) - 1074 - place).toNat = 0 := by omega
    rw [e1, e2, Nat.shiftLeft_eq, hk]
    have hc := cut_exact s M 0 hm
    rw [Nat.pow_zero, Nat.mul_one] at hc
    rw [hc]
    have e5 : ((e : Int) - 1074 - -1074).toNat = e := by omega
    rw [e5, Nat.min_eq_left (Nat.le_of_lt hr)]
  · have hp2 : 0 < 2 ^ k := Nat.two_pow_pos k
    have hmag : mag ≠ 0 := by
      intro h0; rw [hk] at h0
      rcases Nat.mul_eq_zero.1 h0 with h0 | h0 <;> omega
    have hl := log2_mul_pow hm k
    rw [← hk] at hl
    have elast : max (place + (mag.log2 : Int) - (52 : Nat)) (-1074) = (e : Int) - 1074 := by omega
    simp only [if_neg hmag, elast]
    have e1 : (place - ((e : Int) - 1074)).toNat = 0 := by omega
    have e2 : ((e : Int) - 1074 - place).toNat = k := by omega
    rw [e1, e2, Nat.shiftLeft_eq, Nat.pow_zero, Nat.mul_one, hk, cut_exact s M k hm]
    have e5 : ((e : Int) - 1074 - -1074).toNat = e := by omega
    rw [e5, Nat.min_eq_left (Nat.le_of_lt hr)]
theorem write_zero (s : Bool) (place : Int) : D.write (.number s 0 place) = D.word s 0 := by
  show D.nearest s 0 place = _
  unfold Format.nearest; simp
theorem write_rep (s : Bool) (mag : Nat) (place : Int) (u : Nat) (hu : Rep u) (h : mag * 2 ^ (place + 1074).toNat = u * 2 ^ (-(place + 1074)).toNat) : IsV (D.write (.number s mag place)) s u := by
  obtain ⟨M, e, h1, h2, h3, hu⟩ := hu
  have hu : u = M * 2 ^ e := hu
  subst hu
  by_cases hM : M = 0
  · subst hM
    have h0 : mag = 0 := by
      rw [Nat.zero_mul, Nat.zero_mul] at h
      rcases Nat.mul_eq_zero.1 h with h | h
      · exact h
      · have := Nat.two_pow_pos (place + 1074).toNat; omega
    subst h0
    refine ⟨0, 0, by decide, .inl rfl, by omega, by simp, ?_⟩
    rw [write_zero]
  · refine ⟨M, e, h1, h2, h3, rfl, write_me s mag place M e h1 h2 h3 hM ?_⟩
    by_cases ht : (e : Int) ≤ place + 1074
    · left
      refine ⟨(place + 1074 - e).toNat, ?_, by omega⟩
      have e0 : (-(place + 1074)).toNat = 0 := by omega
      rw [e0, Nat.pow_zero, Nat.mul_one, show (place + 1074).toNat = (place + 1074 - e).toNat + e by omega, Nat.pow_add, ← Nat.mul_assoc] at h
      exact Nat.eq_of_mul_eq_mul_right (Nat.two_pow_pos e) h
    · right
      refine ⟨(e - (place + 1074)).toNat, ?_, by omega⟩
      by_cases hp : 0 ≤ place + 1074
      · have e0 : (-(place + 1074)).toNat = 0 := by omega
        rw [e0, Nat.pow_zero, Nat.mul_one] at h
        have : e = ((e : Int) - (place + 1074)).toNat + (place + 1074).toNat := by omega
        rw [this, Nat.pow_add, ← Nat.mul_assoc] at h
        exact Nat.eq_of_mul_eq_mul_right (Nat.two_pow_pos _) (by rw [h])
      · have e0 : (place + 1074).toNat = 0 := by omega
        rw [e0, Nat.pow_zero, Nat.mul_one, Nat.mul_assoc, ← Nat.pow_add] at h
        rw [h]
        congr 2
        omega
def IsC (c : Nat) (j : Int) : Prop := D.read c = .number false 4503599627370496 (j - 52)
theorem c_two : IsC 4611686018427387904 1 := rfl
theorem c_one : IsC 4607182418800017408 0 := rfl
theorem c_big : IsC 4841369599423283200 52 := rfl
theorem div_pow {w c : Nat} {s : Bool} {u j : Nat} (hc : IsC c j) (hw : IsV w s (u * 2 ^ j)) (hu : Rep u) : ∃ w', D.div w c = some w' ∧ IsV w' s u := by
  obtain ⟨M, e, h1, h2, h3, h4, h5, h6⟩ := hw.read
  have hq : D.div w c = some (D.write (.number s (2 * (M <<< (54 + 52 - M.log2) / 4503599627370496) + (M <<< (54 + 52 - M.log2) % 4503599627370496 != 0).toNat) ((e : Int) - 1074 - (j - 52) - (54 + 52 - M.log2 : Nat) - 1))) := by
    unfold Format.div
    rw [h6, hc]
    rw [fbD]
    have hlog : (4503599627370496 : Nat).log2 = 52 := by decide
    simp only [Datum.quotient, Option.map_some, hlog]
    simp
  refine ⟨_, hq, ?_⟩
  have hM := log2_le52 h1
  obtain ⟨a, ha⟩ : ∃ a, 54 + 52 - M.log2 = 52 + a := ⟨54 - M.log2, by omega⟩
  have hdiv : M <<< (54 + 52 - M.log2) = (M * 2 ^ a) * 4503599627370496 := by
    rw [Nat.shiftLeft_eq, ha, Nat.pow_add, show (2 : Nat) ^ 52 = 4503599627370496 by decide, Nat.mul_comm 4503599627370496, Nat.mul_assoc]
  rw [hdiv, Nat.mul_div_cancel _ (by decide), Nat.mul_mod_left]
  refine write_rep s _ _ u hu ?_
  simp only [bne_self_eq_false, Bool.toNat_false, Nat.add_zero]
  rw [ha]
  -- 2 M 2^a * 2^(..) = u 2^(..)
  have hpl : (e : Int) - 1074 - ((j : Int) - 52) - ((52 + a : Nat) : Int) - 1 + 1074 = (e : Int) - j - a - 1 := by omega
  rw [hpl]
  have key : ∀ x y : Nat, (x : Int) - y = (e : Int) - j - a - 1 → 2 * (M * 2 ^ a) * 2 ^ x = u * 2 ^ y := by
    intro x y hxy
    refine Nat.eq_of_mul_eq_mul_right (Nat.two_pow_pos j) ?_
    have e1 : u * 2 ^ y * 2 ^ j = M * 2 ^ e * 2 ^ y := by rw [← h4, Nat.mul_assoc, Nat.mul_comm (2 ^ y), ← Nat.mul_assoc]
    rw [e1, show 2 * (M * 2 ^ a) * 2 ^ x * 2 ^ j = M * (2 ^ 1 * 2 ^ a * 2 ^ x * 2 ^ j) by simp [Nat.mul_assoc, Nat.mul_left_comm], ← Nat.pow_add, ← Nat.pow_add, ← Nat.pow_add, Nat.mul_assoc, ← Nat.pow_add]
    congr 2
    omega
  exact key _ _ (by omega)
theorem mul_pow_ {w c : Nat} {s : Bool} {u j : Nat} (hc : IsC c j) (hw : IsV w s u) (hu : Rep (u * 2 ^ j)) : ∃ w', D.mul w c = some w' ∧ IsV w' s (u * 2 ^ j) := by
  obtain ⟨M, e, h1, h2, h3, h4, h5, h6⟩ := hw.read
  have hq : D.mul w c = some (D.write (.number s (M * 4503599627370496) ((e : Int) - 1074 + (j - 52)))) := by
    unfold Format.mul
    rw [h6, hc]
    simp [Datum.product]
  refine ⟨_, hq, write_rep s _ _ _ hu ?_⟩
  have key : ∀ x y : Nat, (x : Int) - y = (e : Int) + j - 52 → M * 4503599627370496 * 2 ^ x = u * 2 ^ j * 2 ^ y := by
    intro x y hxy
    rw [h4, show (4503599627370496 : Nat) = 2 ^ 52 by decide, Nat.mul_assoc, ← Nat.pow_add, Nat.mul_assoc, Nat.mul_assoc, ← Nat.pow_add, ← Nat.pow_add]
    congr 2
    omega
  exact key _ _ (by omega)
theorem signed_f (m k : Nat) : signed false m k = ((m * 2 ^ k : Nat) : Int) := by simp [signed, Nat.shiftLeft_eq]
theorem signed_t (m k : Nat) : signed true m k = -((m * 2 ^ k : Nat) : Int) := by simp [signed, Nat.shiftLeft_eq]
def U1 : Nat := pw 1074
theorem pw_cut (n a b c : Nat) (h : n = a + b) (hc : pw a = c) : pw n = c * pw b := by rw [h, pw_add, hc]
theorem U1_eq : U1 = 4503599627370496 * pw 1022 := by
  show pw 1074 = 4503599627370496 * pw 1022
  exact pw_cut 1074 52 1022 4503599627370496 rfl (by decide)
theorem sub_one {w v : Nat} (hw : IsV w false (U1 + v)) (hv : Rep v) : ∃ w', D.sub w 4607182418800017408 = some w' ∧ IsV w' false v := by
  obtain ⟨M, e, h1, h2, h3, h4, h5, h6⟩ := hw.read
  have hc : D.read 4607182418800017408 = .number false 4503599627370496 (-52) := c_one
  have hU := U1_eq
  unfold pw at hU
  have hbase : ∀ b : Nat, (b : Int) - 1074 = min ((e : Int) - 1074) (-52) → ∃ t : Nat, D.sub w 4607182418800017408 = some (D.write (.number false t ((b : Int) - 1074))) ∧ t * 2 ^ b = v := by
    intro b hb
    have hbe : b ≤ e := by omega
    have hb2 : b ≤ 1022 := by omega
    have e1 : ((e : Int) - 1074 - ((b : Int) - 1074)).toNat = e - b := by omega
    have e2 : ((-52 : Int) - ((b : Int) - 1074)).toNat = 1022 - b := by omega
    have hsum : M * 2 ^ (e - b) * 2 ^ b = 4503599627370496 * 2 ^ (1022 - b) * 2 ^ b + v := by
      rw [Nat.mul_assoc, ← Nat.pow_add, show e - b + b = e by omega, ← h4, hU, Nat.mul_assoc, ← Nat.pow_add, show 1022 - b + b = 1022 by omega]
    have hge : 4503599627370496 * 2 ^ (1022 - b) ≤ M * 2 ^ (e - b) := by
      refine Nat.le_of_mul_le_mul_right ?_ (Nat.two_pow_pos b)
      omega
    refine ⟨M * 2 ^ (e - b) - 4503599627370496 * 2 ^ (1022 - b), ?_, ?_⟩
    · unfold Format.sub
      rw [h6, hc]
      simp only [Datum.opposite, Datum.sum, Option.map_some, ← hb, e1, e2, Bool.not_false, signed_f, signed_t]
      have e3 : (((M * 2 ^ (e - b) : Nat) : Int) + -((4503599627370496 * 2 ^ (1022 - b) : Nat) : Int)).natAbs = M * 2 ^ (e - b) - 4503599627370496 * 2 ^ (1022 - b) := by omega
      rw [e3]
      have e4 : (if ((M * 2 ^ (e - b) : Nat) : Int) + -((4503599627370496 * 2 ^ (1022 - b) : Nat) : Int) = 0 then (false && true) else decide (((M * 2 ^ (e - b) : Nat) : Int) + -((4503599627370496 * 2 ^ (1022 - b) : Nat) : Int) < 0)) = false := by
        split
        · rfl
        · simp only [decide_eq_false_iff_not]; omega
      rw [e4]
    · rw [Nat.sub_mul]; omega
  obtain ⟨b, hb⟩ : ∃ b : Nat, (b : Int) - 1074 = min ((e : Int) - 1074) (-52) := ⟨(min ((e : Int) - 1074) (-52) + 1074).toNat, by omega⟩
  obtain ⟨t, ht, htv⟩ := hbase b hb
  refine ⟨_, ht, write_rep false t _ v hv ?_⟩
  rw [show ((b : Int) - 1074 + 1074).toNat = b by omega, show (-((b : Int) - 1074 + 1074)).toNat = 0 by omega, Nat.pow_zero, Nat.mul_one, htv]
theorem order_v {w w' u u' : Nat} {s t : Bool} (h : IsV w s u) (h' : IsV w' t u') : D.order w w' = some (compare (signed s u 0) (signed t u' 0)) := by
  obtain ⟨M, e, h1, h2, h3, h4, h5, h6⟩ := h.read
  obtain ⟨M', e', h1', h2', h3', h4', h5', h6'⟩ := h'.read
  unfold Format.order
  rw [h6, h6']
  simp only [Datum.order]
  obtain ⟨b, hb⟩ : ∃ b : Nat, (b : Int) - 1074 = min ((e : Int) - 1074) ((e' : Int) - 1074) := ⟨(min ((e : Int) - 1074) ((e' : Int) - 1074) + 1074).toNat, by omega⟩
  have e1 : ((e : Int) - 1074 - ((b : Int) - 1074)).toNat = e - b := by omega
  have e2 : ((e' : Int) - 1074 - ((b : Int) - 1074)).toNat = e' - b := by omega
  rw [← hb, e1, e2]
  congr 1
  have hp : (0 : Int) < ((2 ^ b : Nat) : Int) := by exact_mod_cast Nat.two_pow_pos b
  have k1 : signed s u 0 = signed s M (e - b) * ((2 ^ b : Nat) : Int) := by
    have : u = M * 2 ^ (e - b) * 2 ^ b := by rw [h4, Nat.mul_assoc, ← Nat.pow_add, show e - b + b = e by omega]
    cases s
    · rw [signed_f, signed_f, this, Nat.pow_zero, Nat.mul_one]; push_cast; rfl
    · rw [signed_t, signed_t, this, Nat.pow_zero, Nat.mul_one]; push_cast; rw [Int.neg_mul]
  have k2 : signed t u' 0 = signed t M' (e' - b) * ((2 ^ b : Nat) : Int) := by
    have : u' = M' * 2 ^ (e' - b) * 2 ^ b := by rw [h4', Nat.mul_assoc, ← Nat.pow_add, show e' - b + b = e' by omega]
    cases t
    · rw [signed_f, signed_f, this, Nat.pow_zero, Nat.mul_one]; push_cast; rfl
    · rw [signed_t, signed_t, this, Nat.pow_zero, Nat.mul_one]; push_cast; rw [Int.neg_mul]
  rw [k1, k2]
  generalize signed s M (e - b) = x
  generalize signed t M' (e' - b) = y
  generalize ((2 ^ b : Nat) : Int) = z at hp
  have hlt : x * z < y * z ↔ x < y := ⟨fun h => Int.lt_of_mul_lt_mul_right h (by omega), fun h => Int.mul_lt_mul_of_pos_right h hp⟩
  have heq : x * z = y * z ↔ x = y := ⟨fun h => Int.eq_of_mul_eq_mul_right (by omega) h, fun h => by rw [h]⟩
  simp only [compare, compareOfLessAndEq, hlt, heq]
theorem toInt_v {w n : Nat} (h : IsV w false (n * 2 ^ 1074)) : (D.read w).toInt .zero = some (n : Int) := by
  obtain ⟨M, e, h1, h2, h3, h4, h5, h6⟩ := h.read
  rw [h6]
  simp only [Datum.toInt, Datum.integral]
  have hc : Toward.zero.cut false (M <<< ((e : Int) - 1074).toNat) (-((e : Int) - 1074)).toNat = n := by
    unfold Toward.cut
    simp only [Bool.toNat_false, Nat.add_zero, Nat.one_shiftLeft]
    by_cases he : 1074 ≤ e
    · have e1 : (-((e : Int) - 1074)).toNat = 0 := by omega
      rw [e1, Nat.zero_min, Nat.pow_zero, Nat.div_one, Nat.shiftLeft_eq]
      refine Nat.eq_of_mul_eq_mul_right (Nat.two_pow_pos 1074) ?_
      rw [h4, Nat.mul_assoc, ← Nat.pow_add 2 ((e : Int) - 1074).toNat 1074, show ((e : Int) - 1074).toNat + 1074 = e by omega]
    · have e0 : ((e : Int) - 1074).toNat = 0 := by omega
      have e1 : (-((e : Int) - 1074)).toNat = 1074 - e := by omega
      rw [e0, e1, Nat.shiftLeft_eq, Nat.pow_zero, Nat.mul_one]
      have hM : M = n * 2 ^ (1074 - e) := by
        refine Nat.eq_of_mul_eq_mul_right (Nat.two_pow_pos e) ?_
        rw [← h4, Nat.mul_assoc, ← Nat.pow_add, show 1074 - e + e = 1074 by omega]
      by_cases hn : n = 0
      · subst hn; rw [Nat.zero_mul] at hM; subst hM; simp
      · have hl := log2_mul_pow hn (1074 - e)
        rw [← hM] at hl
        rw [show min (1074 - e) (M.log2 + 2) = 1074 - e by omega, hM, Nat.mul_div_cancel _ (Nat.two_pow_pos _)]
  rw [hc]
  simp [signed]
theorem toInt_p {w n : Nat} (h : IsV w false (n * pw 1074)) : (D.read w).toInt .zero = some (n : Int) := by unfold pw at h; exact toInt_v h
theorem IsV.eq {w w' u : Nat} {s : Bool} (h : IsV w s u) (h' : IsV w' s u) : w = w' := by
  obtain ⟨M, e, h1, h2, h3, h4, h5⟩ := h
  obtain ⟨M', e', h1', h2', h3', h4', h5'⟩ := h'
  have h4 : u = M * 2 ^ e := h4
  have h4' : u = M' * 2 ^ e' := h4'
  have key : ∀ (M e M' e' : Nat), M < 9007199254740992 → (e' = 0 ∨ 4503599627370496 ≤ M') → M * 2 ^ e = M' * 2 ^ e' → e' ≤ e := by
    intro M e M' e' hM hM' h
    rcases hM' with hM' | hM'
    · omega
    · by_cases hlt : e' ≤ e
      · exact hlt
      · exfalso
        have : M * 2 ^ e = M' * 2 ^ (e' - e) * 2 ^ e := by rw [h, Nat.mul_assoc, ← Nat.pow_add, show e' - e + e = e' by omega]
        have := Nat.eq_of_mul_eq_mul_right (Nat.two_pow_pos e) this
        have h2 : 2 ^ 1 ≤ 2 ^ (e' - e) := Nat.pow_le_pow_right (by omega) (by omega)
        have h3 : 4503599627370496 * 2 ≤ M' * 2 ^ (e' - e) := Nat.mul_le_mul hM' h2
        omega
  have he : e = e' := Nat.le_antisymm (key M' e' M e h1' h2 (by rw [← h4', h4])) (key M e M' e' h1 h2' (by rw [← h4, h4']))
  subst he
  have : M = M' := Nat.eq_of_mul_eq_mul_right (Nat.two_pow_pos e) (by rw [← h4, h4'])
  subst this
  rw [h5, h5']

def nanB : Nat := 9221120237041090560
def isN (b : Nat) : Bool := decide (9218868437227405312 < b % 9223372036854775808)
def cn (b : Nat) : Nat := bif isN b then nanB else b
theorem read_nan {b : Nat} (h : isN b = true) : ∃ s f, D.read b = .nan s f := by
  unfold isN at h
  have h : 9218868437227405312 < b % 9223372036854775808 := of_decide_eq_true h
  rw [readD, if_neg (by omega), if_neg (by omega), if_neg (by omega)]
  exact ⟨_, _, rfl⟩
theorem cn_of {b : Nat} (h : isN b = false) : cn b = b := by simp [cn, h]
theorem cn_nan {b : Nat} (h : isN b = true) : cn b = nanB := by simp [cn, h]
theorem isN_nanB : isN nanB = true := by decide
theorem isN_cn (b : Nat) : isN (cn b) = isN b := by
  cases h : isN b with
  | true => rw [cn_nan h, isN_nanB]
  | false => rw [cn_of h, h]
theorem cn_cn (b : Nat) : cn (cn b) = cn b := by
  cases h : isN b with
  | true => rw [cn_nan h]; decide
  | false => rw [cn_of h, cn_of h]
theorem read_cn (b : Nat) : D.read (cn b) = D.read b ∨ (∃ s f s' f', D.read (cn b) = .nan s f ∧ D.read b = .nan s' f') := by
  cases h : isN b with
  | false => left; rw [cn_of h]
  | true =>
    right
    obtain ⟨s, f, h1⟩ := read_nan (b := cn b) (by rw [isN_cn, h])
    obtain ⟨s', f', h2⟩ := read_nan h
    exact ⟨s, f, s', f', h1, h2⟩
theorem order_nan_l {s f} (d : Datum) : Datum.order (.nan s f) d = none := by cases d <;> rfl
theorem order_nan_r {s f} (d : Datum) : Datum.order d (.nan s f) = none := by cases d <;> rfl
theorem order_cn (a b : Nat) : D.order (cn a) (cn b) = D.order a b := by
  unfold Format.order
  rcases read_cn a with ha | ⟨s, f, s', f', ha, ha'⟩
  · rw [ha]
    rcases read_cn b with hb | ⟨s, f, s', f', hb, hb'⟩
    · rw [hb]
    · rw [hb, hb', order_nan_r, order_nan_r]
  · rw [ha, ha', order_nan_l, order_nan_l]
theorem word_notN (s : Bool) (r : Nat) (h : r ≤ 9218868437227405312) : isN (D.word s r) = false := by
  unfold isN
  rw [(word_div s r (by omega)).2]
  simp; omega
theorem write_notN (d : Datum) (h : d.isNaN = false) : isN (D.write d) = false := by
  cases d with
  | number s m p =>
    show isN (D.nearest s m p) = false
    unfold Format.nearest
    split
    · exact word_notN s 0 (by omega)
    · refine word_notN s _ ?_
      rw [infD]; omega
  | infinity s => exact word_notN s _ (by rw [infD]; omega)
  | nan s f => cases h
end Go.Proofs.Ytcagjdngannneaa.V
