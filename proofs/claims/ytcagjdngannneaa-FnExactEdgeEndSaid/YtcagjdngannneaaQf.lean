
import Derived.Test.YtcagjdngannneaaQa
import Derived.Test.YtcagjdngannneaaXs
set_option linter.unusedVariables false
set_option linter.unusedSimpArgs false
set_option linter.unusedSectionVars false
namespace Go.Proofs.Ytcagjdngannneaa
open Go V Ieee
theorem iter_pass {S O : Type} {body : S → Option (S ⊕ O)} {s : S} {m : Option O} (h : body s = m.bind fun o => some (Sum.inr o)) : iter body s = m := by
  rw [iter_eq, h]
  cases m <;> rfl
def wd (M e : Nat) : Nat := D.word false (e * 4503599627370496 + M)
theorem wd_eq (M e : Nat) : wd M e = e * 4503599627370496 + M := rfl
theorem wd_v {M e : Nat} (h1 : M < 9007199254740992) (h2 : e = 0 ∨ 4503599627370496 ≤ M) (h3 : e ≤ 2045) : IsV (wd M e) false (M * pw e) := ⟨M, e, h1, h2, h3, rfl, rfl⟩
theorem rep_of {M : Nat} (h1 : M < 9007199254740992) : ∀ e, e ≤ 2045 → Rep (M * pw e) := by
  intro e
  induction e generalizing M with
  | zero => intro _; exact ⟨M, 0, h1, .inl rfl, by omega, rfl⟩
  | succ e ih =>
    intro he
    by_cases hm : 4503599627370496 ≤ M
    · exact ⟨M, e + 1, h1, .inr hm, he, rfl⟩
    · have := ih (M := 2 * M) (by omega) (by omega)
      rwa [show 2 * M * pw e = M * pw (e + 1) by rw [pw_succ, Nat.mul_comm 2 M, Nat.mul_assoc, Nat.mul_comm 2]] at this
theorem v0 : IsV 0 false 0 := ⟨0, 0, by decide, .inl rfl, by omega, by simp, rfl⟩
theorem v1 : IsV 4607182418800017408 false (4503599627370496 * pw 1022) := ⟨4503599627370496, 1022, by decide, .inr (Nat.le_refl _), by omega, rfl, rfl⟩
theorem v2 : IsV 4611686018427387904 false (4503599627370496 * pw 1023) := ⟨4503599627370496, 1023, by decide, .inr (Nat.le_refl _), by omega, rfl, rfl⟩
theorem vM : IsV 9218868437227405311 false (9007199254740991 * pw 2045) := ⟨9007199254740991, 2045, by decide, .inr (by decide), by omega, rfl, rfl⟩
section
variable {a b u v : Nat} (ha : IsV a false u) (hb : IsV b false v)
include ha hb
theorem cmp_v : fcmp .f64 a b = some (compare u v) := by
  have h := order_v ha hb
  rw [signed_f, signed_f, Nat.pow_zero, Nat.mul_one, Nat.mul_one] at h
  show D.order a b = _
  rw [h]
  show some (compareOfLessAndEq (u : Int) (v : Int)) = some (compareOfLessAndEq u v)
  unfold compareOfLessAndEq
  by_cases h1 : u < v
  · rw [if_pos h1, if_pos (by omega)]
  · rw [if_neg h1, if_neg (by omega)]
    by_cases h2 : u = v
    · rw [if_pos h2, if_pos (by omega)]
    · rw [if_neg h2, if_neg (by omega)]
theorem cmp_lt : (fcmp .f64 a b == some .lt) = decide (u < v) := by
  rw [cmp_v ha hb]
  by_cases h : u < v
  · simp [Nat.compare_eq_lt.2 h, h]
  · have : compare u v ≠ .lt := fun hc => h (Nat.compare_eq_lt.1 hc)
    simp [this, h]
theorem cmp_gt : (fcmp .f64 a b == some .gt) = decide (v < u) := by
  rw [cmp_v ha hb]
  by_cases h : v < u
  · simp [Nat.compare_eq_gt.2 h, h]
  · have : compare u v ≠ .gt := fun hc => h (Nat.compare_eq_gt.1 hc)
    simp [this, h]
theorem cmp_eq : (fcmp .f64 a b == some .eq) = decide (u = v) := by
  rw [cmp_v ha hb]
  by_cases h : u = v
  · simp [Nat.compare_eq_eq.2 h, h]
  · have : compare u v ≠ .eq := fun hc => h (Nat.compare_eq_eq.1 hc)
    simp [this, h]
end
theorem far_half {a u : Nat} (h : IsV a false (u * 2)) (hu : Rep u) : IsV (far .quo a 4611686018427387904) false u := by
  obtain ⟨w', hw, hv⟩ := div_pow (j := 1) c_two (by simpa [pw] using h) hu
  have : far .quo a 4611686018427387904 = w' := by show (D.div a _).getD _ = _; rw [hw]; rfl
  rwa [this]
theorem far_dbl {a u : Nat} (h : IsV a false u) (hu : Rep (u * 2)) : IsV (far .mul a 4611686018427387904) false (u * 2) := by
  obtain ⟨w', hw, hv⟩ := mul_pow_ (j := 1) c_two h (by simpa using hu)
  have : far .mul a 4611686018427387904 = w' := by show (D.mul a _).getD _ = _; rw [hw]; rfl
  rw [this]; simpa using hv
theorem far_big {a u : Nat} (h : IsV a false u) (hu : Rep (u * pw 52)) : IsV (far .mul a 4841369599423283200) false (u * pw 52) := by
  obtain ⟨w', hw, hv⟩ := mul_pow_ (j := 52) c_big h hu
  have : far .mul a 4841369599423283200 = w' := by show (D.mul a _).getD _ = _; rw [hw]; rfl
  rwa [this]
theorem far_sub1 {a v : Nat} (h : IsV a false (U1 + v)) (hv : Rep v) : IsV (far .sub a 4607182418800017408) false v := by
  obtain ⟨w', hw, hv⟩ := sub_one h hv
  have : far .sub a 4607182418800017408 = w' := by show (D.sub a _).getD _ = _; rw [hw]; rfl
  rwa [this]
theorem f2i_v {a n : Nat} (h : IsV a false (n * pw 1074)) (hn : n < 18446744073709551616) : floatToIntVal .f64 a .u64 = some (n : Int) := by
  unfold floatToIntVal
  have := toInt_p h
  show (match (D.read a).toInt .zero with | some n => _ | none => _) = _
  rw [this]
  simp only []
  rw [if_pos]
  simp [IntKind.min, IntKind.max, IntKind.signed, IntKind.bits]; omega
section
variable (S E : Nat) (A : Nat)
theorem bits_num (s E K : Nat) (hs : s ≤ 1) (hE : E < 2048) (hK : K < 4503599627370496) : ior .u64 (ior .u64 ((s * 9223372036854775808 : Nat) : Int) (ishl .u64 (IntKind.wrap .u64 (IntKind.wrap .i64 (E : Int))) 52)) (K : Int) = ((s * 9223372036854775808 + E * 4503599627370496 + K : Nat) : Int) := by
  rw [w64 (by omega) (by omega), wu64 E (by omega)]
  have h1 : ishl .u64 (E : Int) 52 = ((E * 4503599627370496 : Nat) : Int) := by
    unfold ishl
    show IntKind.wrap .u64 ((E : Int) * 2 ^ 52) = _
    have : (E : Int) * 2 ^ 52 = ((E * 4503599627370496 : Nat) : Int) := by rw [show (2 : Int) ^ 52 = 4503599627370496 by decide]; omega
    rw [this, wu64 _ (by omega)]
  rw [h1, ior_u64 _ _ (by omega) (by omega)]
  have h2 : s * 9223372036854775808 ||| E * 4503599627370496 = s * 9223372036854775808 + E * 4503599627370496 := by
    have := or_add 63 s (E * 4503599627370496) (by show _ < 9223372036854775808; omega)
    exact this
  rw [h2, ior_u64 _ _ (by omega) (by omega)]
  have h3 := or_add 52 (s * 2048 + E) K (by show _ < 4503599627370496; omega)
  have e : (s * 2048 + E) * 2 ^ 52 = s * 9223372036854775808 + E * 4503599627370496 := by
    rw [show (2 : Nat) ^ 52 = 4503599627370496 by decide]; omega
  rw [e] at h3
  rw [h3]
theorem bits_sub (s K : Nat) (hs : s ≤ 1) (hK : K < 4503599627370496) : ior .u64 ((s * 9223372036854775808 : Nat) : Int) (K : Int) = ((s * 9223372036854775808 + K : Nat) : Int) := by
  rw [ior_u64 _ _ (by omega) (by omega)]
  have h3 := or_add 63 s K (by show _ < 9223372036854775808; omega)
  rw [show (s * 2 ^ 63 : Nat) = s * 9223372036854775808 from rfl] at h3
  rw [h3]
end
theorem p_lt {M e : Nat} (k k' : Nat) (h : M < 9007199254740992) (he : e ≤ k) (hk : k' = k + 1) : M * pw e < 4503599627370496 * pw k' := by
  have h1 : M * pw e < 9007199254740992 * pw e := Nat.mul_lt_mul_of_pos_right h (pw_pos e)
  have h2 : 9007199254740992 * pw e ≤ 9007199254740992 * pw k := Nat.mul_le_mul_left _ (pw_le he)
  have h3 : 4503599627370496 * (pw k * 2) = 9007199254740992 * pw k := by
    generalize pw k = q
    omega
  rw [hk, pw_succ, h3]
  exact Nat.lt_of_lt_of_le h1 h2
theorem p_ge {M e k : Nat} (h : 4503599627370496 ≤ M) (he : k ≤ e) : 4503599627370496 * pw k ≤ M * pw e :=
  Nat.mul_le_mul h (pw_le he)
theorem fb_one (s M : Nat) (A : Nat) (c : Int) (E : Nat) (hs : s ≤ 1) (h1 : M < 9007199254740992) (h2 : 4503599627370496 ≤ M) (hE : E < 2048) (hc : c + 1023 = (E : Int)) : iter (spec_FloatBits.b1 (((s * 9223372036854775808 : Nat) : Int), A)) (wd M 1022, c) = some ((s * 9223372036854775808 + E * 4503599627370496 + (M - 4503599627370496) : Nat) : Int) := by
  have hv := wd_v h1 (.inr h2) (show 1022 ≤ 2045 by omega)
  have hlt := cmp_lt hv v1
  have hnl : ¬ M * pw 1022 < 4503599627370496 * pw 1022 := Nat.not_lt.2 (p_ge h2 (Nat.le_refl _))
  rw [decide_eq_false hnl] at hlt
  have hsum : M * pw 1022 = U1 + (M - 4503599627370496) * pw 1022 := by
    rw [U1_eq, ← Nat.add_mul, show 4503599627370496 + (M - 4503599627370496) = M by omega]
  have hK : M - 4503599627370496 < 9007199254740992 := by omega
  rw [hsum] at hv
  have hs1 := far_sub1 hv (rep_of hK 1022 (by omega))
  have hb := far_big hs1 (by rw [Nat.mul_assoc, ← pw_add]; exact rep_of hK _ (by omega))
  rw [Nat.mul_assoc, ← pw_add] at hb
  have hi := f2i_v hb (by omega)
  refine iter_r ?_
  unfold spec_FloatBits.b1
  simp only [hlt, hi, Bool.false_and, Bool.false_eq_true, if_false, Option.bind_some]
  rw [hc, bits_num s E _ hs hE (by omega)]
theorem fb_up (s M : Nat) (A : Nat) (hs : s ≤ 1) (h1 : M < 9007199254740992) (h2 : 4503599627370496 ≤ M) : ∀ (j i : Nat), i + j ≤ 1022 → iter (spec_FloatBits.b1 (((s * 9223372036854775808 : Nat) : Int), A)) (wd M (1022 - j), -(i : Int)) = some ((s * 9223372036854775808 + (1023 - i - j) * 4503599627370496 + (M - 4503599627370496) : Nat) : Int) := by
  intro j
  induction j with
  | zero => intro i hi; exact fb_one s M A _ _ hs h1 h2 (by omega) (by omega)
  | succ j ih =>
    intro i hi
    have hv := wd_v h1 (.inr h2) (show 1022 - (j + 1) ≤ 2045 by omega)
    have hlt := cmp_lt hv v1
    have hl : M * pw (1022 - (j + 1)) < 4503599627370496 * pw 1022 := p_lt 1021 1022 h1 (by omega) rfl
    rw [decide_eq_true hl] at hlt
    have he : M * pw (1022 - (j + 1)) * 2 = M * pw (1022 - j) := by
      rw [Nat.mul_assoc, ← pw_succ, show 1022 - (j + 1) + 1 = 1022 - j by omega]
    have hd := far_dbl hv (by rw [he]; exact rep_of h1 _ (by omega))
    rw [he] at hd
    have hw := hd.eq (wd_v h1 (.inr h2) (show 1022 - j ≤ 2045 by omega))
    have hstep : spec_FloatBits.b1 (((s * 9223372036854775808 : Nat) : Int), A) (wd M (1022 - (j + 1)), -(i : Int)) = some (.inl (wd M (1022 - j), -((i + 1 : Nat) : Int))) := by
      unfold spec_FloatBits.b1
      simp only [hlt, Bool.true_and]
      rw [if_pos (by simp; omega), hw, w64 (by omega) (by omega), show -(i : Int) - 1 = -((i + 1 : Nat) : Int) by omega]
    rw [iter_l hstep, ih (i + 1) (by omega), show 1023 - (i + 1) - j = 1023 - i - (j + 1) by omega]
theorem fb_sub (s M : Nat) (A : Nat) (hs : s ≤ 1) (h1 : M < 4503599627370496) : ∀ (j i a : Nat), i + j = 1022 → IsV a false (M * pw i) → iter (spec_FloatBits.b1 (((s * 9223372036854775808 : Nat) : Int), A)) (a, -(i : Int)) = some ((s * 9223372036854775808 + M : Nat) : Int) := by
  intro j
  induction j with
  | zero =>
    intro i a hi hv
    have hlt := cmp_lt hv v1
    have hl : M * pw i < 4503599627370496 * pw 1022 := by
      rw [show i = 1022 by omega]
      exact Nat.mul_lt_mul_of_pos_right h1 (pw_pos _)
    rw [decide_eq_true hl] at hlt
    have hb := far_big hv (by rw [Nat.mul_assoc, ← pw_add]; exact rep_of (by omega) _ (by omega))
    rw [Nat.mul_assoc, ← pw_add, show i + 52 = 1074 by omega] at hb
    have hi2 := f2i_v hb (by omega)
    refine iter_r ?_
    unfold spec_FloatBits.b1
    have hc : decide (-(i : Int) > -1022) = false := by simp; omega
    simp only [hlt, hc, hi2, Bool.true_and, Bool.false_eq_true, if_false, if_true, Option.bind_some]
    rw [bits_sub s M hs h1]
  | succ j ih =>
    intro i a hi hv
    have hlt := cmp_lt hv v1
    have hl : M * pw i < 4503599627370496 * pw 1022 := p_lt 1021 1022 (by omega) (by omega) rfl
    rw [decide_eq_true hl] at hlt
    have he : M * pw i * 2 = M * pw (i + 1) := by rw [Nat.mul_assoc, ← pw_succ]
    have hd := far_dbl hv (by rw [he]; exact rep_of (by omega) _ (by omega))
    rw [he] at hd
    have hstep : spec_FloatBits.b1 (((s * 9223372036854775808 : Nat) : Int), A) (a, -(i : Int)) = some (.inl (far .mul a 4611686018427387904, -((i + 1 : Nat) : Int))) := by
      unfold spec_FloatBits.b1
      simp only [hlt, Bool.true_and]
      rw [if_pos (by simp; omega), w64 (by omega) (by omega), show -(i : Int) - 1 = -((i + 1 : Nat) : Int) by omega]
    rw [iter_l hstep, ih (i + 1) _ (by omega) hd]
theorem fb_pass {y : Int × Nat} {a u : Nat} {c : Int} (hv : IsV a false u) (hu : u < 4503599627370496 * pw 1023) : iter (spec_FloatBits.b0 y) (a, c) = iter (spec_FloatBits.b1 y) (a, c) := by
  refine iter_pass ?_
  unfold spec_FloatBits.b0
  have h1 := cmp_gt hv v2
  have h2 := cmp_eq hv v2
  rw [decide_eq_false (by omega)] at h1
  rw [decide_eq_false (by omega)] at h2
  simp only [h1, h2, Bool.or_self, Bool.false_eq_true, if_false]
theorem fb_down (y : Int × Nat) (M : Nat) (h1 : M < 9007199254740992) (h2 : 4503599627370496 ≤ M) : ∀ (n e : Nat) (c : Int), e = 1022 + n → e ≤ 2045 → 0 ≤ c → c ≤ 10000 - n → iter (spec_FloatBits.b0 y) (wd M e, c) = iter (spec_FloatBits.b1 y) (wd M 1022, c + n) := by
  intro n
  induction n with
  | zero =>
    intro e c he _ _ _
    have : e = 1022 := by omega
    subst this
    rw [fb_pass (wd_v h1 (.inr h2) (by omega)) (p_lt 1022 1023 h1 (by omega) rfl)]
    simp
  | succ n ih =>
    intro e c he he2 hc0 hc1
    obtain ⟨e, rfl⟩ : ∃ e', e = e' + 1 := ⟨e - 1, by omega⟩
    have hv := wd_v h1 (.inr h2) he2
    have g1 := cmp_gt hv v2
    have g2 := cmp_eq hv v2
    have hge : 4503599627370496 * pw 1023 ≤ M * pw (e + 1) := p_ge h2 (by omega)
    have hor : (fcmp .f64 (wd M (e + 1)) 4611686018427387904 == some .gt || fcmp .f64 (wd M (e + 1)) 4611686018427387904 == some .eq) = true := by
      rw [g1, g2, Bool.or_eq_true, decide_eq_true_eq, decide_eq_true_eq]
      generalize 4503599627370496 * pw 1023 = q at hge ⊢
      omega
    have hv2 : IsV (wd M (e + 1)) false (M * pw e * 2) := by rw [Nat.mul_assoc, ← pw_succ]; exact hv
    have hw := (far_half hv2 (rep_of h1 _ (by omega))).eq (wd_v h1 (.inr h2) (by omega))
    have hstep : spec_FloatBits.b0 y (wd M (e + 1), c) = some (.inl (wd M e, c + 1)) := by
      unfold spec_FloatBits.b0
      simp only [hor, if_true]
      rw [hw, w64 (by omega) (by omega)]
    rw [iter_l hstep, ih e (c + 1) (by omega) (by omega) (by omega) (by omega), show c + 1 + (n : Int) = c + ((n + 1 : Nat) : Int) by omega]
theorem xor_sign (r : Nat) (h : r < 9223372036854775808) : Op.negFloat .f64 (9223372036854775808 + r) = r := by
  show (9223372036854775808 + r) ^^^ 2 ^ 63 = r
  have e : 9223372036854775808 + r = 2 ^ 63 ||| r := by
    have := Nat.two_pow_add_eq_or_of_lt (i := 63) (b := r) h 1
    simpa using this
  have e2 : 2 ^ 63 ||| r = 2 ^ 63 ^^^ r := by
    apply Nat.eq_of_testBit_eq
    intro i
    rw [Nat.testBit_or, Nat.testBit_xor]
    by_cases hi : i = 63
    · subst hi
      have : r.testBit 63 = false := Nat.testBit_lt_two_pow h
      rw [this]; simp
    · have : (2 ^ 63).testBit i = false := by rw [Nat.testBit_two_pow]; simp; omega
      rw [this]; simp
  rw [e, e2, Nat.xor_comm (2 ^ 63) r, Nat.xor_assoc, Nat.xor_self, Nat.xor_zero]
theorem fin_word {x : Nat} (hx : x < 18446744073709551616) (h : x % 9223372036854775808 < 9218868437227405312) : ∃ s M e, s ≤ 1 ∧ M < 9007199254740992 ∧ (e = 0 ∨ 4503599627370496 ≤ M) ∧ e ≤ 2045 ∧ x = s * 9223372036854775808 + wd M e := by
  refine ⟨x / 9223372036854775808, ?_⟩
  by_cases hr : x % 9223372036854775808 < 4503599627370496
  · exact ⟨x % 9223372036854775808, 0, by omega, by omega, .inl rfl, by omega, by rw [wd_eq]; omega⟩
  · refine ⟨4503599627370496 + x % 9223372036854775808 % 4503599627370496, x % 9223372036854775808 / 4503599627370496 - 1, by omega, by omega, .inr (by omega), by omega, ?_⟩
    rw [wd_eq]; omega
theorem fb_loops (s M e : Nat) (A : Nat) (hs : s ≤ 1) (h1 : M < 9007199254740992) (h2 : e = 0 ∨ 4503599627370496 ≤ M) (h3 : e ≤ 2045) : iter (spec_FloatBits.b0 (((s * 9223372036854775808 : Nat) : Int), A)) (wd M e, (0 : Int)) = some ((s * 9223372036854775808 + wd M e : Nat) : Int) := by
  by_cases hm : 4503599627370496 ≤ M
  · by_cases he : 1022 ≤ e
    · rw [fb_down _ M h1 hm (e - 1022) e 0 (by omega) h3 (by omega) (by omega)]
      rw [fb_one s M A _ (e + 1) hs h1 hm (by omega) (by omega), wd_eq, show s * 9223372036854775808 + (e + 1) * 4503599627370496 + (M - 4503599627370496) = s * 9223372036854775808 + (e * 4503599627370496 + M) by omega]
    · rw [fb_pass (wd_v h1 (.inr hm) h3) (p_lt 1022 1023 h1 (by omega) rfl)]
      have := fb_up s M A hs h1 hm (1022 - e) 0 (by omega)
      rw [show 1022 - (1022 - e) = e by omega] at this
      rw [show (0 : Int) = -((0 : Nat) : Int) by simp, this, wd_eq, show s * 9223372036854775808 + (1023 - 0 - (1022 - e)) * 4503599627370496 + (M - 4503599627370496) = s * 9223372036854775808 + (e * 4503599627370496 + M) by omega]
  · have he : e = 0 := by omega
    subst he
    have hv := wd_v h1 (.inl rfl) h3
    rw [fb_pass hv (p_lt 1022 1023 h1 (by omega) rfl)]
    have h0 : M * pw 0 = M * pw 0 := rfl
    have := fb_sub s M A hs (by omega) 1022 0 (wd M 0) (by omega) hv
    rw [show (0 : Int) = -((0 : Nat) : Int) by simp, this, wd_eq, show 0 * 4503599627370496 + M = M by omega]
theorem nan_word {x : Nat} (h : okF x) (hn : isN x = true) : x = nanB := by rw [← h.1, cn_nan hn]
theorem fb_nan : spec_FloatBits.f 9221120237041090560 = some 9221120237041090560 := by
  unfold spec_FloatBits.f
  rw [if_pos (by decide)]
theorem fb_inf : spec_FloatBits.f 9218868437227405312 = some 9218868437227405312 := by
  have h1 : (fcmp .f64 9218868437227405312 9218868437227405312 != some .eq) = false := by decide
  have h2 : (fcmp .f64 9218868437227405312 0 == some .lt) = false := by decide
  have h3 : (fcmp .f64 9218868437227405312 0 == some .eq) = false := by decide
  have h4 : (fcmp .f64 9218868437227405312 9218868437227405311 == some .gt) = true := by decide
  unfold spec_FloatBits.f
  simp only [h1, h2, h3, h4, Bool.false_eq_true, if_false, if_true, Option.bind_some]
  rfl
theorem fb_ninf : spec_FloatBits.f 18442240474082181120 = some 18442240474082181120 := by
  have h1 : (fcmp .f64 18442240474082181120 18442240474082181120 != some .eq) = false := by decide
  have h2 : (fcmp .f64 18442240474082181120 0 == some .lt) = true := by decide
  have h0 : fneg 18442240474082181120 = 9218868437227405312 := by decide
  have h3 : (fcmp .f64 9218868437227405312 0 == some .eq) = false := by decide
  have h4 : (fcmp .f64 9218868437227405312 9218868437227405311 == some .gt) = true := by decide
  unfold spec_FloatBits.f
  simp only [h1, h2, h0, h3, h4, Bool.false_eq_true, if_false, if_true, Option.bind_some]
  rfl
theorem fb_zero : spec_FloatBits.f 0 = some 0 := by
  have h1 : (fcmp .f64 0 0 != some .eq) = false := by decide
  have h2 : (fcmp .f64 0 0 == some .lt) = false := by decide
  have h3 : (fcmp .f64 0 0 == some .eq) = true := by decide
  have h4 : (fcmp .f64 (far .quo 4607182418800017408 0) 0 == some .lt) = false := by decide
  unfold spec_FloatBits.f
  simp only [h1, h2, h3, h4, Bool.false_eq_true, if_false, if_true, Option.bind_some]
theorem fb_nzero : spec_FloatBits.f 9223372036854775808 = some 9223372036854775808 := by
  have h1 : (fcmp .f64 9223372036854775808 9223372036854775808 != some .eq) = false := by decide
  have h2 : (fcmp .f64 9223372036854775808 0 == some .lt) = false := by decide
  have h3 : (fcmp .f64 9223372036854775808 0 == some .eq) = true := by decide
  have h4 : (fcmp .f64 (far .quo 4607182418800017408 9223372036854775808) 0 == some .lt) = true := by decide
  have h5 : (fcmp .f64 (fneg 9223372036854775808) 0 == some .eq) = true := by decide
  unfold spec_FloatBits.f
  simp only [h1, h2, h3, h4, h5, Bool.false_eq_true, if_false, if_true, Option.bind_some]
theorem ifF {α : Type} {b : Bool} {x y : α} (h : b = false) : (if b = true then x else y) = y := by subst h; rfl
theorem ifT {α : Type} {b : Bool} {x y : α} (h : b = true) : (if b = true then x else y) = x := by subst h; rfl
theorem cmp_self {w u : Nat} {s : Bool} (hw : IsV w s u) : (fcmp .f64 w w != some .eq) = false := by
  have : fcmp .f64 w w = some .eq := by
    show D.order w w = _
    rw [order_v hw hw]
    show (some (compareOfLessAndEq _ _)) = some _
    unfold compareOfLessAndEq
    rw [if_neg (Int.lt_irrefl _), if_pos rfl]
  rw [this]; rfl
theorem cmp_le {M e : Nat} (h1 : M < 9007199254740992) (h3 : e ≤ 2045) : ¬ 9007199254740991 * pw 2045 < M * pw e := by
  have : M * pw e ≤ 9007199254740991 * pw 2045 := Nat.mul_le_mul (by omega) (pw_le h3)
  exact Nat.not_lt.2 this
section
variable {M e : Nat} (h1 : M < 9007199254740992) (h2 : e = 0 ∨ 4503599627370496 ≤ M) (h3 : e ≤ 2045) (hM : 0 < M)
include h1 h2 h3
theorem wd_lt : wd M e < 9218868437227405312 := by rw [wd_eq]; omega
theorem wd_max : (fcmp .f64 (wd M e) 9218868437227405311 == some .gt) = false := by
  rw [cmp_gt (wd_v h1 h2 h3) vM, decide_eq_false (cmp_le h1 h3)]
theorem wd_neg : IsV (9223372036854775808 + wd M e) true (M * pw e) := ⟨M, e, h1, h2, h3, rfl, by rw [wd_eq]; rfl⟩
include hM
theorem wd_pos : 0 < M * pw e := Nat.mul_pos hM (pw_pos e)
theorem wd_ne0 : (fcmp .f64 (wd M e) 0 == some .eq) = false := by
  have := wd_pos h1 h2 h3 hM
  rw [cmp_eq (wd_v h1 h2 h3) v0, decide_eq_false (Nat.ne_of_gt this)]
theorem wd_nl : (fcmp .f64 (wd M e) 0 == some .lt) = false := by
  rw [cmp_lt (wd_v h1 h2 h3) v0, decide_eq_false (Nat.not_lt_zero _)]
theorem wd_gt : (fcmp .f64 (wd M e) 0 == some .gt) = true := by
  have := wd_pos h1 h2 h3 hM
  rw [cmp_gt (wd_v h1 h2 h3) v0, decide_eq_true this]
theorem neg_cmp : fcmp .f64 (9223372036854775808 + wd M e) 0 = some .lt := by
  have hp := wd_pos h1 h2 h3 hM
  have ho := order_v (wd_neg h1 h2 h3) v0
  rw [signed_t, signed_f, Nat.pow_zero, Nat.mul_one, Nat.zero_mul] at ho
  show D.order _ _ = _
  rw [ho]
  show (some (compareOfLessAndEq _ _)) = some _
  unfold compareOfLessAndEq
  generalize M * pw e = q at hp
  rw [if_pos (show (-((q : Nat) : Int)) < ((0 : Nat) : Int) by omega)]
theorem neg_neg' : fneg (9223372036854775808 + wd M e) = wd M e := by
  have hl := wd_lt h1 h2 h3
  unfold fneg
  have hn : isN (9223372036854775808 + wd M e) = false := by
    unfold isN
    generalize wd M e = q at hl
    simp; omega
  rw [hn, cond_false]
  exact xor_sign _ (by omega)
theorem fb_plus : spec_FloatBits.f (wd M e) = some ((wd M e : Nat) : Int) := by
  have hl := fb_loops 0 M e (wd M e) (by omega) h1 h2 h3
  have e0 : 0 * 9223372036854775808 + wd M e = wd M e := by rw [Nat.zero_mul, Nat.zero_add]
  have eS : ((0 * 9223372036854775808 : Nat) : Int) = 0 := by omega
  rw [e0, eS] at hl
  unfold spec_FloatBits.f
  rw [ifF (cmp_self (wd_v h1 h2 h3)), ifF (wd_nl h1 h2 h3 hM), ifF (wd_ne0 h1 h2 h3 hM), Option.bind_some, Option.bind_some, ifF rfl, Option.bind_some, ifF (wd_ne0 h1 h2 h3 hM), ifF (wd_max h1 h2 h3)]
  exact hl
theorem fb_minus : spec_FloatBits.f (9223372036854775808 + wd M e) = some ((9223372036854775808 + wd M e : Nat) : Int) := by
  have hl := fb_loops 1 M e (wd M e) (by omega) h1 h2 h3
  have eS : ((1 * 9223372036854775808 : Nat) : Int) = 9223372036854775808 := by omega
  rw [eS, Nat.one_mul] at hl
  have h4 : (fcmp .f64 (9223372036854775808 + wd M e) 0 == some .lt) = true := by rw [neg_cmp h1 h2 h3 hM]; rfl
  unfold spec_FloatBits.f
  rw [ifF (cmp_self (wd_neg h1 h2 h3)), ifT h4, Option.bind_some, ifT rfl, Option.bind_some, neg_neg' h1 h2 h3 hM, ifF (wd_ne0 h1 h2 h3 hM), ifF (wd_max h1 h2 h3)]
  exact hl
end
theorem word_cases {x : Nat} (h : okF x) (P : Nat → Prop) (hnan : P nanB) (hi : P 9218868437227405312) (hni : P 18442240474082181120) (h0 : P 0) (hn0 : P 9223372036854775808)
    (hp : ∀ M e, M < 9007199254740992 → (e = 0 ∨ 4503599627370496 ≤ M) → e ≤ 2045 → 0 < M → P (wd M e)) (hm : ∀ M e, M < 9007199254740992 → (e = 0 ∨ 4503599627370496 ≤ M) → e ≤ 2045 → 0 < M → P (9223372036854775808 + wd M e)) : P x := by
  cases hn : isN x with
  | true => rw [nan_word h hn]; exact hnan
  | false =>
    have hx := h.2
    have hr : x % 9223372036854775808 ≤ 9218868437227405312 := by
      unfold isN at hn
      have := of_decide_eq_false hn
      omega
    by_cases hi' : x % 9223372036854775808 = 9218868437227405312
    · rcases (show x = 9218868437227405312 ∨ x = 18442240474082181120 by omega) with rfl | rfl
      · exact hi
      · exact hni
    · obtain ⟨s, M, e, hs, h1, h2, h3, rfl⟩ := fin_word hx (by omega)
      by_cases hM : M = 0
      · subst hM
        have he : e = 0 := by omega
        subst he
        rcases (show s = 0 ∨ s = 1 by omega) with rfl | rfl
        · exact h0
        · exact hn0
      · rcases (show s = 0 ∨ s = 1 by omega) with rfl | rfl
        · rw [Nat.zero_mul, Nat.zero_add]; exact hp M e h1 h2 h3 (by omega)
        · rw [Nat.one_mul]; exact hm M e h1 h2 h3 (by omega)
theorem spec_FloatBits (x : Nat) (h : okF x) : spec_FloatBits.f x = some (x : Int) :=
  word_cases h (fun x => spec_FloatBits.f x = some (x : Int)) fb_nan fb_inf fb_ninf fb_zero fb_nzero (fun M e h1 h2 h3 hM => fb_plus h1 h2 h3 hM) (fun M e h1 h2 h3 hM => fb_minus h1 h2 h3 hM)
end Go.Proofs.Ytcagjdngannneaa
