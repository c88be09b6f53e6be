import Derived.Test.YtegicanjlefmdaaGreatG2
import Derived.Test.YtegicanjlefmdaaGreatGs
set_option linter.unusedVariables false
set_option linter.unusedSimpArgs false
namespace Go.Proofs.YtegicanjlefmdaaGreat
open Go V
theorem w64 {n : Int} (h0 : -9223372036854775808 ≤ n) (h1 : n ≤ 9223372036854775807) : IntKind.i64.wrap n = n := by
 rw [IntKind.wrap_i64]; omega
theorem u8_of {n : Int} (h : InK .u8 n) : 0 ≤ n ∧ n ≤ 255 := by
 simpa [InK, IntKind.min, IntKind.max, IntKind.signed, IntKind.bits] using h
theorem i64_ok {n : Int} (h0 : -9223372036854775808 ≤ n) (h1 : n ≤ 9223372036854775807) : InK .i64 n := by
 simp [InK, IntKind.min, IntKind.max, IntKind.signed, IntKind.bits]; omega
theorem u8_ok {n : Int} (h0 : 0 ≤ n) (h1 : n ≤ 255) : InK .u8 n := by
 simp [InK, IntKind.min, IntKind.max, IntKind.signed, IntKind.bits]; omega
theorem fdiv_nat (a b : Nat) : Int.fdiv (a : Int) (b : Int) = ((a / b : Nat) : Int) := by
 rw [Int.fdiv_eq_ediv_of_nonneg _ (by omega)]; rfl
theorem ishr_nat (k : IntKind) (a b : Nat) (h : b ≤ k.bits) : ishr k (a : Int) (b : Int) = ((a / 2 ^ b : Nat) : Int) := by
 unfold ishr
 rw [Int.toNat_natCast, Nat.min_eq_left h]
 have : (2 : Int) ^ b = ((2 ^ b : Nat) : Int) := by simp
 rw [this, fdiv_nat]
theorem ofInt_nat (w a : Nat) (h : a < 2 ^ w) : (BitVec.ofInt w (a : Int)).toNat = a := by
 rw [BitVec.ofInt_natCast, BitVec.toNat_ofNat, Nat.mod_eq_of_lt h]
theorem wu64 (a : Nat) (h : a < 18446744073709551616) : IntKind.wrap .u64 ((a : Nat) : Int) = (a : Int) := by rw [IntKind.wrap_u64]; omega
theorem ior_u64 (a b : Nat) (ha : a < 18446744073709551616) (hb : b < 18446744073709551616) : ior .u64 (a : Int) (b : Int) = ((a ||| b : Nat) : Int) := by
 unfold ior
 rw [BitVec.toNat_or, ofInt_nat _ a ha, ofInt_nat _ b hb]
 exact wu64 _ (Nat.or_lt_two_pow (n := 64) ha hb)
theorem iand_u64 (a b : Nat) (ha : a < 18446744073709551616) (hb : b < 18446744073709551616) : iand .u64 (a : Int) (b : Int) = ((a &&& b : Nat) : Int) := by
 unfold iand
 rw [BitVec.toNat_and, ofInt_nat _ a ha, ofInt_nat _ b hb]
 exact wu64 _ (Nat.and_lt_two_pow (n := 64) _ hb)
theorem ixor_u64 (a b : Nat) (ha : a < 18446744073709551616) (hb : b < 18446744073709551616) : ixor .u64 (a : Int) (b : Int) = ((a ^^^ b : Nat) : Int) := by
 unfold ixor
 rw [BitVec.toNat_xor, ofInt_nat _ a ha, ofInt_nat _ b hb]
 exact wu64 _ (Nat.xor_lt_two_pow (n := 64) ha hb)
theorem or_add (k n b : Nat) (h : b < 2 ^ k) : (n * 2 ^ k) ||| b = n * 2 ^ k + b := by
 have := Nat.two_pow_add_eq_or_of_lt (i := k) (b := b) h n
 rw [Nat.mul_comm n]
 exact this.symm
def rin (a b c : Int) : Bool := decide (b ≤ a) && decide (a ≤ c)
theorem rin_iff {a b c : Int} : rin a b c = true ↔ b ≤ a ∧ a ≤ c := by simp [rin]
theorem iter_for {S O : Type} {body : S → Option (S ⊕ O)} (n : Nat) (st : Nat → S) (o : O) (h : ∀ k, k < n → body (st k) = some (.inl (st (k + 1)))) (hn : body (st n) = some (.inr o)) : iter body (st 0) = some o := by
 have key : ∀ m, m ≤ n → iter body (st (n - m)) = some o := by
  intro m
  induction m with
  | zero => intro _; rw [iter_eq, Nat.sub_zero, hn]; rfl
  | succ m ih =>
   intro hm
   rw [iter_eq, h (n - (m + 1)) (by omega)]
   simp only [Option.bind_some]
   rw [show n - (m + 1) + 1 = n - m by omega]
   exact ih (by omega)
 have := key n (Nat.le_refl _)
 rwa [Nat.sub_self] at this
theorem iter_l {S O : Type} {body : S → Option (S ⊕ O)} {s s' : S} (h : body s = some (.inl s')) : iter body s = iter body s' := by rw [iter_eq, h]; rfl
theorem iter_r {S O : Type} {body : S → Option (S ⊕ O)} {s : S} {o : O} (h : body s = some (.inr o)) : iter body s = some o := by rw [iter_eq, h]; rfl
theorem at_nat {α : Type} [Inhabited α] (xs : List α) (k : Nat) (h : k < xs.length) : at_ xs (k : Int) = xs[k] := by
 rw [at_eq xs k (by simpa using h)]; simp
end Go.Proofs.YtegicanjlefmdaaGreat
set_option linter.unusedVariables false
set_option linter.unusedSimpArgs false
set_option linter.unusedSectionVars false
namespace Go.Proofs.YtegicanjlefmdaaGreat
open Go V Ieee
theorem iter_pass {S O : Type} {body : S → Option (S ⊕ O)} {s : S} {m : Option O} (h : body s = m.bind fun o => some (Sum.inr o)) : iter body s = m := by
 rw [iter_eq, h]
 cases m <;> rfl
def wd (M e : Nat) : Nat := D.word false (e * 4503599627370496 + M)
theorem wd_eq (M e : Nat) : wd M e = e * 4503599627370496 + M := rfl
theorem wd_v {M e : Nat} (h1 : M < 9007199254740992) (h2 : e = 0 ∨ 4503599627370496 ≤ M) (h3 : e ≤ 2045) : IsV (wd M e) false (M * pw e) := ⟨M, e, h1, h2, h3, rfl, rfl⟩
theorem rep_of {M : Nat} (h1 : M < 9007199254740992) : ∀ e, e ≤ 2045 → Rep (M * pw e) := by
 intro e
 induction e generalizing M with
 | zero => intro _; exact ⟨M, 0, h1, .inl rfl, by omega, rfl⟩
 | succ e ih =>
  intro he
  by_cases hm : 4503599627370496 ≤ M
  · exact ⟨M, e + 1, h1, .inr hm, he, rfl⟩
  · have := ih (M := 2 * M) (by omega) (by omega)
    rwa [show 2 * M * pw e = M * pw (e + 1) by rw [pw_succ, Nat.mul_comm 2 M, Nat.mul_assoc, Nat.mul_comm 2]] at this
theorem v0 : IsV 0 false 0 := ⟨0, 0, by decide, .inl rfl, by omega, by simp, rfl⟩
theorem v1 : IsV 4607182418800017408 false (4503599627370496 * pw 1022) := ⟨4503599627370496, 1022, by decide, .inr (Nat.le_refl _), by omega, rfl, rfl⟩
theorem v2 : IsV 4611686018427387904 false (4503599627370496 * pw 1023) := ⟨4503599627370496, 1023, by decide, .inr (Nat.le_refl _), by omega, rfl, rfl⟩
theorem vM : IsV 9218868437227405311 false (9007199254740991 * pw 2045) := ⟨9007199254740991, 2045, by decide, .inr (by decide), by omega, rfl, rfl⟩
section
variable {a b u v : Nat} (ha : IsV a false u) (hb : IsV b false v)
include ha hb
theorem cmp_v : fcmp .f64 a b = some (compare u v) := by
 have h := order_v ha hb
 rw [signed_f, signed_f, Nat.pow_zero, Nat.mul_one, Nat.mul_one] at h
 show D.order a b = _
 rw [h]
 show some (compareOfLessAndEq (u : Int) (v : Int)) = some (compareOfLessAndEq u v)
 unfold compareOfLessAndEq
 by_cases h1 : u < v
 · rw [if_pos h1, if_pos (by omega)]
 · rw [if_neg h1, if_neg (by omega)]
   by_cases h2 : u = v
   · rw [if_pos h2, if_pos (by omega)]
   · rw [if_neg h2, if_neg (by omega)]
theorem cmp_lt : (fcmp .f64 a b == some .lt) = decide (u < v) := by
 rw [cmp_v ha hb]
 by_cases h : u < v
 · simp [Nat.compare_eq_lt.2 h, h]
 · have : compare u v ≠ .lt := fun hc => h (Nat.compare_eq_lt.1 hc)
   simp [this, h]
theorem cmp_gt : (fcmp .f64 a b == some .gt) = decide (v < u) := by
 rw [cmp_v ha hb]
 by_cases h : v < u
 · simp [Nat.compare_eq_gt.2 h, h]
 · have : compare u v ≠ .gt := fun hc => h (Nat.compare_eq_gt.1 hc)
   simp [this, h]
theorem cmp_eq : (fcmp .f64 a b == some .eq) = decide (u = v) := by
 rw [cmp_v ha hb]
 by_cases h : u = v
 · simp [Nat.compare_eq_eq.2 h, h]
 · have : compare u v ≠ .eq := fun hc => h (Nat.compare_eq_eq.1 hc)
   simp [this, h]
end
theorem far_half {a u : Nat} (h : IsV a false (u * 2)) (hu : Rep u) : IsV (far .quo a 4611686018427387904) false u := by
 obtain ⟨w', hw, hv⟩ := div_pow (j := 1) c_two (by simpa [pw] using h) hu
 have : far .quo a 4611686018427387904 = w' := by show (D.div a _).getD _ = _; rw [hw]; rfl
 rwa [this]
theorem far_dbl {a u : Nat} (h : IsV a false u) (hu : Rep (u * 2)) : IsV (far .mul a 4611686018427387904) false (u * 2) := by
 obtain ⟨w', hw, hv⟩ := mul_pow_ (j := 1) c_two h (by simpa using hu)
 have : far .mul a 4611686018427387904 = w' := by show (D.mul a _).getD _ = _; rw [hw]; rfl
 rw [this]; simpa using hv
theorem far_big {a u : Nat} (h : IsV a false u) (hu : Rep (u * pw 52)) : IsV (far .mul a 4841369599423283200) false (u * pw 52) := by
 obtain ⟨w', hw, hv⟩ := mul_pow_ (j := 52) c_big h hu
 have : far .mul a 4841369599423283200 = w' := by show (D.mul a _).getD _ = _; rw [hw]; rfl
 rwa [this]
theorem far_sub1 {a v : Nat} (h : IsV a false (U1 + v)) (hv : Rep v) : IsV (far .sub a 4607182418800017408) false v := by
 obtain ⟨w', hw, hv⟩ := sub_one h hv
 have : far .sub a 4607182418800017408 = w' := by show (D.sub a _).getD _ = _; rw [hw]; rfl
 rwa [this]
theorem f2i_v {a n : Nat} (h : IsV a false (n * pw 1074)) (hn : n < 18446744073709551616) : floatToIntVal .f64 a .u64 = some (n : Int) := by
 unfold floatToIntVal
 have := toInt_p h
 show (match (D.read a).toInt .zero with | some n => _ | none => _) = _
 rw [this]
 simp only []
 rw [if_pos]
 simp [IntKind.min, IntKind.max, IntKind.signed, IntKind.bits]; omega
section
variable (S E : Nat) (A : Nat)
theorem bits_num (s E K : Nat) (hs : s ≤ 1) (hE : E < 2048) (hK : K < 4503599627370496) : ior .u64 (ior .u64 ((s * 9223372036854775808 : Nat) : Int) (ishl .u64 (IntKind.wrap .u64 (IntKind.wrap .i64 (E : Int))) 52)) (K : Int) = ((s * 9223372036854775808 + E * 4503599627370496 + K : Nat) : Int) := by
 rw [w64 (by omega) (by omega), wu64 E (by omega)]
 have h1 : ishl .u64 (E : Int) 52 = ((E * 4503599627370496 : Nat) : Int) := by
  unfold ishl
  show IntKind.wrap .u64 ((E : Int) * 2 ^ 52) = _
  have : (E : Int) * 2 ^ 52 = ((E * 4503599627370496 : Nat) : Int) := by rw [show (2 : Int) ^ 52 = 4503599627370496 by decide]; omega
  rw [this, wu64 _ (by omega)]
 rw [h1, ior_u64 _ _ (by omega) (by omega)]
 have h2 : s * 9223372036854775808 ||| E * 4503599627370496 = s * 9223372036854775808 + E * 4503599627370496 := by
  have := or_add 63 s (E * 4503599627370496) (by show _ < 9223372036854775808; omega)
  exact this
 rw [h2, ior_u64 _ _ (by omega) (by omega)]
 have h3 := or_add 52 (s * 2048 + E) K (by show _ < 4503599627370496; omega)
 have e : (s * 2048 + E) * 2 ^ 52 = s * 9223372036854775808 + E * 4503599627370496 := by
  rw [show (2 : Nat) ^ 52 = 4503599627370496 by decide]; omega
 rw [e] at h3
 rw [h3]
theorem bits_sub (s K : Nat) (hs : s ≤ 1) (hK : K < 4503599627370496) : ior .u64 ((s * 9223372036854775808 : Nat) : Int) (K : Int) = ((s * 9223372036854775808 + K : Nat) : Int) := by
 rw [ior_u64 _ _ (by omega) (by omega)]
 have h3 := or_add 63 s K (by show _ < 9223372036854775808; omega)
 rw [show (s * 2 ^ 63 : Nat) = s * 9223372036854775808 from rfl] at h3
 rw [h3]
end
theorem p_lt {M e : Nat} (k k' : Nat) (h : M < 9007199254740992) (he : e ≤ k) (hk : k' = k + 1) : M * pw e < 4503599627370496 * pw k' := by
 have h1 : M * pw e < 9007199254740992 * pw e := Nat.mul_lt_mul_of_pos_right h (pw_pos e)
 have h2 : 9007199254740992 * pw e ≤ 9007199254740992 * pw k := Nat.mul_le_mul_left _ (pw_le he)
 have h3 : 4503599627370496 * (pw k * 2) = 9007199254740992 * pw k := by
  generalize pw k = q
  omega
 rw [hk, pw_succ, h3]
 exact Nat.lt_of_lt_of_le h1 h2
theorem p_ge {M e k : Nat} (h : 4503599627370496 ≤ M) (he : k ≤ e) : 4503599627370496 * pw k ≤ M * pw e :=
 Nat.mul_le_mul h (pw_le he)
theorem fb_one (s M : Nat) (A : Nat) (c : Int) (E : Nat) (hs : s ≤ 1) (h1 : M < 9007199254740992) (h2 : 4503599627370496 ≤ M) (hE : E < 2048) (hc : c + 1023 = (E : Int)) : iter (spec_FloatBits.b1 (((s * 9223372036854775808 : Nat) : Int), A)) (wd M 1022, c) = some ((s * 9223372036854775808 + E * 4503599627370496 + (M - 4503599627370496) : Nat) : Int) := by
 have hv := wd_v h1 (.inr h2) (show 1022 ≤ 2045 by omega)
 have hlt := cmp_lt hv v1
 have hnl : ¬ M * pw 1022 < 4503599627370496 * pw 1022 := Nat.not_lt.2 (p_ge h2 (Nat.le_refl _))
 rw [decide_eq_false hnl] at hlt
 have hsum : M * pw 1022 = U1 + (M - 4503599627370496) * pw 1022 := by
  rw [U1_eq, ← Nat.add_mul, show 4503599627370496 + (M - 4503599627370496) = M by omega]
 have hK : M - 4503599627370496 < 9007199254740992 := by omega
 rw [hsum] at hv
 have hs1 := far_sub1 hv (rep_of hK 1022 (by omega))
 have hb := far_big hs1 (by rw [Nat.mul_assoc, ← pw_add]; exact rep_of hK _ (by omega))
 rw [Nat.mul_assoc, ← pw_add] at hb
 have hi := f2i_v hb (by omega)
 refine iter_r ?_
 unfold spec_FloatBits.b1
 simp only [hlt, hi, Bool.false_and, Bool.false_eq_true, if_false, Option.bind_some]
 rw [hc, bits_num s E _ hs hE (by omega)]
theorem fb_up (s M : Nat) (A : Nat) (hs : s ≤ 1) (h1 : M < 9007199254740992) (h2 : 4503599627370496 ≤ M) : ∀ (j i : Nat), i + j ≤ 1022 → iter (spec_FloatBits.b1 (((s * 9223372036854775808 : Nat) : Int), A)) (wd M (1022 - j), -(i : Int)) = some ((s * 9223372036854775808 + (1023 - i - j) * 4503599627370496 + (M - 4503599627370496) : Nat) : Int) := by
 intro j
 induction j with
 | zero => intro i hi; exact fb_one s M A _ _ hs h1 h2 (by omega) (by omega)
 | succ j ih =>
  intro i hi
  have hv := wd_v h1 (.inr h2) (show 1022 - (j + 1) ≤ 2045 by omega)
  have hlt := cmp_lt hv v1
  have hl : M * pw (1022 - (j + 1)) < 4503599627370496 * pw 1022 := p_lt 1021 1022 h1 (by omega) rfl
  rw [decide_eq_true hl] at hlt
  have he : M * pw (1022 - (j + 1)) * 2 = M * pw (1022 - j) := by
   rw [Nat.mul_assoc, ← pw_succ, show 1022 - (j + 1) + 1 = 1022 - j by omega]
  have hd := far_dbl hv (by rw [he]; exact rep_of h1 _ (by omega))
  rw [he] at hd
  have hw := hd.eq (wd_v h1 (.inr h2) (show 1022 - j ≤ 2045 by omega))
  have hstep : spec_FloatBits.b1 (((s * 9223372036854775808 : Nat) : Int), A) (wd M (1022 - (j + 1)), -(i : Int)) = some (.inl (wd M (1022 - j), -((i + 1 : Nat) : Int))) := by
   unfold spec_FloatBits.b1
   simp only [hlt, Bool.true_and]
   rw [if_pos (by simp; omega), hw, w64 (by omega) (by omega), show -(i : Int) - 1 = -((i + 1 : Nat) : Int) by omega]
  rw [iter_l hstep, ih (i + 1) (by omega), show 1023 - (i + 1) - j = 1023 - i - (j + 1) by omega]
theorem fb_sub (s M : Nat) (A : Nat) (hs : s ≤ 1) (h1 : M < 4503599627370496) : ∀ (j i a : Nat), i + j = 1022 → IsV a false (M * pw i) → iter (spec_FloatBits.b1 (((s * 9223372036854775808 : Nat) : Int), A)) (a, -(i : Int)) = some ((s * 9223372036854775808 + M : Nat) : Int) := by
 intro j
 induction j with
 | zero =>
  intro i a hi hv
  have hlt := cmp_lt hv v1
  have hl : M * pw i < 4503599627370496 * pw 1022 := by
   rw [show i = 1022 by omega]
   exact Nat.mul_lt_mul_of_pos_right h1 (pw_pos _)
  rw [decide_eq_true hl] at hlt
  have hb := far_big hv (by rw [Nat.mul_assoc, ← pw_add]; exact rep_of (by omega) _ (by omega))
  rw [Nat.mul_assoc, ← pw_add, show i + 52 = 1074 by omega] at hb
  have hi2 := f2i_v hb (by omega)
  refine iter_r ?_
  unfold spec_FloatBits.b1
  have hc : decide (-(i : Int) > -1022) = false := by simp; omega
  simp only [hlt, hc, hi2, Bool.true_and, Bool.false_eq_true, if_false, if_true, Option.bind_some]
  rw [bits_sub s M hs h1]
 | succ j ih =>
  intro i a hi hv
  have hlt := cmp_lt hv v1
  have hl : M * pw i < 4503599627370496 * pw 1022 := p_lt 1021 1022 (by omega) (by omega) rfl
  rw [decide_eq_true hl] at hlt
  have he : M * pw i * 2 = M * pw (i + 1) := by rw [Nat.mul_assoc, ← pw_succ]
  have hd := far_dbl hv (by rw [he]; exact rep_of (by omega) _ (by omega))
  rw [he] at hd
  have hstep : spec_FloatBits.b1 (((s * 9223372036854775808 : Nat) : Int), A) (a, -(i : Int)) = some (.inl (far .mul a 4611686018427387904, -((i + 1 : Nat) : Int))) := by
   unfold spec_FloatBits.b1
   simp only [hlt, Bool.true_and]
   rw [if_pos (by simp; omega), w64 (by omega) (by omega), show -(i : Int) - 1 = -((i + 1 : Nat) : Int) by omega]
  rw [iter_l hstep, ih (i + 1) _ (by omega) hd]
theorem fb_pass {y : Int × Nat} {a u : Nat} {c : Int} (hv : IsV a false u) (hu : u < 4503599627370496 * pw 1023) : iter (spec_FloatBits.b0 y) (a, c) = iter (spec_FloatBits.b1 y) (a, c) := by
 refine iter_pass ?_
 unfold spec_FloatBits.b0
 have h1 := cmp_gt hv v2
 have h2 := cmp_eq hv v2
 rw [decide_eq_false (by omega)] at h1
 rw [decide_eq_false (by omega)] at h2
 simp only [h1, h2, Bool.or_self, Bool.false_eq_true, if_false]
theorem fb_down (y : Int × Nat) (M : Nat) (h1 : M < 9007199254740992) (h2 : 4503599627370496 ≤ M) : ∀ (n e : Nat) (c : Int), e = 1022 + n → e ≤ 2045 → 0 ≤ c → c ≤ 10000 - n → iter (spec_FloatBits.b0 y) (wd M e, c) = iter (spec_FloatBits.b1 y) (wd M 1022, c + n) := by
 intro n
 induction n with
 | zero =>
  intro e c he _ _ _
  have : e = 1022 := by omega
  subst this
  rw [fb_pass (wd_v h1 (.inr h2) (by omega)) (p_lt 1022 1023 h1 (by omega) rfl)]
  simp
 | succ n ih =>
  intro e c he he2 hc0 hc1
  obtain ⟨e, rfl⟩ : ∃ e', e = e' + 1 := ⟨e - 1, by omega⟩
  have hv := wd_v h1 (.inr h2) he2
  have g1 := cmp_gt hv v2
  have g2 := cmp_eq hv v2
  have hge : 4503599627370496 * pw 1023 ≤ M * pw (e + 1) := p_ge h2 (by omega)
  have hor : (fcmp .f64 (wd M (e + 1)) 4611686018427387904 == some .gt || fcmp .f64 (wd M (e + 1)) 4611686018427387904 == some .eq) = true := by
   rw [g1, g2, Bool.or_eq_true, decide_eq_true_eq, decide_eq_true_eq]
   generalize 4503599627370496 * pw 1023 = q at hge ⊢
   omega
  have hv2 : IsV (wd M (e + 1)) false (M * pw e * 2) := by rw [Nat.mul_assoc, ← pw_succ]; exact hv
  have hw := (far_half hv2 (rep_of h1 _ (by omega))).eq (wd_v h1 (.inr h2) (by omega))
  have hstep : spec_FloatBits.b0 y (wd M (e + 1), c) = some (.inl (wd M e, c + 1)) := by
   unfold spec_FloatBits.b0
   simp only [hor, if_true]
   rw [hw, w64 (by omega) (by omega)]
  rw [iter_l hstep, ih e (c + 1) (by omega) (by omega) (by omega) (by omega), show c + 1 + (n : Int) = c + ((n + 1 : Nat) : Int) by omega]
theorem xor_sign (r : Nat) (h : r < 9223372036854775808) : Op.negFloat .f64 (9223372036854775808 + r) = r := by
 show (9223372036854775808 + r) ^^^ 2 ^ 63 = r
 have e : 9223372036854775808 + r = 2 ^ 63 ||| r := by
  have := Nat.two_pow_add_eq_or_of_lt (i := 63) (b := r) h 1
  simpa using this
 have e2 : 2 ^ 63 ||| r = 2 ^ 63 ^^^ r := by
  apply Nat.eq_of_testBit_eq
  intro i
  rw [Nat.testBit_or, Nat.testBit_xor]
  by_cases hi : i = 63
  · subst hi
    have : r.testBit 63 = false := Nat.testBit_lt_two_pow h
    rw [this]; simp
  · have : (2 ^ 63).testBit i = false := by rw [Nat.testBit_two_pow]; simp; omega
    rw [this]; simp
 rw [e, e2, Nat.xor_comm (2 ^ 63) r, Nat.xor_assoc, Nat.xor_self, Nat.xor_zero]
theorem fin_word {x : Nat} (hx : x < 18446744073709551616) (h : x % 9223372036854775808 < 9218868437227405312) : ∃ s M e, s ≤ 1 ∧ M < 9007199254740992 ∧ (e = 0 ∨ 4503599627370496 ≤ M) ∧ e ≤ 2045 ∧ x = s * 9223372036854775808 + wd M e := by
 refine ⟨x / 9223372036854775808, ?_⟩
 by_cases hr : x % 9223372036854775808 < 4503599627370496
 · exact ⟨x % 9223372036854775808, 0, by omega, by omega, .inl rfl, by omega, by rw [wd_eq]; omega⟩
 · refine ⟨4503599627370496 + x % 9223372036854775808 % 4503599627370496, x % 9223372036854775808 / 4503599627370496 - 1, by omega, by omega, .inr (by omega), by omega, ?_⟩
   rw [wd_eq]; omega
theorem fb_loops (s M e : Nat) (A : Nat) (hs : s ≤ 1) (h1 : M < 9007199254740992) (h2 : e = 0 ∨ 4503599627370496 ≤ M) (h3 : e ≤ 2045) : iter (spec_FloatBits.b0 (((s * 9223372036854775808 : Nat) : Int), A)) (wd M e, (0 : Int)) = some ((s * 9223372036854775808 + wd M e : Nat) : Int) := by
 by_cases hm : 4503599627370496 ≤ M
 · by_cases he : 1022 ≤ e
   · rw [fb_down _ M h1 hm (e - 1022) e 0 (by omega) h3 (by omega) (by omega)]
     rw [fb_one s M A _ (e + 1) hs h1 hm (by omega) (by omega), wd_eq, show s * 9223372036854775808 + (e + 1) * 4503599627370496 + (M - 4503599627370496) = s * 9223372036854775808 + (e * 4503599627370496 + M) by omega]
   · rw [fb_pass (wd_v h1 (.inr hm) h3) (p_lt 1022 1023 h1 (by omega) rfl)]
     have := fb_up s M A hs h1 hm (1022 - e) 0 (by omega)
     rw [show 1022 - (1022 - e) = e by omega] at this
     rw [show (0 : Int) = -((0 : Nat) : Int) by simp, this, wd_eq, show s * 9223372036854775808 + (1023 - 0 - (1022 - e)) * 4503599627370496 + (M - 4503599627370496) = s * 9223372036854775808 + (e * 4503599627370496 + M) by omega]
 · have he : e = 0 := by omega
   subst he
   have hv := wd_v h1 (.inl rfl) h3
   rw [fb_pass hv (p_lt 1022 1023 h1 (by omega) rfl)]
   have h0 : M * pw 0 = M * pw 0 := rfl
   have := fb_sub s M A hs (by omega) 1022 0 (wd M 0) (by omega) hv
   rw [show (0 : Int) = -((0 : Nat) : Int) by simp, this, wd_eq, show 0 * 4503599627370496 + M = M by omega]
theorem nan_word {x : Nat} (h : okF x) (hn : isN x = true) : x = nanB := by rw [← h.1, cn_nan hn]
theorem fb_nan : spec_FloatBits.f 9221120237041090560 = some 9221120237041090560 := by
 unfold spec_FloatBits.f
 rw [if_pos (by decide)]
theorem fb_inf : spec_FloatBits.f 9218868437227405312 = some 9218868437227405312 := by
 have h1 : (fcmp .f64 9218868437227405312 9218868437227405312 != some .eq) = false := by decide
 have h2 : (fcmp .f64 9218868437227405312 0 == some .lt) = false := by decide
 have h3 : (fcmp .f64 9218868437227405312 0 == some .eq) = false := by decide
 have h4 : (fcmp .f64 9218868437227405312 9218868437227405311 == some .gt) = true := by decide
 unfold spec_FloatBits.f
 simp only [h1, h2, h3, h4, Bool.false_eq_true, if_false, if_true, Option.bind_some]
 rfl
theorem fb_ninf : spec_FloatBits.f 18442240474082181120 = some 18442240474082181120 := by
 have h1 : (fcmp .f64 18442240474082181120 18442240474082181120 != some .eq) = false := by decide
 have h2 : (fcmp .f64 18442240474082181120 0 == some .lt) = true := by decide
 have h0 : fneg 18442240474082181120 = 9218868437227405312 := by decide
 have h3 : (fcmp .f64 9218868437227405312 0 == some .eq) = false := by decide
 have h4 : (fcmp .f64 9218868437227405312 9218868437227405311 == some .gt) = true := by decide
 unfold spec_FloatBits.f
 simp only [h1, h2, h0, h3, h4, Bool.false_eq_true, if_false, if_true, Option.bind_some]
 rfl
theorem fb_zero : spec_FloatBits.f 0 = some 0 := by
 have h1 : (fcmp .f64 0 0 != some .eq) = false := by decide
 have h2 : (fcmp .f64 0 0 == some .lt) = false := by decide
 have h3 : (fcmp .f64 0 0 == some .eq) = true := by decide
 have h4 : (fcmp .f64 (far .quo 4607182418800017408 0) 0 == some .lt) = false := by decide
 unfold spec_FloatBits.f
 simp only [h1, h2, h3, h4, Bool.false_eq_true, if_false, if_true, Option.bind_some]
theorem fb_nzero : spec_FloatBits.f 9223372036854775808 = some 9223372036854775808 := by
 have h1 : (fcmp .f64 9223372036854775808 9223372036854775808 != some .eq) = false := by decide
 have h2 : (fcmp .f64 9223372036854775808 0 == some .lt) = false := by decide
 have h3 : (fcmp .f64 9223372036854775808 0 == some .eq) = true := by decide
 have h4 : (fcmp .f64 (far .quo 4607182418800017408 9223372036854775808) 0 == some .lt) = true := by decide
 have h5 : (fcmp .f64 (fneg 9223372036854775808) 0 == some .eq) = true := by decide
 unfold spec_FloatBits.f
 simp only [h1, h2, h3, h4, h5, Bool.false_eq_true, if_false, if_true, Option.bind_some]
theorem ifF {α : Type} {b : Bool} {x y : α} (h : b = false) : (if b = true then x else y) = y := by subst h; rfl
theorem ifT {α : Type} {b : Bool} {x y : α} (h : b = true) : (if b = true then x else y) = x := by subst h; rfl
theorem cmp_self {w u : Nat} {s : Bool} (hw : IsV w s u) : (fcmp .f64 w w != some .eq) = false := by
 have : fcmp .f64 w w = some .eq := by
  show D.order w w = _
  rw [order_v hw hw]
  show (some (compareOfLessAndEq _ _)) = some _
  unfold compareOfLessAndEq
  rw [if_neg (Int.lt_irrefl _), if_pos rfl]
 rw [this]; rfl
theorem cmp_le {M e : Nat} (h1 : M < 9007199254740992) (h3 : e ≤ 2045) : ¬ 9007199254740991 * pw 2045 < M * pw e := by
 have : M * pw e ≤ 9007199254740991 * pw 2045 := Nat.mul_le_mul (by omega) (pw_le h3)
 exact Nat.not_lt.2 this
section
variable {M e : Nat} (h1 : M < 9007199254740992) (h2 : e = 0 ∨ 4503599627370496 ≤ M) (h3 : e ≤ 2045) (hM : 0 < M)
include h1 h2 h3
theorem wd_lt : wd M e < 9218868437227405312 := by rw [wd_eq]; omega
theorem wd_max : (fcmp .f64 (wd M e) 9218868437227405311 == some .gt) = false := by
 rw [cmp_gt (wd_v h1 h2 h3) vM, decide_eq_false (cmp_le h1 h3)]
theorem wd_neg : IsV (9223372036854775808 + wd M e) true (M * pw e) := ⟨M, e, h1, h2, h3, rfl, by rw [wd_eq]; rfl⟩
include hM
theorem wd_pos : 0 < M * pw e := Nat.mul_pos hM (pw_pos e)
theorem wd_ne0 : (fcmp .f64 (wd M e) 0 == some .eq) = false := by
 have := wd_pos h1 h2 h3 hM
 rw [cmp_eq (wd_v h1 h2 h3) v0, decide_eq_false (Nat.ne_of_gt this)]
theorem wd_nl : (fcmp .f64 (wd M e) 0 == some .lt) = false := by
 rw [cmp_lt (wd_v h1 h2 h3) v0, decide_eq_false (Nat.not_lt_zero _)]
theorem wd_gt : (fcmp .f64 (wd M e) 0 == some .gt) = true := by
 have := wd_pos h1 h2 h3 hM
 rw [cmp_gt (wd_v h1 h2 h3) v0, decide_eq_true this]
theorem neg_cmp : fcmp .f64 (9223372036854775808 + wd M e) 0 = some .lt := by
 have hp := wd_pos h1 h2 h3 hM
 have ho := order_v (wd_neg h1 h2 h3) v0
 rw [signed_t, signed_f, Nat.pow_zero, Nat.mul_one, Nat.zero_mul] at ho
 show D.order _ _ = _
 rw [ho]
 show (some (compareOfLessAndEq _ _)) = some _
 unfold compareOfLessAndEq
 generalize M * pw e = q at hp
 rw [if_pos (show (-((q : Nat) : Int)) < ((0 : Nat) : Int) by omega)]
theorem neg_neg' : fneg (9223372036854775808 + wd M e) = wd M e := by
 have hl := wd_lt h1 h2 h3
 unfold fneg
 have hn : isN (9223372036854775808 + wd M e) = false := by
  unfold isN
  generalize wd M e = q at hl
  simp; omega
 rw [hn, cond_false]
 exact xor_sign _ (by omega)
theorem fb_plus : spec_FloatBits.f (wd M e) = some ((wd M e : Nat) : Int) := by
 have hl := fb_loops 0 M e (wd M e) (by omega) h1 h2 h3
 have e0 : 0 * 9223372036854775808 + wd M e = wd M e := by rw [Nat.zero_mul, Nat.zero_add]
 have eS : ((0 * 9223372036854775808 : Nat) : Int) = 0 := by omega
 rw [e0, eS] at hl
 unfold spec_FloatBits.f
 rw [ifF (cmp_self (wd_v h1 h2 h3)), ifF (wd_nl h1 h2 h3 hM), ifF (wd_ne0 h1 h2 h3 hM), Option.bind_some, Option.bind_some, ifF rfl, Option.bind_some, ifF (wd_ne0 h1 h2 h3 hM), ifF (wd_max h1 h2 h3)]
 exact hl
theorem fb_minus : spec_FloatBits.f (9223372036854775808 + wd M e) = some ((9223372036854775808 + wd M e : Nat) : Int) := by
 have hl := fb_loops 1 M e (wd M e) (by omega) h1 h2 h3
 have eS : ((1 * 9223372036854775808 : Nat) : Int) = 9223372036854775808 := by omega
 rw [eS, Nat.one_mul] at hl
 have h4 : (fcmp .f64 (9223372036854775808 + wd M e) 0 == some .lt) = true := by rw [neg_cmp h1 h2 h3 hM]; rfl
 unfold spec_FloatBits.f
 rw [ifF (cmp_self (wd_neg h1 h2 h3)), ifT h4, Option.bind_some, ifT rfl, Option.bind_some, neg_neg' h1 h2 h3 hM, ifF (wd_ne0 h1 h2 h3 hM), ifF (wd_max h1 h2 h3)]
 exact hl
end
theorem word_cases {x : Nat} (h : okF x) (P : Nat → Prop) (hnan : P nanB) (hi : P 9218868437227405312) (hni : P 18442240474082181120) (h0 : P 0) (hn0 : P 9223372036854775808)
    (hp : ∀ M e, M < 9007199254740992 → (e = 0 ∨ 4503599627370496 ≤ M) → e ≤ 2045 → 0 < M → P (wd M e)) (hm : ∀ M e, M < 9007199254740992 → (e = 0 ∨ 4503599627370496 ≤ M) → e ≤ 2045 → 0 < M → P (9223372036854775808 + wd M e)) : P x := by
  cases hn : isN x with
  | true => rw [nan_word h hn]; exact hnan
  | false =>
    have hx := h.2
    have hr : x % 9223372036854775808 ≤ 9218868437227405312 := by
      unfold isN at hn
      have := of_decide_eq_false hn
      omega
    by_cases hi' : x % 9223372036854775808 = 9218868437227405312
    · rcases (show x = 9218868437227405312 ∨ x = 18442240474082181120 by omega) with rfl | rfl
      · exact hi
      · exact hni
    · obtain ⟨s, M, e, hs, h1, h2, h3, rfl⟩ := fin_word hx (by omega)
      by_cases hM : M = 0
      · subst hM
        have he : e = 0 := by omega
        subst he
        rcases (show s = 0 ∨ s = 1 by omega) with rfl | rfl
        · exact h0
        · exact hn0
      · rcases (show s = 0 ∨ s = 1 by omega) with rfl | rfl
        · rw [Nat.zero_mul, Nat.zero_add]; exact hp M e h1 h2 h3 (by omega)
        · rw [Nat.one_mul]; exact hm M e h1 h2 h3 (by omega)
theorem spec_FloatBits (x : Nat) (h : okF x) : spec_FloatBits.f x = some (x : Int) :=
 word_cases h (fun x => spec_FloatBits.f x = some (x : Int)) fb_nan fb_inf fb_ninf fb_zero fb_nzero (fun M e h1 h2 h3 hM => fb_plus h1 h2 h3 hM) (fun M e h1 h2 h3 hM => fb_minus h1 h2 h3 hM)
end Go.Proofs.YtegicanjlefmdaaGreat
set_option linter.unusedVariables false
set_option linter.unusedSimpArgs false
set_option linter.unusedSectionVars false
namespace Go.Proofs.YtegicanjlefmdaaGreat
open Go V Ieee
theorem wd_rng {M e : Nat} (h1 : M < 9007199254740992) (h3 : e ≤ 2045) (hM : 0 < M) : 0 < wd M e ∧ wd M e < 9218868437227405312 := by rw [wd_eq]; omega
theorem cmp_facts (x : Nat) (h : okF x) : (fcmp .f64 x x != some .eq) = decide (x = 9221120237041090560) ∧ (fcmp .f64 x 0 == some .eq) = decide (x = 0 ∨ x = 9223372036854775808) ∧
    (x ≠ 9221120237041090560 → (fcmp .f64 x 0 == some .gt) = decide (0 < x ∧ x < 9223372036854775808)) ∧ isN x = decide (x = 9221120237041090560) := by
  refine word_cases h (fun x => (fcmp .f64 x x != some .eq) = decide (x = 9221120237041090560) ∧ (fcmp .f64 x 0 == some .eq) = decide (x = 0 ∨ x = 9223372036854775808) ∧
    (x ≠ 9221120237041090560 → (fcmp .f64 x 0 == some .gt) = decide (0 < x ∧ x < 9223372036854775808)) ∧ isN x = decide (x = 9221120237041090560)) ?_ ?_ ?_ ?_ ?_ (fun M e h1 h2 h3 hM => ?_) (fun M e h1 h2 h3 hM => ?_)
  · exact ⟨by decide, by decide, fun h => absurd rfl h, by decide⟩
  · exact ⟨by decide, by decide, fun _ => by decide, by decide⟩
  · exact ⟨by decide, by decide, fun _ => by decide, by decide⟩
  · exact ⟨by decide, by decide, fun _ => by decide, by decide⟩
  · exact ⟨by decide, by decide, fun _ => by decide, by decide⟩
  · obtain ⟨q0, q1⟩ := wd_rng h1 h3 hM
    have c1 := cmp_self (wd_v h1 h2 h3)
    have c2 := wd_ne0 h1 h2 h3 hM
    have c3 := wd_gt h1 h2 h3 hM
    rw [c1, c2, c3]
    generalize wd M e = q at q0 q1
    refine ⟨?_, ?_, fun _ => ?_, ?_⟩
    · rw [decide_eq_false (by omega)]
    · rw [decide_eq_false (by omega)]
    · rw [decide_eq_true (by omega)]
    · unfold isN
      rw [decide_eq_false (by omega), decide_eq_false (by omega)]
  · obtain ⟨q0, q1⟩ := wd_rng h1 h3 hM
    have c1 := cmp_self (wd_neg h1 h2 h3)
    have c2 := neg_cmp h1 h2 h3 hM
    rw [c1, c2]
    generalize wd M e = q at q0 q1
    refine ⟨?_, ?_, fun _ => ?_, ?_⟩
    · rw [decide_eq_false (by omega)]
    · rw [decide_eq_false (by omega)]; rfl
    · rw [decide_eq_false (by omega)]; rfl
    · unfold isN
      rw [decide_eq_false (by omega), decide_eq_false (by omega)]
def FRK (x : Nat) : Nat := if x = 9221120237041090560 then 18446744073709551615 else if x = 0 ∨ x = 9223372036854775808 then 9223372036854775808 else if 9223372036854775808 ≤ x then 18446744073709551615 ^^^ x else x ||| 9223372036854775808
theorem max_u64 : IntKind.max .u64 = ((18446744073709551615 : Nat) : Int) := by decide
theorem impl_FloatRank (x : Nat) (h : okF x) : impl_FloatRank.f x = some (FRK x : Int) := by
 obtain ⟨c1, c2, c3, c4⟩ := cmp_facts x h
 unfold impl_FloatRank.f FRK
 by_cases hx : x = 9221120237041090560
 · rw [ifT (by rw [c1]; exact decide_eq_true hx), if_pos hx]; rfl
 · rw [ifF (by rw [c1]; exact decide_eq_false hx), if_neg hx]
   by_cases h0 : x = 0 ∨ x = 9223372036854775808
   · rw [ifT (by rw [c2]; exact decide_eq_true h0), if_pos h0]; rfl
   · rw [ifF (by rw [c2]; exact decide_eq_false h0), if_neg h0]
     have hn : isN x = false := by rw [c4]; exact decide_eq_false hx
     have hl := h.2
     by_cases hs : 9223372036854775808 ≤ x
     · rw [ifF (by rw [c3 hx]; exact decide_eq_false (by omega)), if_pos hn, if_pos hs, max_u64, ixor_u64 _ _ (by omega) hl]
     · rw [ifT (by rw [c3 hx]; exact decide_eq_true (by omega)), if_pos hn, if_neg hs]
       exact congrArg some (ior_u64 x 9223372036854775808 hl (by omega))
theorem ishr63 (n : Nat) : (ishr .u64 (n : Int) (63 : Int) == (1 : Int)) = decide (n / 9223372036854775808 = 1) := by
 have h2 : ishr .u64 (n : Int) (63 : Int) = ((n / 9223372036854775808 : Nat) : Int) := ishr_nat .u64 n 63 (by decide)
 rw [h2]
 generalize n / 9223372036854775808 = q
 by_cases hq : q = 1
 · rw [decide_eq_true hq, hq]; rfl
 · rw [decide_eq_false hq]; simp; omega
theorem spec_FloatRank (x : Nat) (h : okF x) : spec_FloatRank.f x = some (FRK x : Int) := by
 obtain ⟨c1, c2, c3, c4⟩ := cmp_facts x h
 unfold spec_FloatRank.f FRK
 rw [spec_FloatBits x h, Option.bind_some]
 have hl := h.2
 by_cases hx : x = 9221120237041090560
 · rw [ifT (by rw [hx]; rfl), if_pos hx]; rfl
 · rw [ifF (by simp; omega), if_neg hx]
   by_cases h0 : x = 0 ∨ x = 9223372036854775808
   · rw [ifT (by rw [c2]; exact decide_eq_true h0), if_pos h0]; rfl
   · rw [ifF (by rw [c2]; exact decide_eq_false h0), if_neg h0]
     by_cases hs : 9223372036854775808 ≤ x
     · rw [ifT (by rw [ishr63]; exact decide_eq_true (by omega)), if_pos hs, max_u64, ixor_u64 _ _ (by omega) hl]
     · rw [ifF (by rw [ishr63]; exact decide_eq_false (by omega)), if_neg hs]
       exact congrArg some (ior_u64 x 9223372036854775808 hl (by omega))
end Go.Proofs.YtegicanjlefmdaaGreat
set_option linter.unusedVariables false
set_option linter.unusedSimpArgs false
set_option linter.unusedSectionVars false
namespace Go.Proofs.YtegicanjlefmdaaGreat
open Go V Ieee
theorem in_rin (a b c : Int) : spec_l5in.f a b c = some (rin a b c) := rfl
theorem within_rin (a b c : Int) : impl_within.f a b c = some (rin a b c) := rfl
def IOK (a : Item) : Bool := ((rin a.Kind 0 3 && ((a.N == (0 : Int)) || (a.Kind == (1 : Int)))) && (((a.F : Int) == 0) || (a.Kind == (2 : Int)))) && (((a.T.length : Int) == (0 : Int)) || ((a.Kind == (3 : Int)) && (decide ((a.T.length : Int) ≤ (40 : Int)))))
theorem impl_ItemOk (a : Item) : impl_ItemOk.f a = some (IOK a) := by
 unfold impl_ItemOk.f
 rw [within_rin, Option.bind_some]; rfl
theorem iok_iff (a : Item) : IOK a = true ↔ ((0 ≤ a.Kind ∧ a.Kind ≤ 3) ∧ (a.N = 0 ∨ a.Kind = 1)) ∧ (a.F = 0 ∨ a.Kind = 2) ∧ (a.T.length = 0 ∨ a.Kind = 3 ∧ a.T.length ≤ 40) := by
 simp only [IOK, rin, Bool.and_eq_true, Bool.or_eq_true, decide_eq_true_eq, beq_iff_eq]
 constructor
 · rintro ⟨⟨⟨h1, h2⟩, h3⟩, h4⟩; exact ⟨⟨h1, h2⟩, by omega, by omega⟩
 · rintro ⟨⟨h1, h2⟩, h3, h4⟩; exact ⟨⟨⟨h1, h2⟩, by omega⟩, by omega⟩
theorem spec_ItemOk (a : Item) (h : okF a.F) : spec_ItemOk.f a = some (IOK a) := by
  unfold spec_ItemOk.f
  rw [spec_FloatBits a.F h]
  obtain ⟨k, n, f, t⟩ := a
  have hi := iok_iff ⟨k, n, f, t⟩
  simp only at hi ⊢
  generalize t.length = l at hi ⊢
  by_cases c1 : (((decide (k < (0 : Int))) || (decide (k > (3 : Int)))) || (decide ((l : Int) > (40 : Int)))) = true
  · rw [if_pos c1]
    have : IOK ⟨k, n, f, t⟩ = false := by
      cases hh : IOK ⟨k, n, f, t⟩ with
      | false => rfl
      | true =>
        have := hi.1 hh
        simp only [Bool.or_eq_true, decide_eq_true_eq] at c1
        omega
    rw [this]
  · rw [if_neg c1]
    simp only [Bool.or_eq_true, decide_eq_true_eq, not_or] at c1
    by_cases c2 : ((k != (1 : Int)) && (n != (0 : Int))) = true
    · rw [if_pos c2]
      have : IOK ⟨k, n, f, t⟩ = false := by
        cases hh : IOK ⟨k, n, f, t⟩ with
        | false => rfl
        | true =>
          have := hi.1 hh
          simp only [Bool.and_eq_true, bne_iff_ne, ne_eq] at c2
          omega
      rw [this]
    · rw [if_neg c2]
      simp only [Bool.and_eq_true, bne_iff_ne, ne_eq, not_and, Decidable.not_not] at c2
      by_cases c3 : k = 2
      · rw [if_neg (by simp [c3])]
        simp only [Option.bind_some, Bool.false_eq_true, if_false]
        congr 1
        have e : ((k == (3 : Int)) || ((l : Int) == (0 : Int))) = decide (k = 3 ∨ l = 0) := by
          by_cases q : k = 3 <;> by_cases q2 : l = 0 <;> simp [q, q2]
        rw [e]
        cases hh : IOK ⟨k, n, f, t⟩ with
        | true => exact decide_eq_true (by have := hi.1 hh; omega)
        | false => exact decide_eq_false (fun hc => by
            have : IOK ⟨k, n, f, t⟩ = true := hi.2 (by omega)
            rw [hh] at this; cases this)
      · rw [if_pos (by simp [c3])]
        simp only [Option.bind_some]
        by_cases c4 : f = 0
        · rw [if_neg (by simp [c4])]
          congr 1
          have e : ((k == (3 : Int)) || ((l : Int) == (0 : Int))) = decide (k = 3 ∨ l = 0) := by
            by_cases q : k = 3 <;> by_cases q2 : l = 0 <;> simp [q, q2]
          rw [e]
          cases hh : IOK ⟨k, n, f, t⟩ with
          | true => exact decide_eq_true (by have := hi.1 hh; omega)
          | false => exact decide_eq_false (fun hc => by
              have : IOK ⟨k, n, f, t⟩ = true := hi.2 (by omega)
              rw [hh] at this; cases this)
        · rw [if_pos (by simp; exact c4)]
          have : IOK ⟨k, n, f, t⟩ = false := by
            cases hh : IOK ⟨k, n, f, t⟩ with
            | false => rfl
            | true =>
              have := hi.1 hh
              omega
          rw [this]
def KOK (a : Item) : Bool := (IOK a && (a.Kind != (0 : Int))) && decide (a.F ≠ 9223372036854775808)
theorem impl_KeyOk (a : Item) (h : okF a.F) : impl_KeyOk.f a = some (KOK a) := by
 unfold impl_KeyOk.f KOK
 rw [impl_ItemOk, Option.bind_some]
 obtain ⟨_, c2, _, _⟩ := cmp_facts a.F h
 have e : ((fcmp .f64 a.F 0 != some .eq) || ((a.F : Int) == 0)) = decide (a.F ≠ 9223372036854775808) := by
  have hb : (fcmp .f64 a.F 0 != some .eq) = !(fcmp .f64 a.F 0 == some .eq) := rfl
  rw [hb, c2]
  generalize a.F = q
  by_cases h0 : q = 0
  · subst h0; rfl
  · by_cases h1 : q = 9223372036854775808
    · subst h1; rfl
    · rw [decide_eq_false (by omega), decide_eq_true h1]; rfl
 rw [e]
theorem spec_KeyOk (a : Item) (h : okF a.F) : spec_KeyOk.f a = some (KOK a) := by
 unfold spec_KeyOk.f KOK
 rw [spec_ItemOk a h, Option.bind_some]
 obtain ⟨_, c2, _, _⟩ := cmp_facts a.F h
 cases hc : (IOK a && (a.Kind != (0 : Int))) with
 | false => rfl
 | true =>
  rw [if_pos rfl, c2, spec_FloatBits a.F h]
  generalize a.F = q
  by_cases h0 : q = 0
  · subst h0; rfl
  · by_cases h1 : q = 9223372036854775808
    · subst h1; rfl
    · rw [decide_eq_false (by omega), decide_eq_true h1]; rfl
theorem iok_T {a : Item} (h : IOK a = true) : a.T.length ≤ 40 := by have := (iok_iff a).1 h; omega
theorem kok_iok {a : Item} (h : KOK a = true) : IOK a = true := by
 simp only [KOK, Bool.and_eq_true] at h; exact h.1.1
end Go.Proofs.YtegicanjlefmdaaGreat
set_option linter.unusedVariables false
set_option linter.unusedSimpArgs false
set_option linter.unusedSectionVars false
namespace Go.Proofs.YtegicanjlefmdaaGreat
open Go V Ieee
def runL {α σ O : Type} (step : σ → α → σ ⊕ O) (fin : σ → O) : List α → σ → O
 | [], s => fin s
 | x :: xs, s => match step s x with
  | .inl s' => runL step fin xs s'
  | .inr o => o
theorem iter_runL {α σ O S : Type} {body : S → Option (S ⊕ O)} (xs : List α) (emb : σ → Nat → S) (step : σ → α → σ ⊕ O) (fin : σ → O) (Inv : σ → Nat → Prop)
    (h : ∀ s k (hk : k < xs.length), Inv s k → body (emb s k) = some (match step s xs[k] with
      | .inl s' => .inl (emb s' (k + 1))
      | .inr o => .inr o) ∧ ∀ s', step s xs[k] = .inl s' → Inv s' (k + 1))
    (hn : ∀ s, Inv s xs.length → body (emb s xs.length) = some (.inr (fin s))) (s0 : σ) (h0 : Inv s0 0) : iter body (emb s0 0) = some (runL step fin xs s0) := by
  have key : ∀ (m k : Nat) (s : σ), k + m = xs.length → Inv s k → iter body (emb s k) = some (runL step fin (xs.drop k) s) := by
    intro m
    induction m with
    | zero =>
      intro k s hk hI
      have : k = xs.length := by omega
      subst this
      rw [List.drop_length, iter_r (hn s hI)]; rfl
    | succ m ih =>
      intro k s hk hI
      have hlt : k < xs.length := by omega
      obtain ⟨hb, hs⟩ := h s k hlt hI
      rw [List.drop_eq_getElem_cons hlt]
      unfold runL
      cases hst : step s xs[k] with
      | inl s' => rw [hst] at hb; rw [iter_l hb]; exact ih (k + 1) s' (by omega) (hs s' hst)
      | inr o => rw [hst] at hb; rw [iter_r hb]
  have := key xs.length 0 s0 (by omega) h0
  rwa [List.drop_zero] at this
theorem iter_test {α O : Type} {body : Int → Option (Int ⊕ O)} (xs : List α) (g : α → Bool) (o1 o2 : O) (hb : ∀ (k : Nat) (hk : k < xs.length), body (k : Int) = if g xs[k] = true then some (.inr o1) else some (.inl ((k : Int) + 1))) (hn : body (xs.length : Int) = some (.inr o2)) : iter body 0 = some (if xs.any g = true then o1 else o2) := by
 have := iter_runL (body := body) xs (fun (_ : Unit) (k : Nat) => (k : Int)) (fun _ x => if g x = true then .inr o1 else .inl ()) (fun _ => o2) (fun _ _ => True) (fun _ k hk _ => ⟨by
  rw [hb k hk]
  cases g xs[k] <;> rfl, fun _ _ => trivial⟩) (fun _ _ => hn) () trivial
 refine this.trans ?_
 congr 1
 clear this hb hn
 induction xs with
 | nil => rfl
 | cons x xs ih =>
  unfold runL
  rw [List.any_cons]
  cases g x with
  | true => rfl
  | false => simpa using ih
def SGN (a b : Int) : Int := if a < b then -1 else if a > b then 1 else 0
theorem sgn_0 {a b : Int} : SGN a b = 0 ↔ a = b := by
 unfold SGN
 split
 · constructor <;> omega
 · split
   · constructor <;> omega
   · constructor <;> omega
def ICM (a b : Item) : Int := if a.Kind ≠ b.Kind then SGN a.Kind b.Kind else if a.N ≠ b.N then SGN a.N b.N else if FRK a.F ≠ FRK b.F then SGN (FRK a.F) (FRK b.F) else bcmp a.T b.T
theorem bcmp_at : ∀ (p : Nat) (xs ys : List Int) (h1 : p < xs.length) (h2 : p < ys.length), (∀ i, i < p → xs[i]? = ys[i]?) → xs[p] ≠ ys[p] → bcmp xs ys = if xs[p] < ys[p] then -1 else 1
 | 0, x :: xs, y :: ys, h1, h2, h, hne => by
  unfold bcmp
  have : (x == y) = false := by simpa using hne
  rw [this]
  simp only [cond_false, List.getElem_cons_zero]
  by_cases hlt : x < y
  · rw [if_pos hlt, decide_eq_true hlt]; rfl
  · rw [if_neg hlt, decide_eq_false hlt]; rfl
 | p + 1, x :: xs, y :: ys, h1, h2, h, hne => by
  unfold bcmp
  have h0 := h 0 (by omega)
  simp only [List.getElem?_cons_zero, Option.some.injEq] at h0
  have : (x == y) = true := by simpa using h0
  rw [this]
  simp only [cond_true, List.getElem_cons_succ]
  exact bcmp_at p xs ys (by simpa using h1) (by simpa using h2) (fun i hi => by simpa using h (i + 1) (by omega)) (by simpa using hne)
theorem bcmp_end : ∀ (xs ys : List Int), (∀ i, i < xs.length → i < ys.length → xs[i]? = ys[i]?) → bcmp xs ys = if xs.length < ys.length then -1 else if xs.length > ys.length then 1 else 0
 | [], [], _ => rfl
 | [], y :: ys, _ => by simp [bcmp]
 | x :: xs, [], _ => by simp [bcmp]
 | x :: xs, y :: ys, h => by
  unfold bcmp
  have h0 := h 0 (by simp) (by simp)
  simp only [List.getElem?_cons_zero, Option.some.injEq] at h0
  have : (x == y) = true := by simpa using h0
  rw [this]
  simp only [cond_true, List.length_cons]
  rw [bcmp_end xs ys fun i h1 h2 => by simpa using h (i + 1) (by simpa using h1) (by simpa using h2)]
  simp
theorem str_data (xs : List Int) : (str xs).data.toList = xs.map fun n => UInt8.ofNat n.toNat := by
 have key : ∀ (xs : List Int) (acc : ByteArray), (xs.foldl (fun r n => r.push (UInt8.ofNat n.toNat)) acc).data.toList = acc.data.toList ++ xs.map fun n => UInt8.ofNat n.toNat := by
  intro xs
  induction xs with
  | nil => intro acc; simp
  | cons x xs ih => intro acc; rw [List.foldl_cons, ih]; simp
 exact (key xs ByteArray.empty).trans (List.nil_append _)
theorem str_size (xs : List Int) : (str xs).size = xs.length := by
 have := congrArg List.length (str_data xs)
 rw [List.length_map, Array.length_toList] at this
 exact this
theorem str_get (xs : List Int) (i : Nat) (h : i < xs.length) : (str xs)[i]! = UInt8.ofNat (xs[i]).toNat := by
 have hs : i < (str xs).size := by rw [str_size]; exact h
 rw [getElem!_pos (str xs) i hs]
 have h1 : (str xs)[i] = (str xs).data[i] := rfl
 have h2 : (str xs).data.toList[i]? = (xs.map fun n => UInt8.ofNat n.toNat)[i]? := by rw [str_data]
 rw [List.getElem?_map, List.getElem?_eq_getElem h, Array.getElem?_toList, Array.getElem?_eq_getElem (show i < (str xs).data.size from hs)] at h2
 rw [h1]; exact Option.some.inj h2
theorem u8_lt {a b : Int} (ha : InK .u8 a) (hb : InK .u8 b) : (UInt8.ofNat a.toNat < UInt8.ofNat b.toNat) ↔ a < b := by
 have h1 := u8_of ha
 have h2 := u8_of hb
 rw [UInt8.lt_iff_toNat_lt, UInt8.toNat_ofNat', UInt8.toNat_ofNat', Nat.mod_eq_of_lt (by omega), Nat.mod_eq_of_lt (by omega)]
 omega
theorem u8_eq {a b : Int} (ha : InK .u8 a) (hb : InK .u8 b) : (UInt8.ofNat a.toNat = UInt8.ofNat b.toNat) ↔ a = b := by
 have h1 := u8_of ha
 have h2 := u8_of hb
 rw [← UInt8.toNat_inj, UInt8.toNat_ofNat', UInt8.toNat_ofNat', Nat.mod_eq_of_lt (by omega), Nat.mod_eq_of_lt (by omega)]
 omega
theorem bcmpS_eq (xs ys : List Int) (hx : ∀ x ∈ xs, InK .u8 x) (hy : ∀ x ∈ ys, InK .u8 x) : bcmpS xs ys = bcmp xs ys := by
 unfold bcmpS Extern.BytealgCompare.cmp
 rw [str_size, str_size]
 cases hf : (List.range (min xs.length ys.length)).find? (fun i => (str xs)[i]! != (str ys)[i]!) with
 | none =>
  rw [List.find?_eq_none] at hf
  rw [bcmp_end xs ys fun i h1 h2 => ?_]
  have := hf i (List.mem_range.2 (by omega))
  rw [str_get xs i h1, str_get ys i h2] at this
  have h3 : UInt8.ofNat (xs[i]).toNat = UInt8.ofNat (ys[i]).toNat := by simpa using this
  rw [List.getElem?_eq_getElem h1, List.getElem?_eq_getElem h2, (u8_eq (hx _ (List.getElem_mem h1)) (hy _ (List.getElem_mem h2))).1 h3]
 | some i =>
  have hm := List.mem_range.1 (List.mem_of_find?_eq_some hf)
  have h1 : i < xs.length := by omega
  have h2 : i < ys.length := by omega
  have hp := List.find?_some hf
  rw [List.find?_range_eq_some] at hf
  have hne : xs[i] ≠ ys[i] := fun e => by
   rw [str_get xs i h1, str_get ys i h2, e] at hp
   simp at hp
  rw [bcmp_at i xs ys h1 h2 (fun j hj => by
   have := hf.2.2 j hj
   rw [str_get xs j (by omega), str_get ys j (by omega)] at this
   have h3 : UInt8.ofNat (xs[j]).toNat = UInt8.ofNat (ys[j]).toNat := by simpa using this
   rw [List.getElem?_eq_getElem (by omega), List.getElem?_eq_getElem (by omega), (u8_eq (hx _ (List.getElem_mem (by omega))) (hy _ (List.getElem_mem (by omega)))).1 h3]) hne]
  simp only []
  rw [str_get xs i h1, str_get ys i h2]
  by_cases hlt : xs[i] < ys[i]
  · rw [if_pos hlt, if_pos ((u8_lt (hx _ (List.getElem_mem h1)) (hy _ (List.getElem_mem h2))).2 hlt)]
  · rw [if_neg hlt, if_neg fun h => hlt ((u8_lt (hx _ (List.getElem_mem h1)) (hy _ (List.getElem_mem h2))).1 h)]
theorem spec_l3texts (a b : List Int) (ha : a.length ≤ 1000000000) : spec_l3texts.f a b = some (bcmp a b) := by
 unfold spec_l3texts.f
 have key : ∀ (m k : Nat), k + m = a.length → k ≤ b.length → iter (spec_l3texts.b0 a b) (k : Int) = some (bcmp (a.drop k) (b.drop k)) := by
  intro m
  induction m with
  | zero =>
   intro k hk hb
   have : k = a.length := by omega
   subst this
   refine iter_r ?_
   unfold spec_l3texts.b0
   rw [if_neg (by simp), List.drop_length]
   by_cases hl : a.length < b.length
   · rw [if_pos (by simp; omega), List.drop_eq_getElem_cons hl]; rfl
   · rw [if_neg (by simp; omega), if_neg (by simp; omega), List.drop_eq_nil_of_le (by omega)]; rfl
  | succ m ih =>
   intro k hk hb
   have hk1 : k < a.length := by omega
   by_cases hk2 : k < b.length
   · rw [List.drop_eq_getElem_cons hk1, List.drop_eq_getElem_cons hk2]
     unfold bcmp
     by_cases h1 : a[k] < b[k]
     · have hne : (a[k] == b[k]) = false := by simp; omega
       rw [hne, decide_eq_true h1]
       refine iter_r ?_
       unfold spec_l3texts.b0
       rw [if_pos (by simp; omega), if_pos ⟨by omega, by omega⟩, if_pos ⟨by omega, by omega⟩, at_nat _ k hk1, at_nat _ k hk2, if_pos (by simpa using h1)]; rfl
     · by_cases h2 : a[k] > b[k]
       · have hne : (a[k] == b[k]) = false := by simp; omega
         rw [hne, decide_eq_false h1]
         refine iter_r ?_
         unfold spec_l3texts.b0
         rw [if_pos (by simp; omega), if_pos ⟨by omega, by omega⟩, if_pos ⟨by omega, by omega⟩, at_nat _ k hk1, at_nat _ k hk2, if_neg (by simpa using h1), if_pos ⟨by omega, by omega⟩, if_pos ⟨by omega, by omega⟩, if_pos (by simpa using h2)]; rfl
       · have hne : (a[k] == b[k]) = true := by simp; omega
         rw [hne, cond_true, ← ih (k + 1) (by omega) (by omega)]
         refine iter_l ?_
         unfold spec_l3texts.b0
         rw [if_pos (by simp; omega), if_pos ⟨by omega, by omega⟩, if_pos ⟨by omega, by omega⟩, at_nat _ k hk1, at_nat _ k hk2, if_neg (by simpa using h1), if_pos ⟨by omega, by omega⟩, if_pos ⟨by omega, by omega⟩, if_neg (by simpa using h2), w64 (by omega) (by omega)]; rfl
   · refine iter_r ?_
     unfold spec_l3texts.b0
     rw [if_neg (by simp; omega), if_neg (by simp; omega), if_pos (by simp; omega), List.drop_eq_getElem_cons hk1, List.drop_eq_nil_of_le (show b.length ≤ k by omega)]; rfl
 exact key a.length 0 (by omega) (by omega)
theorem cmpI (a b : Int) : cmp_Compare_int.f a b = some (SGN a b) := by
 unfold cmp_Compare_int.f cmp_isNaN_int.f SGN
 simp only [bne_self_eq_false, Option.bind_some, Bool.false_eq_true, if_false, decide_eq_true_eq]
 split
 · rfl
 · split <;> rfl
theorem cmpU (a b : Int) : cmp_Compare_uint64.f a b = some (SGN a b) := by
 unfold cmp_Compare_uint64.f cmp_isNaN_uint64.f SGN
 simp only [bne_self_eq_false, Option.bind_some, Bool.false_eq_true, if_false, decide_eq_true_eq]
 split
 · rfl
 · split <;> rfl
theorem cmpOr (l : List Int) (hl : l.length ≤ 1000) : cmp_Or_int.f l = some (runL (fun (_ : Unit) x => if x ≠ 0 then .inr x else .inl ()) (fun _ => 0) l ()) := by
 unfold cmp_Or_int.f
 refine iter_runL l (fun _ k => (k : Int)) _ _ (fun _ _ => True) (fun s k hk _ => ⟨?_, fun _ _ => trivial⟩) (fun s _ => ?_) () trivial
 · unfold cmp_Or_int.b0
   rw [if_pos (by simp; omega), if_pos ⟨by omega, by omega⟩, at_nat _ k hk, w64 (by omega) (by omega)]
   by_cases h : l[k] = 0
   · rw [if_neg (by simpa using h), if_neg (by simpa using h)]; rfl
   · rw [if_pos (by simpa using h), if_pos (by simpa using h)]
 · unfold cmp_Or_int.b0
   rw [if_neg (by simp)]; rfl
theorem impl_compareItems (a b : Item) (ha : ok_Item a) (hb : ok_Item b) : impl_compareItems.f a b = some (ICM a b) := by
 unfold impl_compareItems.f impl_FloatCompare.f bytes_Compare.f
 rw [cmpI, Option.bind_some, cmpI, Option.bind_some, impl_FloatRank _ ha.2.2.1, Option.bind_some, impl_FloatRank _ hb.2.2.1, Option.bind_some, cmpU, Option.bind_some, Option.bind_some, Option.bind_some, bcmpS_eq _ _ ha.2.2.2.2 hb.2.2.2.2, cmpOr _ (by simp), Option.bind_some]
 congr 1
 unfold ICM runL
 by_cases h1 : a.Kind = b.Kind
 · rw [if_neg (by simpa using sgn_0.2 h1), if_neg (by simpa using h1)]
   simp only []
   unfold runL
   by_cases h2 : a.N = b.N
   · rw [if_neg (by simpa using sgn_0.2 h2), if_neg (by simpa using h2)]
     simp only []
     unfold runL
     by_cases h3 : FRK a.F = FRK b.F
     · rw [if_neg (by simp [sgn_0, h3]), if_neg (by simpa using h3)]
       simp only []
       unfold runL
       by_cases h4 : bcmp a.T b.T = 0
       · rw [if_neg (by simpa using h4)]; simp only []; unfold runL; exact h4.symm
       · rw [if_pos (by simpa using h4)]
     · rw [if_pos (fun h => h3 (by have := sgn_0.1 h; omega)), if_pos h3]
   · rw [if_pos (fun h => h2 (sgn_0.1 h)), if_pos h2]
 · rw [if_pos (fun h => h1 (sgn_0.1 h)), if_pos h1]
theorem spec_FloatCompare (x y : Nat) (hx : okF x) (hy : okF y) : spec_FloatCompare.f x y = some (SGN (FRK x) (FRK y)) := by
 unfold spec_FloatCompare.f SGN
 rw [spec_FloatRank _ hx, Option.bind_some, spec_FloatRank _ hy, Option.bind_some]
 simp only [decide_eq_true_eq]
 split
 · rfl
 · split <;> rfl
theorem spec_ItemCompare (a b : Item) (ha : ok_Item a) (hb : ok_Item b) (va : IOK a = true) (vb : IOK b = true) : spec_ItemCompare.f a b = some (ICM a b) := by
 unfold spec_ItemCompare.f ICM
 rw [spec_ItemOk a ha.2.2.1, Option.bind_some, va, if_neg (by decide), spec_ItemOk b hb.2.2.1, Option.bind_some, vb]
 simp only [Option.bind_some, Bool.not_true, Bool.false_eq_true, if_false]
 by_cases h1 : a.Kind = b.Kind
 · rw [if_neg (show ¬ ((a.Kind != b.Kind) = true) by simpa using h1), if_neg (show ¬ (a.Kind ≠ b.Kind) by simpa using h1)]
   by_cases h2 : a.N = b.N
   · rw [if_neg (show ¬ ((a.N != b.N) = true) by simpa using h2), if_neg (show ¬ (a.N ≠ b.N) by simpa using h2), spec_FloatCompare _ _ ha.2.2.1 hb.2.2.1, Option.bind_some]
     by_cases h3 : FRK a.F = FRK b.F
     · rw [if_neg (by simp [sgn_0, h3]), if_neg (by simpa using h3), spec_l3texts _ _ (by have := iok_T va; omega)]; rfl
     · rw [if_pos (by simp [sgn_0]; omega), if_pos h3]
   · rw [if_pos (show (a.N != b.N) = true by simpa using h2), if_pos (show a.N ≠ b.N from h2)]
     unfold SGN
     simp only [decide_eq_true_eq]
     split
     · rfl
     · rw [if_pos (by omega)]
 · rw [if_pos (show (a.Kind != b.Kind) = true by simpa using h1), if_pos (show a.Kind ≠ b.Kind from h1)]
   unfold SGN
   simp only [decide_eq_true_eq]
   split
   · rfl
   · rw [if_pos (by omega)]
def SPK (s : Span) : Bool := KOK s.From && KOK s.To && decide (ICM s.From s.To ≤ 0)
def INS (a b c : Item) : Bool := KOK a && KOK b && KOK c && decide (ICM a c ≤ 0) && decide (ICM c b ≤ 0)
theorem impl_SpanOk (s : Span) (h : ok_Span s) : impl_SpanOk.f s = some (SPK s) := by
 unfold impl_SpanOk.f SPK
 rw [impl_KeyOk _ h.1.2.2.1, Option.bind_some]
 cases hf : KOK s.From with
 | false => rfl
 | true =>
  rw [if_pos rfl, impl_KeyOk _ h.2.2.2.1, Option.bind_some, Option.bind_some]
  cases ht : KOK s.To with
  | false => rfl
  | true => rw [if_pos rfl, impl_compareItems _ _ h.1 h.2]; rfl
theorem spec_SpanOk (s : Span) (h : ok_Span s) : spec_SpanOk.f s = some (SPK s) := by
 unfold spec_SpanOk.f SPK
 rw [spec_KeyOk _ h.1.2.2.1, Option.bind_some]
 cases hf : KOK s.From with
 | false => rfl
 | true =>
  rw [if_pos rfl, spec_KeyOk _ h.2.2.2.1, Option.bind_some, Option.bind_some]
  cases ht : KOK s.To with
  | false => rfl
  | true => rw [if_pos rfl, spec_ItemCompare _ _ h.1 h.2 (kok_iok hf) (kok_iok ht)]; rfl
theorem impl_InSpan (a b c : Item) (ha : ok_Item a) (hb : ok_Item b) (hc : ok_Item c) : impl_InSpan.f a b c = some (INS a b c) := by
 unfold impl_InSpan.f INS
 rw [impl_KeyOk _ ha.2.2.1, Option.bind_some]
 cases h1 : KOK a with
 | false => rfl
 | true =>
  rw [if_pos rfl, impl_KeyOk _ hb.2.2.1, Option.bind_some, Option.bind_some]
  cases h2 : KOK b with
  | false => rfl
  | true =>
   rw [if_pos rfl, impl_KeyOk _ hc.2.2.1, Option.bind_some, Option.bind_some]
   cases h3 : KOK c with
   | false => rfl
   | true =>
    rw [if_pos rfl, impl_compareItems _ _ ha hc, Option.bind_some, Option.bind_some]
    cases h4 : decide (ICM a c ≤ 0) with
    | false => rfl
    | true => rw [if_pos rfl, impl_compareItems _ _ hc hb]; rfl
theorem spec_InSpan (a b c : Item) (ha : ok_Item a) (hb : ok_Item b) (hc : ok_Item c) : spec_InSpan.f a b c = some (INS a b c) := by
 unfold spec_InSpan.f INS
 rw [spec_KeyOk _ ha.2.2.1, Option.bind_some]
 cases h1 : KOK a with
 | false => rfl
 | true =>
  rw [if_pos rfl, spec_KeyOk _ hb.2.2.1, Option.bind_some, Option.bind_some]
  cases h2 : KOK b with
  | false => rfl
  | true =>
   rw [if_pos rfl, spec_KeyOk _ hc.2.2.1, Option.bind_some, Option.bind_some]
   cases h3 : KOK c with
   | false => rfl
   | true =>
    rw [if_pos rfl, spec_ItemCompare _ _ ha hc (kok_iok h1) (kok_iok h3), Option.bind_some, Option.bind_some]
    cases h4 : decide (ICM a c ≤ 0) with
    | false => rfl
    | true => rw [if_pos rfl, spec_ItemCompare _ _ hc hb (kok_iok h3) (kok_iok h2)]; rfl
end Go.Proofs.YtegicanjlefmdaaGreat
set_option linter.unusedVariables false
set_option linter.unusedSimpArgs false
set_option linter.unusedSectionVars false
namespace Go.Proofs.YtegicanjlefmdaaGreat
open Go V Ieee
def IXF {α : Type} (g : α → Bool) : List α → Int → Int
 | [], _ => -1
 | x :: xs, i => if g x = true then i else IXF g xs (i + 1)
theorem ixf_out {α : Type} (g : α → Bool) : ∀ (xs : List α) (i : Int), (IXF g xs i = -1 ∧ xs.any g = false) ∨ ∃ (k : Nat) (hk : k < xs.length), IXF g xs i = i + k ∧ g xs[k] = true ∧ xs.any g = true ∧ ∀ j (hj : j < k), g (xs[j]'(by omega)) = false
 | [], i => .inl ⟨rfl, rfl⟩
 | x :: xs, i => by
  unfold IXF
  cases hx : g x with
  | true => exact .inr ⟨0, by simp, by simp, by simpa using hx, by simp [hx], fun j hj => by omega⟩
  | false =>
   rw [if_neg (by decide)]
   rcases ixf_out g xs (i + 1) with ⟨h1, h2⟩ | ⟨k, hk, h1, h2, h3, h4⟩
   · exact .inl ⟨h1, by simp [hx, h2]⟩
   · refine .inr ⟨k + 1, by simpa using hk, by omega, by simpa using h2, by simp [h3], fun j hj => ?_⟩
     cases j with
     | zero => simpa using hx
     | succ j => simpa using h4 j (by omega)
theorem ixf_any {α : Type} (g : α → Bool) (xs : List α) : decide (IXF g xs 0 ≥ 0) = xs.any g := by
 rcases ixf_out g xs 0 with ⟨h1, h2⟩ | ⟨k, hk, h1, _, h2, _⟩
 · rw [h1, h2]; rfl
 · rw [h2]; exact decide_eq_true (by omega)
theorem iter_ixf {α : Type} {body : Int → Option (Int ⊕ Int)} (xs : List α) (g : α → Bool) (hb : ∀ (k : Nat) (hk : k < xs.length), body (k : Int) = if g xs[k] = true then some (.inr (k : Int)) else some (.inl ((k : Int) + 1))) (hn : body (xs.length : Int) = some (.inr (-1))) : iter body 0 = some (IXF g xs 0) := by
 have key : ∀ (m k : Nat), k + m = xs.length → iter body (k : Int) = some (IXF g (xs.drop k) (k : Int)) := by
  intro m
  induction m with
  | zero =>
   intro k hk
   have : k = xs.length := by omega
   subst this
   rw [List.drop_length, iter_r hn]; rfl
  | succ m ih =>
   intro k hk
   have hlt : k < xs.length := by omega
   have h := hb k hlt
   rw [List.drop_eq_getElem_cons hlt]
   unfold IXF
   cases hg : g xs[k] with
   | true => rw [hg, if_pos rfl] at h; rw [iter_r h, if_pos rfl]
   | false =>
    rw [hg, if_neg (by decide)] at h
    rw [iter_l h, if_neg (by decide)]
    have := ih (k + 1) (by omega)
    rw [show ((k + 1 : Nat) : Int) = (k : Int) + 1 by omega] at this
    exact this
 have := key xs.length 0 (by omega)
 rwa [List.drop_zero] at this
theorem idxItem (l : List Item) (hl : l.length ≤ 1000000000) (f : Item → Option Bool) (g : Item → Bool) (h : ∀ x ∈ l, f x = some (g x)) : slices_IndexFunc_impl_Item_impl_Item.f l f = some (IXF g l 0) := by
 unfold slices_IndexFunc_impl_Item_impl_Item.f
 refine iter_ixf l g (fun k hk => ?_) ?_
 · unfold slices_IndexFunc_impl_Item_impl_Item.b0
   rw [if_pos (by simp; omega), if_pos ⟨by omega, by omega⟩, at_nat _ k hk]
   rw [h _ (List.getElem_mem hk), Option.bind_some, w64 (by omega) (by omega)]
 · unfold slices_IndexFunc_impl_Item_impl_Item.b0
   rw [if_neg (by simp)]; rfl
theorem cntItem (l : List Item) (hl : l.length ≤ 1000000000) (f : Item → Option Bool) (g : Item → Bool) (h : ∀ x ∈ l, f x = some (g x)) : slices_ContainsFunc_impl_Item_impl_Item.f l f = some (l.any g) := by
 unfold slices_ContainsFunc_impl_Item_impl_Item.f
 rw [idxItem l hl f g h, Option.bind_some, ixf_any]
theorem allItem (l : List Item) (hl : l.length ≤ 1000000000) (f : Item → Option Bool) (g : Item → Bool) (h : ∀ x ∈ l, f x = some (g x)) : impl_areAll_impl_Item.f l f = some (l.all g) := by
 unfold impl_areAll_impl_Item.f
 rw [cntItem l hl _ (fun x => !g x) (fun x hx => by unfold impl_areAll_impl_Item_1.f; rw [h x hx]; rfl), Option.bind_some]
 simp [List.any_eq_not_all_not]
theorem idxSpan (l : List Span) (hl : l.length ≤ 1000000000) (f : Span → Option Bool) (g : Span → Bool) (h : ∀ x ∈ l, f x = some (g x)) : slices_IndexFunc_impl_Span_impl_Span.f l f = some (IXF g l 0) := by
 unfold slices_IndexFunc_impl_Span_impl_Span.f
 refine iter_ixf l g (fun k hk => ?_) ?_
 · unfold slices_IndexFunc_impl_Span_impl_Span.b0
   rw [if_pos (by simp; omega), if_pos ⟨by omega, by omega⟩, at_nat _ k hk]
   rw [h _ (List.getElem_mem hk), Option.bind_some, w64 (by omega) (by omega)]
 · unfold slices_IndexFunc_impl_Span_impl_Span.b0
   rw [if_neg (by simp)]; rfl
theorem cntSpan (l : List Span) (hl : l.length ≤ 1000000000) (f : Span → Option Bool) (g : Span → Bool) (h : ∀ x ∈ l, f x = some (g x)) : slices_ContainsFunc_impl_Span_impl_Span.f l f = some (l.any g) := by
 unfold slices_ContainsFunc_impl_Span_impl_Span.f
 rw [idxSpan l hl f g h, Option.bind_some, ixf_any]
theorem allSpan (l : List Span) (hl : l.length ≤ 1000000000) (f : Span → Option Bool) (g : Span → Bool) (h : ∀ x ∈ l, f x = some (g x)) : impl_areAll_impl_Span.f l f = some (l.all g) := by
 unfold impl_areAll_impl_Span.f
 rw [cntSpan l hl _ (fun x => !g x) (fun x hx => by unfold impl_areAll_impl_Span_1.f; rw [h x hx]; rfl), Option.bind_some]
 simp [List.any_eq_not_all_not]
theorem mset_any {m : MD} (h : ∀ p ∈ m, p.2 = true) (k : Int) : mget m k = decide (k ∈ m.map (·.1)) := by
 rw [mget_all h]
 induction m with
 | nil => rfl
 | cons p m ih =>
  rw [List.any_cons, ih fun q hq => h q (by simp [hq])]
  by_cases hk : k = p.1 <;> simp [hk]
theorem runL_diff {α : Type} (key : α → Int) : ∀ (xs : List α) (m : MD), (∀ p ∈ m, p.2 = true) → (m.map (·.1)).Nodup →
    runL (fun (m : MD) x => if mget m (key x) = true then .inr false else .inl (mset m (key x) true)) (fun _ => true) xs m = decide ((m.map (·.1) ++ xs.map key).Nodup)
  | [], m, h, hn => by unfold runL; simpa using hn
  | x :: xs, m, h, hn => by
    unfold runL
    rw [mset_any h]
    by_cases hk : key x ∈ m.map (·.1)
    · rw [if_pos (by simpa using hk)]
      refine (decide_eq_false fun hd => ?_).symm
      rw [List.nodup_append] at hd
      exact hd.2.2 _ hk (key x) (by simp) rfl
    · rw [if_neg (by simpa using hk)]
      have hnew : mset m (key x) true = m ++ [(key x, true)] := by
        refine mset_new ?_ _
        rw [← mget_all h, mset_any h]; exact decide_eq_false hk
      simp only []
      rw [hnew, runL_diff key xs _ (fun p hp => by
        rcases List.mem_append.1 hp with hp | hp
        · exact h p hp
        · simp at hp; rw [hp]) (by
        rw [List.map_append, List.nodup_append]
        exact ⟨hn, by simp, fun a ha b hb hab => by simp at hb; subst hb; subst hab; exact hk ha⟩)]
      congr 1
      simp
end Go.Proofs.YtegicanjlefmdaaGreat
set_option linter.unusedVariables false
set_option linter.unusedSimpArgs false
set_option linter.unusedSectionVars false
namespace Go.Proofs.YtegicanjlefmdaaGreat
open Go V Ieee
def okDd (d : Deed) : Prop := ok_Deed d ∧ d.Reads.length ≤ 1048576 ∧ d.Writes.length ≤ 1048576
def DO1 (d : Deed) : Bool := decide (d.Begun ≥ 1) && decide (d.Ended > d.Begun) && decide ((d.Reads.length : Int) ≤ 200) && d.Reads.all SPK && decide ((d.Writes.length : Int) ≤ 200) && d.Writes.all KOK
def TMS (l : List Deed) : List Int := l.flatMap fun d => [d.Begun, d.Ended]
def DKK (l : List Deed) : Bool := decide (l.length ≤ 100) && l.all DO1 && decide ((TMS l).Nodup)
theorem impl_isDeed (d : Deed) (h : okDd d) : impl_isDeed.f d = some (DO1 d) := by
 unfold impl_isDeed.f DO1
 rw [allSpan _ (by have := h.2.1; omega) _ SPK (fun s hs => impl_SpanOk s (h.1.2.2.2.1.2 s hs)), allItem _ (by have := h.2.2; omega) _ KOK (fun s hs => impl_KeyOk s (h.1.2.2.2.2.2 s hs).2.2.1)]
 cases hb : (decide (d.Begun ≥ (1 : Int)) && decide (d.Ended > d.Begun) && decide ((d.Reads.length : Int) ≤ (200 : Int))) with
 | false => rfl
 | true =>
  rw [if_pos rfl, Option.bind_some, Option.bind_some]
  cases hs : (d.Reads.all SPK && decide ((d.Writes.length : Int) ≤ (200 : Int))) with
  | false => rw [Bool.and_assoc true, hs]; rfl
  | true => rw [if_pos rfl, Bool.and_assoc true, hs]; rfl
theorem diffInt (l : List Int) (hl : l.length ≤ 1000000000) : impl_areDifferent_int.f l impl_DeedsOk_1.f = some (decide l.Nodup) := by
 unfold impl_areDifferent_int.f
 have := iter_runL (body := impl_areDifferent_int.b0 l impl_DeedsOk_1.f) l (fun (m : MD) (k : Nat) => ((k : Int), m)) (fun (m : MD) x => if mget m x = true then .inr false else .inl (mset m x true)) (fun _ => true) (fun _ _ => True) (fun s k hk _ => ⟨?_, fun _ _ => trivial⟩) (fun s _ => ?_) [] trivial
 · refine this.trans ?_
   rw [runL_diff (fun x => x) l [] (fun p hp => by cases hp) (by simp)]
   simp
 · unfold impl_areDifferent_int.b0 impl_DeedsOk_1.f
   simp only []
   rw [if_pos (by simp; omega), if_pos ⟨by omega, by omega⟩, at_nat _ k hk, Option.bind_some]
   cases mget s l[k] with
   | true => rfl
   | false => rw [if_neg (by decide), Option.bind_some, w64 (by omega) (by omega)]; rfl
 · unfold impl_areDifferent_int.b0
   simp only []
   rw [if_neg (by simp)]; rfl
theorem idxDeed (l : List Deed) (hl : l.length ≤ 1000000000) (f : Deed → Option Bool) (g : Deed → Bool) (h : ∀ x ∈ l, f x = some (g x)) : impl_areAll_impl_Deed.f l f = some (l.all g) := by
 unfold impl_areAll_impl_Deed.f slices_ContainsFunc_impl_Deed_impl_Deed.f slices_IndexFunc_impl_Deed_impl_Deed.f
 have := iter_ixf (body := slices_IndexFunc_impl_Deed_impl_Deed.b0 l (fun x0 => impl_areAll_impl_Deed_1.f x0 f)) l (fun x => !g x) (fun k hk => by
  unfold slices_IndexFunc_impl_Deed_impl_Deed.b0 impl_areAll_impl_Deed_1.f
  rw [if_pos (by simp; omega), if_pos ⟨by omega, by omega⟩, at_nat _ k hk]
  simp only [h _ (List.getElem_mem hk), Option.bind_some]
  rw [w64 (by omega) (by omega)]) (by
  unfold slices_IndexFunc_impl_Deed_impl_Deed.b0
  rw [if_neg (by simp)]; rfl)
 rw [this, Option.bind_some, ixf_any, Option.bind_some]
 simp [List.any_eq_not_all_not]
theorem runL_tms : ∀ (l : List Deed) (ts : List Int), runL (O := Bool) (fun (ts : List Int) d => .inl (ts ++ [d.Begun, d.Ended])) (fun ts => decide ts.Nodup) l ts = decide ((ts ++ TMS l).Nodup)
 | [], ts => by unfold runL; simp [TMS]
 | d :: l, ts => by
  unfold runL
  simp only []
  rw [runL_tms l]
  congr 2
  simp [TMS]
theorem impl_DeedsOk (l : List Deed) (h : ∀ d ∈ l, okDd d) : impl_DeedsOk.f l = some (DKK l) := by
 unfold impl_DeedsOk.f DKK
 by_cases hl : l.length ≤ 100
 · rw [if_neg (by simp; omega), idxDeed l (by omega) _ DO1 (fun d hd => impl_isDeed d (h d hd)), Option.bind_some, Option.bind_some, decide_eq_true hl]
   cases ha : l.all DO1 with
   | false => rfl
   | true =>
    rw [if_neg (by decide)]
    have := iter_runL (body := impl_DeedsOk.b0 l) l (fun (ts : List Int) (k : Nat) => (ts, (k : Int))) (fun ts d => .inl (ts ++ [d.Begun, d.Ended])) (fun ts => decide ts.Nodup) (fun ts k => ts.length = 2 * k) (fun s k hk hI => ⟨?_, fun s' hs' => ?_⟩) (fun s hI => ?_) [] rfl
    · refine this.trans ?_
      rw [runL_tms]; simp
    · unfold impl_DeedsOk.b0
      simp only []
      rw [if_pos (by simp; omega), if_pos ⟨by omega, by omega⟩, at_nat _ k hk, if_pos (by simp [Lim]; omega), w64 (by omega) (by omega)]; rfl
    · simp only [Sum.inl.injEq] at hs'
      rw [← hs', List.length_append, hI]; simp; omega
    · unfold impl_DeedsOk.b0
      simp only []
      rw [if_neg (by simp), diffInt _ (by omega)]; rfl
 · rw [if_pos (by simp; omega), decide_eq_false hl]; rfl
def specD : List Deed → List Int → Bool
 | [], _ => true
 | d :: l, ts => DO1 d && !(ts.any fun t => t == d.Begun || t == d.Ended) && specD l (ts ++ [d.Begun, d.Ended])
theorem specD_eq : ∀ (l : List Deed) (ts : List Int), ts.Nodup → specD l ts = (l.all DO1 && decide ((ts ++ TMS l).Nodup))
 | [], ts, h => by simp [specD, TMS, h]
 | d :: l, ts, h => by
  unfold specD
  rw [List.all_cons]
  cases hd : DO1 d with
  | false => rfl
  | true =>
   have hne : d.Begun ≠ d.Ended := by
    simp only [DO1, Bool.and_eq_true, decide_eq_true_eq] at hd
    omega
   have e : ts ++ TMS (d :: l) = (ts ++ [d.Begun, d.Ended]) ++ TMS l := by simp [TMS]
   rw [e]
   cases hany : ts.any (fun t => t == d.Begun || t == d.Ended) with
   | true =>
    have hno : ¬ ((ts ++ [d.Begun, d.Ended]) ++ TMS l).Nodup := fun hn => by
     obtain ⟨t, ht, he⟩ := List.any_eq_true.1 hany
     have h2 := (List.nodup_append.1 (List.nodup_append.1 hn).1).2.2 t ht
     simp only [Bool.or_eq_true, beq_iff_eq] at he
     rcases he with he | he
     · exact h2 _ (by simp) he
     · exact h2 d.Ended (by simp) he
    rw [decide_eq_false hno]; simp
   | false =>
    have hn2 : (ts ++ [d.Begun, d.Ended]).Nodup := by
     refine List.nodup_append.2 ⟨h, by simp [hne], fun a ha b hb hab => ?_⟩
     have := List.any_eq_false.1 hany a ha
     simp only [Bool.or_eq_true, beq_iff_eq, not_or] at this
     subst hab
     simp at hb
     rcases hb with hb | hb
     · exact this.1 hb
     · exact this.2 hb
    rw [specD_eq l _ hn2]; simp
theorem spec_DeedsOk (l : List Deed) (h : ∀ d ∈ l, okDd d) : spec_DeedsOk.f l = some (DKK l) := by
 unfold spec_DeedsOk.f DKK
 by_cases hl : l.length ≤ 100
 · rw [if_neg (by simp; omega), decide_eq_true hl, Bool.true_and]
   have hr : ∀ (xs : List Deed) (ts : List Int), runL (σ := List Int) (fun ts d => if DO1 d && !(ts.any fun t => t == d.Begun || t == d.Ended) then .inl (ts ++ [d.Begun, d.Ended]) else .inr false) (fun _ => true) xs ts = specD xs ts := by
    intro xs
    induction xs with
    | nil => intro ts; rfl
    | cons d xs ih =>
     intro ts
     unfold runL specD
     cases hc : DO1 d && !(ts.any fun t => t == d.Begun || t == d.Ended) with
     | false => rfl
     | true => rw [if_pos rfl]; simpa using ih _
   have := iter_runL (body := spec_DeedsOk.b0 l) l (fun (ts : List Int) (k : Nat) => (ts, (k : Int))) (fun ts d => if DO1 d && !(ts.any fun t => t == d.Begun || t == d.Ended) then .inl (ts ++ [d.Begun, d.Ended]) else .inr false) (fun _ => true) (fun ts k => ts.length = 2 * k) (fun s k hk hI => ⟨?_, fun s' hs' => ?_⟩) (fun s hI => ?_) [] rfl
   · refine this.trans ?_
     rw [hr, specD_eq _ _ (by simp)]; simp
   · have hd := h _ (List.getElem_mem hk)
     generalize hdd : l[k] = d at hd
     have hrd := hd.2.1
     have hwr := hd.2.2
     have h3 : iter (spec_DeedsOk.b3 l (s, (k : Int))) (0 : Int) = some (if s.any (fun t => t == d.Begun || t == d.Ended) = true then .inr false else .inl (s ++ [d.Begun, d.Ended], (k : Int) + 1)) := by
      refine iter_test s _ _ _ (fun j hj => ?_) ?_
      · unfold spec_DeedsOk.b3
        simp only []
        rw [if_pos (show decide ((j : Int) < (s.length : Int)) = true by simp; omega), if_pos (show 0 ≤ (j : Int) ∧ (j : Int) < (s.length : Int) by omega), at_nat _ j hj, at_nat _ k hk, hdd]
        cases h1 : s[j] == d.Begun with
        | true => rfl
        | false =>
         rw [if_neg (by simp), if_pos (show 0 ≤ (j : Int) ∧ (j : Int) < (s.length : Int) by omega), Option.bind_some, Bool.false_or]
         cases h2 : s[j] == d.Ended with
         | true => rfl
         | false => rw [if_neg (by simp), if_neg (by simp), w64 (by omega) (by omega)]
      · unfold spec_DeedsOk.b3
        simp only []
        rw [if_neg (by simp), at_nat _ k hk, hdd, if_pos (by simp [Lim]; omega), if_pos (by simp [Lim]; omega), w64 (by omega) (by omega)]
        simp
     have h2 : iter (spec_DeedsOk.b2 l (s, (k : Int))) (0 : Int) = some (if d.Writes.any (fun x => !KOK x) = true then .inr false else if s.any (fun t => t == d.Begun || t == d.Ended) = true then .inr false else .inl (s ++ [d.Begun, d.Ended], (k : Int) + 1)) := by
      refine iter_test d.Writes _ _ _ (fun j hj => ?_) ?_
      · unfold spec_DeedsOk.b2
        simp only []
        rw [at_nat _ k hk, hdd, if_pos (show decide ((j : Int) < (d.Writes.length : Int)) = true by simp; omega), if_pos (show 0 ≤ (j : Int) ∧ (j : Int) < (d.Writes.length : Int) by omega), at_nat _ j hj, spec_KeyOk _ (hd.1.2.2.2.2.2 _ (List.getElem_mem hj)).2.2.1, Option.bind_some, w64 (by omega) (by omega)]
      · unfold spec_DeedsOk.b2
        simp only []
        rw [at_nat _ k hk, hdd, if_neg (by simp), h3]; rfl
     have h1 : iter (spec_DeedsOk.b1 l (s, (k : Int))) (0 : Int) = some (if d.Reads.any (fun x => !SPK x) = true then .inr false else if d.Writes.any (fun x => !KOK x) = true then .inr false else if s.any (fun t => t == d.Begun || t == d.Ended) = true then .inr false else .inl (s ++ [d.Begun, d.Ended], (k : Int) + 1)) := by
      refine iter_test d.Reads _ _ _ (fun j hj => ?_) ?_
      · unfold spec_DeedsOk.b1
        simp only []
        rw [at_nat _ k hk, hdd, if_pos (show decide ((j : Int) < (d.Reads.length : Int)) = true by simp; omega), if_pos (show 0 ≤ (j : Int) ∧ (j : Int) < (d.Reads.length : Int) by omega), at_nat _ j hj]
        rw [spec_SpanOk _ (hd.1.2.2.2.1.2 _ (List.getElem_mem hj)), Option.bind_some, w64 (by omega) (by omega)]
      · unfold spec_DeedsOk.b1
        simp only []
        rw [at_nat _ k hk, hdd, if_neg (by simp), h2]; rfl
     unfold spec_DeedsOk.b0
     simp only []
     rw [if_pos (by simp; omega), if_pos ⟨by omega, by omega⟩, h1, at_nat _ k hk, hdd]
     have ea : d.Reads.all SPK = !d.Reads.any (fun x => !SPK x) := by simp [List.any_eq_not_all_not]
     have eb : d.Writes.all KOK = !d.Writes.any (fun x => !KOK x) := by simp [List.any_eq_not_all_not]
     unfold DO1
     rw [ea, eb]
     by_cases c1 : d.Begun ≥ 1 ∧ d.Ended > d.Begun ∧ (d.Reads.length : Int) ≤ 200 ∧ (d.Writes.length : Int) ≤ 200
     · rw [if_neg (by simp; omega), decide_eq_true c1.1, decide_eq_true c1.2.1, decide_eq_true c1.2.2.1, decide_eq_true c1.2.2.2]
       cases d.Reads.any (fun x => !SPK x) <;> cases d.Writes.any (fun x => !KOK x) <;> cases s.any (fun t => t == d.Begun || t == d.Ended) <;> rfl
     · rw [if_pos (by simp; omega)]
       have : (decide (d.Begun ≥ 1) && decide (d.Ended > d.Begun) && decide ((d.Reads.length : Int) ≤ 200) && decide ((d.Writes.length : Int) ≤ 200)) = false := by
        cases hb : (decide (d.Begun ≥ 1) && decide (d.Ended > d.Begun) && decide ((d.Reads.length : Int) ≤ 200) && decide ((d.Writes.length : Int) ≤ 200)) with
        | false => rfl
        | true =>
         simp only [Bool.and_eq_true, decide_eq_true_eq] at hb
         exact absurd ⟨hb.1.1.1, hb.1.1.2, hb.1.2, hb.2⟩ c1
       revert this
       cases decide (d.Begun ≥ 1) <;> cases decide (d.Ended > d.Begun) <;> cases decide ((d.Reads.length : Int) ≤ 200) <;> cases decide ((d.Writes.length : Int) ≤ 200) <;> cases d.Reads.any (fun x => !SPK x) <;> cases d.Writes.any (fun x => !KOK x) <;> cases s.any (fun t => t == d.Begun || t == d.Ended) <;> intro this <;> first | rfl | cases this
   · split at hs'
     · simp only [Sum.inl.injEq] at hs'
       rw [← hs', List.length_append, hI]; simp; omega
     · cases hs'
   · unfold spec_DeedsOk.b0
     simp only []
     rw [if_neg (by simp)]; rfl
 · rw [if_pos (by simp; omega), decide_eq_false hl]; rfl
end Go.Proofs.YtegicanjlefmdaaGreat
set_option linter.unusedVariables false
set_option linter.unusedSimpArgs false
set_option linter.unusedSectionVars false
namespace Go.Proofs.YtegicanjlefmdaaGreat
open Go V Ieee
def HAS (ws : List Item) (k : Item) : Bool := ws.any fun a => ICM a k == 0
def RDS (d : Deed) (k : Item) : Bool := d.Reads.any fun s => INS s.From s.To k
def EDG (a b : Deed) : Bool := (decide (a.Ended < b.Ended) && a.Writes.any (HAS b.Writes)) || (decide (a.Ended < b.Begun) && a.Writes.any (RDS b)) || (decide (b.Ended > a.Begun) && b.Writes.any (RDS a))
structure VD (d : Deed) : Prop where
 ok : okDd d
 v : DO1 d = true
theorem VD.w {d : Deed} (h : VD d) : ∀ x ∈ d.Writes, ok_Item x ∧ KOK x = true := fun x hx => by
 have := h.v
 simp only [DO1, Bool.and_eq_true] at this
 exact ⟨h.ok.1.2.2.2.2.2 x hx, List.all_eq_true.1 this.2 x hx⟩
theorem VD.r {d : Deed} (h : VD d) : ∀ x ∈ d.Reads, ok_Span x := h.ok.1.2.2.2.1.2
theorem VD.wl {d : Deed} (h : VD d) : d.Writes.length ≤ 200 := by
 have := h.v
 simp only [DO1, Bool.and_eq_true, decide_eq_true_eq] at this
 omega
theorem VD.rl {d : Deed} (h : VD d) : d.Reads.length ≤ 200 := by
 have := h.v
 simp only [DO1, Bool.and_eq_true, decide_eq_true_eq] at this
 omega
theorem impl_writes (d : Deed) (k : Item) (h : VD d) (hk : ok_Item k) : impl_Deed_writes.f d k = some (HAS d.Writes k) := by
 unfold impl_Deed_writes.f
 rw [cntItem _ (by have := h.wl; omega) _ (fun a => ICM a k == 0) (fun x hx => by unfold impl_Deed_writes_1.f; rw [impl_compareItems _ _ (h.w x hx).1 hk]; rfl)]; rfl
theorem impl_readsKey (d : Deed) (k : Item) (h : VD d) (hk : ok_Item k) : impl_Deed_readsKey.f d k = some (RDS d k) := by
 unfold impl_Deed_readsKey.f
 rw [cntSpan _ (by have := h.rl; omega) _ (fun s => INS s.From s.To k) (fun x hx => by
  unfold impl_Deed_readsKey_1.f impl_Span_has.f
  rw [impl_InSpan _ _ _ (h.r x hx).1 (h.r x hx).2 hk]; rfl)]; rfl
theorem impl_isAhead (a b : Deed) (ha : VD a) (hb : VD b) : impl_isAhead.f a b = some (EDG a b) := by
 unfold impl_isAhead.f EDG
 rw [cntItem _ (by have := ha.wl; omega) _ (HAS b.Writes) (fun x hx => impl_writes b x hb (ha.w x hx).1), cntItem _ (by have := ha.wl; omega) _ (RDS b) (fun x hx => impl_readsKey b x hb (ha.w x hx).1), cntItem _ (by have := hb.wl; omega) _ (RDS a) (fun x hx => impl_readsKey a x ha (hb.w x hx).1)]
 cases decide (a.Ended < b.Ended) <;> cases decide (a.Ended < b.Begun) <;> cases decide (b.Ended > a.Begun) <;> cases a.Writes.any (HAS b.Writes) <;> cases a.Writes.any (RDS b) <;> cases b.Writes.any (RDS a) <;> rfl
theorem spec_has (ws : List Item) (k : Item) (hl : ws.length ≤ 1048576) (hw : ∀ x ∈ ws, ok_Item x ∧ KOK x = true) (hk : ok_Item k) (vk : KOK k = true) : spec_l13has.f ws k = some (HAS ws k) := by
 unfold spec_l13has.f HAS
 refine (iter_test ws (fun a => ICM a k == 0) true false (fun j hj => ?_) ?_).trans ?_
 · unfold spec_l13has.b0
   rw [if_pos (show decide ((j : Int) < (ws.length : Int)) = true by simp; omega), if_pos (show 0 ≤ (j : Int) ∧ (j : Int) < (ws.length : Int) by omega), at_nat _ j hj, spec_ItemCompare _ _ (hw _ (List.getElem_mem hj)).1 hk (kok_iok (hw _ (List.getElem_mem hj)).2) (kok_iok vk), Option.bind_some, w64 (by omega) (by omega)]
 · unfold spec_l13has.b0
   rw [if_neg (by simp)]; rfl
 · cases ws.any (fun a => ICM a k == 0) <;> rfl
theorem spec_reads (d : Deed) (k : Item) (h : VD d) (hk : ok_Item k) : spec_l14reads.f d k = some (RDS d k) := by
 have hl := h.rl
 unfold spec_l14reads.f RDS
 refine (iter_test d.Reads (fun s => INS s.From s.To k) true false (fun j hj => ?_) ?_).trans ?_
 · unfold spec_l14reads.b0
   rw [if_pos (show decide ((j : Int) < (d.Reads.length : Int)) = true by simp; omega), if_pos (show 0 ≤ (j : Int) ∧ (j : Int) < (d.Reads.length : Int) by omega), if_pos (show 0 ≤ (j : Int) ∧ (j : Int) < (d.Reads.length : Int) by omega), at_nat _ j hj, spec_InSpan _ _ _ (h.r _ (List.getElem_mem hj)).1 (h.r _ (List.getElem_mem hj)).2 hk, Option.bind_some, w64 (by omega) (by omega)]
 · unfold spec_l14reads.b0
   rw [if_neg (by simp)]; rfl
 · cases d.Reads.any (fun s => INS s.From s.To k) <;> rfl
theorem anyOr {α : Type} (f g : α → Bool) (l : List α) : l.any (fun x => f x || g x) = (l.any f || l.any g) := by
 induction l with
 | nil => rfl
 | cons x l ih =>
  simp only [List.any_cons, ih]
  cases f x <;> cases g x <;> cases l.any f <;> rfl
theorem spec_edge (a b : Deed) (ha : VD a) (hb : VD b) : spec_l14edge.f a b = some (EDG a b) := by
 have hal := ha.wl
 have hbl := hb.wl
 unfold spec_l14edge.f
 have h1 : iter (spec_l14edge.b1 a b) (0 : Int) = some (if b.Writes.any (fun x => decide (b.Ended > a.Begun) && RDS a x) = true then true else false) := by
  refine iter_test b.Writes _ _ _ (fun j hj => ?_) ?_
  · unfold spec_l14edge.b1
    rw [if_pos (show decide ((j : Int) < (b.Writes.length : Int)) = true by simp; omega), if_pos (show 0 ≤ (j : Int) ∧ (j : Int) < (b.Writes.length : Int) by omega), at_nat _ j hj, spec_reads a _ ha (hb.w _ (List.getElem_mem hj)).1, w64 (by omega) (by omega)]
    cases decide (b.Ended > a.Begun) <;> cases RDS a b.Writes[j] <;> rfl
  · unfold spec_l14edge.b1
    rw [if_neg (by simp)]; rfl
 have h0 : iter (spec_l14edge.b0 a b) (0 : Int) = some (if a.Writes.any (fun x => (decide (a.Ended < b.Ended) && HAS b.Writes x) || (decide (a.Ended < b.Begun) && RDS b x)) = true then true else if b.Writes.any (fun x => decide (b.Ended > a.Begun) && RDS a x) = true then true else false) := by
  refine iter_test a.Writes _ _ _ (fun j hj => ?_) ?_
  · unfold spec_l14edge.b0
    have hw := ha.w _ (List.getElem_mem hj)
    rw [if_pos (show decide ((j : Int) < (a.Writes.length : Int)) = true by simp; omega), if_pos (show 0 ≤ (j : Int) ∧ (j : Int) < (a.Writes.length : Int) by omega), if_pos (show 0 ≤ (j : Int) ∧ (j : Int) < (a.Writes.length : Int) by omega), at_nat _ j hj, spec_reads b _ hb hw.1, spec_has _ _ (by omega) hb.w hw.1 hw.2, w64 (by omega) (by omega)]
    cases decide (a.Ended < b.Ended) <;> cases decide (a.Ended < b.Begun) <;> cases HAS b.Writes a.Writes[j] <;> cases RDS b a.Writes[j] <;> rfl
  · unfold spec_l14edge.b0
    rw [if_neg (by simp), h1]; rfl
 rw [h0]
 unfold EDG
 have e1 : a.Writes.any (fun x => (decide (a.Ended < b.Ended) && HAS b.Writes x) || (decide (a.Ended < b.Begun) && RDS b x)) = ((decide (a.Ended < b.Ended) && a.Writes.any (HAS b.Writes)) || (decide (a.Ended < b.Begun) && a.Writes.any (RDS b))) := by
  rw [anyOr]
  cases decide (a.Ended < b.Ended) <;> cases decide (a.Ended < b.Begun) <;> simp
 have e2 : b.Writes.any (fun x => decide (b.Ended > a.Begun) && RDS a x) = (decide (b.Ended > a.Begun) && b.Writes.any (RDS a)) := by
  cases decide (b.Ended > a.Begun) <;> simp
 rw [e1, e2]
 cases ((decide (a.Ended < b.Ended) && a.Writes.any (HAS b.Writes)) || (decide (a.Ended < b.Begun) && a.Writes.any (RDS b))) <;> cases (decide (b.Ended > a.Begun) && b.Writes.any (RDS a)) <;> rfl
section
variable (l : List Deed)
def AB (a b : Nat) : Bool := decide (a ≠ b) && EDG (at_ l (a : Int)) (at_ l (b : Int))
def AHp (b k : Nat) : List Int := ((List.range k).filter fun a => AB l a b).map fun a : Nat => (a : Int)
def AH : List (List Int) := (List.range l.length).map fun b => AHp l b l.length
theorem ahp_succ (b k : Nat) : AHp l b (k + 1) = if AB l k b = true then AHp l b k ++ [(k : Int)] else AHp l b k := by
 unfold AHp
 rw [List.range_succ, List.filter_append, List.map_append]
 cases h : AB l k b <;> simp [h]
theorem ahp_len (b k : Nat) : (AHp l b k).length ≤ k := by
 unfold AHp
 rw [List.length_map]
 exact Nat.le_trans (List.length_filter_le _ _) (by simp)
def AHs (b k : Nat) : List (List Int) := (List.range l.length).map fun j => if j < b then AHp l j l.length else if j = b then AHp l j k else []
theorem ahs_len (b k : Nat) : (AHs l b k).length = l.length := by simp [AHs]
theorem ahs_at (b k : Nat) (hb : b < l.length) : at_ (AHs l b k) (b : Int) = AHp l b k := by
 rw [at_nat _ b (by rw [ahs_len]; exact hb)]; simp [AHs]
theorem ahs_set (b k : Nat) (hb : b < l.length) : (AHs l b k).set b (AHp l b (k + 1)) = AHs l b (k + 1) := by
 apply List.ext_getElem?
 intro j
 by_cases hj : j = b
 · subst hj
   rw [List.getElem?_set_self (by rw [ahs_len]; exact hb)]
   simp [AHs, hb]
 · rw [List.getElem?_set_ne (by omega)]
   simp only [AHs, List.getElem?_map]
   by_cases hjl : j < l.length
   · rw [List.getElem?_range hjl]; simp [hj]
   · rw [List.getElem?_eq_none (by simp; omega)]; rfl
theorem ahs_same (b k : Nat) (hb : b < l.length) (h : AB l k b = false) : AHs l b k = AHs l b (k + 1) := by
 rw [← ahs_set l b k hb, ahp_succ, h]
 simp only [Bool.false_eq_true, if_false]
 rw [← ahs_at l b k hb, at_nat _ b (by rw [ahs_len]; exact hb), List.set_getElem_self]
theorem ahs_next (b : Nat) : AHs l b l.length = AHs l (b + 1) 0 := by
 unfold AHs
 refine List.map_congr_left fun j hj => ?_
 by_cases h1 : j < b
 · rw [if_pos h1, if_pos (by omega)]
 · by_cases h2 : j = b
   · subst h2; rw [if_neg h1, if_pos rfl, if_pos (by omega)]
   · rw [if_neg h1, if_neg h2, if_neg (by omega)]
     by_cases h3 : j = b + 1
     · rw [if_pos h3]; rfl
     · rw [if_neg h3]
theorem ahs_start : AHs l 0 0 = List.replicate l.length [] := by
 apply List.ext_getElem?
 intro j
 simp only [AHs, List.getElem?_map]
 by_cases hjl : j < l.length
 · rw [List.getElem?_range hjl, List.getElem?_replicate, if_pos hjl]
   by_cases h : j = 0
   · subst h; rfl
   · simp [h]
 · rw [List.getElem?_eq_none (by simp; omega), List.getElem?_replicate, if_neg hjl]; rfl
theorem ahs_end : AHs l l.length 0 = AH l := by
 unfold AHs AH
 refine List.map_congr_left fun j hj => ?_
 rw [if_pos (List.mem_range.1 hj)]
variable (hv : ∀ d ∈ l, VD d) (hl : l.length ≤ 100)
include hv hl
theorem impl_ahead : impl_ahead.f l = some (AH l) := by
 unfold impl_ahead.f
 rw [if_pos ⟨by omega, by simp only [Lim]; omega⟩]
 have hin : ∀ b, b < l.length → iter (impl_ahead.b1 l (AHs l b 0, (b : Int))) (AHs l b 0, (0 : Int)) = some (.inl (AHs l (b + 1) 0, ((b + 1 : Nat) : Int))) := fun b hb => by
  have := iter_for (body := impl_ahead.b1 l (AHs l b 0, (b : Int))) l.length (fun k => (AHs l b k, (k : Int))) (.inl (AHs l (b + 1) 0, ((b + 1 : Nat) : Int))) (fun k hk => ?_) ?_
  · exact this
  · unfold impl_ahead.b1
    simp only []
    rw [if_pos (show decide ((k : Int) < (l.length : Int)) = true by simp; omega)]
    have hm : ∀ j (hj : j < l.length), at_ l (j : Int) ∈ l := fun j hj => by rw [at_nat _ j hj]; exact List.getElem_mem _
    have hlen := ahp_len l b k
    by_cases hkb : k = b
    · subst hkb
      rw [if_neg (by simp), Option.bind_some, if_neg (by decide), Option.bind_some, ahs_same l k k hk (by simp [AB]), w64 (by omega) (by omega)]; rfl
    · rw [if_pos (show ((k : Int) != (b : Int)) = true by simp; omega), if_pos (show 0 ≤ (k : Int) ∧ (k : Int) < (l.length : Int) by omega), if_pos (show 0 ≤ (b : Int) ∧ (b : Int) < (l.length : Int) by omega), impl_isAhead _ _ (hv _ (hm k hk)) (hv _ (hm b hb)), Option.bind_some, Option.bind_some]
      have hab : AB l k b = EDG (at_ l (k : Int)) (at_ l (b : Int)) := by simp [AB, hkb]
      cases he : EDG (at_ l (k : Int)) (at_ l (b : Int)) with
      | false =>
       rw [he] at hab
       rw [if_neg (by decide), Option.bind_some, ahs_same l b k hb hab, w64 (by omega) (by omega)]; rfl
      | true =>
       rw [he] at hab
       rw [if_pos rfl, if_pos (by rw [ahs_len]; omega), ahs_at l b k hb, if_pos (by simp [Lim]; omega), if_pos (by rw [ahs_len]; omega), Option.bind_some, w64 (by omega) (by omega)]
       have hst : (AHs l b k).set (b : Int).toNat (AHp l b k ++ [(k : Int)]) = AHs l b (k + 1) := by
        rw [← ahs_set l b k hb, ahp_succ, hab, if_pos rfl]; simp
       rw [hst]; rfl
  · unfold impl_ahead.b1
    simp only []
    rw [if_neg (by simp), w64 (by omega) (by omega), ahs_next]; rfl
 have := iter_for (body := impl_ahead.b0 l) l.length (fun b => (AHs l b 0, (b : Int))) (AH l) (fun b hb => ?_) ?_
 · have e : List.replicate ((l.length : Int)).toNat ([] : List Int) = AHs l 0 0 := by rw [ahs_start]; simp
   rw [e]; exact this
 · unfold impl_ahead.b0
   simp only []
   rw [if_pos (show decide ((b : Int) < (l.length : Int)) = true by simp; omega), hin b hb]
 · unfold impl_ahead.b0
   simp only []
   rw [if_neg (by simp), ahs_end]; rfl
def EP (a k : Nat) : List A2Int := ((List.range k).filter fun b => AB l a b).map fun b : Nat => A2Int.mk (a : Int) (b : Int)
def EDs (m : Nat) : List A2Int := (List.range m).flatMap fun a => EP l a l.length
omit hv hl in
theorem ep_succ (a k : Nat) : EP l a (k + 1) = if AB l a k = true then EP l a k ++ [A2Int.mk (a : Int) (k : Int)] else EP l a k := by
 unfold EP
 rw [List.range_succ, List.filter_append, List.map_append]
 cases h : AB l a k <;> simp [h]
omit hv hl in
theorem ep_len (a k : Nat) : (EP l a k).length ≤ k := by
 unfold EP
 rw [List.length_map]
 exact Nat.le_trans (List.length_filter_le _ _) (by simp)
omit hv hl in
theorem eds_succ (m : Nat) : EDs l (m + 1) = EDs l m ++ EP l m l.length := by
 unfold EDs
 rw [List.range_succ, List.flatMap_append]; simp
omit hv in
theorem eds_len (m : Nat) : (EDs l m).length ≤ 100 * m := by
 induction m with
 | zero => simp [EDs]
 | succ m ih =>
  rw [eds_succ, List.length_append]
  have := ep_len l m l.length
  omega
end
end Go.Proofs.YtegicanjlefmdaaGreat
set_option linter.unusedVariables false
set_option linter.unusedSimpArgs false
set_option linter.unusedSectionVars false
namespace Go.Proofs.YtegicanjlefmdaaGreat
open Go V Ieee
section
variable (l : List Deed) (hv : ∀ d ∈ l, VD d) (hl : l.length ≤ 100)
include hv hl
theorem spec_edges_loop : iter (spec_GraphEdges.b0 l) (([] : List A2Int), (0 : Int)) = some (EDs l l.length) := by
 have hin : ∀ a, a < l.length → iter (spec_GraphEdges.b1 l (EDs l a, (a : Int))) (EDs l a, (0 : Int)) = some (.inl (EDs l (a + 1), ((a + 1 : Nat) : Int))) := fun a ha => by
  have hel := eds_len l hl a
  have := iter_for (body := spec_GraphEdges.b1 l (EDs l a, (a : Int))) l.length (fun k => (EDs l a ++ EP l a k, (k : Int))) (.inl (EDs l (a + 1), ((a + 1 : Nat) : Int))) (fun k hk => ?_) ?_
  · have e : EP l a 0 = [] := rfl
    rw [e, List.append_nil] at this
    exact this
  · unfold spec_GraphEdges.b1
    simp only []
    rw [if_pos (show decide ((k : Int) < (l.length : Int)) = true by simp; omega)]
    have hm : ∀ j (hj : j < l.length), at_ l (j : Int) ∈ l := fun j hj => by rw [at_nat _ j hj]; exact List.getElem_mem _
    have hlen := ep_len l a k
    by_cases hkb : a = k
    · subst hkb
      rw [if_neg (by simp), Option.bind_some, if_neg (by decide), Option.bind_some, ep_succ, show AB l a a = false by simp [AB], w64 (by omega) (by omega)]; rfl
    · rw [if_pos (show ((a : Int) != (k : Int)) = true by simp; omega), if_pos (show 0 ≤ (a : Int) ∧ (a : Int) < (l.length : Int) by omega), if_pos (show 0 ≤ (k : Int) ∧ (k : Int) < (l.length : Int) by omega), spec_edge _ _ (hv _ (hm a ha)) (hv _ (hm k hk)), Option.bind_some, Option.bind_some]
      have hab : AB l a k = EDG (at_ l (a : Int)) (at_ l (k : Int)) := by simp [AB, hkb]
      rw [ep_succ, hab]
      cases he : EDG (at_ l (a : Int)) (at_ l (k : Int)) with
      | false => rw [if_neg (by decide), if_neg (by decide), Option.bind_some, w64 (by omega) (by omega)]; rfl
      | true => rw [if_pos rfl, if_pos rfl, if_pos (by simp [Lim]; omega), Option.bind_some, w64 (by omega) (by omega), List.append_assoc]; rfl
  · unfold spec_GraphEdges.b1
    simp only []
    rw [if_neg (by simp), w64 (by omega) (by omega), eds_succ]; rfl
 have := iter_for (body := spec_GraphEdges.b0 l) l.length (fun a => (EDs l a, (a : Int))) (EDs l l.length) (fun a ha => ?_) ?_
 · exact this
 · unfold spec_GraphEdges.b0
   simp only []
   rw [if_pos (show decide ((a : Int) < (l.length : Int)) = true by simp; omega), hin a ha]
 · unfold spec_GraphEdges.b0
   simp only []
   rw [if_neg (by simp)]; rfl
end
section
variable (l : List Deed)
theorem ahp_lt {b : Nat} : ∀ k, ∀ a ∈ AHp l b k, 0 ≤ a ∧ a < (k : Int) := fun k a ha => by
 unfold AHp at ha
 obtain ⟨q, hq, rfl⟩ := List.mem_map.1 ha
 have := List.mem_range.1 (List.mem_filter.1 hq).1
 omega
end
section
variable (l : List Deed) (hv : ∀ d ∈ l, VD d) (hl : l.length ≤ 100)
include hl
end
end Go.Proofs.YtegicanjlefmdaaGreat
set_option linter.unusedVariables false
set_option linter.unusedSimpArgs false
set_option linter.unusedSectionVars false
namespace Go.Proofs.YtegicanjlefmdaaGreat
open Go V Ieee
theorem idxInt (l : List Int) (hl : l.length ≤ 1000000000) (f : Int → Option Bool) (g : Int → Bool) (h : ∀ x ∈ l, f x = some (g x)) : impl_areAll_int.f l f = some (l.all g) := by
 unfold impl_areAll_int.f slices_ContainsFunc_int_int.f slices_IndexFunc_int_int.f
 have := iter_ixf (body := slices_IndexFunc_int_int.b0 l (fun x0 => impl_areAll_int_1.f x0 f)) l (fun x => !g x) (fun k hk => by
  unfold slices_IndexFunc_int_int.b0 impl_areAll_int_1.f
  rw [if_pos (by simp; omega), if_pos ⟨by omega, by omega⟩, at_nat _ k hk]
  simp only [h _ (List.getElem_mem hk), Option.bind_some]
  rw [w64 (by omega) (by omega)]) (by
  unfold slices_IndexFunc_int_int.b0
  rw [if_neg (by simp)]; rfl)
 rw [this, Option.bind_some, ixf_any, Option.bind_some]
 simp [List.any_eq_not_all_not]
section
variable (l : List Deed)
def RDY (is : List Bool) (i : Nat) : Bool := !(at_ is (i : Int)) && (AHp l i l.length).all fun a => at_ is a
def PCK (is : List Bool) : Option Nat := (List.range l.length).find? (RDY l is)
def TK : Nat → List Int × List Bool → List Int × List Bool
 | 0, s => s
 | n + 1, s => match PCK l s.2 with
  | none => s
  | some i => TK n (s.1 ++ [(i : Int)], s.2.set i true)
theorem pck_some {is : List Bool} {i : Nat} (h : PCK l is = some i) : i < l.length ∧ RDY l is i = true := ⟨List.mem_range.1 (List.mem_of_find?_eq_some h), List.find?_some h⟩
theorem cnt_set {is : List Bool} {i : Nat} (hi : i < is.length) (h : at_ is (i : Int) = false) : (is.set i true).count false + 1 = is.count false := by
 rw [at_nat _ i hi] at h
 have := List.count_set (a := true) (b := false) (l := is) hi
 rw [h] at this
 simp at this
 have h1 : 1 ≤ is.count false := List.count_pos_iff.2 (by rw [← h]; exact List.getElem_mem hi)
 omega
theorem tk_inv : ∀ (n : Nat) (s : List Int × List Bool), s.2.length = l.length → s.1.length + s.2.count false = l.length → s.2.count false ≤ n → (TK l n s).2.length = l.length ∧ (TK l n s).1.length + (TK l n s).2.count false = l.length ∧ PCK l (TK l n s).2 = none
 | 0, s, h1, h2, h3 => by
  refine ⟨h1, h2, List.find?_eq_none.2 fun i hi hr => ?_⟩
  have hi := List.mem_range.1 hi
  have h4 : s.2.count false = 0 := by omega
  have h5 : at_ s.2 (i : Int) = false := by
   simp only [RDY, Bool.and_eq_true, Bool.not_eq_true'] at hr
   exact hr.1
  rw [at_nat _ i (by omega)] at h5
  have := List.count_pos_iff.2 (show false ∈ s.2 by rw [← h5]; exact List.getElem_mem (by omega))
  omega
 | n + 1, s, h1, h2, h3 => by
  unfold TK
  cases hp : PCK l s.2 with
  | none => exact ⟨h1, h2, hp⟩
  | some i =>
   obtain ⟨hi, hr⟩ := pck_some l hp
   simp only [RDY, Bool.and_eq_true, Bool.not_eq_true'] at hr
   have hc := cnt_set (is := s.2) (i := i) (by omega) hr.1
   exact tk_inv n _ (by simpa using h1) (by simp; omega) (by simp; omega)
variable (hl : l.length ≤ 100)
include hl
theorem impl_pick (o : List Int) (is : List Bool) (hlen : is.length = l.length) : iter (impl_taken.b1 (AH l) (o, is)) ((-1 : Int), (0 : Int)) = some (match PCK l is with
    | some i => (i : Int)
    | none => -1) := by
  have hal : (AH l).length = l.length := by simp [AH]
  have key : ∀ (m k : Nat), k + m = l.length → iter (impl_taken.b1 (AH l) (o, is)) ((-1 : Int), (k : Int)) = some (match (List.range' k m).find? (RDY l is) with
      | some i => (i : Int)
      | none => -1) := by
    intro m
    induction m with
    | zero =>
      intro k hk
      have : k = l.length := by omega
      subst this
      refine iter_r ?_
      unfold impl_taken.b1
      simp only []
      rw [if_neg (by simp [hal])]; rfl
    | succ m ih =>
      intro k hk
      have hlt : k < l.length := by omega
      rw [List.range'_succ, List.find?_cons]
      have hah : at_ (AH l) (k : Int) = AHp l k l.length := by rw [at_nat _ k (by omega)]; simp [AH]
      have hall : (impl_areAll_int.f (at_ (AH l) (k : Int)) (fun x0 => impl_taken_1.f x0 is)) = some ((AHp l k l.length).all fun a => at_ is a) := by
        rw [hah]
        have := ahp_len l k l.length
        refine idxInt _ (by omega) _ _ fun a ha => ?_
        have := ahp_lt l (b := k) l.length a ha
        unfold impl_taken_1.f
        rw [if_pos (by omega)]
      have hbody : impl_taken.b1 (AH l) (o, is) ((-1 : Int), (k : Int)) = if RDY l is k = true then some (.inr (k : Int)) else some (.inl ((-1 : Int), ((k + 1 : Nat) : Int))) := by
        unfold impl_taken.b1 RDY
        simp only []
        rw [if_pos (show decide ((k : Int) < ((AH l).length : Int)) = true by simp; omega), if_pos (show 0 ≤ (k : Int) ∧ (k : Int) < ((AH l).length : Int) by omega), if_pos (show 0 ≤ (k : Int) ∧ (k : Int) < (is.length : Int) by omega), hall, w64 (by omega) (by omega)]
        cases at_ is (k : Int) with
        | true => rfl
        | false => cases (AHp l k l.length).all fun a => at_ is a <;> rfl
      cases hr : RDY l is k with
      | true => rw [hr, if_pos rfl] at hbody; exact iter_r hbody
      | false =>
        rw [hr, if_neg (by decide)] at hbody
        rw [iter_l hbody]
        exact ih (k + 1) (by omega)
  have := key l.length 0 (by omega)
  rw [← List.range_eq_range'] at this
  exact this
theorem impl_take : ∀ (n : Nat) (s : List Int × List Bool), s.2.length = l.length → s.1.length + s.2.count false = l.length → s.2.count false ≤ n → iter (impl_taken.b0 (AH l)) s = some (TK l n s)
 | 0, s, h1, h2, h3 => by
  have hp := (tk_inv l 0 s h1 h2 h3).2.2
  refine iter_r ?_
  unfold impl_taken.b0
  rw [impl_pick l hl _ _ h1, show PCK l s.2 = none from hp]; rfl
 | n + 1, s, h1, h2, h3 => by
  unfold TK
  cases hp : PCK l s.2 with
  | none =>
   refine iter_r ?_
   unfold impl_taken.b0
   rw [impl_pick l hl _ _ h1, hp]; rfl
  | some i =>
   obtain ⟨hi, hr⟩ := pck_some l hp
   simp only [RDY, Bool.and_eq_true, Bool.not_eq_true'] at hr
   have hc := cnt_set (is := s.2) (i := i) (by omega) hr.1
   rw [← impl_take n (s.1 ++ [(i : Int)], s.2.set i true) (by simpa using h1) (by simp; omega) (by simp; omega)]
   refine iter_l ?_
   unfold impl_taken.b0
   rw [impl_pick l hl _ _ h1, hp, Option.bind_some]
   simp only []
   rw [if_neg (by simp), if_pos (by omega), if_pos (by simp [Lim]; omega)]; rfl
def IS0 : List Bool := List.replicate l.length false
omit hl in
theorem is0 : (IS0 l).length = l.length ∧ (IS0 l).count false = l.length := by simp [IS0]
def RES : List Int × List Bool := TK l l.length ([], IS0 l)
omit hl in
theorem res_inv : (RES l).2.length = l.length ∧ (RES l).1.length + (RES l).2.count false = l.length ∧ PCK l (RES l).2 = none := tk_inv l l.length ([], IS0 l) (is0 l).1 (by simp [(is0 l).2]) (by simp [(is0 l).2])
theorem impl_taken : impl_taken.f (AH l) = some (RES l) := by
 have hal : (AH l).length = l.length := by simp [AH]
 unfold impl_taken.f
 rw [if_pos ⟨by omega, by simp only [Lim]; omega⟩, hal]
 exact impl_take l hl l.length ([], IS0 l) (is0 l).1 (by simp [(is0 l).2]) (by simp [(is0 l).2])
end
end Go.Proofs.YtegicanjlefmdaaGreat
set_option linter.unusedVariables false
set_option linter.unusedSimpArgs false
set_option linter.unusedSectionVars false
namespace Go.Proofs.YtegicanjlefmdaaGreat
open Go V Ieee
theorem idxOfInt (l : List Int) (a : Int) (hl : l.length ≤ 1000000000) : slices_Index_int_int.f l a = some (IXF (fun x => a == x) l 0) := by
 unfold slices_Index_int_int.f
 refine iter_ixf l _ (fun k hk => ?_) ?_
 · unfold slices_Index_int_int.b0
   rw [if_pos (by simp; omega), if_pos ⟨by omega, by omega⟩, at_nat _ k hk, w64 (by omega) (by omega)]
 · unfold slices_Index_int_int.b0
   rw [if_neg (by simp)]; rfl
theorem idxOfBool (l : List Bool) (a : Bool) (hl : l.length ≤ 1000000000) : slices_Index_bool_bool.f l a = some (IXF (fun x => a == x) l 0) := by
 unfold slices_Index_bool_bool.f
 refine iter_ixf l _ (fun k hk => ?_) ?_
 · unfold slices_Index_bool_bool.b0
   rw [if_pos (by simp; omega), if_pos ⟨by omega, by omega⟩, at_nat _ k hk, w64 (by omega) (by omega)]
 · unfold slices_Index_bool_bool.b0
   rw [if_neg (by simp)]; rfl
theorem cloneInt (l : List Int) (hl : l.length ≤ 1000000000) : slices_Clone_int_int.f l = some l := by
 unfold slices_Clone_int_int.f
 rw [if_pos (by simp [Lim]; omega)]; rfl
section
variable (l : List Deed)
def NX (is : List Bool) (b : Nat) : Int := ((AHp l b l.length).find? fun a => !at_ is a).getD 0
def RG (is : List Bool) : Nat → Nat × List Int → List Int
 | 0, _ => []
 | n + 1, s => let i := IXF (fun x => ((s.1 : Nat) : Int) == x) s.2 0
  if i ≥ 0 then s.2.drop i.toNat else RG is n ((NX l is s.1).toNat, s.2 ++ [((s.1 : Nat) : Int)])
theorem stuck {is : List Bool} (hlen : is.length = l.length) (hp : PCK l is = none) (b : Nat) (hb : b < l.length) (hi : at_ is (b : Int) = false) : ∃ a, (AHp l b l.length).find? (fun a => !at_ is a) = some a ∧ 0 ≤ a ∧ a < (l.length : Int) ∧ at_ is a = false := by
 have h1 := List.find?_eq_none.1 hp b (List.mem_range.2 hb)
 cases hf : (AHp l b l.length).find? (fun a => !at_ is a) with
 | none =>
  exfalso; apply h1
  unfold RDY
  rw [hi, List.all_eq_true.2 fun a ha => by simpa using List.find?_eq_none.1 hf a ha]; rfl
 | some a =>
  have ha := ahp_lt l (b := b) l.length a (List.mem_of_find?_eq_some hf)
  exact ⟨a, rfl, ha.1, ha.2, by simpa using List.find?_some hf⟩
structure WY (is : List Bool) (s : Nat × List Int) : Prop where
 lt : s.1 < l.length
 no : at_ is (s.1 : Int) = false
 nd : s.2.Nodup
 bd : ∀ x ∈ s.2, 0 ≤ x ∧ x < (l.length : Int)
theorem way_len : ∀ {n : Nat} {w : List Int}, w.Nodup → (∀ x ∈ w, 0 ≤ x ∧ x < (n : Int)) → w.length ≤ n
 | 0, w, hn, hb => by
  cases w with
  | nil => simp
  | cons x w => have := hb x (by simp); omega
 | n + 1, w, hn, hb => by
  have h1 := List.length_eq_countP_add_countP (fun x : Int => x == (n : Int)) (l := w)
  have h2 : w.countP (fun x : Int => x == (n : Int)) ≤ 1 := List.nodup_iff_count.1 hn (n : Int)
  have h3 := way_len (n := n) (w := w.filter fun x => ¬ (x == (n : Int)) = true) (hn.filter _) fun x hx => by
   obtain ⟨h4, h5⟩ := List.mem_filter.1 hx
   have := hb x h4
   simp at h5
   omega
  rw [← List.countP_eq_length_filter] at h3
  omega
theorem wy_next {is : List Bool} (hlen : is.length = l.length) (hp : PCK l is = none) {s : Nat × List Int} (h : WY l is s) (hi : ¬ IXF (fun x => ((s.1 : Nat) : Int) == x) s.2 0 ≥ 0) : WY l is ((NX l is s.1).toNat, s.2 ++ [((s.1 : Nat) : Int)]) ∧ s.2.length < l.length := by
 have hany := ixf_any (fun x => ((s.1 : Nat) : Int) == x) s.2
 rw [decide_eq_false hi] at hany
 have hnm : ((s.1 : Nat) : Int) ∉ s.2 := fun hm => by
  have := List.any_eq_false.1 hany.symm _ hm
  simp at this
 obtain ⟨a, ha, h0, h1, h2⟩ := stuck l hlen hp s.1 h.lt h.no
 have hnx : NX l is s.1 = a := by unfold NX; rw [ha]; rfl
 have hnd : (s.2 ++ [((s.1 : Nat) : Int)]).Nodup := List.nodup_append.2 ⟨h.nd, by simp, fun x hx y hy e => by simp at hy; subst hy; subst e; exact hnm hx⟩
 have hbd : ∀ x ∈ s.2 ++ [((s.1 : Nat) : Int)], 0 ≤ x ∧ x < (l.length : Int) := fun x hx => by
  rcases List.mem_append.1 hx with hx | hx
  · exact h.bd x hx
  · simp at hx; subst hx; have := h.lt; omega
 have hw := way_len hnd hbd
 rw [hnx]
 refine ⟨⟨by simp only []; omega, ?_, hnd, hbd⟩, by simp at hw; omega⟩
 simp only []
 rw [Int.toNat_of_nonneg h0]; exact h2
variable (hl : l.length ≤ 100)
include hl
theorem impl_ring (r : List Int × List Bool) (hlen : r.2.length = l.length) (hp : PCK l r.2 = none) : ∀ (n : Nat) (s : Nat × List Int), WY l r.2 s → l.length < s.2.length + n → iter (impl_GraphRing.b0 (AH l) r) (((s.1 : Nat) : Int), s.2) = some (RG l r.2 n s)
 | 0, s, h, hn => by
  have := way_len h.nd h.bd
  omega
 | n + 1, s, h, hn => by
  have hal : (AH l).length = l.length := by simp [AH]
  have hwl := way_len h.nd h.bd
  have hlt := h.lt
  unfold RG
  simp only []
  by_cases hi : IXF (fun x => ((s.1 : Nat) : Int) == x) s.2 0 ≥ 0
  · rw [if_pos hi]
    refine iter_r ?_
    have hik : IXF (fun x => ((s.1 : Nat) : Int) == x) s.2 0 ≤ (s.2.length : Int) := by
     rcases ixf_out (fun x => ((s.1 : Nat) : Int) == x) s.2 0 with ⟨h1, _⟩ | ⟨k, hk, h1, _⟩ <;> omega
    unfold impl_GraphRing.b0
    simp only []
    rw [idxOfInt _ _ (by omega), Option.bind_some, if_pos (by simpa using hi), if_pos ⟨hi, hik⟩, cloneInt _ (by simp; omega)]; rfl
  · rw [if_neg hi]
    obtain ⟨hy, hwlt⟩ := wy_next l hlen hp h hi
    obtain ⟨a, ha, h0, h1, h2⟩ := stuck l hlen hp s.1 h.lt h.no
    have hnx : NX l r.2 s.1 = a := by unfold NX; rw [ha]; rfl
    rw [← impl_ring r hlen hp n _ hy (by simp; omega)]
    refine iter_l ?_
    have hah : at_ (AH l) ((s.1 : Nat) : Int) = AHp l s.1 l.length := by rw [at_nat _ _ (by omega)]; simp [AH]
    have hin : iter (impl_GraphRing.b1 (AH l) r (((s.1 : Nat) : Int), s.2)) (((s.1 : Nat) : Int), (0 : Int)) = some a := by
     have hb := ahp_lt l (b := s.1) l.length
     have hpl := ahp_len l s.1 l.length
     have key : ∀ (m k : Nat), k + m = (AHp l s.1 l.length).length → ((AHp l s.1 l.length).drop k).find? (fun a => !at_ r.2 a) = some a → iter (impl_GraphRing.b1 (AH l) r (((s.1 : Nat) : Int), s.2)) (((s.1 : Nat) : Int), (k : Int)) = some a := by
      intro m
      induction m with
      | zero => intro k hk hf; rw [List.drop_eq_nil_of_le (by omega)] at hf; cases hf
      | succ m ih =>
       intro k hk hf
       have hkl : k < (AHp l s.1 l.length).length := by omega
       have hbk := hb _ (List.getElem_mem hkl)
       rw [List.drop_eq_getElem_cons hkl, List.find?_cons] at hf
       have hbody : impl_GraphRing.b1 (AH l) r (((s.1 : Nat) : Int), s.2) (((s.1 : Nat) : Int), (k : Int)) = if (!(at_ r.2 (AHp l s.1 l.length)[k])) = true then some (.inr (AHp l s.1 l.length)[k]) else some (.inl (((s.1 : Nat) : Int), ((k + 1 : Nat) : Int))) := by
        unfold impl_GraphRing.b1
        simp only []
        rw [hah, if_pos (by simp; omega), if_pos (by omega), at_nat _ k hkl, if_pos (by omega), w64 (by omega) (by omega)]; rfl
       cases hc : !(at_ r.2 (AHp l s.1 l.length)[k]) with
       | true =>
        rw [hc] at hf hbody
        rw [if_pos rfl] at hbody
        rw [iter_r hbody]; simpa using hf
       | false =>
        rw [hc] at hf hbody
        rw [if_neg (by decide)] at hbody
        rw [iter_l hbody]
        exact ih (k + 1) (by omega) hf
     exact key (AHp l s.1 l.length).length 0 (by omega) (by rw [List.drop_zero]; exact ha)
    unfold impl_GraphRing.b0
    simp only []
    rw [idxOfInt _ _ (by omega), Option.bind_some, if_neg (by simpa using hi), if_pos (by simp [Lim]; omega), if_pos (by omega), hin, hnx, Option.bind_some, Int.toNat_of_nonneg h0]
noncomputable def GRR : List Int := if DKK l = false then [] else if (RES l).2.all (fun b => b) = true then [] else RG l (RES l).2 (l.length + 1) ((IXF (fun x => false == x) (RES l).2 0).toNat, [])
variable (hd : ∀ d ∈ l, okDd d)
include hd
omit hl in
theorem dkk_v (h : DKK l = true) : (∀ d ∈ l, VD d) ∧ l.length ≤ 100 := by
 simp only [DKK, Bool.and_eq_true, decide_eq_true_eq] at h
 exact ⟨fun d hm => ⟨hd d hm, List.all_eq_true.1 h.1.2 d hm⟩, h.1.1⟩
omit hl in
theorem impl_GraphRing : impl_GraphRing.f l = some (GRR l) := by
  unfold impl_GraphRing.f GRR
  rw [impl_DeedsOk l hd, Option.bind_some]
  cases hk : DKK l with
  | false => rfl
  | true =>
    obtain ⟨hv, hl⟩ := dkk_v l hd hk
    obtain ⟨r1, r2, r3⟩ := res_inv l
    rw [if_neg (show ¬ ((!true) = true) by decide), impl_ahead l hv hl, Option.bind_some, impl_taken l hl, Option.bind_some, idxOfBool _ _ (by omega), Option.bind_some, if_neg (show ¬ ((true : Bool) = false) by decide)]
    rcases ixf_out (fun x => false == x) (RES l).2 0 with ⟨h1, h2⟩ | ⟨k, hkl, h1, h2, h3, _⟩
    · rw [h1, if_pos (by decide), if_pos (List.all_eq_true.2 fun b hb => by
        have := List.any_eq_false.1 h2 b hb
        cases b <;> simp_all)]
    · rw [h1, if_neg (by simp), if_neg (fun hall => by
        have := List.all_eq_true.1 hall _ (List.getElem_mem hkl)
        have h2' : (false == (RES l).2[k]) = true := h2
        rw [this] at h2'; cases h2')]
      have hno : at_ (RES l).2 (k : Int) = false := by
        rw [at_nat _ k hkl]
        have h2' : (false == (RES l).2[k]) = true := h2
        cases hb : (RES l).2[k] with
        | false => rfl
        | true => rw [hb] at h2'; cases h2'
      have hw : WY l (RES l).2 (k, []) := ⟨by simp only []; omega, hno, by simp, fun x hx => by cases hx⟩
      have := impl_ring l hl (RES l) r1 r3 (l.length + 1) (k, []) hw (by simp)
      simpa using this
end
end Go.Proofs.YtegicanjlefmdaaGreat
set_option linter.unusedVariables false
set_option linter.unusedSimpArgs false
namespace Go.Proofs.YtegicanjlefmdaaGreat
open Go V
def Ok {α : Type} (m : Option α) (P : α → Prop) : Prop := ∃ r, m = some r ∧ P r
section
variable {α β S O : Type} {P : α → Prop} {Q : β → Prop}
theorem Ok.ret {x : α} (h : P x) : Ok (some x) P := ⟨x, rfl, h⟩
theorem Ok.eq {m : Option α} {x : α} (e : m = some x) (h : P x) : Ok m P := ⟨x, e, h⟩
theorem Ok.bind {m : Option α} {k : α → Option β} (h : Ok m P) (hk : ∀ r, P r → Ok (k r) Q) : Ok (m.bind k) Q := by
 obtain ⟨r, rfl, hp⟩ := h
 exact hk r hp
theorem Ok.mono {P' : α → Prop} {m : Option α} (h : Ok m P) (hk : ∀ r, P r → P' r) : Ok m P' := by
 obtain ⟨r, e, hp⟩ := h
 exact ⟨r, e, hk r hp⟩
theorem Ok.ite {c : Bool} {m n : Option α} (h1 : c = true → Ok m P) (h2 : c = false → Ok n P) : Ok (if c = true then m else n) P := by
 cases c with
 | true => exact h1 rfl
 | false => exact h2 rfl
theorem Ok.grd {c : Prop} [Decidable c] {m n : Option α} (hc : c) (h : Ok m P) : Ok (if c then m else n) P := by rw [if_pos hc]; exact h
theorem Ok.sel {m : Option (S ⊕ β)} {f : S → Option β} {R : S → Prop} (h : Ok m (Sum.elim R Q)) (hk : ∀ y, R y → Ok (f y) Q) : Ok (m.bind (sel f)) Q := by
 obtain ⟨r, rfl, hp⟩ := h
 cases r with
 | inl y => exact hk y hp
 | inr o => exact ⟨o, rfl, hp⟩
theorem Ok.out {m : Option O} {R : S → Prop} {Q : O → Prop} (h : Ok m Q) : Ok (m.bind fun o => some (Sum.inr o)) (Sum.elim R Q) := by
 obtain ⟨r, rfl, hp⟩ := h
 exact ⟨_, rfl, hp⟩
theorem Ok.iter {body : S → Option (S ⊕ O)} {Q : O → Prop} (Inv : S → Prop) (μ : S → Nat) (h : ∀ s, Inv s → Ok (body s) (Sum.elim (fun s' => Inv s' ∧ μ s' < μ s) Q)) : ∀ s, Inv s → Ok (iter body s) Q := by
 have key : ∀ n s, μ s < n → Inv s → Ok (V.iter body s) Q := by
  intro n
  induction n with
  | zero => intro s hs; omega
  | succ n ih =>
   intro s hs hi
   obtain ⟨r, e, hr⟩ := h s hi
   rw [iter_eq, e]
   cases r with
   | inl s' => exact ih s' (by have := hr.2; omega) hr.1
   | inr o => exact ⟨o, rfl, hr⟩
 intro s hi
 exact key _ s (Nat.lt_succ_self _) hi
end
theorem iand_mask (x : Int) (m : Nat) (hm : m < 9223372036854775808) : 0 ≤ iand .i64 x (m : Int) ∧ iand .i64 x (m : Int) ≤ m := by
 unfold iand
 have e : (BitVec.ofInt IntKind.i64.bits x &&& BitVec.ofInt IntKind.i64.bits (m : Int)).toNat ≤ m := by
  rw [BitVec.toNat_and, BitVec.ofInt_natCast, BitVec.toNat_ofNat, Nat.mod_eq_of_lt (show m < 2 ^ IntKind.i64.bits by show m < 2 ^ 64; omega)]
  exact Nat.and_le_right
 generalize (BitVec.ofInt IntKind.i64.bits x &&& BitVec.ofInt IntKind.i64.bits (m : Int)).toNat = y at *
 rw [w64 (by omega) (by omega)]
 omega
theorem tmod_lt {a n : Int} (h0 : 0 ≤ a) (hn : 0 < n) : 0 ≤ a.tmod n ∧ a.tmod n < n := by
 rw [Int.tmod_eq_emod_of_nonneg h0]
 exact ⟨Int.emod_nonneg _ (by omega), Int.emod_lt_of_pos _ hn⟩
def Ci (b : List Int) (i : Int) : Prop := 0 ≤ i ∧ i ≤ (b.length : Int) ∧ b.length ≤ 1048576
theorem l1Byte_ok (c : l1Cur) (h : Ci c.b c.i) : Ok (spec_l1Byte.f c) fun r => 0 ≤ r.1 ∧ r.1 ≤ 255 ∧ Ci c.b r.2.i := by
 obtain ⟨h0, h1, h2⟩ := h
 unfold spec_l1Byte.f
 have m1 := fun x => iand_mask x 255 (by omega)
 refine Ok.bind (P := fun y => 0 ≤ y.1 ∧ y.1 ≤ 255 ∧ Ci c.b y.2) (Ok.ite (fun hc => ?_) fun _ => Ok.ret ⟨(m1 _).1, (m1 _).2, h0, h1, h2⟩) fun y hy => Ok.ret hy
 have hi : c.i < (c.b.length : Int) := by simpa using hc
 refine Ok.grd ⟨h0, hi⟩ (Ok.ret ⟨(m1 _).1, (m1 _).2, ?_⟩)
 show Ci c.b (IntKind.wrap .i64 (c.i + 1))
 rw [w64 (by omega) (by omega)]
 exact ⟨by omega, by omega, h2⟩
theorem l1Below_ok (c : l1Cur) (n : Int) (h : Ci c.b c.i) (hn : 0 < n) : Ok (spec_l1Below.f c n) fun r => 0 ≤ r.1 ∧ r.1 < n ∧ Ci c.b r.2.i := by
 unfold spec_l1Below.f
 refine Ok.ite (fun hc => by simp at hc; omega) fun _ => Ok.ite (fun _ => ?_) fun _ => ?_
 · refine Ok.bind (l1Byte_ok c h) fun r hr => Ok.grd (by omega) (Ok.ret ?_)
   have := tmod_lt hr.1 hn
   exact ⟨this.1, this.2, hr.2.2⟩
 · refine Ok.bind (l1Byte_ok c h) fun r1 h1 => Ok.bind (l1Byte_ok (l1Cur.mk c.b r1.2.i r1.2.h) h1.2.2) fun r2 h2 => Ok.bind (l1Byte_ok (l1Cur.mk c.b r2.2.i r2.2.h) h2.2.2) fun r3 h3 => Ok.bind (l1Byte_ok (l1Cur.mk c.b r3.2.i r3.2.h) h3.2.2) fun r4 h4 => Ok.grd (by omega) (Ok.ret ?_)
   obtain ⟨p1, q1, _⟩ := h1
   obtain ⟨p2, q2, _⟩ := h2
   obtain ⟨p3, q3, _⟩ := h3
   obtain ⟨p4, q4, k4⟩ := h4
   rw [w64 (n := r1.1 * 16777216) (by omega) (by omega), w64 (n := r2.1 * 65536) (by omega) (by omega), w64 (n := r1.1 * 16777216 + r2.1 * 65536) (by omega) (by omega), w64 (n := r3.1 * 256) (by omega) (by omega), w64 (n := r1.1 * 16777216 + r2.1 * 65536 + r3.1 * 256) (by omega) (by omega), w64 (by omega) (by omega)]
   have := tmod_lt (a := r1.1 * 16777216 + r2.1 * 65536 + r3.1 * 256 + r4.1) (by omega) hn
   exact ⟨this.1, this.2, k4⟩
theorem l1Once_ok (c : l1Cur) (n : Int) (h : Ci c.b c.i) (hn : 0 < n) : Ok (spec_l1Once.f c n) fun r => Ci c.b r.2.i :=
 Ok.bind (l1Below_ok c n h hn) fun r hr => Ok.ret hr.2.2
theorem l1PickInt_ok (c : l1Cur) (l : List Int) (h : Ci c.b c.i) (hl : l ≠ []) : Ok (spec_l1PickInt.f c l) fun r => r.1 ∈ l ∧ Ci c.b r.2.i := by
 have hp : 0 < l.length := List.length_pos_iff.2 hl
 refine Ok.bind (l1Below_ok c (l.length : Int) h (by omega)) fun r hr => Ok.grd ⟨hr.1, hr.2.1⟩ (Ok.ret ⟨?_, hr.2.2⟩)
 obtain ⟨k, hk⟩ := Int.eq_ofNat_of_zero_le hr.1
 show at_ l r.1 ∈ l
 have h2 := hr.2.1
 rw [hk] at h2 ⊢
 rw [at_nat l k (by omega)]
 exact List.getElem_mem _
theorem l1New_ok (a : List Int) (h : a.length ≤ 1048576) : Ok (spec_l1New.f a) fun c => c.b = a ∧ Ci c.b c.i := by
 unfold spec_l1New.f
 refine Ok.iter (fun s => 0 ≤ s.2 ∧ s.2 ≤ (a.length : Int)) (fun s => a.length - s.2.toNat) (fun s hs => ?_) _ ⟨by simp, by simp⟩
 unfold spec_l1New.b0
 refine Ok.ite (fun hc => ?_) fun _ => Ok.out (Ok.ret ⟨rfl, ?_⟩)
 · simp at hc
   refine Ok.grd ⟨hs.1, hc.1⟩ (Ok.ret ?_)
   show (_ ∧ _) ∧ _
   simp only []
   rw [w64 (by omega) (by omega)]
   omega
 · exact ⟨Int.le_refl 0, by simp, h⟩
theorem l1Size_ok (a : List Int) (m : Int) (h : a.length ≤ 1048576) (hm : 2 ≤ m) : Ok (spec_l1Size.f a m) fun r => 0 ≤ r ∧ r ≤ m := by
 unfold spec_l1Size.f
 have e : ((a.length : Int)).tdiv 20 = ((a.length / 20 : Nat) : Int) := by rw [Int.tdiv_eq_ediv_of_nonneg (by omega)]; omega
 rw [e, w64 (n := ((a.length / 20 : Nat) : Int)) (by omega) (by omega), w64 (n := (2 : Int) + _) (by omega) (by omega)]
 refine Ok.ite (fun hc => Ok.ret ⟨by omega, by omega⟩) fun hc => ?_
 simp at hc
 exact Ok.ret ⟨by omega, by omega⟩
theorem l1some_ok (c : l1Cur) (n : Int) (h : Ci c.b c.i) (h0 : 0 ≤ n) (hn : n ≤ 100000) : Ok (spec_l1some.f c n) fun r => ((r.1.length : Int) ≤ n ∧ ∀ x ∈ r.1, InK .u8 x) ∧ Ci c.b r.2.i := by
 unfold spec_l1some.f
 rw [w64 (by omega) (by omega)]
 refine Ok.bind (l1Below_ok c _ h (by omega)) fun r hr => ?_
 obtain ⟨k1, k2, k3⟩ := hr
 refine Ok.iter (fun s => 0 ≤ s.2.1 ∧ s.2.1 ≤ r.1 ∧ (s.1.length : Int) = s.2.1 ∧ (∀ x ∈ s.1, InK .u8 x) ∧ Ci c.b s.2.2.1) (fun s => (r.1 - s.2.1).toNat) (fun s hs => ?_) _ ?_
 rotate_left
 · exact ⟨Int.le_refl 0, k1, rfl, (fun x hx => by cases hx), k3⟩
 obtain ⟨j1, j2, j3, j4, j5⟩ := hs
 unfold spec_l1some.b0
 refine Ok.ite (fun hc => ?_) fun hc => Ok.out (Ok.ret ⟨⟨by show ((s.1).length : Int) ≤ n; omega, j4⟩, j5⟩)
 have hc' : s.2.1 < r.1 := by simpa using hc
 refine Ok.bind (l1Byte_ok (l1Cur.mk c.b s.2.2.1 s.2.2.2) j5) fun q hq => Ok.grd (by simp only [Lim, List.length_singleton]; omega) (Ok.ret ?_)
 show (_ ∧ _ ∧ _ ∧ _ ∧ _) ∧ _
 simp only []
 rw [w64 (by omega) (by omega)]
 refine ⟨⟨by omega, by omega, by simp; omega, fun x hx => ?_, hq.2.2⟩, by omega⟩
 rcases List.mem_append.1 hx with hx | hx
 · exact j4 x hx
 · rw [List.mem_singleton.1 hx, IntKind.wrap_u8]; exact u8_ok (by omega) (by omega)
end Go.Proofs.YtegicanjlefmdaaGreat
set_option linter.unusedVariables false
set_option linter.unusedSimpArgs false
set_option linter.unusedSectionVars false
namespace Go.Proofs.YtegicanjlefmdaaGreat
open Go V Ieee
theorem near_v (n : Nat) (h : n < 9007199254740992) : IsV (FloatKind.f64.nearest (n : Int)) false (n * pw 1074) := by
 have hr := rep_of h 1074 (by omega)
 have := write_rep false n 0 (n * pw 1074) hr (by
  rw [show ((0 : Int) + 1074).toNat = 1074 by omega, show (-((0 : Int) + 1074)).toNat = 0 by omega, Nat.pow_zero, Nat.mul_one, pw])
 have e : FloatKind.f64.nearest (n : Int) = D.write (.number false n 0) := by
  show D.write (.number (decide ((n : Int) < 0)) (n : Int).natAbs 0) = _
  rw [decide_eq_false (by omega), Int.natAbs_natCast]
 rwa [e]
end Go.Proofs.YtegicanjlefmdaaGreat
set_option linter.unusedVariables false
set_option linter.unusedSimpArgs false
set_option linter.unusedSectionVars false
namespace Go.Proofs.YtegicanjlefmdaaGreat
open Go V Ieee
theorem far_quob {a u : Nat} (h : IsV a false (u * pw 52)) (hu : Rep u) : IsV (far .quo a 4841369599423283200) false u := by
 obtain ⟨w', hw, hv⟩ := div_pow (j := 52) c_big h hu
 have : far .quo a 4841369599423283200 = w' := by show (D.div a _).getD _ = _; rw [hw]; rfl
 rwa [this]
theorem far_add1 {a v : Nat} (h : IsV a false v) (hv : Rep (U1 + v)) : IsV (far .add a 4607182418800017408) false (U1 + v) := by
 obtain ⟨w', hw, hv⟩ := add_one h hv
 have : far .add a 4607182418800017408 = w' := by show (D.add a _).getD _ = _; rw [hw]; rfl
 rwa [this]
theorem fo_dn (M : Nat) (hM : M < 9007199254740992) : ∀ (n c a : Nat), c + n ≤ 2045 → IsV a false (M * pw (c + n)) → ∃ a', iter spec_FloatOf.b1 (a, -(n : Int)) = some (Sum.inl a') ∧ IsV a' false (M * pw c) := by
 intro n
 induction n with
 | zero =>
  intro c a hc hv
  refine ⟨a, iter_r ?_, hv⟩
  unfold spec_FloatOf.b1
  rw [if_neg (by simp)]; rfl
 | succ n ih =>
  intro c a hc hv
  have hv2 : IsV a false (M * pw (c + n) * 2) := by rw [Nat.mul_assoc, ← pw_succ]; exact hv
  obtain ⟨a', ha, hav⟩ := ih c _ (by omega) (far_half hv2 (rep_of hM _ (by omega)))
  refine ⟨a', ?_, hav⟩
  have hstep : spec_FloatOf.b1 (a, -((n + 1 : Nat) : Int)) = some (.inl (far .quo a 4611686018427387904, -(n : Int))) := by
   unfold spec_FloatOf.b1
   rw [if_pos (decide_eq_true (by show -((n + 1 : Nat) : Int) < 0; omega)), w64 (by omega) (by omega), show -((n + 1 : Nat) : Int) + 1 = -(n : Int) by omega]
  rw [iter_l hstep, ha]
theorem fo_0 (a : Nat) (k : Int) (h : k ≤ 0) : iter spec_FloatOf.b0 (a, k) = iter spec_FloatOf.b1 (a, k) := by
 refine iter_pass ?_
 unfold spec_FloatOf.b0
 rw [if_neg (by simp; omega)]
theorem fo_up (M : Nat) (hM : M < 9007199254740992) : ∀ (n e a : Nat), e + n ≤ 2045 → IsV a false (M * pw e) → ∃ a', iter spec_FloatOf.b0 (a, (n : Int)) = some (Sum.inl a') ∧ IsV a' false (M * pw (e + n)) := by
 intro n
 induction n with
 | zero =>
  intro e a he hv
  rw [fo_0 _ _ (by omega)]
  exact fo_dn M hM 0 e a (by omega) hv
 | succ n ih =>
  intro e a he hv
  have hd := far_dbl hv (by rw [Nat.mul_assoc, ← pw_succ]; exact rep_of hM _ (by omega))
  rw [Nat.mul_assoc, ← pw_succ] at hd
  obtain ⟨a', ha, hav⟩ := ih (e + 1) _ (by omega) hd
  refine ⟨a', ?_, by rw [show e + (n + 1) = e + 1 + n by omega]; exact hav⟩
  have hstep : spec_FloatOf.b0 (a, ((n + 1 : Nat) : Int)) = some (.inl (far .mul a 4611686018427387904, (n : Int))) := by
   unfold spec_FloatOf.b0
   rw [if_pos (decide_eq_true (by show ((n + 1 : Nat) : Int) > 0; omega)), w64 (by omega) (by omega), show ((n + 1 : Nat) : Int) - 1 = (n : Int) by omega]
  rw [iter_l hstep, ha]
theorem efield (n : Nat) (h : n < 18446744073709551616) : IntKind.wrap .i64 (iand .u64 (ishr .u64 (n : Int) (52 : Int)) (2047 : Int)) = ((n / 4503599627370496 % 2048 : Nat) : Int) := by
 have h1 : ishr .u64 (n : Int) (52 : Int) = ((n / 4503599627370496 : Nat) : Int) := ishr_nat .u64 n 52 (by decide)
 have h2 : iand .u64 ((n / 4503599627370496 : Nat) : Int) (2047 : Int) = (((n / 4503599627370496) &&& 2047 : Nat) : Int) := iand_u64 _ 2047 (by omega) (by omega)
 have h3 : (n / 4503599627370496) &&& 2047 = n / 4503599627370496 % 2048 := Nat.and_two_pow_sub_one_eq_mod _ 11
 rw [h1, h2, h3, w64 (by omega) (by omega)]
theorem ffield (n : Nat) (h : n < 18446744073709551616) : iand .u64 (n : Int) (4503599627370495 : Int) = ((n % 4503599627370496 : Nat) : Int) := by
 have h2 : iand .u64 (n : Int) (4503599627370495 : Int) = ((n &&& 4503599627370495 : Nat) : Int) := iand_u64 _ 4503599627370495 h (by omega)
 have h3 : n &&& 4503599627370495 = n % 4503599627370496 := Nat.and_two_pow_sub_one_eq_mod _ 52
 rw [h2, h3]
theorem fneg_wd (r : Nat) (h : r ≤ 9218868437227405312) : fneg r = 9223372036854775808 + r := by
 have hn : isN r = false := by unfold isN; rw [decide_eq_false (by omega)]
 unfold fneg
 rw [hn, cond_false]
 show r ^^^ 2 ^ 63 = _
 have := xor_sign r (by omega)
 have h2 : (9223372036854775808 + r) ^^^ 2 ^ 63 = r := this
 have h3 : ((9223372036854775808 + r) ^^^ 2 ^ 63) ^^^ 2 ^ 63 = r ^^^ 2 ^ 63 := by rw [h2]
 rw [Nat.xor_assoc, Nat.xor_self, Nat.xor_zero] at h3
 exact h3.symm
theorem fo_sign (n r : Nat) (hn : n = n / 9223372036854775808 * 9223372036854775808 + r) (h2 : n / 9223372036854775808 ≤ 1) (h : r ≤ 9218868437227405312) :
    (if ((ishr .u64 (n : Int) (63 : Int)) == (1 : Int)) = true then (some (fneg r)) else (some r)) = some (cn n) := by
  have hc : cn n = n := by
    refine cn_of ?_
    unfold isN
    rw [decide_eq_false (by omega)]
  rw [hc]
  by_cases h1 : n / 9223372036854775808 = 1
  · rw [ifT (by rw [ishr63]; exact decide_eq_true h1), fneg_wd r h, show 9223372036854775808 + r = n by omega]
  · rw [ifF (by rw [ishr63]; exact decide_eq_false h1), show r = n by omega]
theorem spec_FloatOf (n : Nat) (h : n < 18446744073709551616) : spec_FloatOf.f (n : Int) = some (cn n) := by
 unfold spec_FloatOf.f
 rw [efield n h, ffield n h]
 have hE : n / 4503599627370496 % 2048 < 2048 := Nat.mod_lt _ (by decide)
 have hF : n % 4503599627370496 < 4503599627370496 := Nat.mod_lt _ (by decide)
 have hn : n = n / 9223372036854775808 * 9223372036854775808 + (n / 4503599627370496 % 2048 * 4503599627370496 + n % 4503599627370496) := by omega
 have h2 : n / 9223372036854775808 ≤ 1 := by omega
 have hfs := fo_sign n
 generalize hEe : n / 4503599627370496 % 2048 = E at *
 generalize hFf : n % 4503599627370496 = f at *
 by_cases hinf : E = 2047
 · rw [ifT (by simp; omega)]
   by_cases hf : f = 0
   · rw [ifF (by simp; omega)]
     have e : far .quo 4607182418800017408 0 = 9218868437227405312 := by decide
     have hA := hfs 9218868437227405312 (by omega) h2 (by omega)
     rw [Option.bind_some, sel_inl, e]
     exact hA
   · rw [ifT (by simp; omega)]
     have e : far .quo 0 0 = 9221120237041090560 := by decide
     rw [Option.bind_some, sel_inr, e]
     rw [cn_nan (by unfold isN; rw [decide_eq_true (by omega)])]
     rfl
 · rw [ifF (by simp; omega)]
   have hq : IsV (far .quo (FloatKind.f64.nearest (f : Int)) 4841369599423283200) false (f * pw 1022) := by
    refine far_quob ?_ (rep_of (by omega) _ (by omega))
    rw [Nat.mul_assoc, ← pw_add]
    exact near_v f (by omega)
   by_cases h0 : E = 0
   · have hA := hfs f (by omega) h2 (by omega)
     have hB : 0 * 4503599627370496 + f = f := by omega
     rw [ifT (by simp; omega), Option.bind_some, fo_0 _ _ (by show (-1022 : Int) ≤ 0; decide)]
     obtain ⟨a', ha, hav⟩ := fo_dn f (by omega) 1022 0 _ (by omega) hq
     have hk : (-1022 : Int) = -((1022 : Nat) : Int) := by decide
     rw [hk, ha, Option.bind_some, sel_inl]
     have := hav.eq (wd_v (e := 0) (by omega) (.inl rfl) (by omega))
     rw [this, wd_eq, hB]
     exact hA
   · have hA := hfs (E * 4503599627370496 + f) (by omega) h2 (by omega)
     have hB : (E - 1) * 4503599627370496 + (4503599627370496 + f) = E * 4503599627370496 + f := by omega
     rw [ifF (by simp; omega), Option.bind_some, w64 (by omega) (by omega)]
     have hsum : U1 + f * pw 1022 = (4503599627370496 + f) * pw 1022 := by rw [U1_eq, Nat.add_mul]
     have hM : 4503599627370496 + f < 9007199254740992 := by omega
     have ha1 := far_add1 hq (by rw [hsum]; exact rep_of hM _ (by omega))
     rw [hsum] at ha1
     have key : ∃ a', iter spec_FloatOf.b0 (far .add (far .quo (FloatKind.f64.nearest (f : Int)) 4841369599423283200) 4607182418800017408, (E : Int) - 1023) = some (Sum.inl a') ∧ IsV a' false ((4503599627370496 + f) * pw (E - 1)) := by
      by_cases hk : 1023 ≤ E
      · obtain ⟨a', ha, hav⟩ := fo_up _ hM (E - 1023) 1022 _ (by omega) ha1
        refine ⟨a', ?_, by rw [show E - 1 = 1022 + (E - 1023) by omega]; exact hav⟩
        rw [show (E : Int) - 1023 = ((E - 1023 : Nat) : Int) by omega]; exact ha
      · obtain ⟨a', ha, hav⟩ := fo_dn _ hM (1023 - E) (E - 1) _ (by omega) (by rw [show E - 1 + (1023 - E) = 1022 by omega]; exact ha1)
        refine ⟨a', ?_, hav⟩
        rw [fo_0 _ _ (by omega), show (E : Int) - 1023 = -((1023 - E : Nat) : Int) by omega]; exact ha
     obtain ⟨a', ha, hav⟩ := key
     rw [ha, Option.bind_some, sel_inl]
     have := hav.eq (wd_v hM (.inr (by omega)) (by omega))
     rw [this, wd_eq, hB]
     exact hA
end Go.Proofs.YtegicanjlefmdaaGreat
set_option linter.unusedVariables false
set_option linter.unusedSimpArgs false
namespace Go.Proofs.YtegicanjlefmdaaGreat
open Go V
def le (n k : Nat) : List Int := (List.range k).map fun j : Nat => ((n / 256 ^ j % 256 : Nat) : Int)
end Go.Proofs.YtegicanjlefmdaaGreat
set_option linter.unusedVariables false
set_option linter.unusedSimpArgs false
set_option linter.unusedSectionVars false
namespace Go.Proofs.YtegicanjlefmdaaGreat
open Go V Ieee
theorem u8w (x : Int) : InK .u8 (IntKind.wrap .u8 x) := by rw [IntKind.wrap_u8]; exact u8_ok (by omega) (by omega)
end Go.Proofs.YtegicanjlefmdaaGreat
set_option linter.unusedVariables false
set_option linter.unusedSimpArgs false
set_option linter.unusedSectionVars false
namespace Go.Proofs.YtegicanjlefmdaaGreat
open Go V Ieee
theorem i64w (x : Int) : InK .i64 (IntKind.wrap .i64 x) := by rw [IntKind.wrap_i64]; exact i64_ok (by omega) (by omega)
theorem okF_cn (n : Nat) (h : n < 18446744073709551616) : okF (cn n) := by
 refine ⟨cn_cn n, ?_⟩
 unfold cn
 cases isN n with
 | true => show nanB < _; decide
 | false => exact h
theorem okF_0 : okF 0 := ⟨by decide, by decide⟩
def UY (n : Nat) : Nat := if 9223372036854775808 ≤ n then n % 9223372036854775808 else 18446744073709551615 ^^^ n
def UR (n : Nat) : Nat × Bool := if n = 18446744073709551615 then (nanB, true) else if FRK (cn (UY n)) = n then (cn (UY n), true) else (0, false)
def I0 : Item := Item.mk 0 0 0 []
section
variable (b : List Int) (hb : ∀ x ∈ b, InK .u8 x)
include hb
end
def urf (n : Nat) : Nat := (UR n).1
theorem ok_I0 : ok_Item I0 := ⟨i64_ok (by decide) (by decide), i64_ok (by decide) (by decide), okF_0, by simp [I0], fun y hy => by cases hy⟩
end Go.Proofs.YtegicanjlefmdaaGreat
set_option linter.unusedVariables false
set_option linter.unusedSimpArgs false
set_option linter.unusedSectionVars false
namespace Go.Proofs.YtegicanjlefmdaaGreat
open Go V Ieee
end Go.Proofs.YtegicanjlefmdaaGreat
set_option linter.unusedVariables false
set_option linter.unusedSimpArgs false
namespace Go.Proofs.YtegicanjlefmdaaGreat
open Go V Ieee
theorem ik (n : Int) (h : -9223372036854775808 ≤ n := by decide) (h' : n ≤ 9223372036854775807 := by decide) : InK .i64 n := i64_ok h h'
theorem u64w (x : Int) : InK .u64 (IntKind.wrap .u64 x) := by
 rw [IntKind.wrap_u64]
 exact ⟨by show (0 : Int) ≤ _; omega, by show _ ≤ (18446744073709551615 : Int); omega⟩
theorem u64_of {n : Int} (h : InK .u64 n) : n = ((n.toNat : Nat) : Int) ∧ n.toNat < 18446744073709551616 := by
 have h1 : (0 : Int) ≤ n := h.1
 have h2 : n ≤ (18446744073709551615 : Int) := h.2
 omega
theorem l1number_ok (c : l1Cur) (h : Ci c.b c.i) : Ok (spec_l1number.f c) fun r => InK .i64 r.1 ∧ Ci c.b r.2.i := by
 unfold spec_l1number.f
 refine Ok.bind (l1Below_ok c 1000 h (by omega)) fun r1 h1 => Ok.bind (l1Below_ok (l1Cur.mk c.b r1.2.i r1.2.h) 6 h1.2.2 (by omega)) fun r2 h2 => ?_
 refine Ok.iter (fun s => InK .i64 s.1 ∧ 0 ≤ s.2.1 ∧ s.2.1 ≤ 6 ∧ Ci c.b s.2.2.1) (fun s => s.2.1.toNat) (fun s hs => ?_) _ ?_
 rotate_left
 · obtain ⟨a1, a2, _⟩ := h1
   obtain ⟨b1, b2, b3⟩ := h2
   exact ⟨i64_ok (by omega) (by omega), b1, by show r2.1 ≤ 6; omega, b3⟩
 obtain ⟨k1, k2, k3, k4⟩ := hs
 unfold spec_l1number.b0
 refine Ok.ite (fun hc => ?_) fun _ => Ok.out ?_
 · have hc' : s.2.1 > 0 := by simpa using hc
   refine Ok.bind (l1Byte_ok (l1Cur.mk c.b s.2.2.1 s.2.2.2) k4) fun r hr => Ok.ret ?_
   show (_ ∧ _ ∧ _ ∧ _) ∧ _
   simp only []
   rw [w64 (n := s.2.1 - 1) (by omega) (by omega)]
   exact ⟨⟨i64w _, by omega, by omega, hr.2.2⟩, by omega⟩
 · refine Ok.bind (l1Below_ok (l1Cur.mk c.b s.2.2.1 s.2.2.2) 12 k4 (by omega)) fun r hr => Ok.ite (fun _ => Ok.ret ⟨i64w _, hr.2.2⟩) fun _ => Ok.ite (fun _ => ?_) fun _ => Ok.ite (fun _ => Ok.ret ⟨ik 9223372036854775807, hr.2.2⟩) fun _ => Ok.ite (fun _ => Ok.ret ⟨ik (-9223372036854775808), hr.2.2⟩) fun _ => Ok.ret ⟨k1, hr.2.2⟩
   refine Ok.bind (l1Below_ok (l1Cur.mk c.b r.2.i r.2.h) 7 hr.2.2 (by omega)) fun q hq => ?_
   obtain ⟨q1, q2, q3⟩ := hq
   refine Ok.grd ?_ (Ok.bind (l1Below_ok (l1Cur.mk c.b q.2.i q.2.h) 2 q3 (by omega)) fun z hz => Ok.ret ⟨i64w _, hz.2.2⟩)
   rw [w64 (n := 1 + q.1) (by omega) (by omega), w64 (by omega) (by omega)]; omega
theorem l2bits_ok (c : l1Cur) (h : Ci c.b c.i) : Ok (spec_l2bits.f c) fun r => InK .u64 r.1 ∧ Ci c.b r.2.i := by
 unfold spec_l2bits.f
 refine Ok.iter (fun s => InK .u64 s.1 ∧ 0 ≤ s.2.1 ∧ s.2.1 ≤ 8 ∧ Ci c.b s.2.2.1) (fun s => (8 - s.2.1).toNat) (fun s hs => ?_) _ ⟨u64w 0, by simp, by simp, h⟩
 obtain ⟨k1, k2, k3, k4⟩ := hs
 unfold spec_l2bits.b0
 refine Ok.ite (fun hc => ?_) fun _ => Ok.out ?_
 · have hc' : s.2.1 < 8 := by simpa using hc
   refine Ok.bind (l1Byte_ok (l1Cur.mk c.b s.2.2.1 s.2.2.2) k4) fun r hr => Ok.ret ?_
   show (_ ∧ _ ∧ _ ∧ _) ∧ _
   simp only []
   rw [w64 (n := s.2.1 + 1) (by omega) (by omega)]
   exact ⟨⟨u64w _, by omega, by omega, hr.2.2⟩, by omega⟩
 · refine Ok.bind (l1Below_ok (l1Cur.mk c.b s.2.2.1 s.2.2.2) 9 k4 (by omega)) fun r hr => ?_
   refine Ok.ite (fun _ => Ok.bind (l1Below_ok (l1Cur.mk c.b r.2.i r.2.h) 2 hr.2.2 (by omega)) fun p hp => Ok.bind (l1Below_ok (l1Cur.mk c.b p.2.i p.2.h) 3 hp.2.2 (by omega)) fun q hq => Ok.ret ⟨u64w _, hq.2.2⟩) fun _ => ?_
   refine Ok.ite (fun _ => Ok.bind (l1Below_ok (l1Cur.mk c.b r.2.i r.2.h) 2 hr.2.2 (by omega)) fun p hp => Ok.bind (l1Below_ok (l1Cur.mk c.b p.2.i p.2.h) 3 hp.2.2 (by omega)) fun q hq => Ok.ret ⟨u64w _, hq.2.2⟩) fun _ => ?_
   refine Ok.ite (fun _ => Ok.bind (l1Below_ok (l1Cur.mk c.b r.2.i r.2.h) 2 hr.2.2 (by omega)) fun p hp => Ok.ret ⟨u64w _, hp.2.2⟩) fun _ => ?_
   refine Ok.ite (fun _ => Ok.bind (l1Below_ok (l1Cur.mk c.b r.2.i r.2.h) 2 hr.2.2 (by omega)) fun p hp => Ok.bind (l1Below_ok (l1Cur.mk c.b p.2.i p.2.h) 3 hp.2.2 (by omega)) fun q hq => Ok.ret ⟨u64w _, hq.2.2⟩) fun _ => ?_
   refine Ok.ite (fun _ => Ok.bind (l1Below_ok (l1Cur.mk c.b r.2.i r.2.h) 12 hr.2.2 (by omega)) fun p hp => Ok.bind (l1Below_ok (l1Cur.mk c.b p.2.i p.2.h) 16 hp.2.2 (by omega)) fun q hq => Ok.ret ⟨u64w _, hq.2.2⟩) fun _ => ?_
   refine Ok.ite (fun _ => Ok.bind (l1Below_ok (l1Cur.mk c.b r.2.i r.2.h) 21 hr.2.2 (by omega)) fun p hp => ?_) fun _ => Ok.ret ⟨k1, hr.2.2⟩
   obtain ⟨p1, p2, p3⟩ := hp
   have hk : okF (FloatKind.f64.nearest (IntKind.wrap .i64 (p.1 - 10))) := by
    rw [w64 (by omega) (by omega)]
    have key : ∀ n : Fin 21, (let x := FloatKind.f64.nearest (((n : Nat) : Int) - 10); (cn x == x && decide (x < 18446744073709551616))) = true := by decide +kernel
    have h2 := key ⟨p.1.toNat, by omega⟩
    have e : ((p.1.toNat : Nat) : Int) - 10 = p.1 - 10 := by omega
    simp only [e, Bool.and_eq_true, beq_iff_eq, decide_eq_true_eq] at h2
    exact h2
   refine Ok.bind (Ok.eq (spec_FloatBits _ hk) (P := fun v => InK .u64 v) ⟨by show (0 : Int) ≤ _; omega, by have := hk.2; show _ ≤ (18446744073709551615 : Int); omega⟩) fun v hv => Ok.ret ⟨hv, p3⟩
theorem l2float_ok (c : l1Cur) (h : Ci c.b c.i) : Ok (spec_l2float.f c) fun r => okF r.1 ∧ Ci c.b r.2.i := by
 unfold spec_l2float.f
 refine Ok.bind (l2bits_ok c h) fun r hr => ?_
 obtain ⟨e, hl⟩ := u64_of hr.1
 rw [e]
 exact Ok.bind (Ok.eq (spec_FloatOf _ hl) (P := okF) (okF_cn _ hl)) fun v hv => Ok.ret ⟨hv, hr.2⟩
def okI (a : Item) : Prop := ok_Item a ∧ a.T.length ≤ 40
def okJ (a : Item) : Prop := ok_Item a ∧ a.T.length ≤ 100
theorem okI0 : okI I0 := ⟨ok_I0, by decide⟩
theorem okI_mk {k n : Int} {f : Nat} {t : List Int} (hk : InK .i64 k) (hn : InK .i64 n) (hf : okF f) (ht : ∀ x ∈ t, InK .u8 x) (hl : t.length ≤ 40) : okI (Item.mk k n f t) := ⟨⟨hk, hn, hf, by show t.length ≤ maxLen; simp only [maxLen]; omega, ht⟩, hl⟩
theorem ItemClean_ok (a : Item) (h : okI a) : Ok (spec_ItemClean.f a) okI := by
 unfold spec_ItemClean.f
 obtain ⟨⟨h1, h2, h3, h4, h5⟩, h6⟩ := h
 refine Ok.bind (Ok.eq (spec_ItemOk a h3) trivial (P := fun _ => True)) fun r _ => Ok.ite (fun _ => Ok.ret okI0) fun _ => ?_
 refine Ok.bind (P := fun b => okI b) ?_ fun b hb => ?_
 · unfold spec_l3copy.f
   refine Ok.grd (by simp only [Lim, List.length_nil]; omega) (Ok.ret ?_)
   exact okI_mk h1 h2 h3 h5 h6
 · refine Ok.bind (P := okF) (Ok.ite (fun _ => Ok.ret okF_0) fun _ => Ok.ret hb.1.2.2.1) fun f hf => Ok.ret ?_
   exact okI_mk hb.1.1 hb.1.2.1 hf hb.1.2.2.2.2 hb.2
theorem nu8 : ∀ x ∈ ([] : List Int), InK .u8 x := fun x hx => by cases hx
theorem l3key_ok (c : l1Cur) (h : Ci c.b c.i) : Ok (spec_l3key.f c) fun r => okI r.1 ∧ Ci c.b r.2.i := by
 unfold spec_l3key.f
 refine Ok.bind (l1Below_ok c 6 h (by omega)) fun r hr => ?_
 have k := hr.2.2
 refine Ok.ite (fun _ => ?_) fun _ => Ok.ite (fun _ => ?_) fun _ => ?_
 · refine Ok.bind (l1Below_ok (l1Cur.mk c.b r.2.i r.2.h) 3 k (by omega)) fun p hp => Ok.ret ⟨okI_mk (ik 3) (ik 0) okF_0 (fun x hx => ?_) (by simp), hp.2.2⟩
   rw [List.mem_singleton.1 hx]; exact u8w _
 · refine Ok.bind (l1Below_ok (l1Cur.mk c.b r.2.i r.2.h) 5 k (by omega)) fun p hp => ?_
   obtain ⟨p1, p2, p3⟩ := hp
   refine Ok.bind (ItemClean_ok _ (okI_mk (ik 2) (ik 0) ?_ nu8 (by simp))) fun b hb => Ok.ret ⟨hb, p3⟩
   rw [w64 (by omega) (by omega)]
   have key : ∀ n : Fin 5, (let x := far .quo (FloatKind.f64.nearest (((n : Nat) : Int) - 2)) (4611686018427387904 : Nat); (cn x == x && decide (x < 18446744073709551616))) = true := by decide +kernel
   have h2 := key ⟨p.1.toNat, by omega⟩
   have e : ((p.1.toNat : Nat) : Int) - 2 = p.1 - 2 := by omega
   simp only [e, Bool.and_eq_true, beq_iff_eq, decide_eq_true_eq] at h2
   exact h2
 · refine Ok.sel (R := fun y => Ci c.b y.1) (Ok.ite (fun _ => ?_) fun _ => ?_) fun y hy => ?_
   · refine Ok.bind (l1Once_ok (l1Cur.mk c.b r.2.i r.2.h) 3 k (by omega)) fun p hp => Ok.ite (fun _ => ?_) fun _ => Ok.ret hp
     exact Ok.bind (l2float_ok (l1Cur.mk c.b p.2.i p.2.h) hp) fun q hq => Ok.bind (ItemClean_ok _ (okI_mk (ik 2) (ik 0) hq.1 nu8 (by simp))) fun b hb => Ok.ret ⟨hb, hq.2⟩
   · refine Ok.sel (R := fun y => Ci c.b y.1) (Ok.ite (fun _ => ?_) fun _ => Ok.ret k) fun y hy => Ok.ret hy
     refine Ok.bind (l1Once_ok (l1Cur.mk c.b r.2.i r.2.h) 4 k (by omega)) fun p hp => Ok.ite (fun _ => ?_) fun _ => Ok.ret hp
     exact Ok.bind (l1some_ok (l1Cur.mk c.b p.2.i p.2.h) 40 hp (by omega) (by omega)) fun q hq => Ok.ret ⟨okI_mk (ik 3) (ik 0) okF_0 hq.1.2 (by have := hq.1.1; omega), hq.2⟩
   · exact Ok.bind (l1Below_ok (l1Cur.mk c.b y.1 y.2) 6 hy (by omega)) fun p hp => Ok.ret ⟨okI_mk (ik 1) (i64w _) okF_0 nu8 (by simp), hp.2.2⟩
theorem l3value_ok (c : l1Cur) (h : Ci c.b c.i) : Ok (spec_l3value.f c) fun r => okI r.1 ∧ Ci c.b r.2.i := by
 unfold spec_l3value.f
 refine Ok.bind (l1Below_ok c 5 h (by omega)) fun r hr => ?_
 have k := hr.2.2
 refine Ok.ite (fun _ => ?_) fun _ => Ok.ite (fun _ => ?_) fun _ => Ok.ite (fun _ => ?_) fun _ => ?_
 · exact Ok.bind (l1some_ok (l1Cur.mk c.b r.2.i r.2.h) 8 k (by omega) (by omega)) fun q hq => Ok.ret ⟨okI_mk (ik 3) (ik 0) okF_0 hq.1.2 (by have := hq.1.1; omega), hq.2⟩
 · exact Ok.bind (l2float_ok (l1Cur.mk c.b r.2.i r.2.h) k) fun q hq => Ok.ret ⟨okI_mk (ik 2) (ik 0) hq.1 nu8 (by simp), hq.2⟩
 · refine Ok.bind (l1Below_ok (l1Cur.mk c.b r.2.i r.2.h) 64 k (by omega)) fun p hp => Ok.ret ⟨okI_mk (ik 2) (ik 0) ?_ nu8 (by simp), hp.2.2⟩
   obtain ⟨p1, p2, p3⟩ := hp
   rw [w64 (by omega) (by omega)]
   have key : ∀ n : Fin 64, (let x := far .quo (FloatKind.f64.nearest (((n : Nat) : Int) - 32)) (4616189618054758400 : Nat); (cn x == x && decide (x < 18446744073709551616))) = true := by decide +kernel
   have h2 := key ⟨p.1.toNat, by omega⟩
   have e : ((p.1.toNat : Nat) : Int) - 32 = p.1 - 32 := by omega
   simp only [e, Bool.and_eq_true, beq_iff_eq, decide_eq_true_eq] at h2
   exact h2
 · refine Ok.sel (R := fun y => Ci c.b y.1) (Ok.ite (fun _ => ?_) fun _ => Ok.ret k) fun y hy => ?_
   · refine Ok.bind (l1Once_ok (l1Cur.mk c.b r.2.i r.2.h) 5 k (by omega)) fun p hp => Ok.ite (fun _ => ?_) fun _ => Ok.ret hp
     exact Ok.bind (l1some_ok (l1Cur.mk c.b p.2.i p.2.h) 40 hp (by omega) (by omega)) fun q hq => Ok.ret ⟨okI_mk (ik 3) (ik 0) okF_0 hq.1.2 (by have := hq.1.1; omega), hq.2⟩
   · exact Ok.bind (l1number_ok (l1Cur.mk c.b y.1 y.2) hy) fun p hp => Ok.ret ⟨okI_mk (ik 1) hp.1 okF_0 nu8 (by simp), hp.2⟩
theorem l3any_ok (c : l1Cur) (h : Ci c.b c.i) : Ok (spec_l3any.f c) fun r => okJ r.1 ∧ Ci c.b r.2.i := by
 unfold spec_l3any.f
 refine Ok.bind (l3value_ok c h) fun v hv => Ok.bind (l1Once_ok (l1Cur.mk c.b v.2.i v.2.h) 2 hv.2 (by omega)) fun o ho => ?_
 refine Ok.bind (P := fun y => Ci c.b y.1 ∧ okI (Item.mk y.2.2.1 y.2.2.2.1 y.2.2.2.2.1 y.2.2.2.2.2)) (Ok.ite (fun _ => Ok.bind (l3key_ok (l1Cur.mk c.b o.2.i o.2.h) ho) fun q hq => Ok.ret ⟨hq.2, hq.1⟩) fun _ => Ok.ret ⟨ho, hv.1⟩) fun y hy => ?_
 obtain ⟨hy0, ⟨y1, y2, y3, y4, y5⟩, y6⟩ := hy
 simp only [] at y1 y2 y3 y4 y5 y6
 refine Ok.bind (l1Below_ok (l1Cur.mk c.b y.1 y.2.1) 14 hy0 (by omega)) fun p hp => ?_
 obtain ⟨p1, p2, p3⟩ := hp
 refine Ok.bind (P := fun y => Ci c.b y.1 ∧ InK .i64 y.2.2.1 ∧ InK .i64 y.2.2.2.1 ∧ okF y.2.2.2.2.1 ∧ (∀ x ∈ y.2.2.2.2.2, InK .u8 x) ∧ y.2.2.2.2.2.length ≤ 100) ?_ fun y hy => Ok.ret ⟨⟨⟨hy.2.1, hy.2.2.1, hy.2.2.2.1, by have := hy.2.2.2.2.2; show y.2.2.2.2.2.length ≤ maxLen; simp only [maxLen]; omega, hy.2.2.2.2.1⟩, hy.2.2.2.2.2⟩, hy.1⟩
 have h100 : y.2.2.2.2.2.length ≤ 100 := by omega
 refine Ok.ite (fun _ => Ok.bind (l1Below_ok (l1Cur.mk c.b p.2.i p.2.h) 7 p3 (by omega)) fun q hq => Ok.ret ⟨hq.2.2, i64w _, y2, y3, y5, h100⟩) fun _ => ?_
 refine Ok.bind (P := fun y => Ci c.b y.1 ∧ InK .i64 y.2.2.1 ∧ InK .i64 y.2.2.2.1 ∧ okF y.2.2.2.2.1 ∧ (∀ x ∈ y.2.2.2.2.2, InK .u8 x) ∧ y.2.2.2.2.2.length ≤ 100) ?_ fun y hy => Ok.ret hy
 refine Ok.ite (fun _ => Ok.ret ⟨p3, y1, i64w _, y3, y5, h100⟩) fun _ => ?_
 refine Ok.bind (P := fun y => Ci c.b y.1 ∧ InK .i64 y.2.2.1 ∧ InK .i64 y.2.2.2.1 ∧ okF y.2.2.2.2.1 ∧ (∀ x ∈ y.2.2.2.2.2, InK .u8 x) ∧ y.2.2.2.2.2.length ≤ 100) ?_ fun y hy => Ok.ret hy
 refine Ok.ite (fun _ => Ok.bind (l2float_ok (l1Cur.mk c.b p.2.i p.2.h) p3) fun q hq => Ok.ret ⟨hq.2, y1, y2, hq.1, y5, h100⟩) fun _ => ?_
 refine Ok.bind (P := fun y => Ci c.b y.1 ∧ InK .i64 y.2.2.1 ∧ InK .i64 y.2.2.2.1 ∧ okF y.2.2.2.2.1 ∧ (∀ x ∈ y.2.2.2.2.2, InK .u8 x) ∧ y.2.2.2.2.2.length ≤ 100) ?_ fun y hy => Ok.ret hy
 refine Ok.ite (fun _ => Ok.bind (l1some_ok (l1Cur.mk c.b p.2.i p.2.h) 3 p3 (by omega) (by omega)) fun q hq => ?_) fun _ => ?_
 · obtain ⟨⟨q1, q2⟩, q3⟩ := hq
   refine Ok.grd (by simp only [Lim]; omega) (Ok.ret ⟨q3, y1, y2, y3, fun x hx => ?_, by simp; omega⟩)
   rcases List.mem_append.1 hx with hx | hx
   · exact y5 x hx
   · exact q2 x hx
 refine Ok.bind (P := fun y => Ci c.b y.1 ∧ InK .i64 y.2.2.1 ∧ InK .i64 y.2.2.2.1 ∧ okF y.2.2.2.2.1 ∧ (∀ x ∈ y.2.2.2.2.2, InK .u8 x) ∧ y.2.2.2.2.2.length ≤ 100) ?_ fun y hy => Ok.ret hy
 refine Ok.ite (fun _ => ?_) fun _ => ?_
 · refine Ok.iter (fun s => Ci c.b s.1 ∧ (∀ x ∈ s.2.2, InK .u8 x) ∧ s.2.2.length ≤ 41) (fun s => 41 - s.2.2.length) (fun s hs => ?_) _ ⟨p3, y5, by show y.2.2.2.2.2.length ≤ 41; omega⟩
   obtain ⟨s1, s2, s3⟩ := hs
   unfold spec_l3any.b0
   refine Ok.bind (l1Below_ok (l1Cur.mk c.b s.1 s.2.1) 2 s1 (by omega)) fun q hq => ?_
   obtain ⟨q1, q2, q3⟩ := hq
   rw [w64 (by omega) (by omega)]
   refine Ok.ite (fun hc => ?_) fun _ => Ok.out (Ok.ret ⟨q3, ik 3, ik 0, okF_0, s2, by show s.2.2.length ≤ 100; omega⟩)
   have hc' : (s.2.2.length : Int) < 40 + q.1 := by simpa using hc
   refine Ok.grd (by simp only [Lim, List.length_singleton]; omega) (Ok.ret ⟨⟨q3, fun x hx => ?_, by simp; omega⟩, by simp; omega⟩)
   rcases List.mem_append.1 hx with hx | hx
   · exact s2 x hx
   · rw [List.mem_singleton.1 hx]; exact u8_ok (by decide) (by decide)
 · refine Ok.bind (P := fun y => InK .i64 y.1 ∧ InK .i64 y.2.1 ∧ okF y.2.2.1 ∧ (∀ x ∈ y.2.2.2, InK .u8 x) ∧ y.2.2.2.length ≤ 100) (Ok.ite (fun _ => Ok.ret ⟨ik 2, ik 0, ⟨by decide +kernel, by decide +kernel⟩, nu8, by simp⟩) fun _ => Ok.ret ⟨y1, y2, y3, y5, h100⟩) fun z hz => Ok.ret ⟨p3, hz⟩
end Go.Proofs.YtegicanjlefmdaaGreat
set_option linter.unusedVariables false
set_option linter.unusedSimpArgs false
set_option linter.unusedSectionVars false
namespace Go.Proofs.YtegicanjlefmdaaGreat
open Go V Ieee
def okB (b : List Int) : Prop := b.length ≤ 1048576 ∧ ∀ x ∈ b, InK .u8 x
def okP (p : Page) : Prop := InK .i64 p.Lsn ∧ p.Slots.length ≤ 1048576 ∧ ∀ b ∈ p.Slots, okB b
section
variable (p : Page) (hp : okP p)
include hp
end
end Go.Proofs.YtegicanjlefmdaaGreat
set_option linter.unusedVariables false
set_option linter.unusedSimpArgs false
set_option linter.unusedSectionVars false
namespace Go.Proofs.YtegicanjlefmdaaGreat
open Go V Ieee
theorem len0 (b : List Int) : ((b.length : Int) == 0) = decide (b.length = 0) := by
 cases b with
 | nil => rfl
 | cons a l => simp; omega
def P0 : Page := Page.mk 0 []
end Go.Proofs.YtegicanjlefmdaaGreat
set_option linter.unusedVariables false
set_option linter.unusedSimpArgs false
set_option linter.unusedSectionVars false
namespace Go.Proofs.YtegicanjlefmdaaGreat
open Go V Ieee
end Go.Proofs.YtegicanjlefmdaaGreat
set_option linter.unusedVariables false
set_option linter.unusedSimpArgs false
namespace Go.Proofs.YtegicanjlefmdaaGreat
open Go V Ieee
theorem ur_frk (x : Nat) (h : okF x) (hz : x ≠ 9223372036854775808) : urf (FRK x) = x := by
  have hl := h.2
  unfold urf UR
  by_cases h1 : x = 9221120237041090560
  · subst h1; rfl
  · have hf : FRK x ≠ 18446744073709551615 ∧ UY (FRK x) = x := by
      unfold FRK
      rw [if_neg h1]
      by_cases h2 : x = 0 ∨ x = 9223372036854775808
      · rw [if_pos h2]
        rcases h2 with h2 | h2
        · subst h2; exact ⟨by decide, by decide⟩
        · exact absurd h2 hz
      · rw [if_neg h2]
        by_cases h3 : 9223372036854775808 ≤ x
        · rw [if_pos h3]
          obtain ⟨r, rfl⟩ : ∃ r, x = 9223372036854775808 + r := ⟨x - 9223372036854775808, by omega⟩
          have hr : r < 9223372036854775808 := by omega
          have e : 18446744073709551615 ^^^ (9223372036854775808 + r) = 9223372036854775807 - r := by
            have h4 : 18446744073709551615 ^^^ (9223372036854775808 + r) = 2 ^ 64 - 1 - (9223372036854775808 + r) := by
              have := BitVec.toNat_not (x := BitVec.ofNat 64 (9223372036854775808 + r))
              rw [BitVec.toNat_ofNat, Nat.mod_eq_of_lt (by omega)] at this
              rw [← this]
              have h5 : ∀ y : BitVec 64, ~~~ y = BitVec.allOnes 64 ^^^ y := fun y => (BitVec.allOnes_xor).symm
              rw [h5, BitVec.toNat_xor, BitVec.toNat_ofNat, Nat.mod_eq_of_lt (show 9223372036854775808 + r < 2 ^ 64 by omega)]; rfl
            rw [h4]; omega
          rw [e]
          refine ⟨by omega, ?_⟩
          unfold UY
          rw [if_neg (by omega)]
          have h6 : 18446744073709551615 ^^^ (18446744073709551615 ^^^ (9223372036854775808 + r)) = 9223372036854775808 + r := by rw [← Nat.xor_assoc, Nat.xor_self, Nat.zero_xor]
          rw [e] at h6; exact h6
        · rw [if_neg h3]
          have e : x ||| 9223372036854775808 = 9223372036854775808 + x := by
            have := or_add 63 1 x (by show x < 2 ^ 63; omega)
            rw [Nat.or_comm]
            rw [Nat.one_mul] at this; exact this
          rw [e]
          by_cases h7 : 9223372036854775808 + x = 18446744073709551615
          · exfalso
            have hx : x = 9223372036854775807 := by omega
            subst hx
            have := h.1
            revert this; decide
          · refine ⟨h7, ?_⟩
            unfold UY
            rw [if_pos (by omega)]; omega
    rw [if_neg hf.1, hf.2, h.1, if_pos rfl]
theorem kok_z {a : Item} (h : KOK a = true) : a.Kind ≠ 0 ∧ a.F ≠ 9223372036854775808 := by
 unfold KOK at h
 simp only [Bool.and_eq_true, decide_eq_true_eq, bne_iff_ne] at h
 exact ⟨h.1.2, h.2⟩
end Go.Proofs.YtegicanjlefmdaaGreat
set_option linter.unusedVariables false
set_option linter.unusedSimpArgs false
namespace Go.Proofs.YtegicanjlefmdaaGreat
open Go V Ieee
structure Put (h : Heap) (i : Nat) (p q : Page) (g : Heap) : Prop where
 lt : i ≤ h.Pages.length
 old : p = (if i = h.Pages.length then P0 else at_ h.Pages (i : Int))
 new : g.Pages = (if i = h.Pages.length then h.Pages ++ [P0] else h.Pages).set i q
end Go.Proofs.YtegicanjlefmdaaGreat
set_option linter.unusedVariables false
set_option linter.unusedSimpArgs false
namespace Go.Proofs.YtegicanjlefmdaaGreat
open Go V Ieee
end Go.Proofs.YtegicanjlefmdaaGreat
set_option linter.unusedVariables false
set_option linter.unusedSimpArgs false
namespace Go.Proofs.YtegicanjlefmdaaGreat
open Go V Ieee
end Go.Proofs.YtegicanjlefmdaaGreat
set_option linter.unusedVariables false
set_option linter.unusedSimpArgs false
namespace Go.Proofs.YtegicanjlefmdaaGreat
open Go V Ieee
theorem bcmp_0 : ∀ (xs ys : List Int), bcmp xs ys = 0 ↔ xs = ys
 | [], [] => by simp [bcmp]
 | [], y :: ys => by simp [bcmp]
 | x :: xs, [] => by simp [bcmp]
 | x :: xs, y :: ys => by
  unfold bcmp
  by_cases h : x = y
  · have : (x == y) = true := by simpa using h
    rw [this, cond_true, bcmp_0 xs ys, h]; simp
  · have : (x == y) = false := by simpa using h
    rw [this, cond_false]
    constructor
    · intro hh; cases hd : decide (x < y) <;> rw [hd] at hh <;> simp at hh
    · intro hh; simp at hh; exact absurd hh.1 h
theorem frk_inj {x y : Nat} (hx : okF x) (hy : okF y) (hx0 : x ≠ 9223372036854775808) (hy0 : y ≠ 9223372036854775808) (h : FRK x = FRK y) : x = y := by
 rw [← ur_frk x hx hx0, ← ur_frk y hy hy0, h]
theorem icm_0 {a b : Item} (ha : ok_Item a) (hb : ok_Item b) (ka : KOK a = true) (kb : KOK b = true) : ICM a b = 0 ↔ a = b := by
 obtain ⟨k, n, f, t⟩ := a
 obtain ⟨k', n', f', t'⟩ := b
 unfold ICM
 simp only []
 constructor
 · intro h
   by_cases h1 : k = k'
   · rw [if_neg (by simpa using h1)] at h
     by_cases h2 : n = n'
     · rw [if_neg (by simpa using h2)] at h
       by_cases h3 : FRK f = FRK f'
       · rw [if_neg (by simpa using h3)] at h
         have h4 : f = f' := frk_inj ha.2.2.1 hb.2.2.1 (kok_z ka).2 (kok_z kb).2 h3
         rw [h1, h2, h4, (bcmp_0 _ _).1 h]
       · rw [if_pos h3] at h
         exact absurd (sgn_0.1 h) (fun e => h3 (by omega))
     · rw [if_pos h2] at h
       exact absurd (sgn_0.1 h) h2
   · rw [if_pos h1] at h
     exact absurd (sgn_0.1 h) h1
 · intro h
   injection h with h1 h2 h3 h4
   subst h1; subst h2; subst h3; subst h4
   rw [if_neg (by simp), if_neg (by simp), if_neg (by simp), (bcmp_0 t t).2 rfl]
end Go.Proofs.YtegicanjlefmdaaGreat
set_option linter.unusedVariables false
set_option linter.unusedSimpArgs false
set_option linter.unusedSectionVars false
namespace Go.Proofs.YtegicanjlefmdaaGreat
open Go V Ieee
theorem has_mem {ws : List Item} {k : Item} (hw : ∀ x ∈ ws, ok_Item x ∧ KOK x = true) (hk : ok_Item k) (vk : KOK k = true) : HAS ws k = true ↔ k ∈ ws := by
 unfold HAS
 rw [List.any_eq_true]
 constructor
 · rintro ⟨a, ha, h⟩
   rw [(icm_0 (hw a ha).1 hk (hw a ha).2 vk).1 (by simpa using h)] at ha; exact ha
 · intro h; exact ⟨k, h, by simpa using (icm_0 hk hk vk vk).2 rfl⟩
theorem tms_mem : ∀ (l : List Deed) (i : Nat) (h : i < l.length), (l[i]).Ended ∈ TMS l ∧ (l[i]).Begun ∈ TMS l := fun l i h => by
 have hm := List.getElem_mem h
 exact ⟨List.mem_flatMap.2 ⟨_, hm, by simp⟩, List.mem_flatMap.2 ⟨_, hm, by simp⟩⟩
theorem tms_ne : ∀ (l : List Deed), (TMS l).Nodup → ∀ (i j : Nat) (hi : i < l.length) (hj : j < l.length), i ≠ j → (l[i]).Ended ≠ (l[j]).Ended ∧ (l[i]).Ended ≠ (l[j]).Begun
 | [], _, i, j, hi, _, _ => absurd hi (by simp)
 | x :: l, hn, i, j, hi, hj, hij => by
  have e : TMS (x :: l) = [x.Begun, x.Ended] ++ TMS l := rfl
  rw [e, List.nodup_append] at hn
  obtain ⟨_, h2, h3⟩ := hn
  match i, j, hi, hj, hij with
  | 0, 0, _, _, h => exact absurd rfl h
  | 0, j + 1, _, hj, _ =>
   have hj' : j < l.length := by simpa using hj
   have := tms_mem l j hj'
   exact ⟨h3 _ (by simp) _ this.1, h3 _ (by simp) _ this.2⟩
  | i + 1, 0, hi, _, _ =>
   have hi' : i < l.length := by simpa using hi
   have := tms_mem l i hi'
   exact ⟨fun e => h3 x.Ended (by simp) _ this.1 e.symm, fun e => h3 x.Begun (by simp) _ this.1 e.symm⟩
  | i + 1, j + 1, hi, hj, h => exact tms_ne l h2 i j (by simpa using hi) (by simpa using hj) (by omega)
section
variable (l : List Deed)
structure TP (o : List Int) (is : List Bool) : Prop where
 nd : o.Nodup
 bd : ∀ x ∈ o, 0 ≤ x ∧ x < (l.length : Int)
 len : is.length = l.length
 mem : ∀ i : Nat, i < l.length → (at_ is (i : Int) = true ↔ (i : Int) ∈ o)
 top : ∀ (p : Nat) (hp : p < o.length), ∀ a ∈ AHp l (o[p]).toNat l.length, a ∈ o.take p
theorem tp_0 : TP l [] (IS0 l) where
 nd := List.nodup_nil
 bd := fun x hx => by cases hx
 len := (is0 l).1
 mem := fun i hi => by rw [at_nat _ i (by rw [(is0 l).1]; exact hi)]; simp [IS0]
 top := fun p hp => absurd hp (by simp)
theorem tp_1 {o : List Int} {is : List Bool} (h : TP l o is) {i : Nat} (hp : PCK l is = some i) : TP l (o ++ [(i : Int)]) (is.set i true) := by
 obtain ⟨hi, hr⟩ := pck_some l hp
 simp only [RDY, Bool.and_eq_true, Bool.not_eq_true', List.all_eq_true] at hr
 have hno : (i : Int) ∉ o := fun hm => by rw [(h.mem i hi).2 hm] at hr; cases hr.1
 have hil : i < is.length := by rw [h.len]; exact hi
 refine ⟨List.nodup_append.2 ⟨h.nd, by simp, fun x hx y hy e => by simp at hy; subst hy; subst e; exact hno hx⟩, fun x hx => ?_, by simpa using h.len, fun j hj => ?_, fun p hp a ha => ?_⟩
 · rcases List.mem_append.1 hx with hx | hx
   · exact h.bd x hx
   · simp at hx; subst hx; omega
 · have hjl : j < is.length := by rw [h.len]; exact hj
   rw [at_nat _ j (by simpa using hjl), List.getElem_set, List.mem_append, List.mem_singleton]
   by_cases e : i = j
   · subst e; simp
   · rw [if_neg e, ← at_nat _ j hjl, h.mem j hj]
     constructor
     · exact Or.inl
     · rintro (h | h)
       · exact h
       · exact absurd (by omega) e
 · by_cases hlt : p < o.length
   · rw [List.getElem_append_left hlt] at ha
     have := h.top p hlt a ha
     rw [List.take_append_of_le_length (by omega)]; exact this
   · have hpe : p = o.length := by simp at hp; omega
     subst hpe
     rw [List.getElem_append_right (by omega)] at ha
     simp only [Nat.sub_self, List.getElem_cons_zero, Int.toNat_natCast] at ha
     rw [List.take_append_of_le_length (by omega), List.take_length]
     have hb := ahp_lt l (b := i) l.length a ha
     have h1 := hr.2 a ha
     have e : ((a.toNat : Nat) : Int) = a := Int.toNat_of_nonneg hb.1
     rw [← e] at h1 ⊢
     exact (h.mem a.toNat (by omega)).1 h1
theorem tp_tk : ∀ (n : Nat) (s : List Int × List Bool), TP l s.1 s.2 → TP l (TK l n s).1 (TK l n s).2
 | 0, s, h => h
 | n + 1, s, h => by
  unfold TK
  cases hp : PCK l s.2 with
  | none => exact h
  | some i => exact tp_tk n _ (tp_1 l h hp)
theorem tp_res : TP l (RES l).1 (RES l).2 := tp_tk l l.length ([], IS0 l) (tp_0 l)
theorem res_all (h : l.length ≤ (RES l).1.length) : (RES l).2.all (fun b => b) = true := by
 obtain ⟨r1, r2, r3⟩ := res_inv l
 refine List.all_eq_true.2 fun b hb => ?_
 cases b with
 | true => rfl
 | false =>
  have := List.count_pos_iff.2 hb
  omega
theorem res_full (h : l.length ≤ (RES l).1.length) (i : Nat) (hi : i < l.length) : ∃ p, ∃ hp : p < (RES l).1.length, (RES l).1[p] = (i : Int) := by
 obtain ⟨r1, r2, r3⟩ := res_inv l
 have h1 : at_ (RES l).2 (i : Int) = true := by
  rw [at_nat _ i (by omega)]
  exact List.all_eq_true.1 (res_all l h) _ (List.getElem_mem (by omega))
 obtain ⟨p, hp, e⟩ := List.getElem_of_mem (((tp_res l).mem i hi).1 h1)
 exact ⟨p, hp, e⟩
theorem mem_ahp {a b : Nat} (ha : a < l.length) (h : AB l a b = true) : (a : Int) ∈ AHp l b l.length :=
 List.mem_map.2 ⟨a, List.mem_filter.2 ⟨List.mem_range.2 ha, h⟩, rfl⟩
theorem ahp_ab {x : Int} {b : Nat} (h : x ∈ AHp l b l.length) : ∃ a : Nat, x = a ∧ a < l.length ∧ AB l a b = true := by
 obtain ⟨a, ha, e⟩ := List.mem_map.1 h
 obtain ⟨h1, h2⟩ := List.mem_filter.1 ha
 exact ⟨a, e.symm, List.mem_range.1 h1, h2⟩
theorem mem_eds {e : A2Int} (h : e ∈ EDs l l.length) : ∃ a b : Nat, a < l.length ∧ b < l.length ∧ AB l a b = true ∧ e = A2Int.mk (a : Int) (b : Int) := by
 obtain ⟨a, ha, he⟩ := List.mem_flatMap.1 h
 obtain ⟨b, hb, e'⟩ := List.mem_map.1 he
 obtain ⟨h1, h2⟩ := List.mem_filter.1 hb
 exact ⟨a, b, List.mem_range.1 ha, List.mem_range.1 h1, h2, e'.symm⟩
theorem eds_mem {a b : Nat} (ha : a < l.length) (hb : b < l.length) (h : AB l a b = true) : A2Int.mk (a : Int) (b : Int) ∈ EDs l l.length :=
 List.mem_flatMap.2 ⟨a, List.mem_range.2 ha, List.mem_map.2 ⟨b, List.mem_filter.2 ⟨List.mem_range.2 hb, h⟩, rfl⟩⟩
variable {l} {o : List Int} {is : List Bool}
theorem TP.lt (T : TP l o is) {a b : Nat} (ha : a < l.length) (h : AB l a b = true) {p : Nat} (hp : p < o.length) (e : o[p] = (b : Int)) : ∃ q, ∃ hq : q < o.length, q < p ∧ o[q] = (a : Int) := by
 have := T.top p hp (a : Int) (by rw [e]; exact mem_ahp l ha h)
 obtain ⟨q, hq, e⟩ := List.mem_take_iff_getElem.1 this
 exact ⟨q, by omega, by omega, e⟩
theorem nd_inj {o : List Int} (h : o.Nodup) {p q : Nat} (hp : p < o.length) (hq : q < o.length) (e : o[p] = o[q]) : p = q := (List.getElem_inj h).1 e
def LI (l : List Deed) (o : List Int) (k : Item) (p : Nat) (last : Int) : Prop :=
 (last = -1 ∧ ∀ q (hq : q < o.length), q < p → HAS (at_ l o[q]).Writes k = false) ∨
 ∃ q, ∃ hq : q < o.length, q < p ∧ last = o[q] ∧ HAS (at_ l o[q]).Writes k = true ∧ ∀ q' (hq' : q' < o.length), q < q' → q' < p → HAS (at_ l o[q']).Writes k = false
def SB (l : List Deed) (own : Nat) (k : Item) (c : Nat) : Bool := decide (c ≠ own) && decide ((at_ l (c : Int)).Ended < (at_ l (own : Int)).Begun) && HAS (at_ l (c : Int)).Writes k
def BI (l : List Deed) (own : Nat) (k : Item) (n : Nat) (best : Int) : Prop :=
 (best = -1 ∧ ∀ c, c < n → SB l own k c = false) ∨
 ∃ c, c < n ∧ best = (c : Int) ∧ SB l own k c = true ∧ ∀ c', c' < n → SB l own k c' = true → (at_ l (c' : Int)).Ended ≤ (at_ l (c : Int)).Ended
theorem serial_key (hv : ∀ d ∈ l, VD d) (hn : (TMS l).Nodup) (T : TP l o is) (p : Nat) (hp : p < o.length) (own : Nat) (how : own < l.length) (ho : o[p] = (own : Int)) (k : Item) (hk : ok_Item k) (vk : KOK k = true) (hr : RDS (at_ l (own : Int)) k = true) {last best : Int} (h1 : LI l o k p last) (h2 : BI l own k l.length best) : last = best := by
  have vd : ∀ c, c < l.length → VD (at_ l (c : Int)) := fun c hc => by rw [at_nat _ c hc]; exact hv _ (List.getElem_mem hc)
  have hm : ∀ c, c < l.length → HAS (at_ l (c : Int)).Writes k = true → k ∈ (at_ l (c : Int)).Writes := fun c hc h => (has_mem (vd c hc).w hk vk).1 h
  have ne : ∀ i j, i < l.length → j < l.length → i ≠ j → (at_ l (i : Int)).Ended ≠ (at_ l (j : Int)).Ended ∧ (at_ l (i : Int)).Ended ≠ (at_ l (j : Int)).Begun := fun i j hi hj h => by
    rw [at_nat _ i hi, at_nat _ j hj]; exact tms_ne l hn i j hi hj h
  -- those that stand behind stand ahead in the order
  have f1 : ∀ c, c < l.length → SB l own k c = true → ∃ q, ∃ hq : q < o.length, q < p ∧ o[q] = (c : Int) ∧ HAS (at_ l (c : Int)).Writes k = true := fun c hc h => by
    simp only [SB, Bool.and_eq_true, decide_eq_true_eq] at h
    obtain ⟨q, hq, hlt, e⟩ := T.lt (a := c) (b := own) hc (by
      unfold AB EDG
      rw [decide_eq_true h.1.1, decide_eq_true h.1.2, List.any_eq_true.2 ⟨k, hm c hc h.2, hr⟩]; simp) hp ho
    exact ⟨q, hq, hlt, e, h.2⟩
  have f2 : ∀ q (hq : q < o.length), q < p → HAS (at_ l o[q]).Writes k = true → ∃ c, c < l.length ∧ o[q] = (c : Int) ∧ SB l own k c = true := fun q hq hlt h => by
    have hb := T.bd _ (List.getElem_mem hq)
    have e : o[q] = ((o[q].toNat : Nat) : Int) := (Int.toNat_of_nonneg hb.1).symm
    generalize o[q].toNat = c at e
    rw [e] at h hb
    have hc : c < l.length := by omega
    refine ⟨c, hc, e, ?_⟩
    have hne : c ≠ own := fun e' => by
      subst e'
      have := nd_inj T.nd hq hp (by rw [e, ho])
      omega
    unfold SB
    rw [decide_eq_true hne, h]
    by_cases hlt' : (at_ l (c : Int)).Ended < (at_ l (own : Int)).Begun
    · rw [decide_eq_true hlt']; rfl
    · have hgt : (at_ l (c : Int)).Ended > (at_ l (own : Int)).Begun := by
        have := (ne c own hc how hne).2
        omega
      obtain ⟨q', hq', hlt'', e''⟩ := T.lt (a := own) (b := c) how (by
        unfold AB EDG
        rw [decide_eq_true (Ne.symm hne), decide_eq_true hgt, List.any_eq_true.2 ⟨k, hm c hc h, hr⟩]; simp) hq e
      have := nd_inj T.nd hq' hp (by rw [e'', ho])
      omega
  rcases h1 with ⟨rfl, h1⟩ | ⟨q, hq, hqp, rfl, hw, h1⟩ <;> rcases h2 with ⟨rfl, h2⟩ | ⟨c, hc, rfl, hs, h2⟩
  · rfl
  · obtain ⟨q, hq, hlt, e, hw⟩ := f1 c hc hs
    rw [← e, h1 q hq hlt] at hw
    cases hw
  · obtain ⟨c, hc, e, hs⟩ := f2 q hq hqp hw
    rw [h2 c hc] at hs
    cases hs
  · obtain ⟨c1, hc1, e1, hs1⟩ := f2 q hq hqp hw
    obtain ⟨q2, hq2, hlt2, e2, hw2⟩ := f1 c hc hs
    have hle := h2 c1 hc1 hs1
    by_cases hcc : c1 = c
    · rw [e1, hcc]
    · exfalso
      have hqq : q2 ≠ q := fun e => by subst e; rw [e1] at e2; exact hcc (by omega)
      have hq2q : q2 < q := by
        rcases Nat.lt_or_ge q q2 with h | h
        · rw [← e2, h1 q2 hq2 h hlt2] at hw2; cases hw2
        · omega
      have hlt3 : (at_ l (c1 : Int)).Ended < (at_ l (c : Int)).Ended := by
        have := (ne c1 c hc1 hc hcc).1
        omega
      rw [e1] at hw
      obtain ⟨q3, hq3, hlt4, e4⟩ := T.lt (a := c1) (b := c) hc1 (by
        unfold AB EDG
        rw [decide_eq_true hcc, decide_eq_true hlt3, List.any_eq_true.2 ⟨k, hm c1 hc1 hw, hw2⟩]; simp) hq2 e2
      have := nd_inj T.nd hq3 hq (by rw [e4, e1])
      omega
end
end Go.Proofs.YtegicanjlefmdaaGreat
set_option linter.unusedVariables false
set_option linter.unusedSimpArgs false
set_option linter.unusedSectionVars false
namespace Go.Proofs.YtegicanjlefmdaaGreat
open Go V Ieee
section
variable {l : List Deed} {o : List Int} {is : List Bool}
theorem bi_1 {own : Nat} {k : Item} {i : Nat} {best : Int} (h : BI l own k i best) : BI l own k (i + 1) (if (SB l own k i && (decide (best < 0) || decide ((at_ l (i : Int)).Ended > (at_ l best).Ended))) = true then (i : Int) else best) := by
 rcases h with ⟨rfl, h⟩ | ⟨c, hc, rfl, hs, h⟩
 · cases hi : SB l own k i with
   | false =>
    refine Or.inl ⟨by simp, fun c hc => ?_⟩
    rcases Nat.lt_succ_iff_lt_or_eq.1 hc with h' | h'
    · exact h c h'
    · rw [h']; exact hi
   | true =>
    refine Or.inr ⟨i, by omega, by simp, hi, fun c hc hs => ?_⟩
    rcases Nat.lt_succ_iff_lt_or_eq.1 hc with h' | h'
    · rw [h c h'] at hs; cases hs
    · rw [h']; exact Int.le_refl _
 · have hneg : ¬ ((c : Int) < 0) := by omega
   rw [decide_eq_false hneg, Bool.false_or]
   by_cases hgt : (at_ l (i : Int)).Ended > (at_ l (c : Int)).Ended
   · rw [decide_eq_true hgt, Bool.and_true]
     cases hi : SB l own k i with
     | false =>
      refine Or.inr ⟨c, by omega, by simp, hs, fun c' hc' hs' => ?_⟩
      rcases Nat.lt_succ_iff_lt_or_eq.1 hc' with h' | h'
      · exact h c' h' hs'
      · rw [h', hi] at hs'; cases hs'
     | true =>
      refine Or.inr ⟨i, by omega, by simp, hi, fun c' hc' hs' => ?_⟩
      rcases Nat.lt_succ_iff_lt_or_eq.1 hc' with h' | h'
      · have := h c' h' hs'; omega
      · rw [h']; exact Int.le_refl _
   · rw [decide_eq_false hgt, Bool.and_false]
     refine Or.inr ⟨c, by omega, by simp, hs, fun c' hc' hs' => ?_⟩
     rcases Nat.lt_succ_iff_lt_or_eq.1 hc' with h' | h'
     · exact h c' h' hs'
     · rw [h']; omega
theorem behind_loop {own : Nat} {k : Item} {body : Int × Int → Option ((Int × Int) ⊕ Int)} (hb : ∀ (i : Nat) (best : Int), i < l.length → (best = -1 ∨ ∃ c : Nat, c < l.length ∧ best = (c : Int)) → body (best, (i : Int)) = some (.inl (if (SB l own k i && (decide (best < 0) || decide ((at_ l (i : Int)).Ended > (at_ l best).Ended))) = true then (i : Int) else best, ((i + 1 : Nat) : Int)))) (he : ∀ best, body (best, (l.length : Int)) = some (.inr best)) : Ok (iter body ((-1 : Int), (0 : Int))) (BI l own k l.length) := by
  refine Ok.iter (fun s => ∃ i : Nat, s.2 = (i : Int) ∧ i ≤ l.length ∧ BI l own k i s.1) (fun s => l.length - s.2.toNat) (fun s hs => ?_) _ ⟨0, rfl, by omega, Or.inl ⟨rfl, fun c hc => absurd hc (by omega)⟩⟩
  obtain ⟨best, s2⟩ := s
  obtain ⟨i, hi, hil, h⟩ := hs
  simp only [] at hi h
  subst hi
  by_cases hlt : i < l.length
  · have hbest : best = -1 ∨ ∃ c : Nat, c < l.length ∧ best = (c : Int) := by
      rcases h with ⟨h, _⟩ | ⟨c, hc, h, _⟩
      · exact Or.inl h
      · exact Or.inr ⟨c, by omega, h⟩
    rw [hb i best hlt hbest]
    exact Ok.ret ⟨⟨i + 1, rfl, by omega, bi_1 h⟩, by simp only [Int.toNat_natCast]; omega⟩
  · have : i = l.length := by omega
    subst this
    rw [he]
    exact Ok.ret h
theorem vd_at (hv : ∀ d ∈ l, VD d) {c : Nat} (hc : c < l.length) : VD (at_ l (c : Int)) := by rw [at_nat _ c hc]; exact hv _ (List.getElem_mem hc)
theorem ne_cast (i own : Nat) : (((i : Int)) != (own : Int)) = decide (i ≠ own) := by
 by_cases h : i = own
 · subst h; simp
 · rw [decide_eq_true h]; simp; omega
theorem impl_behind (hv : ∀ d ∈ l, VD d) (hl : l.length ≤ 100) (own : Nat) (how : own < l.length) (k : Item) (hk : ok_Item k) : Ok (impl_behind.f l (own : Int) k) (BI l own k l.length) := by
 unfold impl_behind.f
 refine behind_loop (fun i best hi hbest => ?_) (fun best => ?_)
 · unfold impl_behind.b0 SB
   simp only []
   rw [if_pos (show decide ((i : Int) < (l.length : Int)) = true by simp; omega), if_pos (show 0 ≤ (i : Int) ∧ (i : Int) < (l.length : Int) by omega), impl_writes _ _ (vd_at hv hi) hk, if_pos (show 0 ≤ (own : Int) ∧ (own : Int) < (l.length : Int) by omega), ne_cast, w64 (by omega) (by omega)]
   generalize decide (i ≠ own) = b1
   generalize decide ((at_ l (i : Int)).Ended < (at_ l (own : Int)).Begun) = b2
   generalize HAS (at_ l (i : Int)).Writes k = b3
   rcases hbest with rfl | ⟨c, hc, rfl⟩
   · cases b1 <;> cases b2 <;> cases b3 <;> simp
   · have hneg : ¬ ((c : Int) < 0) := by omega
     rw [decide_eq_false hneg, if_pos (show 0 ≤ (c : Int) ∧ (c : Int) < (l.length : Int) by omega)]
     generalize decide ((at_ l (i : Int)).Ended > (at_ l (c : Int)).Ended) = b4
     cases b1 <;> cases b2 <;> cases b3 <;> cases b4 <;> simp
 · unfold impl_behind.b0
   rw [if_neg (by simp)]; rfl
theorem spec_behind (hv : ∀ d ∈ l, VD d) (hl : l.length ≤ 100) (own : Nat) (how : own < l.length) (k : Item) (hk : ok_Item k) (vk : KOK k = true) : Ok (spec_l14behind.f l (own : Int) k) (BI l own k l.length) := by
 unfold spec_l14behind.f
 refine behind_loop (fun i best hi hbest => ?_) (fun best => ?_)
 · unfold spec_l14behind.b0 SB
   have vd := vd_at hv hi
   have gi : 0 ≤ (i : Int) ∧ (i : Int) < (l.length : Int) := by omega
   simp only []
   rw [if_pos (show decide ((i : Int) < (l.length : Int)) = true by simp; omega), if_pos gi, spec_has _ _ (by have := vd.wl; omega) vd.w hk vk, if_pos gi, if_pos (show 0 ≤ (own : Int) ∧ (own : Int) < (l.length : Int) by omega), ne_cast, w64 (by omega) (by omega), if_pos gi]
   generalize decide (i ≠ own) = b1
   generalize decide ((at_ l (i : Int)).Ended < (at_ l (own : Int)).Begun) = b2
   generalize HAS (at_ l (i : Int)).Writes k = b3
   rcases hbest with rfl | ⟨c, hc, rfl⟩
   · cases b1 <;> cases b2 <;> cases b3 <;> simp
   · have hneg : ¬ ((c : Int) < 0) := by omega
     rw [decide_eq_false hneg, if_pos (show 0 ≤ (c : Int) ∧ (c : Int) < (l.length : Int) by omega)]
     generalize decide ((at_ l (i : Int)).Ended > (at_ l (c : Int)).Ended) = b4
     cases b1 <;> cases b2 <;> cases b3 <;> cases b4 <;> simp
 · unfold spec_l14behind.b0
   rw [if_neg (by simp)]; rfl
theorem li_1 {k : Item} {p : Nat} {last : Int} (hp : p < o.length) (h : LI l o k p last) : LI l o k (p + 1) (if HAS (at_ l o[p]).Writes k = true then o[p] else last) := by
 cases hw : HAS (at_ l o[p]).Writes k with
 | true =>
  rw [if_pos rfl]
  exact Or.inr ⟨p, hp, by omega, rfl, hw, fun q' hq' h1 h2 => by omega⟩
 | false =>
  rw [if_neg (by decide)]
  rcases h with ⟨rfl, h⟩ | ⟨q, hq, hqp, rfl, hs, h⟩
  · refine Or.inl ⟨rfl, fun q hq hlt => ?_⟩
    rcases Nat.lt_succ_iff_lt_or_eq.1 hlt with h' | h'
    · exact h q hq h'
    · subst h'; exact hw
  · refine Or.inr ⟨q, hq, by omega, rfl, hs, fun q' hq' h1 hlt => ?_⟩
    rcases Nat.lt_succ_iff_lt_or_eq.1 hlt with h' | h'
    · exact h q' hq' h1 h'
    · subst h'; exact hw
structure OR (l : List Deed) (o : List Int) (is : List Bool) : Prop where
 v : ∀ d ∈ l, VD d
 le : l.length ≤ 100
 nd : (TMS l).Nodup
 T : TP l o is
 len : o.length = l.length
theorem OR.at (R : OR l o is) {p : Nat} (hp : p < o.length) : ∃ c : Nat, o[p] = (c : Int) ∧ c < l.length := by
 have hb := R.T.bd _ (List.getElem_mem hp)
 exact ⟨o[p].toNat, (Int.toNat_of_nonneg hb.1).symm, by omega⟩
theorem impl_reads (R : OR l o is) (p : Nat) (hp : p < o.length) (own : Nat) (ho : o[p] = (own : Int)) (how : own < l.length) (k : Item) (hk : ok_Item k) (vk : KOK k = true) (hr : RDS (at_ l (own : Int)) k = true) : impl_readsSame.f l o (p : Int) k = some true := by
  have hlen := R.len
  have hle := R.le
  have key : Ok (impl_readsSame.f l o (p : Int) k) fun r => r = true := by
    unfold impl_readsSame.f
    refine Ok.grd (by omega) (Ok.grd (by omega) ?_)
    refine Ok.iter (fun s => ∃ i : Nat, s.2 = (i : Int) ∧ i ≤ p ∧ LI l o k i s.1) (fun s => p - s.2.toNat) (fun s hs => ?_) _ ⟨0, rfl, by omega, Or.inl ⟨rfl, fun q hq hlt => absurd hlt (by omega)⟩⟩
    obtain ⟨last, s2⟩ := s
    obtain ⟨i, hi, hil, h⟩ := hs
    simp only [] at hi h
    subst hi
    unfold impl_readsSame.b0
    have htl : (o.take ((p : Nat) : Int).toNat).length = p := by simp; omega
    rw [htl]
    by_cases hlt : i < p
    · have hat : at_ (o.take ((p : Nat) : Int).toNat) (i : Int) = o[i]'(by omega) := by
        rw [at_nat _ i (by omega)]; simp
      obtain ⟨c, ec, hc⟩ := R.at (p := i) (by omega)
      simp only []
      rw [if_pos (by simp; omega), if_pos (by omega), hat, if_pos (by rw [ec]; omega)]
      refine Ok.bind (Ok.eq (impl_writes _ _ (by rw [ec]; exact vd_at R.v hc) hk) rfl) fun r hr' => ?_
      subst hr'
      rw [w64 (by omega) (by omega)]
      refine Ok.bind (P := fun y => y = if HAS (at_ l (o[i]'(by omega))).Writes k = true then o[i]'(by omega) else last) ?_ fun y hy => ?_
      · cases HAS (at_ l (o[i]'(by omega))).Writes k <;> exact Ok.ret rfl
      · subst hy
        exact Ok.ret ⟨⟨i + 1, by simp, by omega, li_1 (by omega) h⟩, by simp only []; omega⟩
    · have : i = p := by omega
      subst this
      simp only []
      rw [if_neg (by simp), at_nat _ i hp, ho]
      refine Ok.out (Ok.bind (impl_behind R.v hle own how k hk) fun r hr' => Ok.ret ?_)
      rw [serial_key R.v R.nd R.T i hp own how ho k hk vk hr h hr']
      simp
  obtain ⟨r, e, rfl⟩ := key
  exact e
theorem impl_serial (hd : ∀ d ∈ l, okDd d) (hk : DKK l = true) (R : OR l o is) : impl_GraphSerial.f l o = some true := by
 have hlen := R.len
 have hle := R.le
 have e1 : impl_GraphSerial_1.f = impl_DeedsOk_1.f := rfl
 have e2 : (!true || ((o.length : Int) != (l.length : Int))) = false := by rw [hlen]; simp
 have e3 : o.all (fun x => rin x 0 ((l.length : Int) - 1)) = true := List.all_eq_true.2 fun x hx => by
  have := R.T.bd x hx
  exact rin_iff.2 ⟨by omega, by omega⟩
 have key : Ok (impl_GraphSerial.f l o) fun r => r = true := by
  unfold impl_GraphSerial.f
  rw [impl_DeedsOk l hd, Option.bind_some, hk, e2, if_neg (by decide), e1, diffInt o (by omega), Option.bind_some, Option.bind_some, decide_eq_true R.T.nd, if_neg (by decide), idxInt o (by omega) _ (fun x => rin x 0 ((l.length : Int) - 1)) (fun x hx => by unfold impl_GraphSerial_2.f; rw [w64 (by omega) (by omega)]; rfl), Option.bind_some, Option.bind_some, e3, if_neg (by decide)]
  refine Ok.iter (fun s => ∃ p : Nat, s = (p : Int) ∧ p ≤ o.length) (fun s => o.length - s.toNat) (fun s hs => ?_) _ ⟨0, rfl, by omega⟩
  obtain ⟨p, rfl, hp⟩ := hs
  unfold impl_GraphSerial.b0
  refine Ok.ite (fun hc => ?_) fun hc => Ok.out (Ok.ret rfl)
  have hp : p < o.length := by simpa using hc
  obtain ⟨own, ho, how⟩ := R.at hp
  refine Ok.grd (by omega) ?_
  refine Ok.iter (fun s => ∃ q : Nat, s = (q : Int) ∧ q ≤ l.length) (fun s => l.length - s.toNat) (fun s hs => ?_) _ ⟨0, rfl, by omega⟩
  obtain ⟨w, rfl, hw⟩ := hs
  unfold impl_GraphSerial.b1
  refine Ok.ite (fun hc => ?_) fun hc => Ok.out (Ok.ret ?_)
  · have hw : w < l.length := by simpa using hc
    have vd := vd_at R.v hw
    have hwl := vd.wl
    refine Ok.grd (by omega) ?_
    refine Ok.iter (fun s => ∃ q : Nat, s = (q : Int) ∧ q ≤ (at_ l (w : Int)).Writes.length) (fun s => (at_ l (w : Int)).Writes.length - s.toNat) (fun s hs => ?_) _ ⟨0, rfl, by omega⟩
    obtain ⟨q, rfl, hq⟩ := hs
    unfold impl_GraphSerial.b2
    refine Ok.ite (fun hc => ?_) fun hc => Ok.out (Ok.ret ?_)
    · have hq : q < (at_ l (w : Int)).Writes.length := by simpa using hc
      have hkk := vd.w _ (List.getElem_mem hq)
      rw [at_nat o p hp, ho, at_nat (at_ l (w : Int)).Writes q hq]
      refine Ok.grd (by omega) (Ok.grd (by omega) ?_)
      rw [impl_readsKey _ _ (vd_at R.v how) hkk.1, Option.bind_some]
      refine Ok.bind (P := fun y => y = false) ?_ fun y hy => ?_
      · cases hr : RDS (at_ l (own : Int)) (at_ l (w : Int)).Writes[q] with
        | false => exact Ok.ret rfl
        | true =>
         rw [if_pos rfl, impl_reads R p hp own ho how _ hkk.1 hkk.2 hr]
         exact Ok.ret rfl
      · subst hy
        rw [if_neg (by decide), w64 (by omega) (by omega)]
        exact Ok.ret ⟨⟨q + 1, by simp, by omega⟩, by omega⟩
    · rw [w64 (by omega) (by omega)]
      exact ⟨⟨w + 1, by simp, by omega⟩, by omega⟩
  · rw [w64 (by omega) (by omega)]
    exact ⟨⟨p + 1, by simp, by omega⟩, by omega⟩
 obtain ⟨r, e, rfl⟩ := key
 exact e
theorem spec_serial (hd : ∀ d ∈ l, okDd d) (hk : DKK l = true) (R : OR l o is) : spec_GraphSerial.f l o = some true := by
 have hlen := R.len
 have hle := R.le
 have e2 : (!true || ((o.length : Int) != (l.length : Int))) = false := by rw [hlen]; simp
 have key : Ok (spec_GraphSerial.f l o) fun r => r = true := by
  unfold spec_GraphSerial.f
  rw [spec_DeedsOk l hd, Option.bind_some, hk, e2, if_neg (by decide)]
  refine Ok.iter (fun s => ∃ p : Nat, s = (p : Int) ∧ p ≤ o.length) (fun s => o.length - s.toNat) (fun s hs => ?_) _ ⟨0, rfl, by omega⟩
  obtain ⟨p, rfl, hp⟩ := hs
  unfold spec_GraphSerial.b0
  refine Ok.ite (fun hc => ?_) fun hc => Ok.out ?_
  · have hp : p < o.length := by simpa using hc
    obtain ⟨own, ho, how⟩ := R.at hp
    refine Ok.grd (by omega) ?_
    rw [at_nat o p hp, ho, in_rin, Option.bind_some, w64 (by omega) (by omega), rin_iff.2 ⟨by omega, by omega⟩, if_neg (by decide)]
    refine Ok.iter (fun s => ∃ q : Nat, s = (q : Int) ∧ q ≤ p) (fun s => p - s.toNat) (fun s hs => ?_) _ ⟨0, rfl, by omega⟩
    obtain ⟨q, rfl, hq⟩ := hs
    unfold spec_GraphSerial.b1
    refine Ok.ite (fun hc => ?_) fun hc => Ok.out (Ok.ret ?_)
    · have hq : q < p := by simpa using hc
      refine Ok.grd (by omega) (Ok.grd (by omega) ?_)
      have hne : ¬ (at_ o (q : Int) == at_ o (p : Int)) = true := by
       rw [at_nat o p hp, at_nat o q (by omega)]
       intro h
       have := nd_inj R.T.nd (p := q) (q := p) (by omega) hp (by simpa using h)
       omega
      rw [if_neg hne, w64 (by omega) (by omega)]
      exact Ok.ret ⟨⟨q + 1, by simp, by omega⟩, by omega⟩
    · rw [w64 (by omega) (by omega)]
      exact ⟨⟨p + 1, by simp, by omega⟩, by omega⟩
  · refine Ok.iter (fun s => ∃ p : Nat, s = (p : Int) ∧ p ≤ o.length) (fun s => o.length - s.toNat) (fun s hs => ?_) _ ⟨0, rfl, by omega⟩
    obtain ⟨p, rfl, hp⟩ := hs
    unfold spec_GraphSerial.b2
    refine Ok.ite (fun hc => ?_) fun hc => Ok.out (Ok.ret rfl)
    have hp : p < o.length := by simpa using hc
    obtain ⟨own, ho, how⟩ := R.at hp
    refine Ok.grd (by omega) ?_
    refine Ok.iter (fun s => ∃ q : Nat, s = (q : Int) ∧ q ≤ l.length) (fun s => l.length - s.toNat) (fun s hs => ?_) _ ⟨0, rfl, by omega⟩
    obtain ⟨w, rfl, hw⟩ := hs
    unfold spec_GraphSerial.b3
    refine Ok.ite (fun hc => ?_) fun hc => Ok.out (Ok.ret ?_)
    · have hw : w < l.length := by simpa using hc
      have vd := vd_at R.v hw
      have hwl := vd.wl
      refine Ok.iter (fun s => ∃ q : Nat, s = (q : Int) ∧ q ≤ (at_ l (w : Int)).Writes.length) (fun s => (at_ l (w : Int)).Writes.length - s.toNat) (fun s hs => ?_) _ ⟨0, rfl, by omega⟩
      obtain ⟨q, rfl, hq⟩ := hs
      unfold spec_GraphSerial.b4
      refine Ok.grd (by omega) (Ok.ite (fun hc => ?_) fun hc => Ok.out (Ok.ret ?_))
      · have hq : q < (at_ l (w : Int)).Writes.length := by simpa using hc
        have hkk := vd.w _ (List.getElem_mem hq)
        rw [at_nat o p hp, ho, at_nat (at_ l (w : Int)).Writes q hq]
        refine Ok.sel (R := fun _ => True) (Ok.grd (by omega) (Ok.grd (by omega) (Ok.grd (by omega) ?_))) fun y _ => ?_
        · rw [spec_reads _ _ (vd_at R.v how) hkk.1, Option.bind_some]
          cases hr : RDS (at_ l (own : Int)) (at_ l (w : Int)).Writes[q] with
          | false => exact Ok.ret trivial
          | true =>
           rw [if_neg (by decide)]
           refine Ok.iter (fun s => ∃ i : Nat, s.2 = (i : Int) ∧ i ≤ p ∧ LI l o (at_ l (w : Int)).Writes[q] i s.1) (fun s => p - s.2.toNat) (fun s hs => ?_) _ ⟨0, rfl, by omega, Or.inl ⟨rfl, fun q hq hlt => absurd hlt (by omega)⟩⟩
           obtain ⟨last, s2⟩ := s
           obtain ⟨i, hi, hil, h⟩ := hs
           simp only [] at hi h
           subst hi
           unfold spec_GraphSerial.b5
           by_cases hlt : i < p
           · obtain ⟨c, ec, hc⟩ := R.at (p := i) (by omega)
             have vc := vd_at R.v hc
             simp only []
             rw [if_pos (by simp; omega), if_pos (by omega), at_nat o i (by omega), ec, if_pos (by omega), at_nat (at_ l (w : Int)).Writes q hq, spec_has _ _ (by have := vc.wl; omega) vc.w hkk.1 hkk.2, Option.bind_some, w64 (by omega) (by omega)]
             have hli := li_1 (by omega) h
             rw [ec] at hli
             refine Ok.bind (P := fun y => y = if HAS (at_ l (c : Int)).Writes (at_ l (w : Int)).Writes[q] = true then (c : Int) else last) ?_ fun y hy => ?_
             · cases HAS (at_ l (c : Int)).Writes (at_ l (w : Int)).Writes[q] with
               | false => exact Ok.ret rfl
               | true => exact Ok.grd rfl (Ok.grd (by omega) (Ok.ret rfl))
             · subst hy
               exact Ok.ret ⟨⟨i + 1, by simp, by omega, hli⟩, by simp only []; omega⟩
           · have : i = p := by omega
             subst this
             simp only []
             rw [if_neg (by simp), at_nat o i hp, ho, at_nat (at_ l (w : Int)).Writes q hq]
             refine Ok.out (Ok.bind (spec_behind R.v hle own how _ hkk.1 hkk.2) fun r hr' => ?_)
             rw [serial_key R.v R.nd R.T i hp own how ho _ hkk.1 hkk.2 hr h hr', if_neg (by simp)]
             exact Ok.ret trivial
        · rw [w64 (by omega) (by omega)]
          exact Ok.ret ⟨⟨q + 1, by simp, by omega⟩, by omega⟩
      · rw [w64 (by omega) (by omega)]
        exact ⟨⟨w + 1, by simp, by omega⟩, by omega⟩
    · rw [w64 (by omega) (by omega)]
      exact ⟨⟨p + 1, by simp, by omega⟩, by omega⟩
 obtain ⟨r, e, rfl⟩ := key
 exact e
end
end Go.Proofs.YtegicanjlefmdaaGreat
set_option linter.unusedVariables false
set_option linter.unusedSimpArgs false
set_option linter.unusedSectionVars false
namespace Go.Proofs.YtegicanjlefmdaaGreat
open Go V Ieee
section
variable (l : List Deed)
def CH (is : List Bool) (s : Nat × List Int) : Prop := ∀ j (h : j < s.2.length), NX l is (s.2[j]).toNat = if h' : j + 1 < s.2.length then s.2[j + 1] else (s.1 : Int)
structure RI (is : List Bool) (r : List Int) : Prop where
 pos : 0 < r.length
 bd : ∀ x ∈ r, 0 ≤ x ∧ x < (l.length : Int)
 no : ∀ x ∈ r, at_ is x = false
 nx : ∀ j (h : j < r.length), NX l is (r[j]).toNat = r[(j + 1) % r.length]'(Nat.mod_lt _ (by omega))
 le : r.length ≤ l.length
theorem rg_ri {is : List Bool} (hlen : is.length = l.length) (hp : PCK l is = none) : ∀ (n : Nat) (s : Nat × List Int), WY l is s → (∀ x ∈ s.2, at_ is x = false) → CH l is s → l.length < s.2.length + n → RI l is (RG l is n s)
 | 0, s, h, _, _, hn => by have := way_len h.nd h.bd; omega
 | n + 1, s, h, h2, h3, hn => by
  unfold RG
  simp only []
  rcases ixf_out (fun x => ((s.1 : Nat) : Int) == x) s.2 0 with ⟨hi, _⟩ | ⟨k, hk, hi, he, _, _⟩
  · rw [if_neg (by rw [hi]; decide)]
    have hneg : ¬ IXF (fun x => ((s.1 : Nat) : Int) == x) s.2 0 ≥ 0 := by rw [hi]; decide
    have hw := wy_next l hlen hp h hneg
    obtain ⟨a, ha, h0, h1, _⟩ := stuck l hlen hp s.1 h.lt h.no
    have hnx : NX l is s.1 = a := by unfold NX; rw [ha]; rfl
    refine rg_ri hlen hp n _ hw.1 (fun x hx => ?_) ?_ (by simp; omega)
    · rcases List.mem_append.1 hx with hx | hx
      · exact h2 x hx
      · simp at hx; subst hx; exact h.no
    · intro j hj
      simp only [] at hj ⊢
      simp only [List.length_append, List.length_singleton] at hj
      by_cases hjl : j < s.2.length
      · have e1 : (s.2 ++ [((s.1 : Nat) : Int)])[j]'(by simp; omega) = s.2[j] := List.getElem_append_left hjl
        have e2 : j + 1 < (s.2 ++ [((s.1 : Nat) : Int)]).length := by simp; omega
        rw [e1, h3 j hjl, dif_pos e2]
        by_cases h' : j + 1 < s.2.length
        · rw [dif_pos h', List.getElem_append_left h']
        · rw [dif_neg h', List.getElem_append_right (by omega)]; simp
      · have hje : j = s.2.length := by omega
        subst hje
        rw [dif_neg (by simp), List.getElem_append_right (by omega)]
        simp only [Nat.sub_self, List.getElem_cons_zero, Int.toNat_natCast]
        rw [hnx, Int.toNat_of_nonneg h0]
  · have hi' : IXF (fun x => ((s.1 : Nat) : Int) == x) s.2 0 = (k : Int) := by rw [hi]; simp
    rw [hi', if_pos (by omega), Int.toNat_natCast]
    have hek' : ((s.1 : Nat) : Int) = s.2[k] := by simpa using he
    have hek : s.2[k] = (s.1 : Int) := hek'.symm
    refine ⟨by simp; omega, fun x hx => h.bd x (List.mem_of_mem_drop hx), fun x hx => h2 x (List.mem_of_mem_drop hx), fun j hj => ?_, by have := way_len h.nd h.bd; simp; omega⟩
    simp only [List.length_drop] at hj
    simp only [List.getElem_drop, List.length_drop]
    rw [h3 (k + j) (by omega)]
    by_cases h' : k + j + 1 < s.2.length
    · rw [dif_pos h']
      have : (j + 1) % (s.2.length - k) = j + 1 := Nat.mod_eq_of_lt (by omega)
      simp only [this]
      congr 1
    · rw [dif_neg h']
      have : j + 1 = s.2.length - k := by omega
      simp only [this, Nat.mod_self, Nat.add_zero, hek]
theorem nx_ab {is : List Bool} (hlen : is.length = l.length) (hp : PCK l is = none) (b : Nat) (hb : b < l.length) (hi : at_ is (b : Int) = false) : ∃ a : Nat, NX l is b = (a : Int) ∧ a < l.length ∧ AB l a b = true := by
 obtain ⟨a, ha, _⟩ := stuck l hlen hp b hb hi
 obtain ⟨c, e, hc, hab⟩ := ahp_ab l (List.mem_of_find?_eq_some ha)
 exact ⟨c, by unfold NX; rw [ha]; exact e, hc, hab⟩
theorem ri_edge {is : List Bool} (hlen : is.length = l.length) (hp : PCK l is = none) {r : List Int} (h : RI l is r) (j : Nat) (hj : j < r.length) : ∃ k, ∃ hk : k < (EDs l l.length).length, ((EDs l l.length)[k]).e0 = r[(j + 1) % r.length]'(Nat.mod_lt _ (by omega)) ∧ ((EDs l l.length)[k]).e1 = r[j] := by
 have hb := h.bd _ (List.getElem_mem hj)
 have e : r[j] = ((r[j].toNat : Nat) : Int) := (Int.toNat_of_nonneg hb.1).symm
 have hn := h.no _ (List.getElem_mem hj)
 rw [e] at hn
 obtain ⟨a, ea, hal, hab⟩ := nx_ab l hlen hp r[j].toNat (by omega) hn
 have := h.nx j hj
 rw [ea] at this
 obtain ⟨k, hk, ek⟩ := List.getElem_of_mem (eds_mem l hal (by omega) hab)
 exact ⟨k, hk, by rw [ek]; exact this, by rw [ek]; exact e.symm⟩
theorem ri_two {is : List Bool} (hlen : is.length = l.length) (hp : PCK l is = none) {r : List Int} (h : RI l is r) : 2 ≤ r.length := by
 rcases Nat.lt_or_ge r.length 2 with hlt | hge
 · exfalso
   have hl1 : r.length = 1 := by have := h.pos; omega
   have hj : 0 < r.length := h.pos
   have hb := h.bd _ (List.getElem_mem hj)
   have e : r[0] = ((r[0].toNat : Nat) : Int) := (Int.toNat_of_nonneg hb.1).symm
   have hn := h.no _ (List.getElem_mem hj)
   rw [e] at hn
   obtain ⟨a, ea, hal, hab⟩ := nx_ab l hlen hp r[0].toNat (by omega) hn
   have h1 := h.nx 0 hj
   have h2 : (0 + 1) % r.length = 0 := by rw [hl1]
   simp only [h2] at h1
   rw [ea] at h1
   have : a = r[0].toNat := by omega
   unfold AB at hab
   rw [this] at hab
   simp at hab
 · exact hge
theorem res_ring (h : (RES l).1.length < l.length) (hk : DKK l = true) : RI l (RES l).2 (GRR l) := by
 obtain ⟨r1, r2, r3⟩ := res_inv l
 unfold GRR
 have hna : ¬ (RES l).2.all (fun b => b) = true := fun ha => by
  have : (RES l).2.count false = 0 := List.count_eq_zero.2 fun hm => by
   have := List.all_eq_true.1 ha _ hm
   cases this
  omega
 rw [hk, if_neg (by decide), if_neg hna]
 rcases ixf_out (fun x => false == x) (RES l).2 0 with ⟨_, h2⟩ | ⟨k, hkl, h1, h2, _, _⟩
 · exfalso
   refine hna (List.all_eq_true.2 fun b hb => ?_)
   have := List.any_eq_false.1 h2 b hb
   cases b <;> simp_all
 · have hi : (IXF (fun x => false == x) (RES l).2 0).toNat = k := by rw [h1]; simp
   rw [hi]
   have hno : at_ (RES l).2 (k : Int) = false := by
    rw [at_nat _ k hkl]
    have h2' : (false == (RES l).2[k]) = true := h2
    cases hb : (RES l).2[k] with
    | false => rfl
    | true => rw [hb] at h2'; cases h2'
   exact rg_ri l r1 r3 (l.length + 1) (k, []) ⟨by simp only []; omega, hno, by simp, fun x hx => by cases hx⟩ (fun x hx => by cases hx) (fun j hj => by simp at hj) (by simp)
end
end Go.Proofs.YtegicanjlefmdaaGreat
set_option linter.unusedVariables false
set_option linter.unusedSimpArgs false
set_option linter.unusedSectionVars false
namespace Go.Proofs.YtegicanjlefmdaaGreat
open Go V Ieee
theorem at_al {α : Type} [Inhabited α] {l : List α} {P : α → Prop} (h : ∀ d ∈ l, P d) {i : Int} (hi : 0 ≤ i ∧ i < (l.length : Int)) : P (at_ l i) := by
 rw [at_eq _ _ (by omega)]; exact h _ (List.getElem_mem _)
theorem ItemCompare_ok (a b : Item) (ha : ok_Item a) (hb : ok_Item b) : Ok (spec_ItemCompare.f a b) fun _ => True := by
 cases va : IOK a with
 | false =>
  unfold spec_ItemCompare.f
  rw [spec_ItemOk a ha.2.2.1, Option.bind_some, va]
  exact Ok.ret trivial
 | true =>
  cases vb : IOK b with
  | false =>
   unfold spec_ItemCompare.f
   rw [spec_ItemOk a ha.2.2.1, Option.bind_some, va, spec_ItemOk b hb.2.2.1, Option.bind_some, vb]
   exact Ok.ret trivial
  | true => exact Ok.eq (spec_ItemCompare a b ha hb va vb) trivial
theorem l13span_ok (c : l1Cur) (h : Ci c.b c.i) : Ok (spec_l13span.f c) fun r => ok_Span r.1 ∧ Ci c.b r.2.i := by
 unfold spec_l13span.f
 refine Ok.bind (l3key_ok c h) fun p hp => Ok.bind (l3key_ok (l1Cur.mk c.b p.2.i p.2.h) hp.2) fun q hq => Ok.bind (l1Once_ok (l1Cur.mk c.b q.2.i q.2.h) 2 hq.2 (by omega)) fun o ho => ?_
 refine Ok.bind (P := fun y => ok_Item (Item.mk y.1 y.2.1 y.2.2.1 y.2.2.2)) (Ok.ite (fun _ => ?_) fun _ => Ok.ret hq.1.1) fun y hy => ?_
 · refine Ok.bind (P := ok_Item) ?_ fun b hb => Ok.ret hb
   obtain ⟨⟨h1, h2, h3, h4, h5⟩, h6⟩ := hp.1
   unfold spec_l3copy.f
   exact Ok.grd (by simp only [Lim, List.length_nil]; omega) (Ok.ret ⟨h1, h2, h3, h4, h5⟩)
 · refine Ok.bind (ItemCompare_ok _ _ hp.1.1 hy) fun r _ => ?_
   refine Ok.bind (P := fun y => Ci c.b y.2.1) (Ok.ite (fun _ => Ok.bind (l1Once_ok (l1Cur.mk c.b o.2.i o.2.h) 12 ho (by omega)) fun z hz => Ok.ret hz) fun _ => Ok.ret ho) fun z hz => ?_
   refine Ok.bind (P := fun (u : Int × Int × Nat × List Int × Int × Int × Nat × List Int) => ok_Item (Item.mk u.1 u.2.1 u.2.2.1 u.2.2.2.1) ∧ ok_Item (Item.mk u.2.2.2.2.1 u.2.2.2.2.2.1 u.2.2.2.2.2.2.1 u.2.2.2.2.2.2.2)) (Ok.ite (fun _ => Ok.ret ⟨hy, hp.1.1⟩) fun _ => Ok.ret ⟨hp.1.1, hy⟩) fun u hu => Ok.ret ⟨⟨hu.1, hu.2⟩, hz⟩
def okDs (d : Deed) : Prop := ok_Deed d ∧ d.Reads.length ≤ 10 ∧ d.Writes.length ≤ 10
theorem okDs.dd {d : Deed} (h : okDs d) : okDd d := ⟨h.1, by have := h.2.1; omega, by have := h.2.2; omega⟩
theorem maxl {n : Nat} (h : n ≤ 1000) : n ≤ maxLen := by simp only [maxLen]; omega
theorem l14deeds_ok (c : l1Cur) (m : Int) (h : Ci c.b c.i) (h0 : 0 ≤ m) (hm : m ≤ 1000) : Ok (spec_l14deeds.f c m) fun r => (∀ d ∈ r.1, okDs d) ∧ r.1.length ≤ 1000 ∧ Ci c.b r.2.i := by
 unfold spec_l14deeds.f
 rw [w64 (by omega) (by omega)]
 refine Ok.bind (l1Below_ok c _ h (by omega)) fun n hn => Ok.bind (l1Once_ok (l1Cur.mk c.b n.2.i n.2.h) 3 hn.2.2 (by omega)) fun calm hcalm => ?_
 obtain ⟨n1, n2, n3⟩ := hn
 refine Ok.iter (fun s => (∀ d ∈ s.1, okDs d) ∧ InK .i64 s.2.1 ∧ 0 ≤ s.2.2.1 ∧ s.2.2.1 ≤ n.1 ∧ (s.1.length : Int) ≤ s.2.2.1 ∧ Ci c.b s.2.2.2.1) (fun s => (n.1 - s.2.2.1).toNat) (fun s hs => ?_) _ ⟨(fun d hd => by cases hd), ik 1, by show (0 : Int) ≤ 0; omega, n1, by simp, hcalm⟩
 obtain ⟨s1, s2, s3, s4, s5, s6⟩ := hs
 unfold spec_l14deeds.b0
 refine Ok.ite (fun hc => ?_) fun _ => Ok.out (Ok.ret ⟨s1, by show s.1.length ≤ 1000; omega, s6⟩)
 have hc' : s.2.2.1 < n.1 := by simpa using hc
 refine Ok.bind (l1Below_ok (l1Cur.mk c.b s.2.2.2.1 s.2.2.2.2) 2 s6 (by omega)) fun p hp => Ok.bind (l1Below_ok (l1Cur.mk c.b p.2.i p.2.h) 3 hp.2.2 (by omega)) fun q hq => ?_
 refine Ok.iter (fun (t : Int × Int × Int × List Span) => 0 ≤ t.1 ∧ t.1 + (t.2.2.2.length : Int) ≤ 3 ∧ (∀ x ∈ t.2.2.2, ok_Span x) ∧ Ci c.b t.2.1) (fun t => t.1.toNat) (fun t ht => ?_) _ ⟨hq.1, by have := hq.2.1; show q.1 + ((([] : List Span)).length : Int) ≤ 3; simp; omega, (fun x hx => by cases hx), hq.2.2⟩
 obtain ⟨t1, t2, t3, t4⟩ := ht
 unfold spec_l14deeds.b1
 refine Ok.ite (fun hc => ?_) fun _ => Ok.out ?_
 · have hc'' : t.1 > 0 := by simpa using hc
   refine Ok.bind (l13span_ok (l1Cur.mk c.b t.2.1 t.2.2.1) t4) fun z hz => Ok.grd (by simp only [Lim, List.length_singleton]; omega) (Ok.ret ?_)
   rw [w64 (n := t.1 - 1) (by omega) (by omega)]
   refine ⟨⟨by show 0 ≤ t.1 - 1; omega, by simp only [List.length_append, List.length_singleton]; omega, fun x hx => ?_, hz.2⟩, by show (t.1 - 1).toNat < t.1.toNat; omega⟩
   rcases List.mem_append.1 hx with hx | hx
   · exact t3 x hx
   · rw [List.mem_singleton.1 hx]; exact hz.1
 · refine Ok.bind (l1Below_ok (l1Cur.mk c.b t.2.1 t.2.2.1) 3 t4 (by omega)) fun u hu => ?_
   refine Ok.iter (fun (t : Int × Int × Int × List Item) => 0 ≤ t.1 ∧ t.1 + (t.2.2.2.length : Int) ≤ 3 ∧ (∀ x ∈ t.2.2.2, ok_Item x) ∧ Ci c.b t.2.1) (fun t => t.1.toNat) (fun v hv => ?_) _ ⟨hu.1, by have := hu.2.1; show u.1 + ((([] : List Item)).length : Int) ≤ 3; simp; omega, (fun x hx => by cases hx), hu.2.2⟩
   obtain ⟨v1, v2, v3, v4⟩ := hv
   unfold spec_l14deeds.b2
   refine Ok.ite (fun hc => ?_) fun _ => Ok.out ?_
   · have hc'' : v.1 > 0 := by simpa using hc
     refine Ok.bind (l3key_ok (l1Cur.mk c.b v.2.1 v.2.2.1) v4) fun z hz => Ok.grd (by simp only [Lim, List.length_singleton]; omega) (Ok.ret ?_)
     rw [w64 (n := v.1 - 1) (by omega) (by omega)]
     refine ⟨⟨by show 0 ≤ v.1 - 1; omega, by simp only [List.length_append, List.length_singleton]; omega, fun x hx => ?_, hz.2⟩, by show (v.1 - 1).toNat < v.1.toNat; omega⟩
     rcases List.mem_append.1 hx with hx | hx
     · exact v3 x hx
     · rw [List.mem_singleton.1 hx]; exact hz.1.1
   · refine Ok.bind (P := fun y => Ci c.b y.2.1) (Ok.ite (fun _ => Ok.bind (l1Once_ok (l1Cur.mk c.b v.2.1 v.2.2.1) 3 v4 (by omega)) fun z hz => Ok.ret hz) fun _ => Ok.ret v4) fun y hy => ?_
     refine Ok.bind (P := fun y => Ci c.b y.1 ∧ InK .i64 y.2.2) (Ok.ite (fun _ => Ok.bind (l1Below_ok (l1Cur.mk c.b y.2.1 y.2.2) 200 hy (by omega)) fun z hz => Ok.ret ⟨hz.2.2, i64w _⟩) fun _ => Ok.ret ⟨hy, i64w _⟩) fun w hw => ?_
     refine Ok.grd (by simp only [Lim, List.length_singleton]; omega) (Ok.ret ?_)
     rw [w64 (n := s.2.2.1 + 1) (by omega) (by omega)]
     refine ⟨⟨fun d hd => ?_, i64w _, by show 0 ≤ s.2.2.1 + 1; omega, by show s.2.2.1 + 1 ≤ n.1; omega, by simp only [List.length_append, List.length_singleton]; omega, hw.1⟩, by show (n.1 - (s.2.2.1 + 1)).toNat < (n.1 - s.2.2.1).toNat; omega⟩
     rcases List.mem_append.1 hd with hd | hd
     · exact s1 d hd
     · rw [List.mem_singleton.1 hd]
       have e1 : InK .i64 (s.2.2.1 + 1) := by rw [← w64 (n := s.2.2.1 + 1) (by omega) (by omega)]; exact i64w _
       exact ⟨⟨e1, s2, hw.2, ⟨maxl (by show t.2.2.2.length ≤ 1000; omega), t3⟩, ⟨maxl (by show v.2.2.2.length ≤ 1000; omega), v3⟩⟩, by show t.2.2.2.length ≤ 10; omega, by show v.2.2.2.length ≤ 10; omega⟩
theorem l14bent_ok (c : l1Cur) (l : List Deed) (h : Ci c.b c.i) (hl : l.length ≤ 1000) (ho : ∀ d ∈ l, okDs d) : Ok (spec_l14bent.f c l) fun r => ∀ d ∈ r.1, okDd d := by
 have ho' : ∀ d ∈ l, okDd d := fun d hd => (ho d hd).dd
 unfold spec_l14bent.f
 refine Ok.ite (fun _ => Ok.ret ho') fun hne => ?_
 have hpos : 0 < l.length := by
  cases l with
  | nil => simp at hne
  | cons x l => simp
 refine Ok.bind (l1Below_ok c _ h (by omega)) fun i hi => Ok.bind (l1Below_ok (l1Cur.mk c.b i.2.i i.2.h) 12 hi.2.2 (by omega)) fun w hw => ?_
 obtain ⟨i1, i2, i3⟩ := hi
 obtain ⟨w1, w2, w3⟩ := hw
 have gi : 0 ≤ i.1 ∧ i.1 < (l.length : Int) := ⟨i1, i2⟩
 have g0 : 0 ≤ (0 : Int) ∧ (0 : Int) < (l.length : Int) := by omega
 obtain ⟨⟨d1, d2, d3, d4, d5⟩, d6, d7⟩ := at_al ho gi
 have z3 := (at_al ho g0).1.2.2.1
 have hset : ∀ d : Deed, okDd d → ∀ x ∈ l.set i.1.toNat d, okDd x := fun d hd x hx => by
  rcases List.mem_or_eq_of_mem_set hx with hx | hx
  · exact ho' x hx
  · rw [hx]; exact hd
 refine Ok.bind (P := fun y => ∀ d ∈ y.1, okDd d) ?_ fun y hy => Ok.ret hy
 refine Ok.ite (fun _ => Ok.grd g0 (Ok.bind (l1PickInt_ok (l1Cur.mk c.b w.2.i w.2.h) _ w3 (by simp)) fun p hp => Ok.grd gi (Ok.ret (hset _ ⟨⟨d1, ?_, d3, d4, d5⟩, by show (at_ l i.1).Reads.length ≤ _; omega, by show (at_ l i.1).Writes.length ≤ _; omega⟩)))) fun _ => ?_
 · have := hp.1
   simp only [List.mem_cons, List.not_mem_nil, or_false] at this
   show InK .i64 p.1
   rcases this with e | e | e
   · rw [e]; exact ik 0
   · rw [e]; exact ik (-3)
   · rw [e]; exact z3
 refine Ok.bind (P := fun y => ∀ d ∈ y.1, okDd d) ?_ fun y hy => Ok.ret hy
 refine Ok.ite (fun _ => Ok.grd gi (Ok.grd g0 (Ok.bind (l1PickInt_ok (l1Cur.mk c.b w.2.i w.2.h) _ w3 (by simp)) fun p hp => Ok.grd gi (Ok.ret (hset _ ⟨⟨d1, d2, ?_, d4, d5⟩, by show (at_ l i.1).Reads.length ≤ _; omega, by show (at_ l i.1).Writes.length ≤ _; omega⟩))))) fun _ => ?_
 · have := hp.1
   simp only [List.mem_cons, List.not_mem_nil, or_false] at this
   show InK .i64 p.1
   rcases this with e | e | e
   · rw [e]; exact ik 0
   · rw [e]; exact d2
   · rw [e]; exact z3
 refine Ok.bind (P := fun y => ∀ d ∈ y.1, okDd d) ?_ fun y hy => Ok.ret hy
 refine Ok.ite (fun _ => Ok.grd gi (Ok.bind (l3key_ok (l1Cur.mk c.b w.2.i w.2.h) w3) fun p hp => Ok.bind (l3any_ok (l1Cur.mk c.b p.2.i p.2.h) hp.2) fun q hq => Ok.grd (by simp only [Lim, List.length_singleton]; omega) (Ok.grd gi (Ok.bind (P := fun y => ∀ d ∈ y, okDd d) (Ok.ret (hset _ ⟨⟨d1, d2, d3, ⟨maxl (by simp; omega), fun x hx => ?_⟩, d5⟩, by simp; omega, by show (at_ l i.1).Writes.length ≤ _; omega⟩)) fun y hy => Ok.ret hy)))) fun _ => ?_
 · rcases List.mem_append.1 hx with hx | hx
   · exact d4.2 x hx
   · rw [List.mem_singleton.1 hx]; exact ⟨hp.1.1, hq.1.1⟩
 refine Ok.bind (P := fun y => ∀ d ∈ y.1, okDd d) ?_ fun y hy => Ok.ret hy
 refine Ok.ite (fun _ => Ok.grd gi (Ok.bind (l3any_ok (l1Cur.mk c.b w.2.i w.2.h) w3) fun q hq => Ok.grd (by simp only [Lim, List.length_singleton]; omega) (Ok.grd gi (Ok.bind (P := fun y => ∀ d ∈ y, okDd d) (Ok.ret (hset _ ⟨⟨d1, d2, d3, d4, ⟨maxl (by simp; omega), fun x hx => ?_⟩⟩, by show (at_ l i.1).Reads.length ≤ _; omega, by simp; omega⟩)) fun y hy => Ok.ret hy)))) fun _ => ?_
 · rcases List.mem_append.1 hx with hx | hx
   · exact d5.2 x hx
   · rw [List.mem_singleton.1 hx]; exact hq.1.1
 refine Ok.bind (P := fun y => ∀ d ∈ y.1, okDd d) ?_ fun y hy => Ok.ret hy
 refine Ok.ite (fun _ => ?_) fun _ => Ok.ret ho'
 refine Ok.iter (fun s => (∀ d ∈ s.1, okDd d) ∧ s.1.length ≤ 1000 ∧ Ci c.b s.2.1) (fun s => 1000 - s.1.length) (fun s hs => ?_) _ ⟨ho', hl, w3⟩
 obtain ⟨s1, s2, s3⟩ := hs
 unfold spec_l14bent.b0
 refine Ok.bind (l1Below_ok (l1Cur.mk c.b s.2.1 s.2.2) 2 s3 (by omega)) fun q hq => ?_
 obtain ⟨q1, q2, q3⟩ := hq
 rw [w64 (n := 100 + q.1) (by omega) (by omega)]
 refine Ok.ite (fun hc => ?_) fun _ => Ok.out (Ok.ret s1)
 have hc' : (s.1.length : Int) < 100 + q.1 := by simpa using hc
 refine Ok.grd (by simp only [Lim, List.length_singleton]; omega) (Ok.ret ⟨⟨fun x hx => ?_, by simp only [List.length_append, List.length_singleton]; omega, q3⟩, by simp only [List.length_append, List.length_singleton]; omega⟩)
 rcases List.mem_append.1 hx with hx | hx
 · exact s1 x hx
 · rw [List.mem_singleton.1 hx]
   exact ⟨⟨ik 0, i64w _, i64w _, ⟨maxl (by simp), fun y hy => by cases hy⟩, ⟨maxl (by simp), fun y hy => by cases hy⟩⟩, by simp, by simp⟩
theorem DrawGraphOrder_ok (a : List Int) (h : a.length ≤ 1048576) : Ok (spec_DrawGraphOrder.f a) fun r => ∀ d ∈ r, okDd d := by
 unfold spec_DrawGraphOrder.f
 refine Ok.bind (l1New_ok a h) fun c hc => Ok.bind (l1Size_ok a 9 h (by omega)) fun m hm => Ok.bind (l14deeds_ok c m hc.2 hm.1 (by omega)) fun d hd => Ok.bind (l1Once_ok (l1Cur.mk c.b d.2.i d.2.h) 9 hd.2.2 (by omega)) fun o ho => ?_
 refine Ok.bind (P := fun r => ∀ d ∈ r, okDd d) (Ok.ite (fun _ => Ok.bind (l14bent_ok (l1Cur.mk c.b o.2.i o.2.h) _ ho hd.2.1 hd.1) fun b hb => Ok.ret hb) fun _ => Ok.ret fun x hx => (hd.1 x hx).dd) fun y hy => Ok.ret hy
end Go.Proofs.YtegicanjlefmdaaGreat
