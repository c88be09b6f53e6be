import Derived.Test.YtcgbhldenkeplaaG2
import Derived.Test.YtcgbhldenkeplaaGs
set_option linter.unusedVariables false
set_option linter.unusedSimpArgs false
namespace Go.Proofs.Ytcgbhldenkeplaa
open Go V
theorem w64 {n : Int} (h0 : -9223372036854775808 ≤ n) (h1 : n ≤ 9223372036854775807) : IntKind.i64.wrap n = n := by
 rw [IntKind.wrap_i64]; omega
theorem u8_of {n : Int} (h : InK .u8 n) : 0 ≤ n ∧ n ≤ 255 := by
 simpa [InK, IntKind.min, IntKind.max, IntKind.signed, IntKind.bits] using h
theorem i64_ok {n : Int} (h0 : -9223372036854775808 ≤ n) (h1 : n ≤ 9223372036854775807) : InK .i64 n := by
 simp [InK, IntKind.min, IntKind.max, IntKind.signed, IntKind.bits]; omega
theorem u8_ok {n : Int} (h0 : 0 ≤ n) (h1 : n ≤ 255) : InK .u8 n := by
 simp [InK, IntKind.min, IntKind.max, IntKind.signed, IntKind.bits]; omega
theorem fdiv_nat (a b : Nat) : Int.fdiv (a : Int) (b : Int) = ((a / b : Nat) : Int) := by
 rw [Int.fdiv_eq_ediv_of_nonneg _ (by omega)]; rfl
theorem ishr_nat (k : IntKind) (a b : Nat) (h : b ≤ k.bits) : ishr k (a : Int) (b : Int) = ((a / 2 ^ b : Nat) : Int) := by
 unfold ishr
 rw [Int.toNat_natCast, Nat.min_eq_left h]
 have : (2 : Int) ^ b = ((2 ^ b : Nat) : Int) := by simp
 rw [this, fdiv_nat]
theorem ofInt_nat (w a : Nat) (h : a < 2 ^ w) : (BitVec.ofInt w (a : Int)).toNat = a := by
 rw [BitVec.ofInt_natCast, BitVec.toNat_ofNat, Nat.mod_eq_of_lt h]
theorem wu64 (a : Nat) (h : a < 18446744073709551616) : IntKind.wrap .u64 ((a : Nat) : Int) = (a : Int) := by rw [IntKind.wrap_u64]; omega
theorem ior_u64 (a b : Nat) (ha : a < 18446744073709551616) (hb : b < 18446744073709551616) : ior .u64 (a : Int) (b : Int) = ((a ||| b : Nat) : Int) := by
 unfold ior
 rw [BitVec.toNat_or, ofInt_nat _ a ha, ofInt_nat _ b hb]
 exact wu64 _ (Nat.or_lt_two_pow (n := 64) ha hb)
theorem iand_u64 (a b : Nat) (ha : a < 18446744073709551616) (hb : b < 18446744073709551616) : iand .u64 (a : Int) (b : Int) = ((a &&& b : Nat) : Int) := by
 unfold iand
 rw [BitVec.toNat_and, ofInt_nat _ a ha, ofInt_nat _ b hb]
 exact wu64 _ (Nat.and_lt_two_pow (n := 64) _ hb)
theorem ixor_u64 (a b : Nat) (ha : a < 18446744073709551616) (hb : b < 18446744073709551616) : ixor .u64 (a : Int) (b : Int) = ((a ^^^ b : Nat) : Int) := by
 unfold ixor
 rw [BitVec.toNat_xor, ofInt_nat _ a ha, ofInt_nat _ b hb]
 exact wu64 _ (Nat.xor_lt_two_pow (n := 64) ha hb)
theorem or_add (k n b : Nat) (h : b < 2 ^ k) : (n * 2 ^ k) ||| b = n * 2 ^ k + b := by
 have := Nat.two_pow_add_eq_or_of_lt (i := k) (b := b) h n
 rw [Nat.mul_comm n]
 exact this.symm
def rin (a b c : Int) : Bool := decide (b ≤ a) && decide (a ≤ c)
theorem iter_for {S O : Type} {body : S → Option (S ⊕ O)} (n : Nat) (st : Nat → S) (o : O) (h : ∀ k, k < n → body (st k) = some (.inl (st (k + 1)))) (hn : body (st n) = some (.inr o)) : iter body (st 0) = some o := by
 have key : ∀ m, m ≤ n → iter body (st (n - m)) = some o := by
  intro m
  induction m with
  | zero => intro _; rw [iter_eq, Nat.sub_zero, hn]; rfl
  | succ m ih =>
   intro hm
   rw [iter_eq, h (n - (m + 1)) (by omega)]
   simp only [Option.bind_some]
   rw [show n - (m + 1) + 1 = n - m by omega]
   exact ih (by omega)
 have := key n (Nat.le_refl _)
 rwa [Nat.sub_self] at this
theorem iter_l {S O : Type} {body : S → Option (S ⊕ O)} {s s' : S} (h : body s = some (.inl s')) : iter body s = iter body s' := by rw [iter_eq, h]; rfl
theorem iter_r {S O : Type} {body : S → Option (S ⊕ O)} {s : S} {o : O} (h : body s = some (.inr o)) : iter body s = some o := by rw [iter_eq, h]; rfl
theorem at_nat {α : Type} [Inhabited α] (xs : List α) (k : Nat) (h : k < xs.length) : at_ xs (k : Int) = xs[k] := by
 rw [at_eq xs k (by simpa using h)]; simp
theorem at_set {α : Type} [Inhabited α] (l : List α) (i : Nat) (v : α) (h : i < l.length) : at_ (l.set i v) (i : Int) = v := by
 rw [at_nat _ _ (by rw [List.length_set]; exact h)]; simp
def wsum {α : Type} (wt : α → Nat) (l : List α) : Nat := (l.map wt).sum
theorem wsum_cons {α : Type} (wt : α → Nat) (x : α) (l : List α) : wsum wt (x :: l) = wt x + wsum wt l := rfl
theorem wsum_mem {α : Type} (wt : α → Nat) (l : List α) : ∀ x ∈ l, wt x ≤ wsum wt l := by
 intro x hx
 induction l with
 | nil => cases hx
 | cons y l ih =>
  rw [wsum_cons]
  rcases List.mem_cons.1 hx with rfl | hx
  · omega
  · have := ih hx; omega
end Go.Proofs.Ytcgbhldenkeplaa
set_option linter.unusedVariables false
set_option linter.unusedSimpArgs false
set_option linter.unusedSectionVars false
namespace Go.Proofs.Ytcgbhldenkeplaa
open Go V Ieee
theorem iter_pass {S O : Type} {body : S → Option (S ⊕ O)} {s : S} {m : Option O} (h : body s = m.bind fun o => some (Sum.inr o)) : iter body s = m := by
 rw [iter_eq, h]
 cases m <;> rfl
def wd (M e : Nat) : Nat := D.word false (e * 4503599627370496 + M)
theorem wd_eq (M e : Nat) : wd M e = e * 4503599627370496 + M := rfl
theorem wd_v {M e : Nat} (h1 : M < 9007199254740992) (h2 : e = 0 ∨ 4503599627370496 ≤ M) (h3 : e ≤ 2045) : IsV (wd M e) false (M * pw e) := ⟨M, e, h1, h2, h3, rfl, rfl⟩
theorem rep_of {M : Nat} (h1 : M < 9007199254740992) : ∀ e, e ≤ 2045 → Rep (M * pw e) := by
 intro e
 induction e generalizing M with
 | zero => intro _; exact ⟨M, 0, h1, .inl rfl, by omega, rfl⟩
 | succ e ih =>
  intro he
  by_cases hm : 4503599627370496 ≤ M
  · exact ⟨M, e + 1, h1, .inr hm, he, rfl⟩
  · have := ih (M := 2 * M) (by omega) (by omega)
    rwa [show 2 * M * pw e = M * pw (e + 1) by rw [pw_succ, Nat.mul_comm 2 M, Nat.mul_assoc, Nat.mul_comm 2]] at this
theorem v0 : IsV 0 false 0 := ⟨0, 0, by decide, .inl rfl, by omega, by simp, rfl⟩
theorem v1 : IsV 4607182418800017408 false (4503599627370496 * pw 1022) := ⟨4503599627370496, 1022, by decide, .inr (Nat.le_refl _), by omega, rfl, rfl⟩
theorem v2 : IsV 4611686018427387904 false (4503599627370496 * pw 1023) := ⟨4503599627370496, 1023, by decide, .inr (Nat.le_refl _), by omega, rfl, rfl⟩
theorem vM : IsV 9218868437227405311 false (9007199254740991 * pw 2045) := ⟨9007199254740991, 2045, by decide, .inr (by decide), by omega, rfl, rfl⟩
section
variable {a b u v : Nat} (ha : IsV a false u) (hb : IsV b false v)
include ha hb
theorem cmp_v : fcmp .f64 a b = some (compare u v) := by
 have h := order_v ha hb
 rw [signed_f, signed_f, Nat.pow_zero, Nat.mul_one, Nat.mul_one] at h
 show D.order a b = _
 rw [h]
 show some (compareOfLessAndEq (u : Int) (v : Int)) = some (compareOfLessAndEq u v)
 unfold compareOfLessAndEq
 by_cases h1 : u < v
 · rw [if_pos h1, if_pos (by omega)]
 · rw [if_neg h1, if_neg (by omega)]
   by_cases h2 : u = v
   · rw [if_pos h2, if_pos (by omega)]
   · rw [if_neg h2, if_neg (by omega)]
theorem cmp_lt : (fcmp .f64 a b == some .lt) = decide (u < v) := by
 rw [cmp_v ha hb]
 by_cases h : u < v
 · simp [Nat.compare_eq_lt.2 h, h]
 · have : compare u v ≠ .lt := fun hc => h (Nat.compare_eq_lt.1 hc)
   simp [this, h]
theorem cmp_gt : (fcmp .f64 a b == some .gt) = decide (v < u) := by
 rw [cmp_v ha hb]
 by_cases h : v < u
 · simp [Nat.compare_eq_gt.2 h, h]
 · have : compare u v ≠ .gt := fun hc => h (Nat.compare_eq_gt.1 hc)
   simp [this, h]
theorem cmp_eq : (fcmp .f64 a b == some .eq) = decide (u = v) := by
 rw [cmp_v ha hb]
 by_cases h : u = v
 · simp [Nat.compare_eq_eq.2 h, h]
 · have : compare u v ≠ .eq := fun hc => h (Nat.compare_eq_eq.1 hc)
   simp [this, h]
end
theorem far_half {a u : Nat} (h : IsV a false (u * 2)) (hu : Rep u) : IsV (far .quo a 4611686018427387904) false u := by
 obtain ⟨w', hw, hv⟩ := div_pow (j := 1) c_two (by simpa [pw] using h) hu
 have : far .quo a 4611686018427387904 = w' := by show (D.div a _).getD _ = _; rw [hw]; rfl
 rwa [this]
theorem far_dbl {a u : Nat} (h : IsV a false u) (hu : Rep (u * 2)) : IsV (far .mul a 4611686018427387904) false (u * 2) := by
 obtain ⟨w', hw, hv⟩ := mul_pow_ (j := 1) c_two h (by simpa using hu)
 have : far .mul a 4611686018427387904 = w' := by show (D.mul a _).getD _ = _; rw [hw]; rfl
 rw [this]; simpa using hv
theorem far_big {a u : Nat} (h : IsV a false u) (hu : Rep (u * pw 52)) : IsV (far .mul a 4841369599423283200) false (u * pw 52) := by
 obtain ⟨w', hw, hv⟩ := mul_pow_ (j := 52) c_big h hu
 have : far .mul a 4841369599423283200 = w' := by show (D.mul a _).getD _ = _; rw [hw]; rfl
 rwa [this]
theorem far_sub1 {a v : Nat} (h : IsV a false (U1 + v)) (hv : Rep v) : IsV (far .sub a 4607182418800017408) false v := by
 obtain ⟨w', hw, hv⟩ := sub_one h hv
 have : far .sub a 4607182418800017408 = w' := by show (D.sub a _).getD _ = _; rw [hw]; rfl
 rwa [this]
theorem f2i_v {a n : Nat} (h : IsV a false (n * pw 1074)) (hn : n < 18446744073709551616) : floatToIntVal .f64 a .u64 = some (n : Int) := by
 unfold floatToIntVal
 have := toInt_p h
 show (match (D.read a).toInt .zero with | some n => _ | none => _) = _
 rw [this]
 simp only []
 rw [if_pos]
 simp [IntKind.min, IntKind.max, IntKind.signed, IntKind.bits]; omega
section
variable (S E : Nat) (A : Nat)
theorem bits_num (s E K : Nat) (hs : s ≤ 1) (hE : E < 2048) (hK : K < 4503599627370496) : ior .u64 (ior .u64 ((s * 9223372036854775808 : Nat) : Int) (ishl .u64 (IntKind.wrap .u64 (IntKind.wrap .i64 (E : Int))) 52)) (K : Int) = ((s * 9223372036854775808 + E * 4503599627370496 + K : Nat) : Int) := by
 rw [w64 (by omega) (by omega), wu64 E (by omega)]
 have h1 : ishl .u64 (E : Int) 52 = ((E * 4503599627370496 : Nat) : Int) := by
  unfold ishl
  show IntKind.wrap .u64 ((E : Int) * 2 ^ 52) = _
  have : (E : Int) * 2 ^ 52 = ((E * 4503599627370496 : Nat) : Int) := by rw [show (2 : Int) ^ 52 = 4503599627370496 by decide]; omega
  rw [this, wu64 _ (by omega)]
 rw [h1, ior_u64 _ _ (by omega) (by omega)]
 have h2 : s * 9223372036854775808 ||| E * 4503599627370496 = s * 9223372036854775808 + E * 4503599627370496 := by
  have := or_add 63 s (E * 4503599627370496) (by show _ < 9223372036854775808; omega)
  exact this
 rw [h2, ior_u64 _ _ (by omega) (by omega)]
 have h3 := or_add 52 (s * 2048 + E) K (by show _ < 4503599627370496; omega)
 have e : (s * 2048 + E) * 2 ^ 52 = s * 9223372036854775808 + E * 4503599627370496 := by
  rw [show (2 : Nat) ^ 52 = 4503599627370496 by decide]; omega
 rw [e] at h3
 rw [h3]
theorem bits_sub (s K : Nat) (hs : s ≤ 1) (hK : K < 4503599627370496) : ior .u64 ((s * 9223372036854775808 : Nat) : Int) (K : Int) = ((s * 9223372036854775808 + K : Nat) : Int) := by
 rw [ior_u64 _ _ (by omega) (by omega)]
 have h3 := or_add 63 s K (by show _ < 9223372036854775808; omega)
 rw [show (s * 2 ^ 63 : Nat) = s * 9223372036854775808 from rfl] at h3
 rw [h3]
end
theorem p_lt {M e : Nat} (k k' : Nat) (h : M < 9007199254740992) (he : e ≤ k) (hk : k' = k + 1) : M * pw e < 4503599627370496 * pw k' := by
 have h1 : M * pw e < 9007199254740992 * pw e := Nat.mul_lt_mul_of_pos_right h (pw_pos e)
 have h2 : 9007199254740992 * pw e ≤ 9007199254740992 * pw k := Nat.mul_le_mul_left _ (pw_le he)
 have h3 : 4503599627370496 * (pw k * 2) = 9007199254740992 * pw k := by
  generalize pw k = q
  omega
 rw [hk, pw_succ, h3]
 exact Nat.lt_of_lt_of_le h1 h2
theorem p_ge {M e k : Nat} (h : 4503599627370496 ≤ M) (he : k ≤ e) : 4503599627370496 * pw k ≤ M * pw e :=
 Nat.mul_le_mul h (pw_le he)
theorem fb_one (s M : Nat) (A : Nat) (c : Int) (E : Nat) (hs : s ≤ 1) (h1 : M < 9007199254740992) (h2 : 4503599627370496 ≤ M) (hE : E < 2048) (hc : c + 1023 = (E : Int)) : iter (spec_FloatBits.b1 (((s * 9223372036854775808 : Nat) : Int), A)) (wd M 1022, c) = some ((s * 9223372036854775808 + E * 4503599627370496 + (M - 4503599627370496) : Nat) : Int) := by
 have hv := wd_v h1 (.inr h2) (show 1022 ≤ 2045 by omega)
 have hlt := cmp_lt hv v1
 have hnl : ¬ M * pw 1022 < 4503599627370496 * pw 1022 := Nat.not_lt.2 (p_ge h2 (Nat.le_refl _))
 rw [decide_eq_false hnl] at hlt
 have hsum : M * pw 1022 = U1 + (M - 4503599627370496) * pw 1022 := by
  rw [U1_eq, ← Nat.add_mul, show 4503599627370496 + (M - 4503599627370496) = M by omega]
 have hK : M - 4503599627370496 < 9007199254740992 := by omega
 rw [hsum] at hv
 have hs1 := far_sub1 hv (rep_of hK 1022 (by omega))
 have hb := far_big hs1 (by rw [Nat.mul_assoc, ← pw_add]; exact rep_of hK _ (by omega))
 rw [Nat.mul_assoc, ← pw_add] at hb
 have hi := f2i_v hb (by omega)
 refine iter_r ?_
 unfold spec_FloatBits.b1
 simp only [hlt, hi, Bool.false_and, Bool.false_eq_true, if_false, Option.bind_some]
 rw [hc, bits_num s E _ hs hE (by omega)]
theorem fb_up (s M : Nat) (A : Nat) (hs : s ≤ 1) (h1 : M < 9007199254740992) (h2 : 4503599627370496 ≤ M) : ∀ (j i : Nat), i + j ≤ 1022 → iter (spec_FloatBits.b1 (((s * 9223372036854775808 : Nat) : Int), A)) (wd M (1022 - j), -(i : Int)) = some ((s * 9223372036854775808 + (1023 - i - j) * 4503599627370496 + (M - 4503599627370496) : Nat) : Int) := by
 intro j
 induction j with
 | zero => intro i hi; exact fb_one s M A _ _ hs h1 h2 (by omega) (by omega)
 | succ j ih =>
  intro i hi
  have hv := wd_v h1 (.inr h2) (show 1022 - (j + 1) ≤ 2045 by omega)
  have hlt := cmp_lt hv v1
  have hl : M * pw (1022 - (j + 1)) < 4503599627370496 * pw 1022 := p_lt 1021 1022 h1 (by omega) rfl
  rw [decide_eq_true hl] at hlt
  have he : M * pw (1022 - (j + 1)) * 2 = M * pw (1022 - j) := by
   rw [Nat.mul_assoc, ← pw_succ, show 1022 - (j + 1) + 1 = 1022 - j by omega]
  have hd := far_dbl hv (by rw [he]; exact rep_of h1 _ (by omega))
  rw [he] at hd
  have hw := hd.eq (wd_v h1 (.inr h2) (show 1022 - j ≤ 2045 by omega))
  have hstep : spec_FloatBits.b1 (((s * 9223372036854775808 : Nat) : Int), A) (wd M (1022 - (j + 1)), -(i : Int)) = some (.inl (wd M (1022 - j), -((i + 1 : Nat) : Int))) := by
   unfold spec_FloatBits.b1
   simp only [hlt, Bool.true_and]
   rw [if_pos (by simp; omega), hw, w64 (by omega) (by omega), show -(i : Int) - 1 = -((i + 1 : Nat) : Int) by omega]
  rw [iter_l hstep, ih (i + 1) (by omega), show 1023 - (i + 1) - j = 1023 - i - (j + 1) by omega]
theorem fb_sub (s M : Nat) (A : Nat) (hs : s ≤ 1) (h1 : M < 4503599627370496) : ∀ (j i a : Nat), i + j = 1022 → IsV a false (M * pw i) → iter (spec_FloatBits.b1 (((s * 9223372036854775808 : Nat) : Int), A)) (a, -(i : Int)) = some ((s * 9223372036854775808 + M : Nat) : Int) := by
 intro j
 induction j with
 | zero =>
  intro i a hi hv
  have hlt := cmp_lt hv v1
  have hl : M * pw i < 4503599627370496 * pw 1022 := by
   rw [show i = 1022 by omega]
   exact Nat.mul_lt_mul_of_pos_right h1 (pw_pos _)
  rw [decide_eq_true hl] at hlt
  have hb := far_big hv (by rw [Nat.mul_assoc, ← pw_add]; exact rep_of (by omega) _ (by omega))
  rw [Nat.mul_assoc, ← pw_add, show i + 52 = 1074 by omega] at hb
  have hi2 := f2i_v hb (by omega)
  refine iter_r ?_
  unfold spec_FloatBits.b1
  have hc : decide (-(i : Int) > -1022) = false := by simp; omega
  simp only [hlt, hc, hi2, Bool.true_and, Bool.false_eq_true, if_false, if_true, Option.bind_some]
  rw [bits_sub s M hs h1]
 | succ j ih =>
  intro i a hi hv
  have hlt := cmp_lt hv v1
  have hl : M * pw i < 4503599627370496 * pw 1022 := p_lt 1021 1022 (by omega) (by omega) rfl
  rw [decide_eq_true hl] at hlt
  have he : M * pw i * 2 = M * pw (i + 1) := by rw [Nat.mul_assoc, ← pw_succ]
  have hd := far_dbl hv (by rw [he]; exact rep_of (by omega) _ (by omega))
  rw [he] at hd
  have hstep : spec_FloatBits.b1 (((s * 9223372036854775808 : Nat) : Int), A) (a, -(i : Int)) = some (.inl (far .mul a 4611686018427387904, -((i + 1 : Nat) : Int))) := by
   unfold spec_FloatBits.b1
   simp only [hlt, Bool.true_and]
   rw [if_pos (by simp; omega), w64 (by omega) (by omega), show -(i : Int) - 1 = -((i + 1 : Nat) : Int) by omega]
  rw [iter_l hstep, ih (i + 1) _ (by omega) hd]
theorem fb_pass {y : Int × Nat} {a u : Nat} {c : Int} (hv : IsV a false u) (hu : u < 4503599627370496 * pw 1023) : iter (spec_FloatBits.b0 y) (a, c) = iter (spec_FloatBits.b1 y) (a, c) := by
 refine iter_pass ?_
 unfold spec_FloatBits.b0
 have h1 := cmp_gt hv v2
 have h2 := cmp_eq hv v2
 rw [decide_eq_false (by omega)] at h1
 rw [decide_eq_false (by omega)] at h2
 simp only [h1, h2, Bool.or_self, Bool.false_eq_true, if_false]
theorem fb_down (y : Int × Nat) (M : Nat) (h1 : M < 9007199254740992) (h2 : 4503599627370496 ≤ M) : ∀ (n e : Nat) (c : Int), e = 1022 + n → e ≤ 2045 → 0 ≤ c → c ≤ 10000 - n → iter (spec_FloatBits.b0 y) (wd M e, c) = iter (spec_FloatBits.b1 y) (wd M 1022, c + n) := by
 intro n
 induction n with
 | zero =>
  intro e c he _ _ _
  have : e = 1022 := by omega
  subst this
  rw [fb_pass (wd_v h1 (.inr h2) (by omega)) (p_lt 1022 1023 h1 (by omega) rfl)]
  simp
 | succ n ih =>
  intro e c he he2 hc0 hc1
  obtain ⟨e, rfl⟩ : ∃ e', e = e' + 1 := ⟨e - 1, by omega⟩
  have hv := wd_v h1 (.inr h2) he2
  have g1 := cmp_gt hv v2
  have g2 := cmp_eq hv v2
  have hge : 4503599627370496 * pw 1023 ≤ M * pw (e + 1) := p_ge h2 (by omega)
  have hor : (fcmp .f64 (wd M (e + 1)) 4611686018427387904 == some .gt || fcmp .f64 (wd M (e + 1)) 4611686018427387904 == some .eq) = true := by
   rw [g1, g2, Bool.or_eq_true, decide_eq_true_eq, decide_eq_true_eq]
   generalize 4503599627370496 * pw 1023 = q at hge ⊢
   omega
  have hv2 : IsV (wd M (e + 1)) false (M * pw e * 2) := by rw [Nat.mul_assoc, ← pw_succ]; exact hv
  have hw := (far_half hv2 (rep_of h1 _ (by omega))).eq (wd_v h1 (.inr h2) (by omega))
  have hstep : spec_FloatBits.b0 y (wd M (e + 1), c) = some (.inl (wd M e, c + 1)) := by
   unfold spec_FloatBits.b0
   simp only [hor, if_true]
   rw [hw, w64 (by omega) (by omega)]
  rw [iter_l hstep, ih e (c + 1) (by omega) (by omega) (by omega) (by omega), show c + 1 + (n : Int) = c + ((n + 1 : Nat) : Int) by omega]
theorem xor_sign (r : Nat) (h : r < 9223372036854775808) : Op.negFloat .f64 (9223372036854775808 + r) = r := by
 show (9223372036854775808 + r) ^^^ 2 ^ 63 = r
 have e : 9223372036854775808 + r = 2 ^ 63 ||| r := by
  have := Nat.two_pow_add_eq_or_of_lt (i := 63) (b := r) h 1
  simpa using this
 have e2 : 2 ^ 63 ||| r = 2 ^ 63 ^^^ r := by
  apply Nat.eq_of_testBit_eq
  intro i
  rw [Nat.testBit_or, Nat.testBit_xor]
  by_cases hi : i = 63
  · subst hi
    have : r.testBit 63 = false := Nat.testBit_lt_two_pow h
    rw [this]; simp
  · have : (2 ^ 63).testBit i = false := by rw [Nat.testBit_two_pow]; simp; omega
    rw [this]; simp
 rw [e, e2, Nat.xor_comm (2 ^ 63) r, Nat.xor_assoc, Nat.xor_self, Nat.xor_zero]
theorem fin_word {x : Nat} (hx : x < 18446744073709551616) (h : x % 9223372036854775808 < 9218868437227405312) : ∃ s M e, s ≤ 1 ∧ M < 9007199254740992 ∧ (e = 0 ∨ 4503599627370496 ≤ M) ∧ e ≤ 2045 ∧ x = s * 9223372036854775808 + wd M e := by
 refine ⟨x / 9223372036854775808, ?_⟩
 by_cases hr : x % 9223372036854775808 < 4503599627370496
 · exact ⟨x % 9223372036854775808, 0, by omega, by omega, .inl rfl, by omega, by rw [wd_eq]; omega⟩
 · refine ⟨4503599627370496 + x % 9223372036854775808 % 4503599627370496, x % 9223372036854775808 / 4503599627370496 - 1, by omega, by omega, .inr (by omega), by omega, ?_⟩
   rw [wd_eq]; omega
theorem fb_loops (s M e : Nat) (A : Nat) (hs : s ≤ 1) (h1 : M < 9007199254740992) (h2 : e = 0 ∨ 4503599627370496 ≤ M) (h3 : e ≤ 2045) : iter (spec_FloatBits.b0 (((s * 9223372036854775808 : Nat) : Int), A)) (wd M e, (0 : Int)) = some ((s * 9223372036854775808 + wd M e : Nat) : Int) := by
 by_cases hm : 4503599627370496 ≤ M
 · by_cases he : 1022 ≤ e
   · rw [fb_down _ M h1 hm (e - 1022) e 0 (by omega) h3 (by omega) (by omega)]
     rw [fb_one s M A _ (e + 1) hs h1 hm (by omega) (by omega), wd_eq, show s * 9223372036854775808 + (e + 1) * 4503599627370496 + (M - 4503599627370496) = s * 9223372036854775808 + (e * 4503599627370496 + M) by omega]
   · rw [fb_pass (wd_v h1 (.inr hm) h3) (p_lt 1022 1023 h1 (by omega) rfl)]
     have := fb_up s M A hs h1 hm (1022 - e) 0 (by omega)
     rw [show 1022 - (1022 - e) = e by omega] at this
     rw [show (0 : Int) = -((0 : Nat) : Int) by simp, this, wd_eq, show s * 9223372036854775808 + (1023 - 0 - (1022 - e)) * 4503599627370496 + (M - 4503599627370496) = s * 9223372036854775808 + (e * 4503599627370496 + M) by omega]
 · have he : e = 0 := by omega
   subst he
   have hv := wd_v h1 (.inl rfl) h3
   rw [fb_pass hv (p_lt 1022 1023 h1 (by omega) rfl)]
   have h0 : M * pw 0 = M * pw 0 := rfl
   have := fb_sub s M A hs (by omega) 1022 0 (wd M 0) (by omega) hv
   rw [show (0 : Int) = -((0 : Nat) : Int) by simp, this, wd_eq, show 0 * 4503599627370496 + M = M by omega]
theorem nan_word {x : Nat} (h : okF x) (hn : isN x = true) : x = nanB := by rw [← h.1, cn_nan hn]
theorem fb_nan : spec_FloatBits.f 9221120237041090560 = some 9221120237041090560 := by
 unfold spec_FloatBits.f
 rw [if_pos (by decide)]
theorem fb_inf : spec_FloatBits.f 9218868437227405312 = some 9218868437227405312 := by
 have h1 : (fcmp .f64 9218868437227405312 9218868437227405312 != some .eq) = false := by decide
 have h2 : (fcmp .f64 9218868437227405312 0 == some .lt) = false := by decide
 have h3 : (fcmp .f64 9218868437227405312 0 == some .eq) = false := by decide
 have h4 : (fcmp .f64 9218868437227405312 9218868437227405311 == some .gt) = true := by decide
 unfold spec_FloatBits.f
 simp only [h1, h2, h3, h4, Bool.false_eq_true, if_false, if_true, Option.bind_some]
 rfl
theorem fb_ninf : spec_FloatBits.f 18442240474082181120 = some 18442240474082181120 := by
 have h1 : (fcmp .f64 18442240474082181120 18442240474082181120 != some .eq) = false := by decide
 have h2 : (fcmp .f64 18442240474082181120 0 == some .lt) = true := by decide
 have h0 : fneg 18442240474082181120 = 9218868437227405312 := by decide
 have h3 : (fcmp .f64 9218868437227405312 0 == some .eq) = false := by decide
 have h4 : (fcmp .f64 9218868437227405312 9218868437227405311 == some .gt) = true := by decide
 unfold spec_FloatBits.f
 simp only [h1, h2, h0, h3, h4, Bool.false_eq_true, if_false, if_true, Option.bind_some]
 rfl
theorem fb_zero : spec_FloatBits.f 0 = some 0 := by
 have h1 : (fcmp .f64 0 0 != some .eq) = false := by decide
 have h2 : (fcmp .f64 0 0 == some .lt) = false := by decide
 have h3 : (fcmp .f64 0 0 == some .eq) = true := by decide
 have h4 : (fcmp .f64 (far .quo 4607182418800017408 0) 0 == some .lt) = false := by decide
 unfold spec_FloatBits.f
 simp only [h1, h2, h3, h4, Bool.false_eq_true, if_false, if_true, Option.bind_some]
theorem fb_nzero : spec_FloatBits.f 9223372036854775808 = some 9223372036854775808 := by
 have h1 : (fcmp .f64 9223372036854775808 9223372036854775808 != some .eq) = false := by decide
 have h2 : (fcmp .f64 9223372036854775808 0 == some .lt) = false := by decide
 have h3 : (fcmp .f64 9223372036854775808 0 == some .eq) = true := by decide
 have h4 : (fcmp .f64 (far .quo 4607182418800017408 9223372036854775808) 0 == some .lt) = true := by decide
 have h5 : (fcmp .f64 (fneg 9223372036854775808) 0 == some .eq) = true := by decide
 unfold spec_FloatBits.f
 simp only [h1, h2, h3, h4, h5, Bool.false_eq_true, if_false, if_true, Option.bind_some]
theorem ifF {α : Type} {b : Bool} {x y : α} (h : b = false) : (if b = true then x else y) = y := by subst h; rfl
theorem ifT {α : Type} {b : Bool} {x y : α} (h : b = true) : (if b = true then x else y) = x := by subst h; rfl
theorem cmp_self {w u : Nat} {s : Bool} (hw : IsV w s u) : (fcmp .f64 w w != some .eq) = false := by
 have : fcmp .f64 w w = some .eq := by
  show D.order w w = _
  rw [order_v hw hw]
  show (some (compareOfLessAndEq _ _)) = some _
  unfold compareOfLessAndEq
  rw [if_neg (Int.lt_irrefl _), if_pos rfl]
 rw [this]; rfl
theorem cmp_le {M e : Nat} (h1 : M < 9007199254740992) (h3 : e ≤ 2045) : ¬ 9007199254740991 * pw 2045 < M * pw e := by
 have : M * pw e ≤ 9007199254740991 * pw 2045 := Nat.mul_le_mul (by omega) (pw_le h3)
 exact Nat.not_lt.2 this
section
variable {M e : Nat} (h1 : M < 9007199254740992) (h2 : e = 0 ∨ 4503599627370496 ≤ M) (h3 : e ≤ 2045) (hM : 0 < M)
include h1 h2 h3
theorem wd_lt : wd M e < 9218868437227405312 := by rw [wd_eq]; omega
theorem wd_max : (fcmp .f64 (wd M e) 9218868437227405311 == some .gt) = false := by
 rw [cmp_gt (wd_v h1 h2 h3) vM, decide_eq_false (cmp_le h1 h3)]
theorem wd_neg : IsV (9223372036854775808 + wd M e) true (M * pw e) := ⟨M, e, h1, h2, h3, rfl, by rw [wd_eq]; rfl⟩
include hM
theorem wd_pos : 0 < M * pw e := Nat.mul_pos hM (pw_pos e)
theorem wd_ne0 : (fcmp .f64 (wd M e) 0 == some .eq) = false := by
 have := wd_pos h1 h2 h3 hM
 rw [cmp_eq (wd_v h1 h2 h3) v0, decide_eq_false (Nat.ne_of_gt this)]
theorem wd_nl : (fcmp .f64 (wd M e) 0 == some .lt) = false := by
 rw [cmp_lt (wd_v h1 h2 h3) v0, decide_eq_false (Nat.not_lt_zero _)]
theorem wd_gt : (fcmp .f64 (wd M e) 0 == some .gt) = true := by
 have := wd_pos h1 h2 h3 hM
 rw [cmp_gt (wd_v h1 h2 h3) v0, decide_eq_true this]
theorem neg_cmp : fcmp .f64 (9223372036854775808 + wd M e) 0 = some .lt := by
 have hp := wd_pos h1 h2 h3 hM
 have ho := order_v (wd_neg h1 h2 h3) v0
 rw [signed_t, signed_f, Nat.pow_zero, Nat.mul_one, Nat.zero_mul] at ho
 show D.order _ _ = _
 rw [ho]
 show (some (compareOfLessAndEq _ _)) = some _
 unfold compareOfLessAndEq
 generalize M * pw e = q at hp
 rw [if_pos (show (-((q : Nat) : Int)) < ((0 : Nat) : Int) by omega)]
theorem neg_neg' : fneg (9223372036854775808 + wd M e) = wd M e := by
 have hl := wd_lt h1 h2 h3
 unfold fneg
 have hn : isN (9223372036854775808 + wd M e) = false := by
  unfold isN
  generalize wd M e = q at hl
  simp; omega
 rw [hn, cond_false]
 exact xor_sign _ (by omega)
theorem fb_plus : spec_FloatBits.f (wd M e) = some ((wd M e : Nat) : Int) := by
 have hl := fb_loops 0 M e (wd M e) (by omega) h1 h2 h3
 have e0 : 0 * 9223372036854775808 + wd M e = wd M e := by rw [Nat.zero_mul, Nat.zero_add]
 have eS : ((0 * 9223372036854775808 : Nat) : Int) = 0 := by omega
 rw [e0, eS] at hl
 unfold spec_FloatBits.f
 rw [ifF (cmp_self (wd_v h1 h2 h3)), ifF (wd_nl h1 h2 h3 hM), ifF (wd_ne0 h1 h2 h3 hM), Option.bind_some, Option.bind_some, ifF rfl, Option.bind_some, ifF (wd_ne0 h1 h2 h3 hM), ifF (wd_max h1 h2 h3)]
 exact hl
theorem fb_minus : spec_FloatBits.f (9223372036854775808 + wd M e) = some ((9223372036854775808 + wd M e : Nat) : Int) := by
 have hl := fb_loops 1 M e (wd M e) (by omega) h1 h2 h3
 have eS : ((1 * 9223372036854775808 : Nat) : Int) = 9223372036854775808 := by omega
 rw [eS, Nat.one_mul] at hl
 have h4 : (fcmp .f64 (9223372036854775808 + wd M e) 0 == some .lt) = true := by rw [neg_cmp h1 h2 h3 hM]; rfl
 unfold spec_FloatBits.f
 rw [ifF (cmp_self (wd_neg h1 h2 h3)), ifT h4, Option.bind_some, ifT rfl, Option.bind_some, neg_neg' h1 h2 h3 hM, ifF (wd_ne0 h1 h2 h3 hM), ifF (wd_max h1 h2 h3)]
 exact hl
end
theorem word_cases {x : Nat} (h : okF x) (P : Nat → Prop) (hnan : P nanB) (hi : P 9218868437227405312) (hni : P 18442240474082181120) (h0 : P 0) (hn0 : P 9223372036854775808)
    (hp : ∀ M e, M < 9007199254740992 → (e = 0 ∨ 4503599627370496 ≤ M) → e ≤ 2045 → 0 < M → P (wd M e)) (hm : ∀ M e, M < 9007199254740992 → (e = 0 ∨ 4503599627370496 ≤ M) → e ≤ 2045 → 0 < M → P (9223372036854775808 + wd M e)) : P x := by
  cases hn : isN x with
  | true => rw [nan_word h hn]; exact hnan
  | false =>
    have hx := h.2
    have hr : x % 9223372036854775808 ≤ 9218868437227405312 := by
      unfold isN at hn
      have := of_decide_eq_false hn
      omega
    by_cases hi' : x % 9223372036854775808 = 9218868437227405312
    · rcases (show x = 9218868437227405312 ∨ x = 18442240474082181120 by omega) with rfl | rfl
      · exact hi
      · exact hni
    · obtain ⟨s, M, e, hs, h1, h2, h3, rfl⟩ := fin_word hx (by omega)
      by_cases hM : M = 0
      · subst hM
        have he : e = 0 := by omega
        subst he
        rcases (show s = 0 ∨ s = 1 by omega) with rfl | rfl
        · exact h0
        · exact hn0
      · rcases (show s = 0 ∨ s = 1 by omega) with rfl | rfl
        · rw [Nat.zero_mul, Nat.zero_add]; exact hp M e h1 h2 h3 (by omega)
        · rw [Nat.one_mul]; exact hm M e h1 h2 h3 (by omega)
theorem spec_FloatBits (x : Nat) (h : okF x) : spec_FloatBits.f x = some (x : Int) :=
 word_cases h (fun x => spec_FloatBits.f x = some (x : Int)) fb_nan fb_inf fb_ninf fb_zero fb_nzero (fun M e h1 h2 h3 hM => fb_plus h1 h2 h3 hM) (fun M e h1 h2 h3 hM => fb_minus h1 h2 h3 hM)
end Go.Proofs.Ytcgbhldenkeplaa
set_option linter.unusedVariables false
set_option linter.unusedSimpArgs false
set_option linter.unusedSectionVars false
namespace Go.Proofs.Ytcgbhldenkeplaa
open Go V Ieee
theorem wd_rng {M e : Nat} (h1 : M < 9007199254740992) (h3 : e ≤ 2045) (hM : 0 < M) : 0 < wd M e ∧ wd M e < 9218868437227405312 := by rw [wd_eq]; omega
theorem cmp_facts (x : Nat) (h : okF x) : (fcmp .f64 x x != some .eq) = decide (x = 9221120237041090560) ∧ (fcmp .f64 x 0 == some .eq) = decide (x = 0 ∨ x = 9223372036854775808) ∧
    (x ≠ 9221120237041090560 → (fcmp .f64 x 0 == some .gt) = decide (0 < x ∧ x < 9223372036854775808)) ∧ isN x = decide (x = 9221120237041090560) := by
  refine word_cases h (fun x => (fcmp .f64 x x != some .eq) = decide (x = 9221120237041090560) ∧ (fcmp .f64 x 0 == some .eq) = decide (x = 0 ∨ x = 9223372036854775808) ∧
    (x ≠ 9221120237041090560 → (fcmp .f64 x 0 == some .gt) = decide (0 < x ∧ x < 9223372036854775808)) ∧ isN x = decide (x = 9221120237041090560)) ?_ ?_ ?_ ?_ ?_ (fun M e h1 h2 h3 hM => ?_) (fun M e h1 h2 h3 hM => ?_)
  · exact ⟨by decide, by decide, fun h => absurd rfl h, by decide⟩
  · exact ⟨by decide, by decide, fun _ => by decide, by decide⟩
  · exact ⟨by decide, by decide, fun _ => by decide, by decide⟩
  · exact ⟨by decide, by decide, fun _ => by decide, by decide⟩
  · exact ⟨by decide, by decide, fun _ => by decide, by decide⟩
  · obtain ⟨q0, q1⟩ := wd_rng h1 h3 hM
    have c1 := cmp_self (wd_v h1 h2 h3)
    have c2 := wd_ne0 h1 h2 h3 hM
    have c3 := wd_gt h1 h2 h3 hM
    rw [c1, c2, c3]
    generalize wd M e = q at q0 q1
    refine ⟨?_, ?_, fun _ => ?_, ?_⟩
    · rw [decide_eq_false (by omega)]
    · rw [decide_eq_false (by omega)]
    · rw [decide_eq_true (by omega)]
    · unfold isN
      rw [decide_eq_false (by omega), decide_eq_false (by omega)]
  · obtain ⟨q0, q1⟩ := wd_rng h1 h3 hM
    have c1 := cmp_self (wd_neg h1 h2 h3)
    have c2 := neg_cmp h1 h2 h3 hM
    rw [c1, c2]
    generalize wd M e = q at q0 q1
    refine ⟨?_, ?_, fun _ => ?_, ?_⟩
    · rw [decide_eq_false (by omega)]
    · rw [decide_eq_false (by omega)]; rfl
    · rw [decide_eq_false (by omega)]; rfl
    · unfold isN
      rw [decide_eq_false (by omega), decide_eq_false (by omega)]
def FRK (x : Nat) : Nat := if x = 9221120237041090560 then 18446744073709551615 else if x = 0 ∨ x = 9223372036854775808 then 9223372036854775808 else if 9223372036854775808 ≤ x then 18446744073709551615 ^^^ x else x ||| 9223372036854775808
theorem max_u64 : IntKind.max .u64 = ((18446744073709551615 : Nat) : Int) := by decide
theorem ishr63 (n : Nat) : (ishr .u64 (n : Int) (63 : Int) == (1 : Int)) = decide (n / 9223372036854775808 = 1) := by
 have h2 : ishr .u64 (n : Int) (63 : Int) = ((n / 9223372036854775808 : Nat) : Int) := ishr_nat .u64 n 63 (by decide)
 rw [h2]
 generalize n / 9223372036854775808 = q
 by_cases hq : q = 1
 · rw [decide_eq_true hq, hq]; rfl
 · rw [decide_eq_false hq]; simp; omega
end Go.Proofs.Ytcgbhldenkeplaa
set_option linter.unusedVariables false
set_option linter.unusedSimpArgs false
set_option linter.unusedSectionVars false
namespace Go.Proofs.Ytcgbhldenkeplaa
open Go V Ieee
theorem within_rin (a b c : Int) : impl_within.f a b c = some (rin a b c) := rfl
def IOK (a : Item) : Bool := ((rin a.Kind 0 3 && ((a.N == (0 : Int)) || (a.Kind == (1 : Int)))) && (((a.F : Int) == 0) || (a.Kind == (2 : Int)))) && (((a.T.length : Int) == (0 : Int)) || ((a.Kind == (3 : Int)) && (decide ((a.T.length : Int) ≤ (40 : Int)))))
theorem impl_ItemOk (a : Item) : impl_ItemOk.f a = some (IOK a) := by
 unfold impl_ItemOk.f
 rw [within_rin, Option.bind_some]; rfl
theorem iok_iff (a : Item) : IOK a = true ↔ ((0 ≤ a.Kind ∧ a.Kind ≤ 3) ∧ (a.N = 0 ∨ a.Kind = 1)) ∧ (a.F = 0 ∨ a.Kind = 2) ∧ (a.T.length = 0 ∨ a.Kind = 3 ∧ a.T.length ≤ 40) := by
 simp only [IOK, rin, Bool.and_eq_true, Bool.or_eq_true, decide_eq_true_eq, beq_iff_eq]
 constructor
 · rintro ⟨⟨⟨h1, h2⟩, h3⟩, h4⟩; exact ⟨⟨h1, h2⟩, by omega, by omega⟩
 · rintro ⟨⟨h1, h2⟩, h3, h4⟩; exact ⟨⟨⟨h1, h2⟩, by omega⟩, by omega⟩
theorem spec_ItemOk (a : Item) (h : okF a.F) : spec_ItemOk.f a = some (IOK a) := by
  unfold spec_ItemOk.f
  rw [spec_FloatBits a.F h]
  obtain ⟨k, n, f, t⟩ := a
  have hi := iok_iff ⟨k, n, f, t⟩
  simp only at hi ⊢
  generalize t.length = l at hi ⊢
  by_cases c1 : (((decide (k < (0 : Int))) || (decide (k > (3 : Int)))) || (decide ((l : Int) > (40 : Int)))) = true
  · rw [if_pos c1]
    have : IOK ⟨k, n, f, t⟩ = false := by
      cases hh : IOK ⟨k, n, f, t⟩ with
      | false => rfl
      | true =>
        have := hi.1 hh
        simp only [Bool.or_eq_true, decide_eq_true_eq] at c1
        omega
    rw [this]
  · rw [if_neg c1]
    simp only [Bool.or_eq_true, decide_eq_true_eq, not_or] at c1
    by_cases c2 : ((k != (1 : Int)) && (n != (0 : Int))) = true
    · rw [if_pos c2]
      have : IOK ⟨k, n, f, t⟩ = false := by
        cases hh : IOK ⟨k, n, f, t⟩ with
        | false => rfl
        | true =>
          have := hi.1 hh
          simp only [Bool.and_eq_true, bne_iff_ne, ne_eq] at c2
          omega
      rw [this]
    · rw [if_neg c2]
      simp only [Bool.and_eq_true, bne_iff_ne, ne_eq, not_and, Decidable.not_not] at c2
      by_cases c3 : k = 2
      · rw [if_neg (by simp [c3])]
        simp only [Option.bind_some, Bool.false_eq_true, if_false]
        congr 1
        have e : ((k == (3 : Int)) || ((l : Int) == (0 : Int))) = decide (k = 3 ∨ l = 0) := by
          by_cases q : k = 3 <;> by_cases q2 : l = 0 <;> simp [q, q2]
        rw [e]
        cases hh : IOK ⟨k, n, f, t⟩ with
        | true => exact decide_eq_true (by have := hi.1 hh; omega)
        | false => exact decide_eq_false (fun hc => by
            have : IOK ⟨k, n, f, t⟩ = true := hi.2 (by omega)
            rw [hh] at this; cases this)
      · rw [if_pos (by simp [c3])]
        simp only [Option.bind_some]
        by_cases c4 : f = 0
        · rw [if_neg (by simp [c4])]
          congr 1
          have e : ((k == (3 : Int)) || ((l : Int) == (0 : Int))) = decide (k = 3 ∨ l = 0) := by
            by_cases q : k = 3 <;> by_cases q2 : l = 0 <;> simp [q, q2]
          rw [e]
          cases hh : IOK ⟨k, n, f, t⟩ with
          | true => exact decide_eq_true (by have := hi.1 hh; omega)
          | false => exact decide_eq_false (fun hc => by
              have : IOK ⟨k, n, f, t⟩ = true := hi.2 (by omega)
              rw [hh] at this; cases this)
        · rw [if_pos (by simp; exact c4)]
          have : IOK ⟨k, n, f, t⟩ = false := by
            cases hh : IOK ⟨k, n, f, t⟩ with
            | false => rfl
            | true =>
              have := hi.1 hh
              omega
          rw [this]
def KOK (a : Item) : Bool := (IOK a && (a.Kind != (0 : Int))) && decide (a.F ≠ 9223372036854775808)
theorem impl_KeyOk (a : Item) (h : okF a.F) : impl_KeyOk.f a = some (KOK a) := by
 unfold impl_KeyOk.f KOK
 rw [impl_ItemOk, Option.bind_some]
 obtain ⟨_, c2, _, _⟩ := cmp_facts a.F h
 have e : ((fcmp .f64 a.F 0 != some .eq) || ((a.F : Int) == 0)) = decide (a.F ≠ 9223372036854775808) := by
  have hb : (fcmp .f64 a.F 0 != some .eq) = !(fcmp .f64 a.F 0 == some .eq) := rfl
  rw [hb, c2]
  generalize a.F = q
  by_cases h0 : q = 0
  · subst h0; rfl
  · by_cases h1 : q = 9223372036854775808
    · subst h1; rfl
    · rw [decide_eq_false (by omega), decide_eq_true h1]; rfl
 rw [e]
theorem spec_KeyOk (a : Item) (h : okF a.F) : spec_KeyOk.f a = some (KOK a) := by
 unfold spec_KeyOk.f KOK
 rw [spec_ItemOk a h, Option.bind_some]
 obtain ⟨_, c2, _, _⟩ := cmp_facts a.F h
 cases hc : (IOK a && (a.Kind != (0 : Int))) with
 | false => rfl
 | true =>
  rw [if_pos rfl, c2, spec_FloatBits a.F h]
  generalize a.F = q
  by_cases h0 : q = 0
  · subst h0; rfl
  · by_cases h1 : q = 9223372036854775808
    · subst h1; rfl
    · rw [decide_eq_false (by omega), decide_eq_true h1]; rfl
theorem iok_T {a : Item} (h : IOK a = true) : a.T.length ≤ 40 := by have := (iok_iff a).1 h; omega
theorem kok_iok {a : Item} (h : KOK a = true) : IOK a = true := by
 simp only [KOK, Bool.and_eq_true] at h; exact h.1.1
end Go.Proofs.Ytcgbhldenkeplaa
set_option linter.unusedVariables false
set_option linter.unusedSimpArgs false
set_option linter.unusedSectionVars false
namespace Go.Proofs.Ytcgbhldenkeplaa
open Go V Ieee
theorem impl_FloatRank (x : Nat) (h : okF x) : impl_FloatRank.f x = some (FRK x : Int) := by
 obtain ⟨c1, c2, c3, c4⟩ := cmp_facts x h
 unfold impl_FloatRank.f FRK
 by_cases hx : x = 9221120237041090560
 · rw [ifT (by rw [c1]; exact decide_eq_true hx), if_pos hx]; rfl
 · rw [ifF (by rw [c1]; exact decide_eq_false hx), if_neg hx]
   by_cases h0 : x = 0 ∨ x = 9223372036854775808
   · rw [ifT (by rw [c2]; exact decide_eq_true h0), if_pos h0]; rfl
   · rw [ifF (by rw [c2]; exact decide_eq_false h0), if_neg h0]
     have hn : isN x = false := by rw [c4]; exact decide_eq_false hx
     have hl := h.2
     by_cases hs : 9223372036854775808 ≤ x
     · rw [ifF (by rw [c3 hx]; exact decide_eq_false (by omega)), if_pos hn, if_pos hs, max_u64, ixor_u64 _ _ (by omega) hl]
     · rw [ifT (by rw [c3 hx]; exact decide_eq_true (by omega)), if_pos hn, if_neg hs]
       exact congrArg some (ior_u64 x 9223372036854775808 hl (by omega))
theorem spec_FloatRank (x : Nat) (h : okF x) : spec_FloatRank.f x = some (FRK x : Int) := by
 obtain ⟨c1, c2, c3, c4⟩ := cmp_facts x h
 unfold spec_FloatRank.f FRK
 rw [spec_FloatBits x h, Option.bind_some]
 have hl := h.2
 by_cases hx : x = 9221120237041090560
 · rw [ifT (by rw [hx]; rfl), if_pos hx]; rfl
 · rw [ifF (by simp; omega), if_neg hx]
   by_cases h0 : x = 0 ∨ x = 9223372036854775808
   · rw [ifT (by rw [c2]; exact decide_eq_true h0), if_pos h0]; rfl
   · rw [ifF (by rw [c2]; exact decide_eq_false h0), if_neg h0]
     by_cases hs : 9223372036854775808 ≤ x
     · rw [ifT (by rw [ishr63]; exact decide_eq_true (by omega)), if_pos hs, max_u64, ixor_u64 _ _ (by omega) hl]
     · rw [ifF (by rw [ishr63]; exact decide_eq_false (by omega)), if_neg hs]
       exact congrArg some (ior_u64 x 9223372036854775808 hl (by omega))
end Go.Proofs.Ytcgbhldenkeplaa
set_option linter.unusedVariables false
set_option linter.unusedSimpArgs false
set_option linter.unusedSectionVars false
namespace Go.Proofs.Ytcgbhldenkeplaa
open Go V Ieee
def runL {α σ O : Type} (step : σ → α → σ ⊕ O) (fin : σ → O) : List α → σ → O
 | [], s => fin s
 | x :: xs, s => match step s x with
  | .inl s' => runL step fin xs s'
  | .inr o => o
theorem iter_runL {α σ O S : Type} {body : S → Option (S ⊕ O)} (xs : List α) (emb : σ → Nat → S) (step : σ → α → σ ⊕ O) (fin : σ → O) (Inv : σ → Nat → Prop)
    (h : ∀ s k (hk : k < xs.length), Inv s k → body (emb s k) = some (match step s xs[k] with
      | .inl s' => .inl (emb s' (k + 1))
      | .inr o => .inr o) ∧ ∀ s', step s xs[k] = .inl s' → Inv s' (k + 1))
    (hn : ∀ s, Inv s xs.length → body (emb s xs.length) = some (.inr (fin s))) (s0 : σ) (h0 : Inv s0 0) : iter body (emb s0 0) = some (runL step fin xs s0) := by
  have key : ∀ (m k : Nat) (s : σ), k + m = xs.length → Inv s k → iter body (emb s k) = some (runL step fin (xs.drop k) s) := by
    intro m
    induction m with
    | zero =>
      intro k s hk hI
      have : k = xs.length := by omega
      subst this
      rw [List.drop_length, iter_r (hn s hI)]; rfl
    | succ m ih =>
      intro k s hk hI
      have hlt : k < xs.length := by omega
      obtain ⟨hb, hs⟩ := h s k hlt hI
      rw [List.drop_eq_getElem_cons hlt]
      unfold runL
      cases hst : step s xs[k] with
      | inl s' => rw [hst] at hb; rw [iter_l hb]; exact ih (k + 1) s' (by omega) (hs s' hst)
      | inr o => rw [hst] at hb; rw [iter_r hb]
  have := key xs.length 0 s0 (by omega) h0
  rwa [List.drop_zero] at this
theorem iter_test {α O : Type} {body : Int → Option (Int ⊕ O)} (xs : List α) (g : α → Bool) (o1 o2 : O) (hb : ∀ (k : Nat) (hk : k < xs.length), body (k : Int) = if g xs[k] = true then some (.inr o1) else some (.inl ((k : Int) + 1))) (hn : body (xs.length : Int) = some (.inr o2)) : iter body 0 = some (if xs.any g = true then o1 else o2) := by
 have := iter_runL (body := body) xs (fun (_ : Unit) (k : Nat) => (k : Int)) (fun _ x => if g x = true then .inr o1 else .inl ()) (fun _ => o2) (fun _ _ => True) (fun _ k hk _ => ⟨by
  rw [hb k hk]
  cases g xs[k] <;> rfl, fun _ _ => trivial⟩) (fun _ _ => hn) () trivial
 refine this.trans ?_
 congr 1
 clear this hb hn
 induction xs with
 | nil => rfl
 | cons x xs ih =>
  unfold runL
  rw [List.any_cons]
  cases g x with
  | true => rfl
  | false => simpa using ih
def SGN (a b : Int) : Int := if a < b then -1 else if a > b then 1 else 0
theorem sgn_0 {a b : Int} : SGN a b = 0 ↔ a = b := by
 unfold SGN
 split
 · constructor <;> omega
 · split
   · constructor <;> omega
   · constructor <;> omega
def ICM (a b : Item) : Int := if a.Kind ≠ b.Kind then SGN a.Kind b.Kind else if a.N ≠ b.N then SGN a.N b.N else if FRK a.F ≠ FRK b.F then SGN (FRK a.F) (FRK b.F) else bcmp a.T b.T
theorem bcmp_at : ∀ (p : Nat) (xs ys : List Int) (h1 : p < xs.length) (h2 : p < ys.length), (∀ i, i < p → xs[i]? = ys[i]?) → xs[p] ≠ ys[p] → bcmp xs ys = if xs[p] < ys[p] then -1 else 1
 | 0, x :: xs, y :: ys, h1, h2, h, hne => by
  unfold bcmp
  have : (x == y) = false := by simpa using hne
  rw [this]
  simp only [cond_false, List.getElem_cons_zero]
  by_cases hlt : x < y
  · rw [if_pos hlt, decide_eq_true hlt]; rfl
  · rw [if_neg hlt, decide_eq_false hlt]; rfl
 | p + 1, x :: xs, y :: ys, h1, h2, h, hne => by
  unfold bcmp
  have h0 := h 0 (by omega)
  simp only [List.getElem?_cons_zero, Option.some.injEq] at h0
  have : (x == y) = true := by simpa using h0
  rw [this]
  simp only [cond_true, List.getElem_cons_succ]
  exact bcmp_at p xs ys (by simpa using h1) (by simpa using h2) (fun i hi => by simpa using h (i + 1) (by omega)) (by simpa using hne)
theorem bcmp_end : ∀ (xs ys : List Int), (∀ i, i < xs.length → i < ys.length → xs[i]? = ys[i]?) → bcmp xs ys = if xs.length < ys.length then -1 else if xs.length > ys.length then 1 else 0
 | [], [], _ => rfl
 | [], y :: ys, _ => by simp [bcmp]
 | x :: xs, [], _ => by simp [bcmp]
 | x :: xs, y :: ys, h => by
  unfold bcmp
  have h0 := h 0 (by simp) (by simp)
  simp only [List.getElem?_cons_zero, Option.some.injEq] at h0
  have : (x == y) = true := by simpa using h0
  rw [this]
  simp only [cond_true, List.length_cons]
  rw [bcmp_end xs ys fun i h1 h2 => by simpa using h (i + 1) (by simpa using h1) (by simpa using h2)]
  simp
theorem str_data (xs : List Int) : (str xs).data.toList = xs.map fun n => UInt8.ofNat n.toNat := by
 have key : ∀ (xs : List Int) (acc : ByteArray), (xs.foldl (fun r n => r.push (UInt8.ofNat n.toNat)) acc).data.toList = acc.data.toList ++ xs.map fun n => UInt8.ofNat n.toNat := by
  intro xs
  induction xs with
  | nil => intro acc; simp
  | cons x xs ih => intro acc; rw [List.foldl_cons, ih]; simp
 exact (key xs ByteArray.empty).trans (List.nil_append _)
theorem str_size (xs : List Int) : (str xs).size = xs.length := by
 have := congrArg List.length (str_data xs)
 rw [List.length_map, Array.length_toList] at this
 exact this
theorem str_get (xs : List Int) (i : Nat) (h : i < xs.length) : (str xs)[i]! = UInt8.ofNat (xs[i]).toNat := by
 have hs : i < (str xs).size := by rw [str_size]; exact h
 rw [getElem!_pos (str xs) i hs]
 have h1 : (str xs)[i] = (str xs).data[i] := rfl
 have h2 : (str xs).data.toList[i]? = (xs.map fun n => UInt8.ofNat n.toNat)[i]? := by rw [str_data]
 rw [List.getElem?_map, List.getElem?_eq_getElem h, Array.getElem?_toList, Array.getElem?_eq_getElem (show i < (str xs).data.size from hs)] at h2
 rw [h1]; exact Option.some.inj h2
theorem u8_lt {a b : Int} (ha : InK .u8 a) (hb : InK .u8 b) : (UInt8.ofNat a.toNat < UInt8.ofNat b.toNat) ↔ a < b := by
 have h1 := u8_of ha
 have h2 := u8_of hb
 rw [UInt8.lt_iff_toNat_lt, UInt8.toNat_ofNat', UInt8.toNat_ofNat', Nat.mod_eq_of_lt (by omega), Nat.mod_eq_of_lt (by omega)]
 omega
theorem u8_eq {a b : Int} (ha : InK .u8 a) (hb : InK .u8 b) : (UInt8.ofNat a.toNat = UInt8.ofNat b.toNat) ↔ a = b := by
 have h1 := u8_of ha
 have h2 := u8_of hb
 rw [← UInt8.toNat_inj, UInt8.toNat_ofNat', UInt8.toNat_ofNat', Nat.mod_eq_of_lt (by omega), Nat.mod_eq_of_lt (by omega)]
 omega
theorem bcmpS_eq (xs ys : List Int) (hx : ∀ x ∈ xs, InK .u8 x) (hy : ∀ x ∈ ys, InK .u8 x) : bcmpS xs ys = bcmp xs ys := by
 unfold bcmpS Extern.BytealgCompare.cmp
 rw [str_size, str_size]
 cases hf : (List.range (min xs.length ys.length)).find? (fun i => (str xs)[i]! != (str ys)[i]!) with
 | none =>
  rw [List.find?_eq_none] at hf
  rw [bcmp_end xs ys fun i h1 h2 => ?_]
  have := hf i (List.mem_range.2 (by omega))
  rw [str_get xs i h1, str_get ys i h2] at this
  have h3 : UInt8.ofNat (xs[i]).toNat = UInt8.ofNat (ys[i]).toNat := by simpa using this
  rw [List.getElem?_eq_getElem h1, List.getElem?_eq_getElem h2, (u8_eq (hx _ (List.getElem_mem h1)) (hy _ (List.getElem_mem h2))).1 h3]
 | some i =>
  have hm := List.mem_range.1 (List.mem_of_find?_eq_some hf)
  have h1 : i < xs.length := by omega
  have h2 : i < ys.length := by omega
  have hp := List.find?_some hf
  rw [List.find?_range_eq_some] at hf
  have hne : xs[i] ≠ ys[i] := fun e => by
   rw [str_get xs i h1, str_get ys i h2, e] at hp
   simp at hp
  rw [bcmp_at i xs ys h1 h2 (fun j hj => by
   have := hf.2.2 j hj
   rw [str_get xs j (by omega), str_get ys j (by omega)] at this
   have h3 : UInt8.ofNat (xs[j]).toNat = UInt8.ofNat (ys[j]).toNat := by simpa using this
   rw [List.getElem?_eq_getElem (by omega), List.getElem?_eq_getElem (by omega), (u8_eq (hx _ (List.getElem_mem (by omega))) (hy _ (List.getElem_mem (by omega)))).1 h3]) hne]
  simp only []
  rw [str_get xs i h1, str_get ys i h2]
  by_cases hlt : xs[i] < ys[i]
  · rw [if_pos hlt, if_pos ((u8_lt (hx _ (List.getElem_mem h1)) (hy _ (List.getElem_mem h2))).2 hlt)]
  · rw [if_neg hlt, if_neg fun h => hlt ((u8_lt (hx _ (List.getElem_mem h1)) (hy _ (List.getElem_mem h2))).1 h)]
theorem spec_l3texts (a b : List Int) (ha : a.length ≤ 1000000000) : spec_l3texts.f a b = some (bcmp a b) := by
 unfold spec_l3texts.f
 have key : ∀ (m k : Nat), k + m = a.length → k ≤ b.length → iter (spec_l3texts.b0 a b) (k : Int) = some (bcmp (a.drop k) (b.drop k)) := by
  intro m
  induction m with
  | zero =>
   intro k hk hb
   have : k = a.length := by omega
   subst this
   refine iter_r ?_
   unfold spec_l3texts.b0
   rw [if_neg (by simp), List.drop_length]
   by_cases hl : a.length < b.length
   · rw [if_pos (by simp; omega), List.drop_eq_getElem_cons hl]; rfl
   · rw [if_neg (by simp; omega), if_neg (by simp; omega), List.drop_eq_nil_of_le (by omega)]; rfl
  | succ m ih =>
   intro k hk hb
   have hk1 : k < a.length := by omega
   by_cases hk2 : k < b.length
   · rw [List.drop_eq_getElem_cons hk1, List.drop_eq_getElem_cons hk2]
     unfold bcmp
     by_cases h1 : a[k] < b[k]
     · have hne : (a[k] == b[k]) = false := by simp; omega
       rw [hne, decide_eq_true h1]
       refine iter_r ?_
       unfold spec_l3texts.b0
       rw [if_pos (by simp; omega), if_pos ⟨by omega, by omega⟩, if_pos ⟨by omega, by omega⟩, at_nat _ k hk1, at_nat _ k hk2, if_pos (by simpa using h1)]; rfl
     · by_cases h2 : a[k] > b[k]
       · have hne : (a[k] == b[k]) = false := by simp; omega
         rw [hne, decide_eq_false h1]
         refine iter_r ?_
         unfold spec_l3texts.b0
         rw [if_pos (by simp; omega), if_pos ⟨by omega, by omega⟩, if_pos ⟨by omega, by omega⟩, at_nat _ k hk1, at_nat _ k hk2, if_neg (by simpa using h1), if_pos ⟨by omega, by omega⟩, if_pos ⟨by omega, by omega⟩, if_pos (by simpa using h2)]; rfl
       · have hne : (a[k] == b[k]) = true := by simp; omega
         rw [hne, cond_true, ← ih (k + 1) (by omega) (by omega)]
         refine iter_l ?_
         unfold spec_l3texts.b0
         rw [if_pos (by simp; omega), if_pos ⟨by omega, by omega⟩, if_pos ⟨by omega, by omega⟩, at_nat _ k hk1, at_nat _ k hk2, if_neg (by simpa using h1), if_pos ⟨by omega, by omega⟩, if_pos ⟨by omega, by omega⟩, if_neg (by simpa using h2), w64 (by omega) (by omega)]; rfl
   · refine iter_r ?_
     unfold spec_l3texts.b0
     rw [if_neg (by simp; omega), if_neg (by simp; omega), if_pos (by simp; omega), List.drop_eq_getElem_cons hk1, List.drop_eq_nil_of_le (show b.length ≤ k by omega)]; rfl
 exact key a.length 0 (by omega) (by omega)
theorem cmpI (a b : Int) : cmp_Compare_int.f a b = some (SGN a b) := by
 unfold cmp_Compare_int.f cmp_isNaN_int.f SGN
 simp only [bne_self_eq_false, Option.bind_some, Bool.false_eq_true, if_false, decide_eq_true_eq]
 split
 · rfl
 · split <;> rfl
theorem cmpU (a b : Int) : cmp_Compare_uint64.f a b = some (SGN a b) := by
 unfold cmp_Compare_uint64.f cmp_isNaN_uint64.f SGN
 simp only [bne_self_eq_false, Option.bind_some, Bool.false_eq_true, if_false, decide_eq_true_eq]
 split
 · rfl
 · split <;> rfl
theorem cmpOr (l : List Int) (hl : l.length ≤ 1000) : cmp_Or_int.f l = some (runL (fun (_ : Unit) x => if x ≠ 0 then .inr x else .inl ()) (fun _ => 0) l ()) := by
 unfold cmp_Or_int.f
 refine iter_runL l (fun _ k => (k : Int)) _ _ (fun _ _ => True) (fun s k hk _ => ⟨?_, fun _ _ => trivial⟩) (fun s _ => ?_) () trivial
 · unfold cmp_Or_int.b0
   rw [if_pos (by simp; omega), if_pos ⟨by omega, by omega⟩, at_nat _ k hk, w64 (by omega) (by omega)]
   by_cases h : l[k] = 0
   · rw [if_neg (by simpa using h), if_neg (by simpa using h)]; rfl
   · rw [if_pos (by simpa using h), if_pos (by simpa using h)]
 · unfold cmp_Or_int.b0
   rw [if_neg (by simp)]; rfl
theorem impl_compareItems (a b : Item) (ha : ok_Item a) (hb : ok_Item b) : impl_compareItems.f a b = some (ICM a b) := by
 unfold impl_compareItems.f impl_FloatCompare.f bytes_Compare.f
 rw [cmpI, Option.bind_some, cmpI, Option.bind_some, impl_FloatRank _ ha.2.2.1, Option.bind_some, impl_FloatRank _ hb.2.2.1, Option.bind_some, cmpU, Option.bind_some, Option.bind_some, Option.bind_some, bcmpS_eq _ _ ha.2.2.2.2 hb.2.2.2.2, cmpOr _ (by simp), Option.bind_some]
 congr 1
 unfold ICM runL
 by_cases h1 : a.Kind = b.Kind
 · rw [if_neg (by simpa using sgn_0.2 h1), if_neg (by simpa using h1)]
   simp only []
   unfold runL
   by_cases h2 : a.N = b.N
   · rw [if_neg (by simpa using sgn_0.2 h2), if_neg (by simpa using h2)]
     simp only []
     unfold runL
     by_cases h3 : FRK a.F = FRK b.F
     · rw [if_neg (by simp [sgn_0, h3]), if_neg (by simpa using h3)]
       simp only []
       unfold runL
       by_cases h4 : bcmp a.T b.T = 0
       · rw [if_neg (by simpa using h4)]; simp only []; unfold runL; exact h4.symm
       · rw [if_pos (by simpa using h4)]
     · rw [if_pos (fun h => h3 (by have := sgn_0.1 h; omega)), if_pos h3]
   · rw [if_pos (fun h => h2 (sgn_0.1 h)), if_pos h2]
 · rw [if_pos (fun h => h1 (sgn_0.1 h)), if_pos h1]
theorem spec_FloatCompare (x y : Nat) (hx : okF x) (hy : okF y) : spec_FloatCompare.f x y = some (SGN (FRK x) (FRK y)) := by
 unfold spec_FloatCompare.f SGN
 rw [spec_FloatRank _ hx, Option.bind_some, spec_FloatRank _ hy, Option.bind_some]
 simp only [decide_eq_true_eq]
 split
 · rfl
 · split <;> rfl
theorem spec_ItemCompare (a b : Item) (ha : ok_Item a) (hb : ok_Item b) (va : IOK a = true) (vb : IOK b = true) : spec_ItemCompare.f a b = some (ICM a b) := by
 unfold spec_ItemCompare.f ICM
 rw [spec_ItemOk a ha.2.2.1, Option.bind_some, va, if_neg (by decide), spec_ItemOk b hb.2.2.1, Option.bind_some, vb]
 simp only [Option.bind_some, Bool.not_true, Bool.false_eq_true, if_false]
 by_cases h1 : a.Kind = b.Kind
 · rw [if_neg (show ¬ ((a.Kind != b.Kind) = true) by simpa using h1), if_neg (show ¬ (a.Kind ≠ b.Kind) by simpa using h1)]
   by_cases h2 : a.N = b.N
   · rw [if_neg (show ¬ ((a.N != b.N) = true) by simpa using h2), if_neg (show ¬ (a.N ≠ b.N) by simpa using h2), spec_FloatCompare _ _ ha.2.2.1 hb.2.2.1, Option.bind_some]
     by_cases h3 : FRK a.F = FRK b.F
     · rw [if_neg (by simp [sgn_0, h3]), if_neg (by simpa using h3), spec_l3texts _ _ (by have := iok_T va; omega)]; rfl
     · rw [if_pos (by simp [sgn_0]; omega), if_pos h3]
   · rw [if_pos (show (a.N != b.N) = true by simpa using h2), if_pos (show a.N ≠ b.N from h2)]
     unfold SGN
     simp only [decide_eq_true_eq]
     split
     · rfl
     · rw [if_pos (by omega)]
 · rw [if_pos (show (a.Kind != b.Kind) = true by simpa using h1), if_pos (show a.Kind ≠ b.Kind from h1)]
   unfold SGN
   simp only [decide_eq_true_eq]
   split
   · rfl
   · rw [if_pos (by omega)]
def SPK (s : Span) : Bool := KOK s.From && KOK s.To && decide (ICM s.From s.To ≤ 0)
def INS (a b c : Item) : Bool := KOK a && KOK b && KOK c && decide (ICM a c ≤ 0) && decide (ICM c b ≤ 0)
theorem impl_SpanOk (s : Span) (h : ok_Span s) : impl_SpanOk.f s = some (SPK s) := by
 unfold impl_SpanOk.f SPK
 rw [impl_KeyOk _ h.1.2.2.1, Option.bind_some]
 cases hf : KOK s.From with
 | false => rfl
 | true =>
  rw [if_pos rfl, impl_KeyOk _ h.2.2.2.1, Option.bind_some, Option.bind_some]
  cases ht : KOK s.To with
  | false => rfl
  | true => rw [if_pos rfl, impl_compareItems _ _ h.1 h.2]; rfl
theorem spec_SpanOk (s : Span) (h : ok_Span s) : spec_SpanOk.f s = some (SPK s) := by
 unfold spec_SpanOk.f SPK
 rw [spec_KeyOk _ h.1.2.2.1, Option.bind_some]
 cases hf : KOK s.From with
 | false => rfl
 | true =>
  rw [if_pos rfl, spec_KeyOk _ h.2.2.2.1, Option.bind_some, Option.bind_some]
  cases ht : KOK s.To with
  | false => rfl
  | true => rw [if_pos rfl, spec_ItemCompare _ _ h.1 h.2 (kok_iok hf) (kok_iok ht)]; rfl
theorem spec_InSpan (a b c : Item) (ha : ok_Item a) (hb : ok_Item b) (hc : ok_Item c) : spec_InSpan.f a b c = some (INS a b c) := by
 unfold spec_InSpan.f INS
 rw [spec_KeyOk _ ha.2.2.1, Option.bind_some]
 cases h1 : KOK a with
 | false => rfl
 | true =>
  rw [if_pos rfl, spec_KeyOk _ hb.2.2.1, Option.bind_some, Option.bind_some]
  cases h2 : KOK b with
  | false => rfl
  | true =>
   rw [if_pos rfl, spec_KeyOk _ hc.2.2.1, Option.bind_some, Option.bind_some]
   cases h3 : KOK c with
   | false => rfl
   | true =>
    rw [if_pos rfl, spec_ItemCompare _ _ ha hc (kok_iok h1) (kok_iok h3), Option.bind_some, Option.bind_some]
    cases h4 : decide (ICM a c ≤ 0) with
    | false => rfl
    | true => rw [if_pos rfl, spec_ItemCompare _ _ hc hb (kok_iok h3) (kok_iok h2)]; rfl
end Go.Proofs.Ytcgbhldenkeplaa
set_option linter.unusedVariables false
set_option linter.unusedSimpArgs false
set_option linter.unusedSectionVars false
namespace Go.Proofs.Ytcgbhldenkeplaa
open Go V Ieee
def IXF {α : Type} (g : α → Bool) : List α → Int → Int
 | [], _ => -1
 | x :: xs, i => if g x = true then i else IXF g xs (i + 1)
theorem ixf_out {α : Type} (g : α → Bool) : ∀ (xs : List α) (i : Int), (IXF g xs i = -1 ∧ xs.any g = false) ∨ ∃ (k : Nat) (hk : k < xs.length), IXF g xs i = i + k ∧ g xs[k] = true ∧ xs.any g = true ∧ ∀ j (hj : j < k), g (xs[j]'(by omega)) = false
 | [], i => .inl ⟨rfl, rfl⟩
 | x :: xs, i => by
  unfold IXF
  cases hx : g x with
  | true => exact .inr ⟨0, by simp, by simp, by simpa using hx, by simp [hx], fun j hj => by omega⟩
  | false =>
   rw [if_neg (by decide)]
   rcases ixf_out g xs (i + 1) with ⟨h1, h2⟩ | ⟨k, hk, h1, h2, h3, h4⟩
   · exact .inl ⟨h1, by simp [hx, h2]⟩
   · refine .inr ⟨k + 1, by simpa using hk, by omega, by simpa using h2, by simp [h3], fun j hj => ?_⟩
     cases j with
     | zero => simpa using hx
     | succ j => simpa using h4 j (by omega)
theorem ixf_any {α : Type} (g : α → Bool) (xs : List α) : decide (IXF g xs 0 ≥ 0) = xs.any g := by
 rcases ixf_out g xs 0 with ⟨h1, h2⟩ | ⟨k, hk, h1, _, h2, _⟩
 · rw [h1, h2]; rfl
 · rw [h2]; exact decide_eq_true (by omega)
theorem iter_ixf {α : Type} {body : Int → Option (Int ⊕ Int)} (xs : List α) (g : α → Bool) (hb : ∀ (k : Nat) (hk : k < xs.length), body (k : Int) = if g xs[k] = true then some (.inr (k : Int)) else some (.inl ((k : Int) + 1))) (hn : body (xs.length : Int) = some (.inr (-1))) : iter body 0 = some (IXF g xs 0) := by
 have key : ∀ (m k : Nat), k + m = xs.length → iter body (k : Int) = some (IXF g (xs.drop k) (k : Int)) := by
  intro m
  induction m with
  | zero =>
   intro k hk
   have : k = xs.length := by omega
   subst this
   rw [List.drop_length, iter_r hn]; rfl
  | succ m ih =>
   intro k hk
   have hlt : k < xs.length := by omega
   have h := hb k hlt
   rw [List.drop_eq_getElem_cons hlt]
   unfold IXF
   cases hg : g xs[k] with
   | true => rw [hg, if_pos rfl] at h; rw [iter_r h, if_pos rfl]
   | false =>
    rw [hg, if_neg (by decide)] at h
    rw [iter_l h, if_neg (by decide)]
    have := ih (k + 1) (by omega)
    rw [show ((k + 1 : Nat) : Int) = (k : Int) + 1 by omega] at this
    exact this
 have := key xs.length 0 (by omega)
 rwa [List.drop_zero] at this
theorem idxItem (l : List Item) (hl : l.length ≤ 1000000000) (f : Item → Option Bool) (g : Item → Bool) (h : ∀ x ∈ l, f x = some (g x)) : slices_IndexFunc_impl_Item_impl_Item.f l f = some (IXF g l 0) := by
 unfold slices_IndexFunc_impl_Item_impl_Item.f
 refine iter_ixf l g (fun k hk => ?_) ?_
 · unfold slices_IndexFunc_impl_Item_impl_Item.b0
   rw [if_pos (by simp; omega), if_pos ⟨by omega, by omega⟩, at_nat _ k hk]
   rw [h _ (List.getElem_mem hk), Option.bind_some, w64 (by omega) (by omega)]
 · unfold slices_IndexFunc_impl_Item_impl_Item.b0
   rw [if_neg (by simp)]; rfl
theorem cntItem (l : List Item) (hl : l.length ≤ 1000000000) (f : Item → Option Bool) (g : Item → Bool) (h : ∀ x ∈ l, f x = some (g x)) : slices_ContainsFunc_impl_Item_impl_Item.f l f = some (l.any g) := by
 unfold slices_ContainsFunc_impl_Item_impl_Item.f
 rw [idxItem l hl f g h, Option.bind_some, ixf_any]
theorem allItem (l : List Item) (hl : l.length ≤ 1000000000) (f : Item → Option Bool) (g : Item → Bool) (h : ∀ x ∈ l, f x = some (g x)) : impl_areAll_impl_Item.f l f = some (l.all g) := by
 unfold impl_areAll_impl_Item.f
 rw [cntItem l hl _ (fun x => !g x) (fun x hx => by unfold impl_areAll_impl_Item_1.f; rw [h x hx]; rfl), Option.bind_some]
 simp [List.any_eq_not_all_not]
theorem idxSpan (l : List Span) (hl : l.length ≤ 1000000000) (f : Span → Option Bool) (g : Span → Bool) (h : ∀ x ∈ l, f x = some (g x)) : slices_IndexFunc_impl_Span_impl_Span.f l f = some (IXF g l 0) := by
 unfold slices_IndexFunc_impl_Span_impl_Span.f
 refine iter_ixf l g (fun k hk => ?_) ?_
 · unfold slices_IndexFunc_impl_Span_impl_Span.b0
   rw [if_pos (by simp; omega), if_pos ⟨by omega, by omega⟩, at_nat _ k hk]
   rw [h _ (List.getElem_mem hk), Option.bind_some, w64 (by omega) (by omega)]
 · unfold slices_IndexFunc_impl_Span_impl_Span.b0
   rw [if_neg (by simp)]; rfl
theorem cntSpan (l : List Span) (hl : l.length ≤ 1000000000) (f : Span → Option Bool) (g : Span → Bool) (h : ∀ x ∈ l, f x = some (g x)) : slices_ContainsFunc_impl_Span_impl_Span.f l f = some (l.any g) := by
 unfold slices_ContainsFunc_impl_Span_impl_Span.f
 rw [idxSpan l hl f g h, Option.bind_some, ixf_any]
theorem allSpan (l : List Span) (hl : l.length ≤ 1000000000) (f : Span → Option Bool) (g : Span → Bool) (h : ∀ x ∈ l, f x = some (g x)) : impl_areAll_impl_Span.f l f = some (l.all g) := by
 unfold impl_areAll_impl_Span.f
 rw [cntSpan l hl _ (fun x => !g x) (fun x hx => by unfold impl_areAll_impl_Span_1.f; rw [h x hx]; rfl), Option.bind_some]
 simp [List.any_eq_not_all_not]
theorem mset_any {m : MD} (h : ∀ p ∈ m, p.2 = true) (k : Int) : mget m k = decide (k ∈ m.map (·.1)) := by
 rw [mget_all h]
 induction m with
 | nil => rfl
 | cons p m ih =>
  rw [List.any_cons, ih fun q hq => h q (by simp [hq])]
  by_cases hk : k = p.1 <;> simp [hk]
theorem runL_diff {α : Type} (key : α → Int) : ∀ (xs : List α) (m : MD), (∀ p ∈ m, p.2 = true) → (m.map (·.1)).Nodup →
    runL (fun (m : MD) x => if mget m (key x) = true then .inr false else .inl (mset m (key x) true)) (fun _ => true) xs m = decide ((m.map (·.1) ++ xs.map key).Nodup)
  | [], m, h, hn => by unfold runL; simpa using hn
  | x :: xs, m, h, hn => by
    unfold runL
    rw [mset_any h]
    by_cases hk : key x ∈ m.map (·.1)
    · rw [if_pos (by simpa using hk)]
      refine (decide_eq_false fun hd => ?_).symm
      rw [List.nodup_append] at hd
      exact hd.2.2 _ hk (key x) (by simp) rfl
    · rw [if_neg (by simpa using hk)]
      have hnew : mset m (key x) true = m ++ [(key x, true)] := by
        refine mset_new ?_ _
        rw [← mget_all h, mset_any h]; exact decide_eq_false hk
      simp only []
      rw [hnew, runL_diff key xs _ (fun p hp => by
        rcases List.mem_append.1 hp with hp | hp
        · exact h p hp
        · simp at hp; rw [hp]) (by
        rw [List.map_append, List.nodup_append]
        exact ⟨hn, by simp, fun a ha b hb hab => by simp at hb; subst hb; subst hab; exact hk ha⟩)]
      congr 1
      simp
end Go.Proofs.Ytcgbhldenkeplaa
set_option linter.unusedVariables false
set_option linter.unusedSimpArgs false
set_option linter.unusedSectionVars false
namespace Go.Proofs.Ytcgbhldenkeplaa
open Go V Ieee
theorem in_rin (a b c : Int) : spec_l5in.f a b c = some (rin a b c) := rfl
end Go.Proofs.Ytcgbhldenkeplaa
set_option linter.unusedVariables false
set_option linter.unusedSimpArgs false
set_option linter.unusedSectionVars false
namespace Go.Proofs.Ytcgbhldenkeplaa
open Go V Ieee
end Go.Proofs.Ytcgbhldenkeplaa
set_option linter.unusedVariables false
set_option linter.unusedSimpArgs false
set_option linter.unusedSectionVars false
namespace Go.Proofs.Ytcgbhldenkeplaa
open Go V Ieee
end Go.Proofs.Ytcgbhldenkeplaa
set_option linter.unusedVariables false
set_option linter.unusedSimpArgs false
set_option linter.unusedSectionVars false
namespace Go.Proofs.Ytcgbhldenkeplaa
open Go V Ieee
def zI (a : Item) : Nat := a.T.length
def zSp (s : Span) : Nat := s.From.T.length + s.To.T.length
def lgI (a : Item) : Prop := a.T.length ≤ 1048576
def lgS (s : Span) : Prop := lgI s.From ∧ lgI s.To
theorem lgI_of (l : List Item) (h : wsum zI l ≤ 1048576) : ∀ b ∈ l, lgI b := fun b hb => by have h1 : zI b ≤ 1048576 := Nat.le_trans (wsum_mem zI l b hb) h; exact h1
theorem lgS_of (l : List Span) (h : wsum zSp l ≤ 1048576) : ∀ b ∈ l, lgS b := fun b hb => by have h1 : zSp b ≤ 1048576 := Nat.le_trans (wsum_mem zSp l b hb) h; unfold zSp at h1; unfold lgS lgI; omega
end Go.Proofs.Ytcgbhldenkeplaa
set_option linter.unusedVariables false
set_option linter.unusedSimpArgs false
set_option linter.unusedSectionVars false
namespace Go.Proofs.Ytcgbhldenkeplaa
open Go V Ieee
end Go.Proofs.Ytcgbhldenkeplaa
set_option linter.unusedVariables false
set_option linter.unusedSimpArgs false
set_option linter.unusedSectionVars false
namespace Go.Proofs.Ytcgbhldenkeplaa
open Go V Ieee
theorem near_v (n : Nat) (h : n < 9007199254740992) : IsV (FloatKind.f64.nearest (n : Int)) false (n * pw 1074) := by
 have hr := rep_of h 1074 (by omega)
 have := write_rep false n 0 (n * pw 1074) hr (by
  rw [show ((0 : Int) + 1074).toNat = 1074 by omega, show (-((0 : Int) + 1074)).toNat = 0 by omega, Nat.pow_zero, Nat.mul_one, pw])
 have e : FloatKind.f64.nearest (n : Int) = D.write (.number false n 0) := by
  show D.write (.number (decide ((n : Int) < 0)) (n : Int).natAbs 0) = _
  rw [decide_eq_false (by omega), Int.natAbs_natCast]
 rwa [e]
end Go.Proofs.Ytcgbhldenkeplaa
set_option linter.unusedVariables false
set_option linter.unusedSimpArgs false
set_option linter.unusedSectionVars false
namespace Go.Proofs.Ytcgbhldenkeplaa
open Go V Ieee
end Go.Proofs.Ytcgbhldenkeplaa
set_option linter.unusedVariables false
set_option linter.unusedSimpArgs false
set_option linter.unusedSectionVars false
namespace Go.Proofs.Ytcgbhldenkeplaa
open Go V Ieee
def zT (d : Track) : Nat := (d.Reads.length + wsum zSp d.Reads) + (d.Writes.length + wsum zI d.Writes)
def lgT (d : Track) : Prop := zT d ≤ 1048576
theorem wsum_bd {α : Type} (wt : α → Nat) (c : Nat) : ∀ (l : List α), (∀ x ∈ l, wt x ≤ c) → wsum wt l ≤ l.length * c
 | [], _ => by simp [wsum]
 | x :: l, h => by
  rw [wsum_cons, List.length_cons, Nat.add_mul, Nat.one_mul]
  have := wsum_bd wt c l fun y hy => h y (List.mem_cons_of_mem _ hy)
  have := h x List.mem_cons_self
  omega
end Go.Proofs.Ytcgbhldenkeplaa
set_option linter.unusedVariables false
set_option linter.unusedSimpArgs false
set_option linter.unusedSectionVars false
namespace Go.Proofs.Ytcgbhldenkeplaa
open Go V Ieee
def okTk (d : Track) : Prop := ok_Track d ∧ lgT d
theorem okTk_r {d : Track} (h : okTk d) : d.Reads.length ≤ 1048576 ∧ d.Writes.length ≤ 1048576 := by have := h.2; unfold lgT zT at this; omega
def TO1 (t : Track) : Bool := rin t.Xid 1 400 && decide (t.Begun ≥ 1) && (t.Ended == 0 || decide (t.Ended > t.Begun)) && decide ((t.Reads.length : Int) ≤ 6) && t.Reads.all SPK && ((t.Reads.length : Int) == 0 || !t.All) && decide ((t.Writes.length : Int) ≤ 200) && t.Writes.all KOK
def TKK (l : List Track) : Bool := decide (l.length ≤ 64) && l.all TO1 && decide ((l.map (·.Xid)).Nodup)
theorem impl_isTrack (t : Track) (h : okTk t) : impl_isTrack.f t = some (TO1 t) := by
 obtain ⟨h1, h2⟩ := okTk_r h
 unfold impl_isTrack.f impl_isXid.f TO1
 rw [within_rin, Option.bind_some, Option.bind_some, allSpan _ (by omega) _ SPK (fun s hs => impl_SpanOk s (h.1.2.2.2.2.1.2 s hs)), allItem _ (by omega) _ KOK (fun s hs => impl_KeyOk s (h.1.2.2.2.2.2.1.2 s hs).2.2.1)]
 generalize (rin t.Xid 1 400 && decide (t.Begun ≥ 1) && (t.Ended == 0 || decide (t.Ended > t.Begun)) && decide ((t.Reads.length : Int) ≤ 6)) = A
 cases A with
 | false => rfl
 | true =>
  rw [if_pos rfl, Option.bind_some, Option.bind_some, Bool.true_and]
  generalize (t.Reads.all SPK && ((t.Reads.length : Int) == 0 || !t.All) && decide ((t.Writes.length : Int) ≤ 200)) = B
  cases B <;> rfl
theorem diffTrack (l : List Track) (hl : l.length ≤ 1000000000) : impl_areDifferent_impl_Track.f l impl_TracksOk_1.f = some (decide (l.map (·.Xid)).Nodup) := by
 unfold impl_areDifferent_impl_Track.f
 have := iter_runL (body := impl_areDifferent_impl_Track.b0 l impl_TracksOk_1.f) l (fun (m : MD) (k : Nat) => ((k : Int), m)) (fun (m : MD) x => if mget m x.Xid = true then .inr false else .inl (mset m x.Xid true)) (fun _ => true) (fun _ _ => True) (fun s k hk _ => ⟨?_, fun _ _ => trivial⟩) (fun s _ => ?_) [] trivial
 · refine this.trans ?_
   rw [runL_diff (fun x : Track => x.Xid) l [] (fun p hp => by cases hp) (by simp)]
   simp
 · unfold impl_areDifferent_impl_Track.b0 impl_TracksOk_1.f
   simp only []
   rw [if_pos (by simp; omega), if_pos ⟨by omega, by omega⟩, at_nat _ k hk, Option.bind_some]
   cases mget s l[k].Xid with
   | true => rfl
   | false => rw [if_neg (by decide), Option.bind_some, w64 (by omega) (by omega)]; rfl
 · unfold impl_areDifferent_impl_Track.b0
   simp only []
   rw [if_neg (by simp)]; rfl
theorem idxTrack (l : List Track) (hl : l.length ≤ 1000000000) (f : Track → Option Bool) (g : Track → Bool) (h : ∀ x ∈ l, f x = some (g x)) : slices_IndexFunc_impl_Track_impl_Track.f l f = some (IXF g l 0) := by
 unfold slices_IndexFunc_impl_Track_impl_Track.f
 refine iter_ixf l g (fun k hk => ?_) ?_
 · unfold slices_IndexFunc_impl_Track_impl_Track.b0
   rw [if_pos (by simp; omega), if_pos ⟨by omega, by omega⟩, at_nat _ k hk]
   rw [h _ (List.getElem_mem hk), Option.bind_some, w64 (by omega) (by omega)]
 · unfold slices_IndexFunc_impl_Track_impl_Track.b0
   rw [if_neg (by simp)]; rfl
theorem allTrack (l : List Track) (hl : l.length ≤ 1000000000) (f : Track → Option Bool) (g : Track → Bool) (h : ∀ x ∈ l, f x = some (g x)) : impl_areAll_impl_Track.f l f = some (l.all g) := by
 unfold impl_areAll_impl_Track.f slices_ContainsFunc_impl_Track_impl_Track.f
 rw [idxTrack l hl _ (fun x => !g x) (fun x hx => by unfold impl_areAll_impl_Track_1.f; rw [h x hx]; rfl), Option.bind_some, ixf_any, Option.bind_some]
 simp [List.any_eq_not_all_not]
theorem impl_TracksOk (l : List Track) (h : ∀ d ∈ l, okTk d) : impl_TracksOk.f l = some (TKK l) := by
 unfold impl_TracksOk.f TKK
 by_cases hl : l.length ≤ 64
 · rw [if_pos (by simp; omega), allTrack l (by omega) _ TO1 (fun d hd => impl_isTrack d (h d hd)), Option.bind_some, Option.bind_some, decide_eq_true hl]
   cases ha : l.all TO1 with
   | false => rfl
   | true => rw [if_pos rfl, diffTrack l (by omega)]; rfl
 · rw [if_neg (by simp; omega), decide_eq_false hl]; rfl
def specT : List Track → List Int → Bool
 | [], _ => true
 | d :: l, ts => TO1 d && !(ts.any fun t => t == d.Xid) && specT l (ts ++ [d.Xid])
theorem specT_eq : ∀ (l : List Track) (ts : List Int), ts.Nodup → specT l ts = (l.all TO1 && decide ((ts ++ l.map (·.Xid)).Nodup))
 | [], ts, h => by simp [specT, h]
 | d :: l, ts, h => by
  unfold specT
  rw [List.all_cons]
  cases hd : TO1 d with
  | false => rfl
  | true =>
   have e : ts ++ (d :: l).map (·.Xid) = (ts ++ [d.Xid]) ++ l.map (·.Xid) := by simp
   rw [e]
   cases hany : ts.any (fun t => t == d.Xid) with
   | true =>
    have hno : ¬ ((ts ++ [d.Xid]) ++ l.map (·.Xid)).Nodup := fun hn => by
     obtain ⟨t, ht, he⟩ := List.any_eq_true.1 hany
     exact (List.nodup_append.1 (List.nodup_append.1 hn).1).2.2 t ht d.Xid (by simp) (by simpa using he)
    rw [decide_eq_false hno]; simp
   | false =>
    have hn2 : (ts ++ [d.Xid]).Nodup := by
     refine List.nodup_append.2 ⟨h, by simp, fun a ha b hb hab => ?_⟩
     have := List.any_eq_false.1 hany a ha
     simp at hb
     subst hab
     exact this (by simp [hb])
    rw [specT_eq l _ hn2]; simp
theorem spec_TracksOk (l : List Track) (h : ∀ d ∈ l, okTk d) : spec_TracksOk.f l = some (TKK l) := by
 unfold spec_TracksOk.f TKK
 by_cases hl : l.length ≤ 64
 · rw [if_neg (by simp; omega), decide_eq_true hl, Bool.true_and]
   have hr : ∀ (xs : List Track) (ts : List Int), runL (σ := List Int) (fun ts d => if TO1 d && !(ts.any fun t => t == d.Xid) then .inl (ts ++ [d.Xid]) else .inr false) (fun _ => true) xs ts = specT xs ts := by
    intro xs
    induction xs with
    | nil => intro ts; rfl
    | cons d xs ih =>
     intro ts
     unfold runL specT
     cases hc : TO1 d && !(ts.any fun t => t == d.Xid) with
     | false => rfl
     | true => rw [if_pos rfl]; simpa using ih _
   have := iter_runL (body := spec_TracksOk.b0 l) l (fun (ts : List Int) (k : Nat) => (k : Int)) (fun ts d => if TO1 d && !(ts.any fun t => t == d.Xid) then .inl (ts ++ [d.Xid]) else .inr false) (fun _ => true) (fun ts k => ts = (l.take k).map (·.Xid)) (fun s k hk hI => ⟨?_, fun s' hs' => ?_⟩) (fun s hI => ?_) [] (by simp)
   · refine this.trans ?_
     rw [hr, specT_eq _ _ (by simp)]; simp
   · have hd := h _ (List.getElem_mem hk)
     generalize hdd : l[k] = d at hd
     obtain ⟨hrd, hwr⟩ := okTk_r hd
     have h3 : iter (spec_TracksOk.b3 l (k : Int)) (0 : Int) = some (if (l.take k).any (fun t => t.Xid == d.Xid) = true then .inr false else .inl ((k : Int) + 1)) := by
      have htl : (l.take k).length = k := by simp; omega
      refine iter_test (l.take k) _ _ _ (fun j hj => ?_) ?_
      · have hjl : j < l.length := by omega
        unfold spec_TracksOk.b3
        rw [if_pos (show decide ((j : Int) < (k : Int)) = true by simp; omega), if_pos (show 0 ≤ (j : Int) ∧ (j : Int) < (l.length : Int) by omega), at_nat _ j hjl, at_nat _ k hk, hdd, List.getElem_take, w64 (by omega) (by omega)]
      · unfold spec_TracksOk.b3
        rw [htl, if_neg (by simp), w64 (by omega) (by omega)]; rfl
     have h2 : iter (spec_TracksOk.b2 l (k : Int)) (0 : Int) = some (if d.Writes.any (fun x => !KOK x) = true then .inr false else if (l.take k).any (fun t => t.Xid == d.Xid) = true then .inr false else .inl ((k : Int) + 1)) := by
      refine iter_test d.Writes _ _ _ (fun j hj => ?_) ?_
      · unfold spec_TracksOk.b2
        rw [at_nat _ k hk, hdd, if_pos (show decide ((j : Int) < (d.Writes.length : Int)) = true by simp; omega), if_pos (show 0 ≤ (j : Int) ∧ (j : Int) < (d.Writes.length : Int) by omega), at_nat _ j hj, spec_KeyOk _ (hd.1.2.2.2.2.2.1.2 _ (List.getElem_mem hj)).2.2.1, Option.bind_some, w64 (by omega) (by omega)]
      · unfold spec_TracksOk.b2
        rw [at_nat _ k hk, hdd, if_neg (by simp), h3]; rfl
     have h1 : iter (spec_TracksOk.b1 l (k : Int)) (0 : Int) = some (if d.Reads.any (fun x => !SPK x) = true then .inr false else if d.Writes.any (fun x => !KOK x) = true then .inr false else if (l.take k).any (fun t => t.Xid == d.Xid) = true then .inr false else .inl ((k : Int) + 1)) := by
      refine iter_test d.Reads _ _ _ (fun j hj => ?_) ?_
      · unfold spec_TracksOk.b1
        rw [at_nat _ k hk, hdd, if_pos (show decide ((j : Int) < (d.Reads.length : Int)) = true by simp; omega), if_pos (show 0 ≤ (j : Int) ∧ (j : Int) < (d.Reads.length : Int) by omega), at_nat _ j hj]
        rw [spec_SpanOk _ (hd.1.2.2.2.2.1.2 _ (List.getElem_mem hj)), Option.bind_some, w64 (by omega) (by omega)]
      · unfold spec_TracksOk.b1
        rw [at_nat _ k hk, hdd, if_neg (by simp), h2]; rfl
     have hsany : s.any (fun t => t == d.Xid) = (l.take k).any (fun t => t.Xid == d.Xid) := by rw [hI, List.any_map]; rfl
     unfold spec_TracksOk.b0
     rw [if_pos (by simp; omega), if_pos ⟨by omega, by omega⟩, h1, in_rin, Option.bind_some, at_nat _ k hk, hdd, hsany]
     have ea : d.Reads.all SPK = !d.Reads.any (fun x => !SPK x) := by simp [List.any_eq_not_all_not]
     have eb : d.Writes.all KOK = !d.Writes.any (fun x => !KOK x) := by simp [List.any_eq_not_all_not]
     unfold TO1
     rw [ea, eb]
     have e1 : decide (d.Begun < 1) = !decide (d.Begun ≥ 1) := by by_cases hb : d.Begun ≥ 1 <;> simp [hb] <;> omega
     have e2 : (d.Ended != 0 && decide (d.Ended ≤ d.Begun)) = !(d.Ended == 0 || decide (d.Ended > d.Begun)) := by
      cases hz : d.Ended == 0 <;> by_cases hb : d.Ended > d.Begun <;> simp [bne, hz, hb] <;> omega
     have e3 : decide ((d.Reads.length : Int) > 6) = !decide ((d.Reads.length : Int) ≤ 6) := by by_cases hb : (d.Reads.length : Int) ≤ 6 <;> simp [hb] <;> omega
     have e4 : (d.All && decide ((d.Reads.length : Int) > 0)) = !((d.Reads.length : Int) == 0 || !d.All) := by
      rcases Nat.eq_zero_or_pos d.Reads.length with hb | hb
      · rw [hb]; cases d.All <;> rfl
      · rw [decide_eq_true (show (d.Reads.length : Int) > 0 by omega), show ((d.Reads.length : Int) == 0) = false from beq_eq_false_iff_ne.2 (by omega)]; cases d.All <;> rfl
     have e5 : decide ((d.Writes.length : Int) > 200) = !decide ((d.Writes.length : Int) ≤ 200) := by by_cases hb : (d.Writes.length : Int) ≤ 200 <;> simp [hb] <;> omega
     rw [e1, e2, e3, e4, e5]
     cases rin d.Xid 1 400 <;> cases decide (d.Begun ≥ 1) <;> cases (d.Ended == 0 || decide (d.Ended > d.Begun)) <;> cases decide ((d.Reads.length : Int) ≤ 6) <;> cases ((d.Reads.length : Int) == 0 || !d.All) <;> cases decide ((d.Writes.length : Int) ≤ 200) <;> cases d.Reads.any (fun x => !SPK x) <;> cases d.Writes.any (fun x => !KOK x) <;> cases (l.take k).any (fun t => t.Xid == d.Xid) <;> rfl
   · split at hs'
     · simp only [Sum.inl.injEq] at hs'
       rw [← hs', hI, List.take_succ_eq_append_getElem hk, List.map_append]; rfl
     · cases hs'
   · unfold spec_TracksOk.b0
     rw [if_neg (by simp)]; rfl
 · rw [if_pos (by simp; omega), decide_eq_false hl]; rfl
def ACT (l : List Track) (xid : Int) : Int := IXF (fun t => t.Xid == xid && t.Ended == 0) l 0
theorem impl_active (l : List Track) (hl : l.length ≤ 1048576) (xid : Int) : impl_active.f l xid = some (ACT l xid) := by
 unfold impl_active.f
 rw [idxTrack l (by omega) _ (fun t => t.Xid == xid && t.Ended == 0) (fun x hx => by
  unfold impl_active_1.f impl_Track_isActive.f
  cases x.Xid == xid <;> rfl)]; rfl
theorem spec_l13at (l : List Track) (hl : l.length ≤ 1048576) (xid : Int) : spec_l13at.f l xid = some (ACT l xid) := by
 unfold spec_l13at.f
 refine iter_ixf l _ (fun k hk => ?_) ?_
 · unfold spec_l13at.b0
   have hr : 0 ≤ (k : Int) ∧ (k : Int) < (l.length : Int) := by omega
   rw [if_pos (by simp; omega)]
   simp only [if_pos hr]
   rw [at_nat _ k hk, w64 (by omega) (by omega)]
   cases l[k].Xid == xid <;> rfl
 · unfold spec_l13at.b0
   rw [if_neg (by simp)]; rfl
theorem cpy_gen {α : Type} {body : List α × Int → Option ((List α × Int) ⊕ List α)} (a : List α) (hb : ∀ (k : Nat) (hk : k < a.length), body (a.take k, (k : Int)) = some (.inl (a.take k ++ [a[k]], (k : Int) + 1))) (hn : body (a, (a.length : Int)) = some (.inr a)) : iter body ([], (0 : Int)) = some a := by
 have := iter_for (body := body) a.length (fun k => (a.take k, (k : Int))) a (fun k hk => by rw [hb k hk, List.take_succ_eq_append_getElem hk]; rfl) (by rw [List.take_length]; exact hn)
 simpa using this
theorem impl_own (a : Item) (h : lgI a) : impl_Item_own.f a = some a := by
 unfold lgI at h
 unfold impl_Item_own.f slices_Clone_byte_byte.f
 rw [if_pos (by simp [Lim]; omega)]; rfl
theorem spec_l3copy (a : Item) (h : lgI a) : spec_l3copy.f a = some a := by
 unfold lgI at h
 unfold spec_l3copy.f
 rw [if_pos (by simp [Lim]; omega)]; rfl
theorem impl_ownSpans (l : List Span) (hl : l.length ≤ 1048576) (h : ∀ s ∈ l, lgS s) : impl_ownSpans.f l = some l := by
 unfold impl_ownSpans.f
 refine cpy_gen l (fun k hk => ?_) ?_
 · have hs := h _ (List.getElem_mem hk)
   unfold impl_ownSpans.b0
   simp only []
   rw [if_pos (by simp; omega), if_pos ⟨by omega, by omega⟩, at_nat _ k hk, impl_own _ hs.1, Option.bind_some, impl_own _ hs.2, Option.bind_some, if_pos (by simp [Lim]; omega), w64 (by omega) (by omega)]
 · unfold impl_ownSpans.b0
   simp only []
   rw [if_neg (by simp)]; rfl
theorem impl_ownItems (l : List Item) (hl : l.length ≤ 1048576) (h : ∀ s ∈ l, lgI s) : impl_ownItems.f l = some l := by
 unfold impl_ownItems.f
 refine cpy_gen l (fun k hk => ?_) ?_
 · have hs := h _ (List.getElem_mem hk)
   unfold impl_ownItems.b0
   simp only []
   rw [if_pos (by simp; omega), if_pos ⟨by omega, by omega⟩, at_nat _ k hk, impl_own _ hs, Option.bind_some, if_pos (by simp [Lim]; omega), w64 (by omega) (by omega)]
 · unfold impl_ownItems.b0
   simp only []
   rw [if_neg (by simp)]; rfl
theorem spec_l13spans (l : List Span) (hl : l.length ≤ 1048576) (h : ∀ s ∈ l, lgS s) : spec_l13spans.f l = some l := by
 unfold spec_l13spans.f
 refine cpy_gen l (fun k hk => ?_) ?_
 · have hs := h _ (List.getElem_mem hk)
   unfold spec_l13spans.b0
   simp only []
   rw [if_pos (by simp; omega), if_pos ⟨by omega, by omega⟩, if_pos ⟨by omega, by omega⟩, at_nat _ k hk, spec_l3copy _ hs.1, Option.bind_some, spec_l3copy _ hs.2, Option.bind_some, if_pos (by simp [Lim]; omega), w64 (by omega) (by omega)]
 · unfold spec_l13spans.b0
   simp only []
   rw [if_neg (by simp)]; rfl
theorem spec_l13items (l : List Item) (hl : l.length ≤ 1048576) (h : ∀ s ∈ l, lgI s) : spec_l13items.f l = some l := by
 unfold spec_l13items.f
 refine cpy_gen l (fun k hk => ?_) ?_
 · have hs := h _ (List.getElem_mem hk)
   unfold spec_l13items.b0
   simp only []
   rw [if_pos (by simp; omega), if_pos ⟨by omega, by omega⟩, at_nat _ k hk, spec_l3copy _ hs, Option.bind_some, if_pos (by simp [Lim]; omega), w64 (by omega) (by omega)]
 · unfold spec_l13items.b0
   simp only []
   rw [if_neg (by simp)]; rfl
theorem lgT_parts {d : Track} (h : lgT d) : (d.Reads.length ≤ 1048576 ∧ ∀ s ∈ d.Reads, lgS s) ∧ d.Writes.length ≤ 1048576 ∧ ∀ s ∈ d.Writes, lgI s := by
 unfold lgT zT at h
 exact ⟨⟨by omega, lgS_of _ (by omega)⟩, by omega, lgI_of _ (by omega)⟩
theorem impl_ownTracks (l : List Track) (hl : l.length ≤ 1048576) (h : ∀ s ∈ l, lgT s) : impl_ownTracks.f l = some l := by
 unfold impl_ownTracks.f
 refine cpy_gen l (fun k hk => ?_) ?_
 · obtain ⟨⟨h1, h2⟩, h3, h4⟩ := lgT_parts (h _ (List.getElem_mem hk))
   unfold impl_ownTracks.b0
   simp only []
   rw [if_pos (by simp; omega), if_pos ⟨by omega, by omega⟩, at_nat _ k hk, impl_ownSpans _ h1 h2, Option.bind_some, impl_ownItems _ h3 h4, Option.bind_some, if_pos (by simp [Lim]; omega), w64 (by omega) (by omega)]
 · unfold impl_ownTracks.b0
   simp only []
   rw [if_neg (by simp)]; rfl
theorem spec_l13copy (l : List Track) (hl : l.length ≤ 1048576) (h : ∀ s ∈ l, lgT s) : spec_l13copy.f l = some l := by
 unfold spec_l13copy.f
 refine cpy_gen l (fun k hk => ?_) ?_
 · obtain ⟨⟨h1, h2⟩, h3, h4⟩ := lgT_parts (h _ (List.getElem_mem hk))
   unfold spec_l13copy.b0
   simp only []
   rw [if_pos (by simp; omega), if_pos ⟨by omega, by omega⟩, at_nat _ k hk, spec_l13spans _ h1 h2, Option.bind_some, spec_l13items _ h3 h4, Option.bind_some, if_pos (by simp [Lim]; omega), w64 (by omega) (by omega)]
 · unfold spec_l13copy.b0
   simp only []
   rw [if_neg (by simp)]; rfl
def CON (a b : Track) : Bool := (a.Ended == 0 || decide (a.Ended > b.Begun)) && (b.Ended == 0 || decide (b.Ended > a.Begun))
theorem con_comm (a b : Track) : CON a b = CON b a := by unfold CON; rw [Bool.and_comm]
theorem spec_Concurrent (a b : Track) : spec_Concurrent.f a b = some (CON a b) := rfl
theorem impl_Concurrent (a b : Track) : impl_Concurrent.f a b = some (CON a b) := by
 unfold impl_Concurrent.f impl_Track_isActive.f CON
 rw [Option.bind_some, Option.bind_some]
 cases (a.Ended == 0 || decide (a.Ended > b.Begun)) <;> rfl
theorem act_lt (l : List Track) (xid : Int) (h : ¬ ACT l xid < 0) : ∃ own : Nat, ACT l xid = (own : Int) ∧ own < l.length := by
 unfold ACT at h ⊢
 rcases ixf_out (fun t : Track => t.Xid == xid && t.Ended == 0) l 0 with ⟨h1, _⟩ | ⟨k, hk, h1, _⟩
 · rw [h1] at h; exact absurd (show (-1 : Int) < 0 by omega) h
 · exact ⟨k, by rw [h1]; omega, hk⟩
theorem tkk_len {l : List Track} (h : TKK l = true) : l.length ≤ 64 ∧ ∀ t ∈ l, TO1 t = true := by
 unfold TKK at h
 simp only [Bool.and_eq_true, decide_eq_true_eq, List.all_eq_true] at h
 exact ⟨h.1.1, h.1.2⟩
theorem runL_acc {α O : Type} (g : α → Bool) (fin : Bool → O) : ∀ (xs : List α) (h : Bool), runL (fun (h : Bool) x => .inl (h || g x)) fin xs h = fin (h || xs.any g)
 | [], h => by unfold runL; simp
 | x :: xs, h => by
  unfold runL
  simp only []
  rw [runL_acc g fin xs, List.any_cons, Bool.or_assoc]
end Go.Proofs.Ytcgbhldenkeplaa
set_option linter.unusedVariables false
set_option linter.unusedSimpArgs false
set_option linter.unusedSectionVars false
namespace Go.Proofs.Ytcgbhldenkeplaa
open Go V Ieee
def RDp (a : Track) (s : Span) : Bool × List Span := if a.All = true then (a.All, a.Reads) else if ((a.Reads.length : Int) == 6) = true then (true, []) else (a.All, a.Reads ++ [s])
def RDT (a : Track) (s : Span) : Track := Track.mk a.Xid a.Begun a.Ended (RDp a s).1 (RDp a s).2 a.Writes a.In a.Out
section
variable (l : List Track) (own : Nat) (hit : Track → Bool)
def BTr (k : Nat) : Bool := !(k == own) && CON (at_ l (own : Int)) (at_ l (k : Int)) && hit (at_ l (k : Int))
def rIn (t : Track) : Track := Track.mk t.Xid t.Begun t.Ended t.All t.Reads t.Writes true t.Out
def URr : Nat → List Track
 | 0 => l
 | k + 1 => if BTr l own hit k = true then (URr k).set k (rIn (at_ l (k : Int))) else URr k
def OR_r (o : Bool) : Nat → Bool
 | 0 => o
 | k + 1 => BTr l own hit k || OR_r o k
def DRr : Nat → Bool
 | 0 => false
 | k + 1 => DRr k || (BTr l own hit k && ((at_ l (k : Int)).Out && !((at_ l (k : Int)).Ended == 0)))
theorem ur_succr (k : Nat) : URr l own hit (k + 1) = if BTr l own hit k = true then (URr l own hit k).set k (rIn (at_ l (k : Int))) else URr l own hit k := rfl
theorem or_succr (o : Bool) (k : Nat) : OR_r l own hit o (k + 1) = (BTr l own hit k || OR_r l own hit o k) := rfl
theorem dr_succr (k : Nat) : DRr l own hit (k + 1) = (DRr l own hit k || (BTr l own hit k && ((at_ l (k : Int)).Out && !((at_ l (k : Int)).Ended == 0)))) := rfl
theorem ur_lenr : ∀ k, (URr l own hit k).length = l.length
 | 0 => rfl
 | k + 1 => by
  unfold URr
  split
  · rw [List.length_set]; exact ur_lenr k
  · exact ur_lenr k
theorem ur_ger : ∀ k j, k ≤ j → (URr l own hit k)[j]? = l[j]?
 | 0, j, _ => rfl
 | k + 1, j, h => by
  unfold URr
  split
  · rw [List.getElem?_set_ne (by omega)]; exact ur_ger k j (by omega)
  · exact ur_ger k j (by omega)
theorem ur_atr (k : Nat) (hk : k < l.length) : at_ (URr l own hit k) (k : Int) = at_ l (k : Int) := by
 have := ur_ger l own hit k k (Nat.le_refl _)
 rw [List.getElem?_eq_getElem hk, List.getElem?_eq_getElem (by rw [ur_lenr]; exact hk)] at this
 rw [at_nat _ k hk, at_nat _ k (by rw [ur_lenr]; exact hk)]
 exact Option.some.inj this
end
def tOut (t : Track) (o : Bool) : Track := Track.mk t.Xid t.Begun t.Ended t.All t.Reads t.Writes t.In o
def ERd (l : List Track) (xid : Int) (s : Span) : List Track × Int :=
 if (!TKK l || decide (ACT l xid < 0) || !SPK s) = true then ([], 1)
 else
  let own := (ACT l xid).toNat
  let hit := fun t : Track => t.Writes.any fun w => INS s.From s.To w
  let t1 := RDT (at_ l (own : Int)) s
  ((URr l own hit l.length).set own (tOut t1 (OR_r l own hit t1.Out l.length)), if (DRr l own hit l.length || (t1.In && OR_r l own hit t1.Out l.length)) = true then 2 else 0)
theorem spec_EdgeRead (l : List Track) (hl : l.length ≤ 1048576) (hok : ∀ t ∈ l, okTk t) (xid : Int) (s : Span) (hs : ok_Span s) (hsl : lgS s) : spec_EdgeRead.f l xid s = some (ERd l xid s) := by
 unfold spec_EdgeRead.f ERd
 rw [spec_l13at l hl, Option.bind_some, spec_TracksOk l hok, Option.bind_some, spec_SpanOk s hs, Option.bind_some]
 cases hA : (!TKK l || decide (ACT l xid < 0)) with
 | true => rw [if_pos rfl]; rfl
 | false =>
  rw [if_neg (by decide), Option.bind_some, Bool.false_or]
  cases hB : SPK s with
  | false => rfl
  | true =>
   simp only [Bool.not_true, Bool.false_eq_true, if_false]
   simp only [Bool.or_eq_false_iff, Bool.not_eq_false', decide_eq_false_iff_not] at hA
   obtain ⟨own, ho, hlt⟩ := act_lt l xid hA.2
   obtain ⟨h64, hto⟩ := tkk_len hA.1
   have hmem : ∀ k, k < l.length → at_ l (k : Int) ∈ l := fun k hk => by rw [at_nat _ k hk]; exact List.getElem_mem _
   have hown := hto _ (hmem own hlt)
   have h6 : (at_ l (own : Int)).Reads.length ≤ 6 := by
    unfold TO1 at hown
    simp only [Bool.and_eq_true, decide_eq_true_eq] at hown
    have := hown.1.1.1.1.2
    omega
   rw [spec_l13copy l hl fun t ht => (hok t ht).2, Option.bind_some, ho, if_pos ⟨by omega, by omega⟩, spec_l13spans [s] (by simp) (by simpa using hsl), Option.bind_some, Int.toNat_natCast]
   have hY : (if (!(at_ l (own : Int)).All) = true then if (at_ l (own : Int)).Reads.length + [s].length ≤ Lim then (if decide ((((at_ l (own : Int)).Reads ++ [s]).length : Int) > 6) = true then some (true, ([] : List Span)) else some ((at_ l (own : Int)).All, (at_ l (own : Int)).Reads ++ [s])).bind fun y79 => some (l, y79.1, y79.2, (at_ l (own : Int)).Writes) else none else some (l, (at_ l (own : Int)).All, (at_ l (own : Int)).Reads, (at_ l (own : Int)).Writes)) = some (l, (RDp (at_ l (own : Int)) s).1, (RDp (at_ l (own : Int)) s).2, (at_ l (own : Int)).Writes) := by
    unfold RDp
    cases ha : (at_ l (own : Int)).All with
    | true => rfl
    | false =>
     simp only [Bool.not_false, if_true, Bool.false_eq_true, if_false]
     rw [if_pos (by simp [Lim]; omega)]
     by_cases h : (at_ l (own : Int)).Reads.length = 6
     · rw [if_pos (by simp; omega), if_pos (by simp; omega)]; rfl
     · rw [if_neg (by simp; omega), if_neg (by simp; omega)]; rfl
   rw [hY, Option.bind_some]
   have := iter_for (body := spec_EdgeRead.b0 l s (own : Int) l (l, (RDp (at_ l (own : Int)) s).1, (RDp (at_ l (own : Int)) s).2, (at_ l (own : Int)).Writes)) l.length (fun k => (URr l own (fun t : Track => t.Writes.any fun w => INS s.From s.To w) k, (if DRr l own (fun t : Track => t.Writes.any fun w => INS s.From s.To w) k = true then 2 else 0), (k : Int), OR_r l own (fun t : Track => t.Writes.any fun w => INS s.From s.To w) (at_ l (own : Int)).Out k)) ((URr l own (fun t : Track => t.Writes.any fun w => INS s.From s.To w) l.length).set own (tOut (RDT (at_ l (own : Int)) s) (OR_r l own (fun t : Track => t.Writes.any fun w => INS s.From s.To w) (at_ l (own : Int)).Out l.length)), if (DRr l own (fun t : Track => t.Writes.any fun w => INS s.From s.To w) l.length || ((at_ l (own : Int)).In && OR_r l own (fun t : Track => t.Writes.any fun w => INS s.From s.To w) (at_ l (own : Int)).Out l.length)) = true then 2 else 0) (fun k hk => ?_) ?_
   · exact this
   · generalize hhit : (fun t : Track => t.Writes.any fun w => INS s.From s.To w) = hit
     have hm := hmem k hk
     obtain ⟨_, hw, _⟩ := lgT_parts (hok _ hm).2
     have hin : iter (spec_EdgeRead.b1 l s (own : Int) (URr l own hit k, (if DRr l own hit k = true then 2 else 0), (k : Int), OR_r l own hit (at_ l (own : Int)).Out k)) (false, (0 : Int)) = some (if BTr l own hit k = true then ((URr l own hit k).set k (rIn (at_ l (k : Int))), (if ((at_ l (k : Int)).Out && !((at_ l (k : Int)).Ended == 0)) = true then 2 else if DRr l own hit k = true then 2 else 0), true) else (URr l own hit k, (if DRr l own hit k = true then 2 else 0), OR_r l own hit (at_ l (own : Int)).Out k)) := by
      have hr : 0 ≤ (k : Int) ∧ (k : Int) < ((URr l own hit k).length : Int) := by rw [ur_lenr]; omega
      have := iter_runL (body := spec_EdgeRead.b1 l s (own : Int) (URr l own hit k, (if DRr l own hit k = true then 2 else 0), (k : Int), OR_r l own hit (at_ l (own : Int)).Out k)) (at_ l (k : Int)).Writes (fun (h : Bool) (j : Nat) => (h, (j : Int))) (fun h w => .inl (h || INS s.From s.To w))
       (fun h => if (!(k == own) && CON (at_ l (own : Int)) (at_ l (k : Int)) && h) = true then ((URr l own hit k).set k (rIn (at_ l (k : Int))), (if ((at_ l (k : Int)).Out && !((at_ l (k : Int)).Ended == 0)) = true then 2 else if DRr l own hit k = true then 2 else 0), true) else (URr l own hit k, (if DRr l own hit k = true then 2 else 0), OR_r l own hit (at_ l (own : Int)).Out k)) (fun _ _ => True) (fun h j hj _ => ⟨?_, fun _ _ => trivial⟩) (fun h _ => ?_) false trivial
      · refine this.trans ?_
        rw [runL_acc, Bool.false_or]
        unfold BTr
        rw [← hhit]
      · unfold spec_EdgeRead.b1
        simp only []
        rw [ur_atr _ _ _ k hk, if_pos (by simp; omega), w64 (by omega) (by omega)]
        cases h with
        | true => rfl
        | false =>
         rw [if_neg (by decide), if_pos ⟨by omega, by omega⟩, at_nat _ j hj, spec_InSpan _ _ _ hs.1 hs.2 ((hok _ hm).1.2.2.2.2.2.1.2 _ (List.getElem_mem hj))]; rfl
      · unfold spec_EdgeRead.b1
        simp only []
        rw [ur_atr _ _ _ k hk, if_neg (by simp)]
        by_cases hko : k = own
        · subst hko
          rw [if_pos (by simp)]
          simp
        · have hko' : (k == own) = false := by simpa using hko
          rw [if_neg (show ¬ (((k : Int) == (own : Int)) = true) by simp; omega), hko']
          cases h with
          | false => simp
          | true =>
           rw [if_neg (by decide), if_pos ⟨by omega, by omega⟩, spec_Concurrent, Option.bind_some, Option.bind_some, Option.bind_some]
           cases hc : CON (at_ l (own : Int)) (at_ l (k : Int)) with
           | false => simp
           | true =>
            have hval := hto _ hm
            have hend : decide ((at_ l (k : Int)).Ended > 0) = !((at_ l (k : Int)).Ended == 0) := by
             unfold TO1 at hval
             simp only [Bool.and_eq_true, Bool.or_eq_true, decide_eq_true_eq, beq_iff_eq] at hval
             have h1 := hval.1.1.1.1.1.1.2
             have h2 := hval.1.1.1.1.1.2
             rcases h2 with h2 | h2
             · rw [h2]; rfl
             · rw [decide_eq_true (by omega), show ((at_ l (k : Int)).Ended == 0) = false from beq_eq_false_iff_ne.2 (by omega)]; rfl
            rw [if_neg (by decide), if_pos hr, Option.bind_some, hend, Bool.and_comm (!((at_ l (k : Int)).Ended == 0))]
            simp only [Bool.not_false, Bool.and_self, if_true, Int.toNat_natCast]
            cases ((at_ l (k : Int)).Out && !((at_ l (k : Int)).Ended == 0)) <;> rfl
     unfold spec_EdgeRead.b0
     simp only []
     rw [if_pos (by rw [ur_lenr]; simp; omega), if_pos (by rw [ur_lenr]; omega), hin, Option.bind_some, w64 (by omega) (by omega)]
     rw [ur_succr, or_succr, dr_succr]
     cases BTr l own hit k with
     | false => simp
     | true =>
      simp only [if_true, Bool.true_or, Bool.true_and]
      cases ((at_ l (k : Int)).Out && !((at_ l (k : Int)).Ended == 0)) <;> cases DRr l own hit k <;> rfl
   · generalize hhit : (fun t : Track => t.Writes.any fun w => INS s.From s.To w) = hit
     unfold spec_EdgeRead.b0
     simp only []
     rw [if_neg (by rw [ur_lenr]; simp), if_pos (by rw [ur_lenr]; omega), Option.bind_some, Int.toNat_natCast]
     have hcode : ∀ a b c : Bool, (if (b && c) = true then some (2 : Int) else some (if a = true then 2 else 0)) = some (if (a || (b && c)) = true then 2 else 0) := fun a b c => by cases a <;> cases b <;> cases c <;> rfl
     rw [hcode]; rfl
end Go.Proofs.Ytcgbhldenkeplaa
set_option linter.unusedVariables false
set_option linter.unusedSimpArgs false
set_option linter.unusedSectionVars false
namespace Go.Proofs.Ytcgbhldenkeplaa
open Go V Ieee
def HAS (a : Track) (key : Item) : Bool := a.Writes.any fun w => ICM w key == 0
def WTT (a : Track) (key : Item) : Track := Track.mk a.Xid a.Begun a.Ended a.All a.Reads (if HAS a key = true then a.Writes else a.Writes ++ [key]) a.In a.Out
def TRD (t : Track) (key : Item) : Bool := KOK key && (t.All || t.Reads.any fun s => INS s.From s.To key)
section
variable (l : List Track) (own : Nat) (hit : Track → Bool)
def BTw (k : Nat) : Bool := !(k == own) && CON (at_ l (own : Int)) (at_ l (k : Int)) && hit (at_ l (k : Int))
def rOut (t : Track) : Track := Track.mk t.Xid t.Begun t.Ended t.All t.Reads t.Writes t.In true
def URw : Nat → List Track
 | 0 => l
 | k + 1 => if BTw l own hit k = true then (URw k).set k (rOut (at_ l (k : Int))) else URw k
def OR_w (o : Bool) : Nat → Bool
 | 0 => o
 | k + 1 => BTw l own hit k || OR_w o k
def DRw : Nat → Bool
 | 0 => false
 | k + 1 => DRw k || (BTw l own hit k && ((at_ l (k : Int)).In && !((at_ l (k : Int)).Ended == 0)))
theorem ur_succw (k : Nat) : URw l own hit (k + 1) = if BTw l own hit k = true then (URw l own hit k).set k (rOut (at_ l (k : Int))) else URw l own hit k := rfl
theorem or_succw (o : Bool) (k : Nat) : OR_w l own hit o (k + 1) = (BTw l own hit k || OR_w l own hit o k) := rfl
theorem dr_succw (k : Nat) : DRw l own hit (k + 1) = (DRw l own hit k || (BTw l own hit k && ((at_ l (k : Int)).In && !((at_ l (k : Int)).Ended == 0)))) := rfl
theorem ur_lenw : ∀ k, (URw l own hit k).length = l.length
 | 0 => rfl
 | k + 1 => by
  unfold URw
  split
  · rw [List.length_set]; exact ur_lenw k
  · exact ur_lenw k
theorem ur_gew : ∀ k j, k ≤ j → (URw l own hit k)[j]? = l[j]?
 | 0, j, _ => rfl
 | k + 1, j, h => by
  unfold URw
  split
  · rw [List.getElem?_set_ne (by omega)]; exact ur_gew k j (by omega)
  · exact ur_gew k j (by omega)
theorem bt_ownw : BTw l own hit own = false := by unfold BTw; simp
theorem ur_atw (k : Nat) (hk : k < l.length) : at_ (URw l own hit k) (k : Int) = at_ l (k : Int) := by
 have := ur_gew l own hit k k (Nat.le_refl _)
 rw [List.getElem?_eq_getElem hk, List.getElem?_eq_getElem (by rw [ur_lenw]; exact hk)] at this
 rw [at_nat _ k hk, at_nat _ k (by rw [ur_lenw]; exact hk)]
 exact Option.some.inj this
end
def tIn (t : Track) (o : Bool) : Track := Track.mk t.Xid t.Begun t.Ended t.All t.Reads t.Writes o t.Out
theorem spec_hit (t : Track) (key : Item) (hok : okTk t) (hk : ok_Item key) : spec_TrackReads.f t key = some (TRD t key) := by
 obtain ⟨⟨h1, _⟩, _⟩ := lgT_parts hok.2
 unfold spec_TrackReads.f TRD
 rw [spec_KeyOk _ hk.2.2.1, Option.bind_some]
 cases KOK key with
 | false => rfl
 | true =>
  rw [if_neg (by decide), Bool.true_and]
  have := iter_test (body := spec_TrackReads.b0 t key) t.Reads (fun s => INS s.From s.To key) true t.All (fun j hj => by
   have hs := hok.1.2.2.2.2.1.2 _ (List.getElem_mem hj)
   have hr : 0 ≤ (j : Int) ∧ (j : Int) < (t.Reads.length : Int) := by omega
   unfold spec_TrackReads.b0
   rw [if_pos (by simp; omega)]
   simp only [if_pos hr]
   rw [at_nat _ j hj, spec_InSpan _ _ _ hs.1 hs.2 hk, Option.bind_some, w64 (by omega) (by omega)]) (by
   unfold spec_TrackReads.b0
   rw [if_neg (by simp)]; rfl)
  rw [this]
  cases t.All <;> cases t.Reads.any (fun s => INS s.From s.To key) <;> rfl
theorem spec_has (a : Track) (key : Item) (hok : okTk a) (hv : TO1 a = true) (hk : ok_Item key) (hkk : KOK key = true) : spec_l13has.f a.Writes key = some (HAS a key) := by
 obtain ⟨_, h1, _⟩ := lgT_parts hok.2
 have hw : ∀ w ∈ a.Writes, KOK w = true := by
  unfold TO1 at hv
  simp only [Bool.and_eq_true, List.all_eq_true] at hv
  exact hv.2
 unfold spec_l13has.f HAS
 rw [iter_test (body := spec_l13has.b0 a.Writes key) a.Writes (fun w => ICM w key == 0) true false (fun j hj => by
  unfold spec_l13has.b0
  rw [if_pos (by simp; omega), if_pos ⟨by omega, by omega⟩, at_nat _ j hj, spec_ItemCompare _ _ (hok.1.2.2.2.2.2.1.2 _ (List.getElem_mem hj)) hk (kok_iok (hw _ (List.getElem_mem hj))) (kok_iok hkk), Option.bind_some, w64 (by omega) (by omega)]) (by
  unfold spec_l13has.b0
  rw [if_neg (by simp)]; rfl)]
 cases a.Writes.any (fun w => ICM w key == 0) <;> rfl
def EWr (l : List Track) (xid : Int) (key : Item) : List Track × Int :=
 if (!TKK l || decide (ACT l xid < 0) || !KOK key) = true then ([], 1)
 else
  let own := (ACT l xid).toNat
  let hit := fun t : Track => TRD t key
  let t1 := WTT (at_ l (own : Int)) key
  if decide ((t1.Writes.length : Int) > 200) = true then ([], 1)
  else ((URw l own hit l.length).set own (tIn t1 (OR_w l own hit t1.In l.length)), if (DRw l own hit l.length || (OR_w l own hit t1.In l.length && t1.Out)) = true then 2 else 0)
theorem spec_EdgeWrite (l : List Track) (hl : l.length ≤ 1048576) (hok : ∀ t ∈ l, okTk t) (xid : Int) (key : Item) (hk : ok_Item key) (hkl : lgI key) : spec_EdgeWrite.f l xid key = some (EWr l xid key) := by
 unfold spec_EdgeWrite.f EWr
 rw [spec_l13at l hl, Option.bind_some, spec_TracksOk l hok, Option.bind_some, spec_KeyOk key hk.2.2.1, Option.bind_some]
 cases hA : (!TKK l || decide (ACT l xid < 0)) with
 | true => rw [if_pos rfl]; rfl
 | false =>
  rw [if_neg (by decide), Option.bind_some, Bool.false_or]
  cases hB : KOK key with
  | false => rfl
  | true =>
   simp only [Bool.not_true, Bool.false_eq_true, if_false]
   simp only [Bool.or_eq_false_iff, Bool.not_eq_false', decide_eq_false_iff_not] at hA
   obtain ⟨own, ho, hlt⟩ := act_lt l xid hA.2
   obtain ⟨h64, hto⟩ := tkk_len hA.1
   have hmem : ∀ k, k < l.length → at_ l (k : Int) ∈ l := fun k hk => by rw [at_nat _ k hk]; exact List.getElem_mem _
   obtain ⟨_, hwl, _⟩ := lgT_parts (hok _ (hmem own hlt)).2
   rw [spec_l13copy l hl fun t ht => (hok t ht).2, Option.bind_some, ho, if_pos ⟨by omega, by omega⟩, spec_has _ key (hok _ (hmem own hlt)) (hto _ (hmem own hlt)) hk hB, Option.bind_some, Int.toNat_natCast]
   have hY : (if (!HAS (at_ l (own : Int)) key) = true then (spec_l3copy.f key).bind fun r60 => if (at_ l (own : Int)).Writes.length + [r60].length ≤ Lim then some (l, (at_ l (own : Int)).Reads, (at_ l (own : Int)).Writes ++ [r60]) else none else some (l, (at_ l (own : Int)).Reads, (at_ l (own : Int)).Writes)) = some (l, (WTT (at_ l (own : Int)) key).Reads, (WTT (at_ l (own : Int)) key).Writes) := by
    unfold WTT
    cases hh : HAS (at_ l (own : Int)) key with
    | true => rfl
    | false => rw [if_pos (by decide), spec_l3copy _ hkl, Option.bind_some, if_pos (by simp [Lim]; omega)]; rfl
   rw [hY, Option.bind_some]
   cases hC : decide (((WTT (at_ l (own : Int)) key).Writes.length : Int) > 200) with
   | true => rfl
   | false =>
   rw [if_neg (by decide)]
   have := iter_for (body := spec_EdgeWrite.b0 l key (own : Int) l (l, (WTT (at_ l (own : Int)) key).Reads, (WTT (at_ l (own : Int)) key).Writes)) l.length (fun k => (URw l own (fun t : Track => TRD t key) k, (if DRw l own (fun t : Track => TRD t key) k = true then 2 else 0), (k : Int), OR_w l own (fun t : Track => TRD t key) (at_ l (own : Int)).In k)) ((URw l own (fun t : Track => TRD t key) l.length).set own (tIn (WTT (at_ l (own : Int)) key) (OR_w l own (fun t : Track => TRD t key) (at_ l (own : Int)).In l.length)), if (DRw l own (fun t : Track => TRD t key) l.length || (OR_w l own (fun t : Track => TRD t key) (at_ l (own : Int)).In l.length && (at_ l (own : Int)).Out)) = true then 2 else 0) (fun k hk' => ?_) ?_
   · exact this
   · have hm := hmem k hk'
     have hr : 0 ≤ (k : Int) ∧ (k : Int) < ((URw l own (fun t : Track => TRD t key) k).length : Int) := by rw [ur_lenw]; omega
     have hb : BTw l own (fun t : Track => TRD t key) k = (!(k == own) && CON (at_ l (own : Int)) (at_ l (k : Int)) && TRD (at_ l (k : Int)) key) := rfl
     have hspec := spec_hit (at_ l (k : Int)) key (hok _ hm) hk
     generalize hhit : (fun t : Track => TRD t key) = hit at hr hb
     unfold spec_EdgeWrite.b0
     simp only []
     rw [if_pos (by rw [ur_lenw]; simp; omega), if_pos (by rw [ur_lenw]; omega), ur_atw _ _ _ k hk', w64 (by omega) (by omega), ur_succw, or_succw, dr_succw]
     by_cases hko : k = own
     · subst hko
       rw [if_pos (by simp), bt_ownw]
       simp
     · have hko' : (k == own) = false := by simpa using hko
       rw [hko', Bool.not_false, Bool.true_and] at hb
       rw [if_neg (show ¬ (((k : Int) == (own : Int)) = true) by simp; omega), hspec, Option.bind_some, hb]
       cases TRD (at_ l (k : Int)) key with
       | false => simp
       | true =>
        rw [if_neg (by decide), if_pos ⟨by omega, by omega⟩, spec_Concurrent, Option.bind_some, Option.bind_some, Option.bind_some]
        cases hc : CON (at_ l (own : Int)) (at_ l (k : Int)) with
        | false => simp
        | true =>
         have hval := hto _ hm
         have hend : decide ((at_ l (k : Int)).Ended > 0) = !((at_ l (k : Int)).Ended == 0) := by
          unfold TO1 at hval
          simp only [Bool.and_eq_true, Bool.or_eq_true, decide_eq_true_eq, beq_iff_eq] at hval
          have h1 := hval.1.1.1.1.1.1.2
          have h2 := hval.1.1.1.1.1.2
          rcases h2 with h2 | h2
          · rw [h2]; rfl
          · rw [decide_eq_true (by omega), show ((at_ l (k : Int)).Ended == 0) = false from beq_eq_false_iff_ne.2 (by omega)]; rfl
         rw [if_neg (by decide), if_pos hr, Option.bind_some, hend, Bool.and_comm (!((at_ l (k : Int)).Ended == 0))]
         simp only [Bool.and_self, if_true, Int.toNat_natCast, Bool.true_or, Bool.true_and]
         cases ((at_ l (k : Int)).In && !((at_ l (k : Int)).Ended == 0)) <;> cases DRw l own hit k <;> rfl
   · generalize hhit : (fun t : Track => TRD t key) = hit
     unfold spec_EdgeWrite.b0
     simp only []
     rw [if_neg (by rw [ur_lenw]; simp), if_pos (by rw [ur_lenw]; omega), Option.bind_some, Int.toNat_natCast]
     have hcode : ∀ a b c : Bool, (if (b && c) = true then some (2 : Int) else some (if a = true then 2 else 0)) = some (if (a || (b && c)) = true then 2 else 0) := fun a b c => by cases a <;> cases b <;> cases c <;> rfl
     rw [hcode]; rfl
end Go.Proofs.Ytcgbhldenkeplaa
set_option linter.unusedVariables false
set_option linter.unusedSimpArgs false
set_option linter.unusedSectionVars false
namespace Go.Proofs.Ytcgbhldenkeplaa
open Go V Ieee
def NEED (L : List Track) (t : Track) : Bool := t.Ended == 0 || L.any fun a => a.Ended == 0 && decide (t.Ended > a.Begun)
def eAt (t : Track) (now : Int) : Track := Track.mk t.Xid t.Begun now t.All t.Reads t.Writes t.In t.Out
def LFT (l : List Track) (own : Nat) (now : Int) (done : Bool) : List Track := if done = true then l.set own (eAt (at_ l (own : Int)) now) else l.eraseIdx own
def EEnd (l : List Track) (xid now : Int) (done : Bool) : List Track × Int :=
 if (!TKK l || decide (ACT l xid < 0) || decide (now ≤ (at_ l (ACT l xid)).Begun)) = true then ([], 1)
 else if (done && (at_ l (ACT l xid)).In && (at_ l (ACT l xid)).Out) = true then (l, 2)
 else ((LFT l (ACT l xid).toNat now done).filter (NEED (LFT l (ACT l xid).toNat now done)), 0)
theorem lft_len (l : List Track) (own : Nat) (now : Int) (done : Bool) : (LFT l own now done).length ≤ l.length := by
 unfold LFT
 split
 · rw [List.length_set]; exact Nat.le_refl _
 · exact List.length_eraseIdx_le _ _
theorem lft_lg (l : List Track) (own : Nat) (ho : own < l.length) (now : Int) (done : Bool) (h : ∀ t ∈ l, lgT t) : ∀ t ∈ LFT l own now done, lgT t := by
 intro t ht
 unfold LFT at ht
 split at ht
 · rcases List.mem_or_eq_of_mem_set ht with h1 | h1
   · exact h t h1
   · subst h1
     exact h (at_ l (own : Int)) (by rw [at_nat _ own ho]; exact List.getElem_mem _)
 · exact h t (List.mem_of_mem_eraseIdx ht)
theorem impl_tidy1 (L : List Track) (hl : L.length ≤ 1000000) (t : Track) : impl_tidy_1.f t L = some (!NEED L t) := by
 unfold impl_tidy_1.f impl_Track_isActive.f NEED
 rw [allTrack L (by omega) _ (fun a => !(a.Ended == 0) || decide (t.Ended ≤ a.Begun)) (fun a _ => by unfold impl_tidy_1_1.f impl_Track_isActive.f; rfl), Option.bind_some]
 cases t.Ended == 0 with
 | true => rfl
 | false =>
  rw [if_pos (by decide), Option.bind_some, Option.bind_some, Bool.false_or]
  congr 1
  rw [List.not_any_eq_all_not]
  congr 1
  funext a
  have : decide (t.Ended ≤ a.Begun) = !decide (t.Ended > a.Begun) := by by_cases h : t.Ended ≤ a.Begun <;> simp [h] <;> omega
  rw [this]
  cases a.Ended == 0 <;> cases decide (t.Ended > a.Begun) <;> rfl
theorem impl_tidyL (L : List Track) (hl : L.length ≤ 1000000) : impl_tidy.f L = some (L.filter (NEED L)) := by
 unfold impl_tidy.f
 rw [if_pos (by simp only [Lim]; omega), Option.bind_some, delF_eq _ (fun t => !NEED L t) L (fun t _ => impl_tidy1 L hl t), Option.bind_some]
 simp
theorem impl_EdgeEnd (l : List Track) (hl : l.length ≤ 1048576) (hok : ∀ t ∈ l, okTk t) (xid now : Int) (done : Bool) : impl_EdgeEnd.f l xid now done = some (EEnd l xid now done) := by
 unfold impl_EdgeEnd.f EEnd
 rw [impl_active l hl, Option.bind_some, impl_TracksOk l hok, Option.bind_some]
 cases hA : (!TKK l || decide (ACT l xid < 0)) with
 | true => rw [if_pos rfl]; rfl
 | false =>
  rw [if_neg (by decide), Bool.false_or]
  simp only [Bool.or_eq_false_iff, Bool.not_eq_false', decide_eq_false_iff_not] at hA
  obtain ⟨own, ho, hlt⟩ := act_lt l xid hA.2
  obtain ⟨h64, hto⟩ := tkk_len hA.1
  rw [ho, Int.toNat_natCast]
  have hr : 0 ≤ (own : Int) ∧ (own : Int) < (l.length : Int) := by omega
  rw [if_pos hr, Option.bind_some]
  cases hB : decide (now ≤ (at_ l (own : Int)).Begun) with
  | true => rfl
  | false =>
   simp only [Bool.false_eq_true, if_false]
   rw [impl_ownTracks l hl fun t ht => (hok t ht).2, Option.bind_some]
   have hgen : ∀ b : Bool, (b = (done && (at_ l (own : Int)).In && (at_ l (own : Int)).Out)) → ((if done = true then (if 0 ≤ (own : Int) ∧ (own : Int) < (l.length : Int) then some ((at_ l (own : Int)).In) else none) else some false).bind fun y23 => ((if y23 = true then (if 0 ≤ (own : Int) ∧ (own : Int) < (l.length : Int) then some ((at_ l (own : Int)).Out) else none) else some false))) = some b := by
    intro b hb
    rw [hb]
    simp only [if_pos hr]
    cases done with
    | false => rfl
    | true => cases (at_ l (own : Int)).In <;> rfl
   have h1 := hgen _ rfl
   rw [← Option.bind_assoc, h1, Option.bind_some]
   cases hC : (done && (at_ l (own : Int)).In && (at_ l (own : Int)).Out) with
   | true => rfl
   | false =>
    simp only [Bool.false_eq_true, if_false]
    have hL : (if done = true then (if 0 ≤ (own : Int) ∧ (own : Int) < (l.length : Int) then (some (l.set own (Track.mk (at_ l (own : Int)).Xid (at_ l (own : Int)).Begun now (at_ l (own : Int)).All (at_ l (own : Int)).Reads (at_ l (own : Int)).Writes (at_ l (own : Int)).In (at_ l (own : Int)).Out))).bind fun y46 => some y46 else none) else ((slices_Delete_impl_Track_impl_Track.f l (own : Int) (IntKind.wrap .i64 ((own : Int) + 1))).bind fun r49 => some r49)) = some (LFT l own now done) := by
     unfold LFT
     cases done with
     | true => rw [if_pos rfl, if_pos hr, if_pos rfl]; rfl
     | false =>
      rw [if_neg (by decide), if_neg (by decide), w64 (by omega) (by omega)]
      unfold slices_Delete_impl_Track_impl_Track.f dlF
      rw [if_pos ⟨by omega, by omega, by omega, by simp only [Lim]; omega⟩, Option.bind_some, List.eraseIdx_eq_take_drop_succ]
      rfl
    have hll := lft_len l own now done
    rw [hL, Option.bind_some, impl_tidyL _ (by omega), Option.bind_some]
def LK (l : List Track) (own : Nat) (now : Int) (done : Bool) (k : Nat) : List Track := if done = true then (l.set own (eAt (at_ l (own : Int)) now)).take k else (l.take k).eraseIdx own
theorem lk_succ (l : List Track) (own : Nat) (ho : own < l.length) (now : Int) (done : Bool) (k : Nat) (hk : k < l.length) : LK l own now done (k + 1) = LK l own now done k ++ (if k = own then (if done = true then [eAt (at_ l (own : Int)) now] else []) else [at_ l (k : Int)]) := by
 unfold LK
 cases done with
 | true =>
  simp only [if_true]
  rw [List.take_succ_eq_append_getElem (by rw [List.length_set]; exact hk)]
  congr 2
  by_cases h : k = own
  · subst h; simp
  · rw [if_neg h, List.getElem_set_ne (Ne.symm h), at_nat _ k hk]
 | false =>
  simp only [Bool.false_eq_true, if_false]
  rw [List.take_succ_eq_append_getElem hk]
  have hlt : (l.take k).length = k := by simp; omega
  by_cases h : k = own
  · subst h
    have e : (l.take k).eraseIdx k = l.take k := List.eraseIdx_of_length_le (by omega)
    rw [List.eraseIdx_append_of_length_le (by omega), hlt, Nat.sub_self, e]; simp
  · rw [if_neg h, at_nat _ k hk]
    rcases Nat.lt_or_ge own k with h1 | h1
    · rw [List.eraseIdx_append_of_lt_length (by omega)]
    · rw [List.eraseIdx_of_length_le (by simp; omega), List.eraseIdx_of_length_le (by omega)]
theorem lk_len (l : List Track) (own : Nat) (now : Int) (done : Bool) (k : Nat) : (LK l own now done k).length ≤ k := by
 unfold LK
 split
 · rw [List.length_take]; omega
 · exact Nat.le_trans (List.length_eraseIdx_le _ _) (by rw [List.length_take]; omega)
theorem spec_left (L : List Track) (hl : L.length ≤ 1000000) (hlg : ∀ t ∈ L, lgT t) (x : Int) : iter (spec_EdgeEnd.b1 (L, x)) (([] : List Track), (0 : Int)) = some (L.filter (NEED L), 0) := by
 have := iter_for (body := spec_EdgeEnd.b1 (L, x)) L.length (fun j => ((L.take j).filter (NEED L), (j : Int))) (L.filter (NEED L), 0) (fun j hj => ?_) ?_
 · simpa using this
 · have hm : at_ L (j : Int) ∈ L := by rw [at_nat _ j hj]; exact List.getElem_mem _
   have hfl : ((L.take j).filter (NEED L)).length ≤ 1000000 := Nat.le_trans (List.length_filter_le _ _) (by rw [List.length_take]; omega)
   have hr : 0 ≤ (j : Int) ∧ (j : Int) < (L.length : Int) := by omega
   have hin : iter (spec_EdgeEnd.b2 (L, x) ((L.take j).filter (NEED L), (j : Int))) ((at_ L (j : Int)).Ended == 0, (0 : Int)) = some (.inl ((L.take (j + 1)).filter (NEED L), ((j + 1 : Nat) : Int))) := by
    have := iter_runL (body := spec_EdgeEnd.b2 (L, x) ((L.take j).filter (NEED L), (j : Int))) L (fun (h : Bool) (q : Nat) => (h, (q : Int))) (fun h a => .inl (h || (a.Ended == 0 && decide ((at_ L (j : Int)).Ended > a.Begun))))
     (fun h => (.inl ((L.take j).filter (NEED L) ++ (if h = true then [at_ L (j : Int)] else []), ((j + 1 : Nat) : Int)) : ((List Track × Int) ⊕ (List Track × Int)))) (fun _ _ => True) (fun h q hq _ => ⟨?_, fun _ _ => trivial⟩) (fun h _ => ?_) ((at_ L (j : Int)).Ended == 0) trivial
    · refine this.trans ?_
      rw [runL_acc]
      have hN : ((at_ L (j : Int)).Ended == 0 || L.any fun a => a.Ended == 0 && decide ((at_ L (j : Int)).Ended > a.Begun)) = NEED L (at_ L (j : Int)) := rfl
      rw [hN, List.take_succ_eq_append_getElem hj, List.filter_append, ← at_nat _ j hj]
      cases hn : NEED L (at_ L (j : Int)) <;> simp [hn]
    · have hq' : 0 ≤ (q : Int) ∧ (q : Int) < (L.length : Int) := by omega
      unfold spec_EdgeEnd.b2
      simp only [if_pos hr, if_pos hq']
      rw [if_pos (by simp; omega), w64 (by omega) (by omega), at_nat _ q hq]
      cases h with
      | true => rfl
      | false => cases (L[q]).Ended == 0 <;> rfl
    · unfold spec_EdgeEnd.b2
      simp only [if_pos hr]
      rw [if_neg (by simp), w64 (by omega) (by omega)]
      cases h with
      | true => rw [if_pos rfl, if_pos (by simp [Lim]; have := List.length_filter_le (NEED L) (L.take j); rw [List.length_take] at this; omega)]; rfl
      | false => simp
   unfold spec_EdgeEnd.b1
   simp only []
   rw [if_pos (by simp; omega), if_pos hr, hin]
 · unfold spec_EdgeEnd.b1
   simp only []
   rw [if_neg (by simp), List.take_length, spec_l13copy _ (by have := List.length_filter_le (NEED L) L; omega) (fun t ht => hlg t (List.mem_filter.1 ht).1)]; rfl
theorem spec_EdgeEnd (l : List Track) (hl : l.length ≤ 1048576) (hok : ∀ t ∈ l, okTk t) (xid now : Int) (done : Bool) : spec_EdgeEnd.f l xid now done = some (EEnd l xid now done) := by
 unfold spec_EdgeEnd.f EEnd
 rw [spec_l13at l hl, Option.bind_some, spec_TracksOk l hok, Option.bind_some]
 cases hA : (!TKK l || decide (ACT l xid < 0)) with
 | true => rw [if_pos rfl]; rfl
 | false =>
  rw [if_neg (by decide), Bool.false_or]
  simp only [Bool.or_eq_false_iff, Bool.not_eq_false', decide_eq_false_iff_not] at hA
  obtain ⟨own, ho, hlt⟩ := act_lt l xid hA.2
  obtain ⟨h64, hto⟩ := tkk_len hA.1
  rw [ho, Int.toNat_natCast]
  have hr : 0 ≤ (own : Int) ∧ (own : Int) < (l.length : Int) := by omega
  rw [if_pos hr, Option.bind_some]
  cases hB : decide (now ≤ (at_ l (own : Int)).Begun) with
  | true => rfl
  | false =>
   simp only [Bool.false_eq_true, if_false]
   have h1 : ((if done = true then (if 0 ≤ (own : Int) ∧ (own : Int) < (l.length : Int) then some ((at_ l (own : Int)).In) else none) else some false).bind fun y23 => ((if y23 = true then (if 0 ≤ (own : Int) ∧ (own : Int) < (l.length : Int) then some ((at_ l (own : Int)).Out) else none) else some false))) = some (done && (at_ l (own : Int)).In && (at_ l (own : Int)).Out) := by
    simp only [if_pos hr]
    cases done with
    | false => rfl
    | true => cases (at_ l (own : Int)).In <;> rfl
   rw [← Option.bind_assoc, h1, Option.bind_some]
   cases hC : (done && (at_ l (own : Int)).In && (at_ l (own : Int)).Out) with
   | true => rw [if_pos rfl, if_pos rfl, spec_l13copy l hl fun t ht => (hok t ht).2]; rfl
   | false =>
    simp only [Bool.false_eq_true, if_false]
    have hfin : LK l own now done l.length = LFT l own now done := by
     unfold LK LFT
     cases done with
     | true => simp only [if_true]; exact List.take_of_length_le (by rw [List.length_set]; exact Nat.le_refl _)
     | false => simp only [Bool.false_eq_true, if_false, List.take_length]
    have := iter_for (body := spec_EdgeEnd.b0 l now done (own : Int)) l.length (fun k => (LK l own now done k, (k : Int))) ((LFT l own now done).filter (NEED (LFT l own now done)), 0) (fun k hk => ?_) ?_
    · refine Eq.trans ?_ this
      congr 2
      unfold LK
      cases done <;> rfl
    · have hlk := lk_len l own now done k
      unfold spec_EdgeEnd.b0
      simp only []
      rw [if_pos (by simp; omega), if_pos ⟨by omega, by omega⟩, w64 (by omega) (by omega), lk_succ l own hlt now done k hk]
      by_cases h : k = own
      · subst h
        rw [if_pos (by simp), if_pos rfl]
        cases done with
        | true => rw [if_neg (by decide), if_pos (by simp [Lim]; omega), if_pos rfl]; rfl
        | false => simp
      · rw [if_neg (show ¬ (((k : Int) == (own : Int)) = true) by simp; omega), if_pos (by simp [Lim]; omega), if_neg h]; rfl
    · have hll := lft_len l own now done
      unfold spec_EdgeEnd.b0
      simp only []
      rw [if_neg (by simp), hfin, spec_left _ (by omega) (lft_lg l own hlt now done fun t ht => (hok t ht).2)]; rfl
end Go.Proofs.Ytcgbhldenkeplaa
set_option linter.unusedVariables false
set_option linter.unusedSimpArgs false
set_option linter.unusedSectionVars false
namespace Go.Proofs.Ytcgbhldenkeplaa
open Go V Ieee
end Go.Proofs.Ytcgbhldenkeplaa
set_option linter.unusedVariables false
set_option linter.unusedSimpArgs false
set_option linter.unusedSectionVars false
namespace Go.Proofs.Ytcgbhldenkeplaa
open Go V
def Ok {α : Type} (m : Option α) (P : α → Prop) : Prop := ∃ r, m = some r ∧ P r
section
variable {α β S O : Type} {P : α → Prop} {Q : β → Prop}
theorem Ok.ret {x : α} (h : P x) : Ok (some x) P := ⟨x, rfl, h⟩
theorem Ok.eq {m : Option α} {x : α} (e : m = some x) (h : P x) : Ok m P := ⟨x, e, h⟩
theorem Ok.bind {m : Option α} {k : α → Option β} (h : Ok m P) (hk : ∀ r, P r → Ok (k r) Q) : Ok (m.bind k) Q := by
 obtain ⟨r, rfl, hp⟩ := h
 exact hk r hp
theorem Ok.mono {P' : α → Prop} {m : Option α} (h : Ok m P) (hk : ∀ r, P r → P' r) : Ok m P' := by
 obtain ⟨r, e, hp⟩ := h
 exact ⟨r, e, hk r hp⟩
theorem Ok.ite {c : Bool} {m n : Option α} (h1 : c = true → Ok m P) (h2 : c = false → Ok n P) : Ok (if c = true then m else n) P := by
 cases c with
 | true => exact h1 rfl
 | false => exact h2 rfl
theorem Ok.grd {c : Prop} [Decidable c] {m n : Option α} (hc : c) (h : Ok m P) : Ok (if c then m else n) P := by rw [if_pos hc]; exact h
theorem Ok.sel {m : Option (S ⊕ β)} {f : S → Option β} {R : S → Prop} (h : Ok m (Sum.elim R Q)) (hk : ∀ y, R y → Ok (f y) Q) : Ok (m.bind (sel f)) Q := by
 obtain ⟨r, rfl, hp⟩ := h
 cases r with
 | inl y => exact hk y hp
 | inr o => exact ⟨o, rfl, hp⟩
theorem Ok.out {m : Option O} {R : S → Prop} {Q : O → Prop} (h : Ok m Q) : Ok (m.bind fun o => some (Sum.inr o)) (Sum.elim R Q) := by
 obtain ⟨r, rfl, hp⟩ := h
 exact ⟨_, rfl, hp⟩
theorem Ok.iter {body : S → Option (S ⊕ O)} {Q : O → Prop} (Inv : S → Prop) (μ : S → Nat) (h : ∀ s, Inv s → Ok (body s) (Sum.elim (fun s' => Inv s' ∧ μ s' < μ s) Q)) : ∀ s, Inv s → Ok (iter body s) Q := by
 have key : ∀ n s, μ s < n → Inv s → Ok (V.iter body s) Q := by
  intro n
  induction n with
  | zero => intro s hs; omega
  | succ n ih =>
   intro s hs hi
   obtain ⟨r, e, hr⟩ := h s hi
   rw [iter_eq, e]
   cases r with
   | inl s' => exact ih s' (by have := hr.2; omega) hr.1
   | inr o => exact ⟨o, rfl, hr⟩
 intro s hi
 exact key _ s (Nat.lt_succ_self _) hi
end
end Go.Proofs.Ytcgbhldenkeplaa
set_option linter.unusedVariables false
set_option linter.unusedSimpArgs false
namespace Go.Proofs.Ytcgbhldenkeplaa
open Go V
theorem iand_mask (x : Int) (m : Nat) (hm : m < 9223372036854775808) : 0 ≤ iand .i64 x (m : Int) ∧ iand .i64 x (m : Int) ≤ m := by
 unfold iand
 have e : (BitVec.ofInt IntKind.i64.bits x &&& BitVec.ofInt IntKind.i64.bits (m : Int)).toNat ≤ m := by
  rw [BitVec.toNat_and, BitVec.ofInt_natCast, BitVec.toNat_ofNat, Nat.mod_eq_of_lt (show m < 2 ^ IntKind.i64.bits by show m < 2 ^ 64; omega)]
  exact Nat.and_le_right
 generalize (BitVec.ofInt IntKind.i64.bits x &&& BitVec.ofInt IntKind.i64.bits (m : Int)).toNat = y at *
 rw [w64 (by omega) (by omega)]
 omega
theorem tmod_lt {a n : Int} (h0 : 0 ≤ a) (hn : 0 < n) : 0 ≤ a.tmod n ∧ a.tmod n < n := by
 rw [Int.tmod_eq_emod_of_nonneg h0]
 exact ⟨Int.emod_nonneg _ (by omega), Int.emod_lt_of_pos _ hn⟩
def Ci (b : List Int) (i : Int) : Prop := 0 ≤ i ∧ i ≤ (b.length : Int) ∧ b.length ≤ 1048576
theorem l1Byte_ok (c : l1Cur) (h : Ci c.b c.i) : Ok (spec_l1Byte.f c) fun r => 0 ≤ r.1 ∧ r.1 ≤ 255 ∧ Ci c.b r.2.i := by
 obtain ⟨h0, h1, h2⟩ := h
 unfold spec_l1Byte.f
 have m1 := fun x => iand_mask x 255 (by omega)
 refine Ok.bind (P := fun y => 0 ≤ y.1 ∧ y.1 ≤ 255 ∧ Ci c.b y.2) (Ok.ite (fun hc => ?_) fun _ => Ok.ret ⟨(m1 _).1, (m1 _).2, h0, h1, h2⟩) fun y hy => Ok.ret hy
 have hi : c.i < (c.b.length : Int) := by simpa using hc
 refine Ok.grd ⟨h0, hi⟩ (Ok.ret ⟨(m1 _).1, (m1 _).2, ?_⟩)
 show Ci c.b (IntKind.wrap .i64 (c.i + 1))
 rw [w64 (by omega) (by omega)]
 exact ⟨by omega, by omega, h2⟩
theorem l1Below_ok (c : l1Cur) (n : Int) (h : Ci c.b c.i) (hn : 0 < n) : Ok (spec_l1Below.f c n) fun r => 0 ≤ r.1 ∧ r.1 < n ∧ Ci c.b r.2.i := by
 unfold spec_l1Below.f
 refine Ok.ite (fun hc => by simp at hc; omega) fun _ => Ok.ite (fun _ => ?_) fun _ => ?_
 · refine Ok.bind (l1Byte_ok c h) fun r hr => Ok.grd (by omega) (Ok.ret ?_)
   have := tmod_lt hr.1 hn
   exact ⟨this.1, this.2, hr.2.2⟩
 · refine Ok.bind (l1Byte_ok c h) fun r1 h1 => Ok.bind (l1Byte_ok (l1Cur.mk c.b r1.2.i r1.2.h) h1.2.2) fun r2 h2 => Ok.bind (l1Byte_ok (l1Cur.mk c.b r2.2.i r2.2.h) h2.2.2) fun r3 h3 => Ok.bind (l1Byte_ok (l1Cur.mk c.b r3.2.i r3.2.h) h3.2.2) fun r4 h4 => Ok.grd (by omega) (Ok.ret ?_)
   obtain ⟨p1, q1, _⟩ := h1
   obtain ⟨p2, q2, _⟩ := h2
   obtain ⟨p3, q3, _⟩ := h3
   obtain ⟨p4, q4, k4⟩ := h4
   rw [w64 (n := r1.1 * 16777216) (by omega) (by omega), w64 (n := r2.1 * 65536) (by omega) (by omega), w64 (n := r1.1 * 16777216 + r2.1 * 65536) (by omega) (by omega), w64 (n := r3.1 * 256) (by omega) (by omega), w64 (n := r1.1 * 16777216 + r2.1 * 65536 + r3.1 * 256) (by omega) (by omega), w64 (by omega) (by omega)]
   have := tmod_lt (a := r1.1 * 16777216 + r2.1 * 65536 + r3.1 * 256 + r4.1) (by omega) hn
   exact ⟨this.1, this.2, k4⟩
theorem l1Once_ok (c : l1Cur) (n : Int) (h : Ci c.b c.i) (hn : 0 < n) : Ok (spec_l1Once.f c n) fun r => Ci c.b r.2.i :=
 Ok.bind (l1Below_ok c n h hn) fun r hr => Ok.ret hr.2.2
theorem l1PickInt_ok (c : l1Cur) (l : List Int) (h : Ci c.b c.i) (hl : l ≠ []) : Ok (spec_l1PickInt.f c l) fun r => r.1 ∈ l ∧ Ci c.b r.2.i := by
 have hp : 0 < l.length := List.length_pos_iff.2 hl
 refine Ok.bind (l1Below_ok c (l.length : Int) h (by omega)) fun r hr => Ok.grd ⟨hr.1, hr.2.1⟩ (Ok.ret ⟨?_, hr.2.2⟩)
 obtain ⟨k, hk⟩ := Int.eq_ofNat_of_zero_le hr.1
 show at_ l r.1 ∈ l
 have h2 := hr.2.1
 rw [hk] at h2 ⊢
 rw [at_nat l k (by omega)]
 exact List.getElem_mem _
theorem l1New_ok (a : List Int) (h : a.length ≤ 1048576) : Ok (spec_l1New.f a) fun c => c.b = a ∧ Ci c.b c.i := by
 unfold spec_l1New.f
 refine Ok.iter (fun s => 0 ≤ s.2 ∧ s.2 ≤ (a.length : Int)) (fun s => a.length - s.2.toNat) (fun s hs => ?_) _ ⟨by simp, by simp⟩
 unfold spec_l1New.b0
 refine Ok.ite (fun hc => ?_) fun _ => Ok.out (Ok.ret ⟨rfl, ?_⟩)
 · simp at hc
   refine Ok.grd ⟨hs.1, hc.1⟩ (Ok.ret ?_)
   show (_ ∧ _) ∧ _
   simp only []
   rw [w64 (by omega) (by omega)]
   omega
 · exact ⟨Int.le_refl 0, by simp, h⟩
theorem l1Size_ok (a : List Int) (m : Int) (h : a.length ≤ 1048576) (hm : 2 ≤ m) : Ok (spec_l1Size.f a m) fun r => 0 ≤ r ∧ r ≤ m := by
 unfold spec_l1Size.f
 have e : ((a.length : Int)).tdiv 20 = ((a.length / 20 : Nat) : Int) := by rw [Int.tdiv_eq_ediv_of_nonneg (by omega)]; omega
 rw [e, w64 (n := ((a.length / 20 : Nat) : Int)) (by omega) (by omega), w64 (n := (2 : Int) + _) (by omega) (by omega)]
 refine Ok.ite (fun hc => Ok.ret ⟨by omega, by omega⟩) fun hc => ?_
 simp at hc
 exact Ok.ret ⟨by omega, by omega⟩
theorem l1some_ok (c : l1Cur) (n : Int) (h : Ci c.b c.i) (h0 : 0 ≤ n) (hn : n ≤ 100000) : Ok (spec_l1some.f c n) fun r => ((r.1.length : Int) ≤ n ∧ ∀ x ∈ r.1, InK .u8 x) ∧ Ci c.b r.2.i := by
 unfold spec_l1some.f
 rw [w64 (by omega) (by omega)]
 refine Ok.bind (l1Below_ok c _ h (by omega)) fun r hr => ?_
 obtain ⟨k1, k2, k3⟩ := hr
 refine Ok.iter (fun s => 0 ≤ s.2.1 ∧ s.2.1 ≤ r.1 ∧ (s.1.length : Int) = s.2.1 ∧ (∀ x ∈ s.1, InK .u8 x) ∧ Ci c.b s.2.2.1) (fun s => (r.1 - s.2.1).toNat) (fun s hs => ?_) _ ?_
 rotate_left
 · exact ⟨Int.le_refl 0, k1, rfl, (fun x hx => by cases hx), k3⟩
 obtain ⟨j1, j2, j3, j4, j5⟩ := hs
 unfold spec_l1some.b0
 refine Ok.ite (fun hc => ?_) fun hc => Ok.out (Ok.ret ⟨⟨by show ((s.1).length : Int) ≤ n; omega, j4⟩, j5⟩)
 have hc' : s.2.1 < r.1 := by simpa using hc
 refine Ok.bind (l1Byte_ok (l1Cur.mk c.b s.2.2.1 s.2.2.2) j5) fun q hq => Ok.grd (by simp only [Lim, List.length_singleton]; omega) (Ok.ret ?_)
 show (_ ∧ _ ∧ _ ∧ _ ∧ _) ∧ _
 simp only []
 rw [w64 (by omega) (by omega)]
 refine ⟨⟨by omega, by omega, by simp; omega, fun x hx => ?_, hq.2.2⟩, by omega⟩
 rcases List.mem_append.1 hx with hx | hx
 · exact j4 x hx
 · rw [List.mem_singleton.1 hx, IntKind.wrap_u8]; exact u8_ok (by omega) (by omega)
end Go.Proofs.Ytcgbhldenkeplaa
set_option linter.unusedVariables false
set_option linter.unusedSimpArgs false
set_option linter.unusedSectionVars false
namespace Go.Proofs.Ytcgbhldenkeplaa
open Go V Ieee
end Go.Proofs.Ytcgbhldenkeplaa
set_option linter.unusedVariables false
set_option linter.unusedSimpArgs false
set_option linter.unusedSectionVars false
namespace Go.Proofs.Ytcgbhldenkeplaa
open Go V Ieee
theorem far_quob {a u : Nat} (h : IsV a false (u * pw 52)) (hu : Rep u) : IsV (far .quo a 4841369599423283200) false u := by
 obtain ⟨w', hw, hv⟩ := div_pow (j := 52) c_big h hu
 have : far .quo a 4841369599423283200 = w' := by show (D.div a _).getD _ = _; rw [hw]; rfl
 rwa [this]
theorem far_add1 {a v : Nat} (h : IsV a false v) (hv : Rep (U1 + v)) : IsV (far .add a 4607182418800017408) false (U1 + v) := by
 obtain ⟨w', hw, hv⟩ := add_one h hv
 have : far .add a 4607182418800017408 = w' := by show (D.add a _).getD _ = _; rw [hw]; rfl
 rwa [this]
theorem fo_dn (M : Nat) (hM : M < 9007199254740992) : ∀ (n c a : Nat), c + n ≤ 2045 → IsV a false (M * pw (c + n)) → ∃ a', iter spec_FloatOf.b1 (a, -(n : Int)) = some (Sum.inl a') ∧ IsV a' false (M * pw c) := by
 intro n
 induction n with
 | zero =>
  intro c a hc hv
  refine ⟨a, iter_r ?_, hv⟩
  unfold spec_FloatOf.b1
  rw [if_neg (by simp)]; rfl
 | succ n ih =>
  intro c a hc hv
  have hv2 : IsV a false (M * pw (c + n) * 2) := by rw [Nat.mul_assoc, ← pw_succ]; exact hv
  obtain ⟨a', ha, hav⟩ := ih c _ (by omega) (far_half hv2 (rep_of hM _ (by omega)))
  refine ⟨a', ?_, hav⟩
  have hstep : spec_FloatOf.b1 (a, -((n + 1 : Nat) : Int)) = some (.inl (far .quo a 4611686018427387904, -(n : Int))) := by
   unfold spec_FloatOf.b1
   rw [if_pos (decide_eq_true (by show -((n + 1 : Nat) : Int) < 0; omega)), w64 (by omega) (by omega), show -((n + 1 : Nat) : Int) + 1 = -(n : Int) by omega]
  rw [iter_l hstep, ha]
theorem fo_0 (a : Nat) (k : Int) (h : k ≤ 0) : iter spec_FloatOf.b0 (a, k) = iter spec_FloatOf.b1 (a, k) := by
 refine iter_pass ?_
 unfold spec_FloatOf.b0
 rw [if_neg (by simp; omega)]
theorem fo_up (M : Nat) (hM : M < 9007199254740992) : ∀ (n e a : Nat), e + n ≤ 2045 → IsV a false (M * pw e) → ∃ a', iter spec_FloatOf.b0 (a, (n : Int)) = some (Sum.inl a') ∧ IsV a' false (M * pw (e + n)) := by
 intro n
 induction n with
 | zero =>
  intro e a he hv
  rw [fo_0 _ _ (by omega)]
  exact fo_dn M hM 0 e a (by omega) hv
 | succ n ih =>
  intro e a he hv
  have hd := far_dbl hv (by rw [Nat.mul_assoc, ← pw_succ]; exact rep_of hM _ (by omega))
  rw [Nat.mul_assoc, ← pw_succ] at hd
  obtain ⟨a', ha, hav⟩ := ih (e + 1) _ (by omega) hd
  refine ⟨a', ?_, by rw [show e + (n + 1) = e + 1 + n by omega]; exact hav⟩
  have hstep : spec_FloatOf.b0 (a, ((n + 1 : Nat) : Int)) = some (.inl (far .mul a 4611686018427387904, (n : Int))) := by
   unfold spec_FloatOf.b0
   rw [if_pos (decide_eq_true (by show ((n + 1 : Nat) : Int) > 0; omega)), w64 (by omega) (by omega), show ((n + 1 : Nat) : Int) - 1 = (n : Int) by omega]
  rw [iter_l hstep, ha]
theorem efield (n : Nat) (h : n < 18446744073709551616) : IntKind.wrap .i64 (iand .u64 (ishr .u64 (n : Int) (52 : Int)) (2047 : Int)) = ((n / 4503599627370496 % 2048 : Nat) : Int) := by
 have h1 : ishr .u64 (n : Int) (52 : Int) = ((n / 4503599627370496 : Nat) : Int) := ishr_nat .u64 n 52 (by decide)
 have h2 : iand .u64 ((n / 4503599627370496 : Nat) : Int) (2047 : Int) = (((n / 4503599627370496) &&& 2047 : Nat) : Int) := iand_u64 _ 2047 (by omega) (by omega)
 have h3 : (n / 4503599627370496) &&& 2047 = n / 4503599627370496 % 2048 := Nat.and_two_pow_sub_one_eq_mod _ 11
 rw [h1, h2, h3, w64 (by omega) (by omega)]
theorem ffield (n : Nat) (h : n < 18446744073709551616) : iand .u64 (n : Int) (4503599627370495 : Int) = ((n % 4503599627370496 : Nat) : Int) := by
 have h2 : iand .u64 (n : Int) (4503599627370495 : Int) = ((n &&& 4503599627370495 : Nat) : Int) := iand_u64 _ 4503599627370495 h (by omega)
 have h3 : n &&& 4503599627370495 = n % 4503599627370496 := Nat.and_two_pow_sub_one_eq_mod _ 52
 rw [h2, h3]
theorem fneg_wd (r : Nat) (h : r ≤ 9218868437227405312) : fneg r = 9223372036854775808 + r := by
 have hn : isN r = false := by unfold isN; rw [decide_eq_false (by omega)]
 unfold fneg
 rw [hn, cond_false]
 show r ^^^ 2 ^ 63 = _
 have := xor_sign r (by omega)
 have h2 : (9223372036854775808 + r) ^^^ 2 ^ 63 = r := this
 have h3 : ((9223372036854775808 + r) ^^^ 2 ^ 63) ^^^ 2 ^ 63 = r ^^^ 2 ^ 63 := by rw [h2]
 rw [Nat.xor_assoc, Nat.xor_self, Nat.xor_zero] at h3
 exact h3.symm
theorem fo_sign (n r : Nat) (hn : n = n / 9223372036854775808 * 9223372036854775808 + r) (h2 : n / 9223372036854775808 ≤ 1) (h : r ≤ 9218868437227405312) :
    (if ((ishr .u64 (n : Int) (63 : Int)) == (1 : Int)) = true then (some (fneg r)) else (some r)) = some (cn n) := by
  have hc : cn n = n := by
    refine cn_of ?_
    unfold isN
    rw [decide_eq_false (by omega)]
  rw [hc]
  by_cases h1 : n / 9223372036854775808 = 1
  · rw [ifT (by rw [ishr63]; exact decide_eq_true h1), fneg_wd r h, show 9223372036854775808 + r = n by omega]
  · rw [ifF (by rw [ishr63]; exact decide_eq_false h1), show r = n by omega]
theorem spec_FloatOf (n : Nat) (h : n < 18446744073709551616) : spec_FloatOf.f (n : Int) = some (cn n) := by
 unfold spec_FloatOf.f
 rw [efield n h, ffield n h]
 have hE : n / 4503599627370496 % 2048 < 2048 := Nat.mod_lt _ (by decide)
 have hF : n % 4503599627370496 < 4503599627370496 := Nat.mod_lt _ (by decide)
 have hn : n = n / 9223372036854775808 * 9223372036854775808 + (n / 4503599627370496 % 2048 * 4503599627370496 + n % 4503599627370496) := by omega
 have h2 : n / 9223372036854775808 ≤ 1 := by omega
 have hfs := fo_sign n
 generalize hEe : n / 4503599627370496 % 2048 = E at *
 generalize hFf : n % 4503599627370496 = f at *
 by_cases hinf : E = 2047
 · rw [ifT (by simp; omega)]
   by_cases hf : f = 0
   · rw [ifF (by simp; omega)]
     have e : far .quo 4607182418800017408 0 = 9218868437227405312 := by decide
     have hA := hfs 9218868437227405312 (by omega) h2 (by omega)
     rw [Option.bind_some, sel_inl, e]
     exact hA
   · rw [ifT (by simp; omega)]
     have e : far .quo 0 0 = 9221120237041090560 := by decide
     rw [Option.bind_some, sel_inr, e]
     rw [cn_nan (by unfold isN; rw [decide_eq_true (by omega)])]
     rfl
 · rw [ifF (by simp; omega)]
   have hq : IsV (far .quo (FloatKind.f64.nearest (f : Int)) 4841369599423283200) false (f * pw 1022) := by
    refine far_quob ?_ (rep_of (by omega) _ (by omega))
    rw [Nat.mul_assoc, ← pw_add]
    exact near_v f (by omega)
   by_cases h0 : E = 0
   · have hA := hfs f (by omega) h2 (by omega)
     have hB : 0 * 4503599627370496 + f = f := by omega
     rw [ifT (by simp; omega), Option.bind_some, fo_0 _ _ (by show (-1022 : Int) ≤ 0; decide)]
     obtain ⟨a', ha, hav⟩ := fo_dn f (by omega) 1022 0 _ (by omega) hq
     have hk : (-1022 : Int) = -((1022 : Nat) : Int) := by decide
     rw [hk, ha, Option.bind_some, sel_inl]
     have := hav.eq (wd_v (e := 0) (by omega) (.inl rfl) (by omega))
     rw [this, wd_eq, hB]
     exact hA
   · have hA := hfs (E * 4503599627370496 + f) (by omega) h2 (by omega)
     have hB : (E - 1) * 4503599627370496 + (4503599627370496 + f) = E * 4503599627370496 + f := by omega
     rw [ifF (by simp; omega), Option.bind_some, w64 (by omega) (by omega)]
     have hsum : U1 + f * pw 1022 = (4503599627370496 + f) * pw 1022 := by rw [U1_eq, Nat.add_mul]
     have hM : 4503599627370496 + f < 9007199254740992 := by omega
     have ha1 := far_add1 hq (by rw [hsum]; exact rep_of hM _ (by omega))
     rw [hsum] at ha1
     have key : ∃ a', iter spec_FloatOf.b0 (far .add (far .quo (FloatKind.f64.nearest (f : Int)) 4841369599423283200) 4607182418800017408, (E : Int) - 1023) = some (Sum.inl a') ∧ IsV a' false ((4503599627370496 + f) * pw (E - 1)) := by
      by_cases hk : 1023 ≤ E
      · obtain ⟨a', ha, hav⟩ := fo_up _ hM (E - 1023) 1022 _ (by omega) ha1
        refine ⟨a', ?_, by rw [show E - 1 = 1022 + (E - 1023) by omega]; exact hav⟩
        rw [show (E : Int) - 1023 = ((E - 1023 : Nat) : Int) by omega]; exact ha
      · obtain ⟨a', ha, hav⟩ := fo_dn _ hM (1023 - E) (E - 1) _ (by omega) (by rw [show E - 1 + (1023 - E) = 1022 by omega]; exact ha1)
        refine ⟨a', ?_, hav⟩
        rw [fo_0 _ _ (by omega), show (E : Int) - 1023 = -((1023 - E : Nat) : Int) by omega]; exact ha
     obtain ⟨a', ha, hav⟩ := key
     rw [ha, Option.bind_some, sel_inl]
     have := hav.eq (wd_v hM (.inr (by omega)) (by omega))
     rw [this, wd_eq, hB]
     exact hA
end Go.Proofs.Ytcgbhldenkeplaa
set_option linter.unusedVariables false
set_option linter.unusedSimpArgs false
set_option linter.unusedSectionVars false
namespace Go.Proofs.Ytcgbhldenkeplaa
open Go V Ieee
end Go.Proofs.Ytcgbhldenkeplaa
set_option linter.unusedVariables false
set_option linter.unusedSimpArgs false
set_option linter.unusedSectionVars false
namespace Go.Proofs.Ytcgbhldenkeplaa
open Go V
end Go.Proofs.Ytcgbhldenkeplaa
set_option linter.unusedVariables false
set_option linter.unusedSimpArgs false
namespace Go.Proofs.Ytcgbhldenkeplaa
open Go V
end Go.Proofs.Ytcgbhldenkeplaa
set_option linter.unusedVariables false
set_option linter.unusedSimpArgs false
set_option linter.unusedSectionVars false
namespace Go.Proofs.Ytcgbhldenkeplaa
open Go V Ieee
theorem u8w (x : Int) : InK .u8 (IntKind.wrap .u8 x) := by rw [IntKind.wrap_u8]; exact u8_ok (by omega) (by omega)
end Go.Proofs.Ytcgbhldenkeplaa
set_option linter.unusedVariables false
set_option linter.unusedSimpArgs false
set_option linter.unusedSectionVars false
namespace Go.Proofs.Ytcgbhldenkeplaa
open Go V Ieee
theorem i64w (x : Int) : InK .i64 (IntKind.wrap .i64 x) := by rw [IntKind.wrap_i64]; exact i64_ok (by omega) (by omega)
theorem okF_cn (n : Nat) (h : n < 18446744073709551616) : okF (cn n) := by
 refine ⟨cn_cn n, ?_⟩
 unfold cn
 cases isN n with
 | true => show nanB < _; decide
 | false => exact h
theorem okF_0 : okF 0 := ⟨by decide, by decide⟩
end Go.Proofs.Ytcgbhldenkeplaa
set_option linter.unusedVariables false
set_option linter.unusedSimpArgs false
set_option linter.unusedSectionVars false
namespace Go.Proofs.Ytcgbhldenkeplaa
open Go V Ieee
def I0 : Item := Item.mk 0 0 0 []
section
variable (b : List Int) (hb : ∀ x ∈ b, InK .u8 x)
include hb
end
theorem ok_I0 : ok_Item I0 := ⟨i64_ok (by decide) (by decide), i64_ok (by decide) (by decide), okF_0, by simp [I0], fun y hy => by cases hy⟩
end Go.Proofs.Ytcgbhldenkeplaa
set_option linter.unusedVariables false
set_option linter.unusedSimpArgs false
set_option linter.unusedSectionVars false
namespace Go.Proofs.Ytcgbhldenkeplaa
open Go V Ieee
end Go.Proofs.Ytcgbhldenkeplaa
set_option linter.unusedVariables false
set_option linter.unusedSimpArgs false
namespace Go.Proofs.Ytcgbhldenkeplaa
open Go V Ieee
theorem ik (n : Int) (h : -9223372036854775808 ≤ n := by decide) (h' : n ≤ 9223372036854775807 := by decide) : InK .i64 n := i64_ok h h'
theorem u64w (x : Int) : InK .u64 (IntKind.wrap .u64 x) := by
 rw [IntKind.wrap_u64]
 exact ⟨by show (0 : Int) ≤ _; omega, by show _ ≤ (18446744073709551615 : Int); omega⟩
theorem u64_of {n : Int} (h : InK .u64 n) : n = ((n.toNat : Nat) : Int) ∧ n.toNat < 18446744073709551616 := by
 have h1 : (0 : Int) ≤ n := h.1
 have h2 : n ≤ (18446744073709551615 : Int) := h.2
 omega
theorem l1number_ok (c : l1Cur) (h : Ci c.b c.i) : Ok (spec_l1number.f c) fun r => InK .i64 r.1 ∧ Ci c.b r.2.i := by
 unfold spec_l1number.f
 refine Ok.bind (l1Below_ok c 1000 h (by omega)) fun r1 h1 => Ok.bind (l1Below_ok (l1Cur.mk c.b r1.2.i r1.2.h) 6 h1.2.2 (by omega)) fun r2 h2 => ?_
 refine Ok.iter (fun s => InK .i64 s.1 ∧ 0 ≤ s.2.1 ∧ s.2.1 ≤ 6 ∧ Ci c.b s.2.2.1) (fun s => s.2.1.toNat) (fun s hs => ?_) _ ?_
 rotate_left
 · obtain ⟨a1, a2, _⟩ := h1
   obtain ⟨b1, b2, b3⟩ := h2
   exact ⟨i64_ok (by omega) (by omega), b1, by show r2.1 ≤ 6; omega, b3⟩
 obtain ⟨k1, k2, k3, k4⟩ := hs
 unfold spec_l1number.b0
 refine Ok.ite (fun hc => ?_) fun _ => Ok.out ?_
 · have hc' : s.2.1 > 0 := by simpa using hc
   refine Ok.bind (l1Byte_ok (l1Cur.mk c.b s.2.2.1 s.2.2.2) k4) fun r hr => Ok.ret ?_
   show (_ ∧ _ ∧ _ ∧ _) ∧ _
   simp only []
   rw [w64 (n := s.2.1 - 1) (by omega) (by omega)]
   exact ⟨⟨i64w _, by omega, by omega, hr.2.2⟩, by omega⟩
 · refine Ok.bind (l1Below_ok (l1Cur.mk c.b s.2.2.1 s.2.2.2) 12 k4 (by omega)) fun r hr => Ok.ite (fun _ => Ok.ret ⟨i64w _, hr.2.2⟩) fun _ => Ok.ite (fun _ => ?_) fun _ => Ok.ite (fun _ => Ok.ret ⟨ik 9223372036854775807, hr.2.2⟩) fun _ => Ok.ite (fun _ => Ok.ret ⟨ik (-9223372036854775808), hr.2.2⟩) fun _ => Ok.ret ⟨k1, hr.2.2⟩
   refine Ok.bind (l1Below_ok (l1Cur.mk c.b r.2.i r.2.h) 7 hr.2.2 (by omega)) fun q hq => ?_
   obtain ⟨q1, q2, q3⟩ := hq
   refine Ok.grd ?_ (Ok.bind (l1Below_ok (l1Cur.mk c.b q.2.i q.2.h) 2 q3 (by omega)) fun z hz => Ok.ret ⟨i64w _, hz.2.2⟩)
   rw [w64 (n := 1 + q.1) (by omega) (by omega), w64 (by omega) (by omega)]; omega
theorem l2bits_ok (c : l1Cur) (h : Ci c.b c.i) : Ok (spec_l2bits.f c) fun r => InK .u64 r.1 ∧ Ci c.b r.2.i := by
 unfold spec_l2bits.f
 refine Ok.iter (fun s => InK .u64 s.1 ∧ 0 ≤ s.2.1 ∧ s.2.1 ≤ 8 ∧ Ci c.b s.2.2.1) (fun s => (8 - s.2.1).toNat) (fun s hs => ?_) _ ⟨u64w 0, by simp, by simp, h⟩
 obtain ⟨k1, k2, k3, k4⟩ := hs
 unfold spec_l2bits.b0
 refine Ok.ite (fun hc => ?_) fun _ => Ok.out ?_
 · have hc' : s.2.1 < 8 := by simpa using hc
   refine Ok.bind (l1Byte_ok (l1Cur.mk c.b s.2.2.1 s.2.2.2) k4) fun r hr => Ok.ret ?_
   show (_ ∧ _ ∧ _ ∧ _) ∧ _
   simp only []
   rw [w64 (n := s.2.1 + 1) (by omega) (by omega)]
   exact ⟨⟨u64w _, by omega, by omega, hr.2.2⟩, by omega⟩
 · refine Ok.bind (l1Below_ok (l1Cur.mk c.b s.2.2.1 s.2.2.2) 9 k4 (by omega)) fun r hr => ?_
   refine Ok.ite (fun _ => Ok.bind (l1Below_ok (l1Cur.mk c.b r.2.i r.2.h) 2 hr.2.2 (by omega)) fun p hp => Ok.bind (l1Below_ok (l1Cur.mk c.b p.2.i p.2.h) 3 hp.2.2 (by omega)) fun q hq => Ok.ret ⟨u64w _, hq.2.2⟩) fun _ => ?_
   refine Ok.ite (fun _ => Ok.bind (l1Below_ok (l1Cur.mk c.b r.2.i r.2.h) 2 hr.2.2 (by omega)) fun p hp => Ok.bind (l1Below_ok (l1Cur.mk c.b p.2.i p.2.h) 3 hp.2.2 (by omega)) fun q hq => Ok.ret ⟨u64w _, hq.2.2⟩) fun _ => ?_
   refine Ok.ite (fun _ => Ok.bind (l1Below_ok (l1Cur.mk c.b r.2.i r.2.h) 2 hr.2.2 (by omega)) fun p hp => Ok.ret ⟨u64w _, hp.2.2⟩) fun _ => ?_
   refine Ok.ite (fun _ => Ok.bind (l1Below_ok (l1Cur.mk c.b r.2.i r.2.h) 2 hr.2.2 (by omega)) fun p hp => Ok.bind (l1Below_ok (l1Cur.mk c.b p.2.i p.2.h) 3 hp.2.2 (by omega)) fun q hq => Ok.ret ⟨u64w _, hq.2.2⟩) fun _ => ?_
   refine Ok.ite (fun _ => Ok.bind (l1Below_ok (l1Cur.mk c.b r.2.i r.2.h) 12 hr.2.2 (by omega)) fun p hp => Ok.bind (l1Below_ok (l1Cur.mk c.b p.2.i p.2.h) 16 hp.2.2 (by omega)) fun q hq => Ok.ret ⟨u64w _, hq.2.2⟩) fun _ => ?_
   refine Ok.ite (fun _ => Ok.bind (l1Below_ok (l1Cur.mk c.b r.2.i r.2.h) 21 hr.2.2 (by omega)) fun p hp => ?_) fun _ => Ok.ret ⟨k1, hr.2.2⟩
   obtain ⟨p1, p2, p3⟩ := hp
   have hk : okF (FloatKind.f64.nearest (IntKind.wrap .i64 (p.1 - 10))) := by
    rw [w64 (by omega) (by omega)]
    have key : ∀ n : Fin 21, (let x := FloatKind.f64.nearest (((n : Nat) : Int) - 10); (cn x == x && decide (x < 18446744073709551616))) = true := by decide +kernel
    have h2 := key ⟨p.1.toNat, by omega⟩
    have e : ((p.1.toNat : Nat) : Int) - 10 = p.1 - 10 := by omega
    simp only [e, Bool.and_eq_true, beq_iff_eq, decide_eq_true_eq] at h2
    exact h2
   refine Ok.bind (Ok.eq (spec_FloatBits _ hk) (P := fun v => InK .u64 v) ⟨by show (0 : Int) ≤ _; omega, by have := hk.2; show _ ≤ (18446744073709551615 : Int); omega⟩) fun v hv => Ok.ret ⟨hv, p3⟩
theorem l2float_ok (c : l1Cur) (h : Ci c.b c.i) : Ok (spec_l2float.f c) fun r => okF r.1 ∧ Ci c.b r.2.i := by
 unfold spec_l2float.f
 refine Ok.bind (l2bits_ok c h) fun r hr => ?_
 obtain ⟨e, hl⟩ := u64_of hr.1
 rw [e]
 exact Ok.bind (Ok.eq (spec_FloatOf _ hl) (P := okF) (okF_cn _ hl)) fun v hv => Ok.ret ⟨hv, hr.2⟩
def okI (a : Item) : Prop := ok_Item a ∧ a.T.length ≤ 40
def okJ (a : Item) : Prop := ok_Item a ∧ a.T.length ≤ 100
theorem okI0 : okI I0 := ⟨ok_I0, by decide⟩
theorem okI_mk {k n : Int} {f : Nat} {t : List Int} (hk : InK .i64 k) (hn : InK .i64 n) (hf : okF f) (ht : ∀ x ∈ t, InK .u8 x) (hl : t.length ≤ 40) : okI (Item.mk k n f t) := ⟨⟨hk, hn, hf, by show t.length ≤ maxLen; simp only [maxLen]; omega, ht⟩, hl⟩
theorem ItemClean_ok (a : Item) (h : okI a) : Ok (spec_ItemClean.f a) okI := by
 unfold spec_ItemClean.f
 obtain ⟨⟨h1, h2, h3, h4, h5⟩, h6⟩ := h
 refine Ok.bind (Ok.eq (spec_ItemOk a h3) trivial (P := fun _ => True)) fun r _ => Ok.ite (fun _ => Ok.ret okI0) fun _ => ?_
 refine Ok.bind (P := fun b => okI b) ?_ fun b hb => ?_
 · unfold spec_l3copy.f
   refine Ok.grd (by simp only [Lim, List.length_nil]; omega) (Ok.ret ?_)
   exact okI_mk h1 h2 h3 h5 h6
 · refine Ok.bind (P := okF) (Ok.ite (fun _ => Ok.ret okF_0) fun _ => Ok.ret hb.1.2.2.1) fun f hf => Ok.ret ?_
   exact okI_mk hb.1.1 hb.1.2.1 hf hb.1.2.2.2.2 hb.2
theorem nu8 : ∀ x ∈ ([] : List Int), InK .u8 x := fun x hx => by cases hx
theorem l3key_ok (c : l1Cur) (h : Ci c.b c.i) : Ok (spec_l3key.f c) fun r => okI r.1 ∧ Ci c.b r.2.i := by
 unfold spec_l3key.f
 refine Ok.bind (l1Below_ok c 6 h (by omega)) fun r hr => ?_
 have k := hr.2.2
 refine Ok.ite (fun _ => ?_) fun _ => Ok.ite (fun _ => ?_) fun _ => ?_
 · refine Ok.bind (l1Below_ok (l1Cur.mk c.b r.2.i r.2.h) 3 k (by omega)) fun p hp => Ok.ret ⟨okI_mk (ik 3) (ik 0) okF_0 (fun x hx => ?_) (by simp), hp.2.2⟩
   rw [List.mem_singleton.1 hx]; exact u8w _
 · refine Ok.bind (l1Below_ok (l1Cur.mk c.b r.2.i r.2.h) 5 k (by omega)) fun p hp => ?_
   obtain ⟨p1, p2, p3⟩ := hp
   refine Ok.bind (ItemClean_ok _ (okI_mk (ik 2) (ik 0) ?_ nu8 (by simp))) fun b hb => Ok.ret ⟨hb, p3⟩
   rw [w64 (by omega) (by omega)]
   have key : ∀ n : Fin 5, (let x := far .quo (FloatKind.f64.nearest (((n : Nat) : Int) - 2)) (4611686018427387904 : Nat); (cn x == x && decide (x < 18446744073709551616))) = true := by decide +kernel
   have h2 := key ⟨p.1.toNat, by omega⟩
   have e : ((p.1.toNat : Nat) : Int) - 2 = p.1 - 2 := by omega
   simp only [e, Bool.and_eq_true, beq_iff_eq, decide_eq_true_eq] at h2
   exact h2
 · refine Ok.sel (R := fun y => Ci c.b y.1) (Ok.ite (fun _ => ?_) fun _ => ?_) fun y hy => ?_
   · refine Ok.bind (l1Once_ok (l1Cur.mk c.b r.2.i r.2.h) 3 k (by omega)) fun p hp => Ok.ite (fun _ => ?_) fun _ => Ok.ret hp
     exact Ok.bind (l2float_ok (l1Cur.mk c.b p.2.i p.2.h) hp) fun q hq => Ok.bind (ItemClean_ok _ (okI_mk (ik 2) (ik 0) hq.1 nu8 (by simp))) fun b hb => Ok.ret ⟨hb, hq.2⟩
   · refine Ok.sel (R := fun y => Ci c.b y.1) (Ok.ite (fun _ => ?_) fun _ => Ok.ret k) fun y hy => Ok.ret hy
     refine Ok.bind (l1Once_ok (l1Cur.mk c.b r.2.i r.2.h) 4 k (by omega)) fun p hp => Ok.ite (fun _ => ?_) fun _ => Ok.ret hp
     exact Ok.bind (l1some_ok (l1Cur.mk c.b p.2.i p.2.h) 40 hp (by omega) (by omega)) fun q hq => Ok.ret ⟨okI_mk (ik 3) (ik 0) okF_0 hq.1.2 (by have := hq.1.1; omega), hq.2⟩
   · exact Ok.bind (l1Below_ok (l1Cur.mk c.b y.1 y.2) 6 hy (by omega)) fun p hp => Ok.ret ⟨okI_mk (ik 1) (i64w _) okF_0 nu8 (by simp), hp.2.2⟩
theorem l3value_ok (c : l1Cur) (h : Ci c.b c.i) : Ok (spec_l3value.f c) fun r => okI r.1 ∧ Ci c.b r.2.i := by
 unfold spec_l3value.f
 refine Ok.bind (l1Below_ok c 5 h (by omega)) fun r hr => ?_
 have k := hr.2.2
 refine Ok.ite (fun _ => ?_) fun _ => Ok.ite (fun _ => ?_) fun _ => Ok.ite (fun _ => ?_) fun _ => ?_
 · exact Ok.bind (l1some_ok (l1Cur.mk c.b r.2.i r.2.h) 8 k (by omega) (by omega)) fun q hq => Ok.ret ⟨okI_mk (ik 3) (ik 0) okF_0 hq.1.2 (by have := hq.1.1; omega), hq.2⟩
 · exact Ok.bind (l2float_ok (l1Cur.mk c.b r.2.i r.2.h) k) fun q hq => Ok.ret ⟨okI_mk (ik 2) (ik 0) hq.1 nu8 (by simp), hq.2⟩
 · refine Ok.bind (l1Below_ok (l1Cur.mk c.b r.2.i r.2.h) 64 k (by omega)) fun p hp => Ok.ret ⟨okI_mk (ik 2) (ik 0) ?_ nu8 (by simp), hp.2.2⟩
   obtain ⟨p1, p2, p3⟩ := hp
   rw [w64 (by omega) (by omega)]
   have key : ∀ n : Fin 64, (let x := far .quo (FloatKind.f64.nearest (((n : Nat) : Int) - 32)) (4616189618054758400 : Nat); (cn x == x && decide (x < 18446744073709551616))) = true := by decide +kernel
   have h2 := key ⟨p.1.toNat, by omega⟩
   have e : ((p.1.toNat : Nat) : Int) - 32 = p.1 - 32 := by omega
   simp only [e, Bool.and_eq_true, beq_iff_eq, decide_eq_true_eq] at h2
   exact h2
 · refine Ok.sel (R := fun y => Ci c.b y.1) (Ok.ite (fun _ => ?_) fun _ => Ok.ret k) fun y hy => ?_
   · refine Ok.bind (l1Once_ok (l1Cur.mk c.b r.2.i r.2.h) 5 k (by omega)) fun p hp => Ok.ite (fun _ => ?_) fun _ => Ok.ret hp
     exact Ok.bind (l1some_ok (l1Cur.mk c.b p.2.i p.2.h) 40 hp (by omega) (by omega)) fun q hq => Ok.ret ⟨okI_mk (ik 3) (ik 0) okF_0 hq.1.2 (by have := hq.1.1; omega), hq.2⟩
   · exact Ok.bind (l1number_ok (l1Cur.mk c.b y.1 y.2) hy) fun p hp => Ok.ret ⟨okI_mk (ik 1) hp.1 okF_0 nu8 (by simp), hp.2⟩
theorem l3any_ok (c : l1Cur) (h : Ci c.b c.i) : Ok (spec_l3any.f c) fun r => okJ r.1 ∧ Ci c.b r.2.i := by
 unfold spec_l3any.f
 refine Ok.bind (l3value_ok c h) fun v hv => Ok.bind (l1Once_ok (l1Cur.mk c.b v.2.i v.2.h) 2 hv.2 (by omega)) fun o ho => ?_
 refine Ok.bind (P := fun y => Ci c.b y.1 ∧ okI (Item.mk y.2.2.1 y.2.2.2.1 y.2.2.2.2.1 y.2.2.2.2.2)) (Ok.ite (fun _ => Ok.bind (l3key_ok (l1Cur.mk c.b o.2.i o.2.h) ho) fun q hq => Ok.ret ⟨hq.2, hq.1⟩) fun _ => Ok.ret ⟨ho, hv.1⟩) fun y hy => ?_
 obtain ⟨hy0, ⟨y1, y2, y3, y4, y5⟩, y6⟩ := hy
 simp only [] at y1 y2 y3 y4 y5 y6
 refine Ok.bind (l1Below_ok (l1Cur.mk c.b y.1 y.2.1) 14 hy0 (by omega)) fun p hp => ?_
 obtain ⟨p1, p2, p3⟩ := hp
 refine Ok.bind (P := fun y => Ci c.b y.1 ∧ InK .i64 y.2.2.1 ∧ InK .i64 y.2.2.2.1 ∧ okF y.2.2.2.2.1 ∧ (∀ x ∈ y.2.2.2.2.2, InK .u8 x) ∧ y.2.2.2.2.2.length ≤ 100) ?_ fun y hy => Ok.ret ⟨⟨⟨hy.2.1, hy.2.2.1, hy.2.2.2.1, by have := hy.2.2.2.2.2; show y.2.2.2.2.2.length ≤ maxLen; simp only [maxLen]; omega, hy.2.2.2.2.1⟩, hy.2.2.2.2.2⟩, hy.1⟩
 have h100 : y.2.2.2.2.2.length ≤ 100 := by omega
 refine Ok.ite (fun _ => Ok.bind (l1Below_ok (l1Cur.mk c.b p.2.i p.2.h) 7 p3 (by omega)) fun q hq => Ok.ret ⟨hq.2.2, i64w _, y2, y3, y5, h100⟩) fun _ => ?_
 refine Ok.bind (P := fun y => Ci c.b y.1 ∧ InK .i64 y.2.2.1 ∧ InK .i64 y.2.2.2.1 ∧ okF y.2.2.2.2.1 ∧ (∀ x ∈ y.2.2.2.2.2, InK .u8 x) ∧ y.2.2.2.2.2.length ≤ 100) ?_ fun y hy => Ok.ret hy
 refine Ok.ite (fun _ => Ok.ret ⟨p3, y1, i64w _, y3, y5, h100⟩) fun _ => ?_
 refine Ok.bind (P := fun y => Ci c.b y.1 ∧ InK .i64 y.2.2.1 ∧ InK .i64 y.2.2.2.1 ∧ okF y.2.2.2.2.1 ∧ (∀ x ∈ y.2.2.2.2.2, InK .u8 x) ∧ y.2.2.2.2.2.length ≤ 100) ?_ fun y hy => Ok.ret hy
 refine Ok.ite (fun _ => Ok.bind (l2float_ok (l1Cur.mk c.b p.2.i p.2.h) p3) fun q hq => Ok.ret ⟨hq.2, y1, y2, hq.1, y5, h100⟩) fun _ => ?_
 refine Ok.bind (P := fun y => Ci c.b y.1 ∧ InK .i64 y.2.2.1 ∧ InK .i64 y.2.2.2.1 ∧ okF y.2.2.2.2.1 ∧ (∀ x ∈ y.2.2.2.2.2, InK .u8 x) ∧ y.2.2.2.2.2.length ≤ 100) ?_ fun y hy => Ok.ret hy
 refine Ok.ite (fun _ => Ok.bind (l1some_ok (l1Cur.mk c.b p.2.i p.2.h) 3 p3 (by omega) (by omega)) fun q hq => ?_) fun _ => ?_
 · obtain ⟨⟨q1, q2⟩, q3⟩ := hq
   refine Ok.grd (by simp only [Lim]; omega) (Ok.ret ⟨q3, y1, y2, y3, fun x hx => ?_, by simp; omega⟩)
   rcases List.mem_append.1 hx with hx | hx
   · exact y5 x hx
   · exact q2 x hx
 refine Ok.bind (P := fun y => Ci c.b y.1 ∧ InK .i64 y.2.2.1 ∧ InK .i64 y.2.2.2.1 ∧ okF y.2.2.2.2.1 ∧ (∀ x ∈ y.2.2.2.2.2, InK .u8 x) ∧ y.2.2.2.2.2.length ≤ 100) ?_ fun y hy => Ok.ret hy
 refine Ok.ite (fun _ => ?_) fun _ => ?_
 · refine Ok.iter (fun s => Ci c.b s.1 ∧ (∀ x ∈ s.2.2, InK .u8 x) ∧ s.2.2.length ≤ 41) (fun s => 41 - s.2.2.length) (fun s hs => ?_) _ ⟨p3, y5, by show y.2.2.2.2.2.length ≤ 41; omega⟩
   obtain ⟨s1, s2, s3⟩ := hs
   unfold spec_l3any.b0
   refine Ok.bind (l1Below_ok (l1Cur.mk c.b s.1 s.2.1) 2 s1 (by omega)) fun q hq => ?_
   obtain ⟨q1, q2, q3⟩ := hq
   rw [w64 (by omega) (by omega)]
   refine Ok.ite (fun hc => ?_) fun _ => Ok.out (Ok.ret ⟨q3, ik 3, ik 0, okF_0, s2, by show s.2.2.length ≤ 100; omega⟩)
   have hc' : (s.2.2.length : Int) < 40 + q.1 := by simpa using hc
   refine Ok.grd (by simp only [Lim, List.length_singleton]; omega) (Ok.ret ⟨⟨q3, fun x hx => ?_, by simp; omega⟩, by simp; omega⟩)
   rcases List.mem_append.1 hx with hx | hx
   · exact s2 x hx
   · rw [List.mem_singleton.1 hx]; exact u8_ok (by decide) (by decide)
 · refine Ok.bind (P := fun y => InK .i64 y.1 ∧ InK .i64 y.2.1 ∧ okF y.2.2.1 ∧ (∀ x ∈ y.2.2.2, InK .u8 x) ∧ y.2.2.2.length ≤ 100) (Ok.ite (fun _ => Ok.ret ⟨ik 2, ik 0, ⟨by decide +kernel, by decide +kernel⟩, nu8, by simp⟩) fun _ => Ok.ret ⟨y1, y2, y3, y5, h100⟩) fun z hz => Ok.ret ⟨p3, hz⟩
end Go.Proofs.Ytcgbhldenkeplaa
set_option linter.unusedVariables false
set_option linter.unusedSimpArgs false
set_option linter.unusedSectionVars false
namespace Go.Proofs.Ytcgbhldenkeplaa
open Go V Ieee
theorem at_al {α : Type} [Inhabited α] {l : List α} {P : α → Prop} (h : ∀ d ∈ l, P d) {i : Int} (hi : 0 ≤ i ∧ i < (l.length : Int)) : P (at_ l i) := by
 rw [at_eq _ _ (by omega)]; exact h _ (List.getElem_mem _)
theorem ItemCompare_ok (a b : Item) (ha : ok_Item a) (hb : ok_Item b) : Ok (spec_ItemCompare.f a b) fun _ => True := by
 cases va : IOK a with
 | false =>
  unfold spec_ItemCompare.f
  rw [spec_ItemOk a ha.2.2.1, Option.bind_some, va]
  exact Ok.ret trivial
 | true =>
  cases vb : IOK b with
  | false =>
   unfold spec_ItemCompare.f
   rw [spec_ItemOk a ha.2.2.1, Option.bind_some, va, spec_ItemOk b hb.2.2.1, Option.bind_some, vb]
   exact Ok.ret trivial
  | true => exact Ok.eq (spec_ItemCompare a b ha hb va vb) trivial
theorem maxl {n : Nat} (h : n ≤ 1000) : n ≤ maxLen := by simp only [maxLen]; omega
end Go.Proofs.Ytcgbhldenkeplaa
set_option linter.unusedVariables false
set_option linter.unusedSimpArgs false
set_option linter.unusedSectionVars false
namespace Go.Proofs.Ytcgbhldenkeplaa
open Go V Ieee
def okTt (t : Track) : Prop := ok_Track t ∧ t.Reads.length ≤ 8 ∧ t.Writes.length ≤ 210 ∧ (∀ s ∈ t.Reads, s.From.T.length ≤ 100 ∧ s.To.T.length ≤ 100) ∧ ∀ w ∈ t.Writes, w.T.length ≤ 100
def okT6 (t : Track) : Prop := okTt t ∧ t.Reads.length ≤ 6 ∧ t.Writes.length ≤ 200
def okSs (s : Span) : Prop := ok_Span s ∧ s.From.T.length ≤ 100 ∧ s.To.T.length ≤ 100
theorem okTt.k {t : Track} (h : okTt t) : okTk t := by
 obtain ⟨h1, h2, h3, h4, h5⟩ := h
 refine ⟨h1, ?_⟩
 unfold lgT zT
 have k1 := wsum_bd zSp 200 t.Reads fun s hs => by have := h4 s hs; unfold zSp; omega
 have k2 := wsum_bd zI 100 t.Writes fun s hs => by have := h5 s hs; unfold zI; omega
 omega
theorem okT6.k {t : Track} (h : okT6 t) : okTk t := h.1.k
theorem ur_mem (l : List Track) (own : Nat) (hit : Track → Bool) : ∀ k, k ≤ l.length → ∀ t ∈ URr l own hit k, ∃ t0 ∈ l, t = t0 ∨ t = rIn t0 := by
 intro k
 induction k with
 | zero => intro _ t ht; exact ⟨t, ht, .inl rfl⟩
 | succ k ih =>
  intro hk t ht
  rw [ur_succr] at ht
  split at ht
  · rcases List.mem_or_eq_of_mem_set ht with ht | ht
    · exact ih (by omega) t ht
    · exact ⟨at_ l (k : Int), by rw [at_nat _ k (by omega)]; exact List.getElem_mem _, .inr ht⟩
  · exact ih (by omega) t ht
theorem ur_memw (l : List Track) (own : Nat) (hit : Track → Bool) : ∀ k, k ≤ l.length → ∀ t ∈ URw l own hit k, ∃ t0 ∈ l, t = t0 ∨ t = rOut t0 := by
 intro k
 induction k with
 | zero => intro _ t ht; exact ⟨t, ht, .inl rfl⟩
 | succ k ih =>
  intro hk t ht
  rw [ur_succw] at ht
  split at ht
  · rcases List.mem_or_eq_of_mem_set ht with ht | ht
    · exact ih (by omega) t ht
    · exact ⟨at_ l (k : Int), by rw [at_nat _ k (by omega)]; exact List.getElem_mem _, .inr ht⟩
  · exact ih (by omega) t ht
theorem erd_ok (l : List Track) (xid : Int) (s : Span) (h : ∀ t ∈ l, okT6 t) (hl : l.length ≤ 64) (hs : okSs s) : (∀ t ∈ (ERd l xid s).1, okT6 t) ∧ (ERd l xid s).1.length ≤ 64 := by
 unfold ERd
 split
 · exact ⟨fun t ht => (by cases ht), by simp⟩
 · rename_i hA
   simp only [Bool.or_eq_true, decide_eq_true_eq, not_or] at hA
   obtain ⟨own, ho, hlt⟩ := act_lt l xid hA.1.2
   rw [ho, Int.toNat_natCast]
   have hown : okT6 (at_ l (own : Int)) := by rw [at_nat _ own hlt]; exact h _ (List.getElem_mem _)
   refine ⟨fun t ht => ?_, by simp only [List.length_set, ur_lenr]; exact hl⟩
   rcases List.mem_or_eq_of_mem_set ht with ht | ht
   · obtain ⟨t0, h0, rfl | rfl⟩ := ur_mem _ _ _ _ (Nat.le_refl _) t ht
     · exact h _ h0
     · exact h t0 h0
   · rw [ht]
     obtain ⟨⟨⟨k1, k2, k3, k4, k5, k6, k7⟩, k8, k9, k10, k11⟩, k12, k13⟩ := hown
     have hr : (RDp (at_ l (own : Int)) s).2.length ≤ 6 ∧ ∀ x ∈ (RDp (at_ l (own : Int)) s).2, okSs x := by
      unfold RDp
      split
      · exact ⟨k12, fun x hx => ⟨k5.2 x hx, k10 x hx⟩⟩
      · split
        · exact ⟨by simp, fun x hx => (by cases hx)⟩
        · rename_i h6
          simp only [beq_iff_eq] at h6
          refine ⟨by simp only [List.length_append, List.length_singleton]; omega, fun x hx => ?_⟩
          rcases List.mem_append.1 hx with hx | hx
          · exact ⟨k5.2 x hx, k10 x hx⟩
          · rw [List.mem_singleton.1 hx]; exact hs
     refine ⟨⟨⟨k1, k2, k3, trivial, ⟨?_, fun x hx => (hr.2 x hx).1⟩, k6, trivial, trivial⟩, ?_, k9, fun x hx => (hr.2 x hx).2, k11⟩, hr.1, k13⟩
     · have := hr.1; show (RDp (at_ l (own : Int)) s).2.length ≤ maxLen; simp only [maxLen]; omega
     · have := hr.1; show (RDp (at_ l (own : Int)) s).2.length ≤ 8; omega
theorem ewr_ok (l : List Track) (xid : Int) (key : Item) (h : ∀ t ∈ l, okT6 t) (hl : l.length ≤ 64) (hs : ok_Item key) (hs2 : key.T.length ≤ 100) : (∀ t ∈ (EWr l xid key).1, okT6 t) ∧ (EWr l xid key).1.length ≤ 64 := by
 unfold EWr
 split
 · exact ⟨fun t ht => (by cases ht), by simp⟩
 · rename_i hA
   simp only [Bool.or_eq_true, decide_eq_true_eq, not_or] at hA
   obtain ⟨own, ho, hlt⟩ := act_lt l xid hA.1.2
   rw [ho, Int.toNat_natCast]
   simp only []
   split
   · exact ⟨fun t ht => (by cases ht), by simp⟩
   · rename_i hw
     simp only [decide_eq_true_eq] at hw
     have hown : okT6 (at_ l (own : Int)) := by rw [at_nat _ own hlt]; exact h _ (List.getElem_mem _)
     refine ⟨fun t ht => ?_, by simp only [List.length_set, ur_lenw]; exact hl⟩
     rcases List.mem_or_eq_of_mem_set ht with ht | ht
     · obtain ⟨t0, h0, rfl | rfl⟩ := ur_memw _ _ _ _ (Nat.le_refl _) t ht
       · exact h _ h0
       · exact h t0 h0
     · rw [ht]
       obtain ⟨⟨⟨k1, k2, k3, k4, k5, k6, k7⟩, k8, k9, k10, k11⟩, k12, k13⟩ := hown
       have hr : ∀ x ∈ (WTT (at_ l (own : Int)) key).Writes, ok_Item x ∧ x.T.length ≤ 100 := by
        unfold WTT
        intro x hx
        simp only [] at hx
        split at hx
        · exact ⟨k6.2 x hx, k11 x hx⟩
        · rcases List.mem_append.1 hx with hx | hx
          · exact ⟨k6.2 x hx, k11 x hx⟩
          · rw [List.mem_singleton.1 hx]; exact ⟨hs, hs2⟩
       have hr2 : (WTT (at_ l (own : Int)) key).Writes.length ≤ 200 := by omega
       refine ⟨⟨⟨k1, k2, k3, trivial, k5, ⟨?_, fun x hx => (hr x hx).1⟩, trivial, trivial⟩, k8, ?_, k10, fun x hx => (hr x hx).2⟩, k12, hr2⟩
       · show (WTT (at_ l (own : Int)) key).Writes.length ≤ maxLen; simp only [maxLen]; omega
       · show (WTT (at_ l (own : Int)) key).Writes.length ≤ 210; omega
theorem eend_ok (l : List Track) (xid now : Int) (done : Bool) (h : ∀ t ∈ l, okT6 t) (hl : l.length ≤ 64) (hn : InK .i64 now) : (∀ t ∈ (EEnd l xid now done).1, okT6 t) ∧ (EEnd l xid now done).1.length ≤ 64 := by
 unfold EEnd
 split
 · exact ⟨fun t ht => (by cases ht), by simp⟩
 · rename_i hA
   simp only [Bool.or_eq_true, decide_eq_true_eq, not_or] at hA
   obtain ⟨own, ho, hlt⟩ := act_lt l xid hA.1.2
   rw [ho, Int.toNat_natCast]
   split
   · exact ⟨h, hl⟩
   · refine ⟨fun t ht => ?_, Nat.le_trans (List.length_filter_le _ _) (Nat.le_trans (lft_len _ _ _ _) hl)⟩
     have ht := (List.mem_filter.1 ht).1
     unfold LFT at ht
     split at ht
     · rcases List.mem_or_eq_of_mem_set ht with ht | ht
       · exact h _ ht
       · rw [ht]
         have hown : okT6 (at_ l (own : Int)) := by rw [at_nat _ own hlt]; exact h _ (List.getElem_mem _)
         obtain ⟨⟨⟨k1, k2, k3, k4, k5, k6, k7⟩, k8, k9, k10, k11⟩, k12, k13⟩ := hown
         exact ⟨⟨⟨k1, k2, hn, trivial, k5, k6, trivial, trivial⟩, k8, k9, k10, k11⟩, k12, k13⟩
     · exact h _ (List.mem_of_mem_eraseIdx ht)
theorem okT0 {x b : Int} (hx : InK .i64 x) (hb : InK .i64 b) : okT6 (Track.mk x b 0 false [] [] false false) :=
 ⟨⟨⟨hx, hb, ik 0, trivial, ⟨maxl (by simp), fun y hy => (by cases hy)⟩, ⟨maxl (by simp), fun y hy => (by cases hy)⟩, trivial, trivial⟩, by simp, by simp, fun y hy => (by cases hy), fun y hy => (by cases hy)⟩, by simp, by simp⟩
theorem ebegin_ok (l : List Track) (xid now : Int) (h : ∀ t ∈ l, okT6 t) (hl : l.length ≤ 64) (hx : InK .i64 xid) (hn : InK .i64 now) : Ok (spec_EdgeBegin.f l xid now) fun r => (∀ t ∈ r.1, okT6 t) ∧ r.1.length ≤ 64 := by
 unfold spec_EdgeBegin.f
 have hk : ∀ t ∈ l, okTk t := fun t ht => (h t ht).k
 rw [spec_l13copy l (by omega) fun t ht => (hk t ht).2, Option.bind_some]
 have hk2 : ∀ t ∈ l ++ [Track.mk xid now 0 false [] [] false false], okT6 t := fun t ht => by
  rcases List.mem_append.1 ht with ht | ht
  · exact h t ht
  · rw [List.mem_singleton.1 ht]; exact okT0 hx hn
 refine Ok.grd (by simp only [Lim, List.length_singleton]; omega) ?_
 rw [spec_TracksOk l hk, Option.bind_some, spec_TracksOk _ fun t ht => (hk2 t ht).k]
 cases h1 : TKK l with
 | false => exact Ok.ret ⟨fun t ht => (by cases ht), by simp⟩
 | true =>
  cases h2 : TKK (l ++ [Track.mk xid now 0 false [] [] false false]) with
  | false => exact Ok.ret ⟨fun t ht => (by cases ht), by simp⟩
  | true => exact Ok.ret ⟨hk2, (tkk_len h2).1⟩
theorem l13span_ok2 (c : l1Cur) (h : Ci c.b c.i) : Ok (spec_l13span.f c) fun r => okSs r.1 ∧ Ci c.b r.2.i := by
 unfold spec_l13span.f
 refine Ok.bind (l3key_ok c h) fun p hp => Ok.bind (l3key_ok (l1Cur.mk c.b p.2.i p.2.h) hp.2) fun q hq => Ok.bind (l1Once_ok (l1Cur.mk c.b q.2.i q.2.h) 2 hq.2 (by omega)) fun o ho => ?_
 refine Ok.bind (P := fun y => okI (Item.mk y.1 y.2.1 y.2.2.1 y.2.2.2)) (Ok.ite (fun _ => ?_) fun _ => Ok.ret hq.1) fun y hy => ?_
 · refine Ok.bind (P := okI) ?_ fun b hb => Ok.ret hb
   have h0 := hp.1
   obtain ⟨⟨h1, h2, h3, h4, h5⟩, h6⟩ := hp.1
   unfold spec_l3copy.f
   exact Ok.grd (by simp only [Lim, List.length_nil]; omega) (Ok.ret h0)
 · refine Ok.bind (ItemCompare_ok _ _ hp.1.1 hy.1) fun r _ => ?_
   refine Ok.bind (P := fun y => Ci c.b y.2.1) (Ok.ite (fun _ => Ok.bind (l1Once_ok (l1Cur.mk c.b o.2.i o.2.h) 12 ho (by omega)) fun z hz => Ok.ret hz) fun _ => Ok.ret ho) fun z hz => ?_
   refine Ok.bind (P := fun (u : Int × Int × Nat × List Int × Int × Int × Nat × List Int) => okI (Item.mk u.1 u.2.1 u.2.2.1 u.2.2.2.1) ∧ okI (Item.mk u.2.2.2.2.1 u.2.2.2.2.2.1 u.2.2.2.2.2.2.1 u.2.2.2.2.2.2.2)) (Ok.ite (fun _ => Ok.ret ⟨hy, hp.1⟩) fun _ => Ok.ret ⟨hp.1, hy⟩) fun u hu => Ok.ret ⟨⟨⟨hu.1.1, hu.2.1⟩, by have := hu.1.2; simp only [] at this ⊢; omega, by have := hu.2.2; simp only [] at this ⊢; omega⟩, hz⟩
end Go.Proofs.Ytcgbhldenkeplaa
set_option linter.unusedVariables false
set_option linter.unusedSimpArgs false
set_option linter.unusedSectionVars false
namespace Go.Proofs.Ytcgbhldenkeplaa
open Go V Ieee
theorem i64r {n : Int} (h0 : 0 ≤ n) (h1 : n ≤ 1000000) : InK .i64 n := i64_ok (by omega) (by omega)
def okL (r : List Track) : Prop := (∀ t ∈ r, okT6 t) ∧ r.length ≤ 64
theorem l13tracks_ok (c : l1Cur) (m : Int) (h : Ci c.b c.i) (h0 : 0 ≤ m) (hm : m ≤ 1000) : Ok (spec_l13tracks.f c m) fun r => okL r.1 ∧ Ci c.b r.2.2.i ∧ InK .i64 r.2.1 := by
 unfold spec_l13tracks.f
 rw [w64 (by omega) (by omega)]
 refine Ok.bind (l1Below_ok c _ h (by omega)) fun n hn => ?_
 obtain ⟨n1, n2, n3⟩ := hn
 refine Ok.iter (fun s => okL s.1 ∧ (1 ≤ s.2.1 ∧ s.2.1 + s.2.2.2.1 ≤ 2000) ∧ (1 ≤ s.2.2.1 ∧ s.2.2.1 + s.2.2.2.1 ≤ 2000) ∧ 0 ≤ s.2.2.2.1 ∧ Ci c.b s.2.2.2.2.1) (fun s => s.2.2.2.1.toNat) (fun s hs => ?_) _ ⟨⟨fun t ht => (by cases ht), by simp⟩, ⟨by show (1 : Int) ≤ 1; omega, by show (1 : Int) + n.1 ≤ 2000; omega⟩, ⟨by show (1 : Int) ≤ 1; omega, by show (1 : Int) + n.1 ≤ 2000; omega⟩, n1, n3⟩
 obtain ⟨l, now, next, i, ci, ch⟩ := s
 obtain ⟨hL, ⟨hn1, hn2⟩, ⟨hx1, hx2⟩, hi, hC⟩ := hs
 simp only [] at hL hn1 hn2 hx1 hx2 hi hC
 unfold spec_l13tracks.b0
 simp only []
 refine Ok.ite (fun hc => ?_) fun _ => Ok.out (Ok.ret ⟨hL, hC, i64r (by show 0 ≤ now; omega) (by show now ≤ 1000000; omega)⟩)
 have hc' : i > 0 := by simpa using hc
 refine Ok.bind (l1Below_ok (l1Cur.mk c.b ci ch) next hC (by omega)) fun x hx => ?_
 obtain ⟨x1, x2, x3⟩ := hx
 refine Ok.bind (l1Below_ok (l1Cur.mk c.b x.2.i x.2.h) 7 x3 (by omega)) fun w hw => ?_
 obtain ⟨w1, w2, w3⟩ := hw
 have hk : ∀ t ∈ l, okTk t := fun t ht => (hL.1 t ht).k
 have hl : l.length ≤ 1048576 := by have := hL.2; omega
 refine Ok.bind (P := fun _ => True) (Ok.ite (fun _ => Ok.ret trivial) fun _ => Ok.ret trivial) fun y21 _ => ?_
 refine Ok.bind (P := fun (y : Int × Int × List Track × Int × Int × Int) => okL y.2.2.1 ∧ (1 ≤ y.1 ∧ y.1 ≤ now + 1) ∧ (1 ≤ y.2.1 ∧ y.2.1 ≤ next + 1) ∧ Ci c.b y.2.2.2.2.1) (Ok.ite (fun _ => ?_) fun _ => ?_) fun y hy => ?_
 · refine Ok.bind (ebegin_ok l next now hL.1 hL.2 (i64r (by omega) (by omega)) (i64r (by omega) (by omega))) fun r hr => ?_
   rw [w64 (n := now + 1) (by omega) (by omega), w64 (n := next + 1) (by omega) (by omega)]
   exact Ok.ret ⟨hr, ⟨by show 1 ≤ now + 1; omega, Int.le_refl _⟩, ⟨by show 1 ≤ next + 1; omega, Int.le_refl _⟩, w3⟩
 · refine Ok.bind (P := fun _ => True) (Ok.ite (fun _ => Ok.ret trivial) fun _ => Ok.ret trivial) fun y38 _ => ?_
   refine Ok.bind (P := fun (y : Int × List Track × Int × Int × Int) => okL y.2.1 ∧ (1 ≤ y.1 ∧ y.1 ≤ now + 1) ∧ Ci c.b y.2.2.2.1) (Ok.ite (fun _ => ?_) fun _ => ?_) fun y hy => Ok.ret ⟨hy.1, hy.2.1, ⟨hx1, by show next ≤ next + 1; omega⟩, hy.2.2⟩
   · refine Ok.bind (l13span_ok2 (l1Cur.mk c.b w.2.i w.2.h) w3) fun s hs => ?_
     rw [spec_EdgeRead l hl hk _ _ hs.1.1 ⟨by show _ ≤ _; have := hs.1.2.1; omega, by show _ ≤ _; have := hs.1.2.2; omega⟩, Option.bind_some]
     exact Ok.ret ⟨erd_ok l _ s.1 hL.1 hL.2 hs.1, ⟨hn1, by show now ≤ now + 1; omega⟩, hs.2⟩
   · refine Ok.bind (P := fun _ => True) (Ok.ite (fun _ => Ok.ret trivial) fun _ => Ok.ret trivial) fun y59 _ => ?_
     refine Ok.bind (P := fun (y : Int × List Track × Int × Int × Int) => okL y.2.1 ∧ (1 ≤ y.1 ∧ y.1 ≤ now + 1) ∧ Ci c.b y.2.2.2.1) (Ok.ite (fun _ => ?_) fun _ => ?_) fun y hy => Ok.ret hy
     · refine Ok.bind (l3key_ok (l1Cur.mk c.b w.2.i w.2.h) w3) fun s hs => ?_
       rw [spec_EdgeWrite l hl hk _ _ hs.1.1 (by show _ ≤ _; have := hs.1.2; omega), Option.bind_some]
       exact Ok.ret ⟨ewr_ok l _ s.1 hL.1 hL.2 hs.1.1 (by have := hs.1.2; omega), ⟨hn1, by show now ≤ now + 1; omega⟩, hs.2⟩
     · refine Ok.bind (l1Once_ok (l1Cur.mk c.b w.2.i w.2.h) 4 w3 (by omega)) fun s hs => ?_
       rw [spec_EdgeEnd l hl hk, Option.bind_some, w64 (n := now + 1) (by omega) (by omega)]
       exact Ok.ret ⟨eend_ok l _ _ _ hL.1 hL.2 (i64r (by omega) (by omega)), ⟨by show 1 ≤ now + 1; omega, Int.le_refl _⟩, hs⟩
 · obtain ⟨y1, ⟨y2, y3⟩, ⟨y4, y5⟩, y6⟩ := hy
   refine Ok.bind (P := okL) (Ok.ite (fun _ => Ok.ret y1) fun _ => Ok.ret hL) fun z hz => Ok.ret ?_
   rw [w64 (n := i - 1) (by omega) (by omega)]
   exact ⟨⟨hz, ⟨y2, by show y.1 + (i - 1) ≤ 2000; omega⟩, ⟨y4, by show y.2.1 + (i - 1) ≤ 2000; omega⟩, by show 0 ≤ i - 1; omega, y6⟩, by show (i - 1).toNat < i.toNat; omega⟩
def okB (r : List Track) : Prop := (∀ t ∈ r, okTt t) ∧ r.length ≤ 66
theorem l13bent_ok (c : l1Cur) (l : List Track) (h : Ci c.b c.i) (hL : okL l) : Ok (spec_l13bent.f c l) fun r => okB r.1 ∧ Ci c.b r.2.i := by
 have ho' : ∀ t ∈ l, okTt t := fun t ht => (hL.1 t ht).1
 have hl64 := hL.2
 unfold spec_l13bent.f
 refine Ok.ite (fun _ => Ok.ret ⟨⟨ho', by show l.length ≤ 66; omega⟩, h⟩) fun hne => ?_
 have hpos : 0 < l.length := by
  cases l with
  | nil => simp at hne
  | cons x l => simp
 refine Ok.bind (l1Below_ok c _ h (by omega)) fun i hi => Ok.bind (l1Below_ok (l1Cur.mk c.b i.2.i i.2.h) 14 hi.2.2 (by omega)) fun w hw => ?_
 obtain ⟨i1, i2, i3⟩ := hi
 obtain ⟨w1, w2, w3⟩ := hw
 have gi : 0 ≤ i.1 ∧ i.1 < (l.length : Int) := ⟨i1, i2⟩
 have hown := at_al hL.1 gi
 obtain ⟨⟨⟨k1, k2, k3, k4, k5, k6, k7⟩, k8, k9, k10, k11⟩, k12, k13⟩ := hown
 have hset : ∀ d : Track, okTt d → okB (l.set i.1.toNat d) := fun d hd => ⟨fun x hx => by
  rcases List.mem_or_eq_of_mem_set hx with hx | hx
  · exact ho' x hx
  · rw [hx]; exact hd, by rw [List.length_set]; omega⟩
 refine Ok.bind (P := fun (y : List Track × Int × Int) => okB y.1 ∧ Ci c.b y.2.1) ?_ fun y hy => Ok.ret hy
 refine Ok.ite (fun _ => Ok.bind (l1PickInt_ok (l1Cur.mk c.b w.2.i w.2.h) _ w3 (by simp)) fun p hp => Ok.grd gi (Ok.bind (Ok.ret (P := okB) (hset _ ⟨⟨?_, k2, k3, trivial, k5, k6, trivial, trivial⟩, k8, k9, k10, k11⟩)) fun y hy => Ok.ret ⟨hy, hp.2⟩)) fun _ => ?_
 · have := hp.1
   simp only [List.mem_cons, List.not_mem_nil, or_false] at this
   show InK .i64 p.1
   rcases this with e | e | e | e <;> rw [e] <;> exact ik _
 refine Ok.bind (P := fun (y : List Track × Int × Int) => okB y.1 ∧ Ci c.b y.2.1) ?_ fun y hy => Ok.ret hy
 refine Ok.ite (fun _ => Ok.bind (l1PickInt_ok (l1Cur.mk c.b w.2.i w.2.h) _ w3 (by simp)) fun p hp => Ok.grd gi (Ok.bind (Ok.ret (P := okB) (hset _ ⟨⟨k1, ?_, k3, trivial, k5, k6, trivial, trivial⟩, k8, k9, k10, k11⟩)) fun y hy => Ok.ret ⟨hy, hp.2⟩)) fun _ => ?_
 · have := hp.1
   simp only [List.mem_cons, List.not_mem_nil, or_false] at this
   show InK .i64 p.1
   rcases this with e | e | e <;> rw [e] <;> exact ik _
 refine Ok.bind (P := fun (y : List Track × Int × Int) => okB y.1 ∧ Ci c.b y.2.1) ?_ fun y hy => Ok.ret hy
 refine Ok.ite (fun _ => Ok.grd gi (Ok.grd gi (Ok.bind (l1PickInt_ok (l1Cur.mk c.b w.2.i w.2.h) _ w3 (by simp)) fun p hp => Ok.grd gi (Ok.bind (Ok.ret (P := okB) (hset _ ⟨⟨k1, k2, ?_, trivial, k5, k6, trivial, trivial⟩, k8, k9, k10, k11⟩)) fun y hy => Ok.ret ⟨hy, hp.2⟩)))) fun _ => ?_
 · have := hp.1
   simp only [List.mem_cons, List.not_mem_nil, or_false] at this
   show InK .i64 p.1
   rcases this with e | e | e
   · rw [e]; exact ik _
   · rw [e]; exact k2
   · rw [e]; exact i64w _
 refine Ok.bind (P := fun (y : List Track × Int × Int) => okB y.1 ∧ Ci c.b y.2.1) ?_ fun y hy => Ok.ret hy
 refine Ok.ite (fun _ => Ok.grd gi (Ok.bind (l3key_ok (l1Cur.mk c.b w.2.i w.2.h) w3) fun p hp => Ok.bind (l3any_ok (l1Cur.mk c.b p.2.i p.2.h) hp.2) fun q hq => Ok.grd (by simp only [Lim, List.length_singleton]; omega) (Ok.grd gi (Ok.bind (Ok.ret (P := okB) (hset _ ⟨⟨k1, k2, k3, trivial, ⟨maxl (by simp; omega), fun x hx => ?_⟩, k6, trivial, trivial⟩, by simp; omega, k9, fun x hx => ?_, k11⟩)) fun y hy => Ok.ret ⟨hy, hq.2⟩)))) fun _ => ?_
 · rcases List.mem_append.1 hx with hx | hx
   · exact k5.2 x hx
   · rw [List.mem_singleton.1 hx]; exact ⟨hp.1.1, hq.1.1⟩
 · rcases List.mem_append.1 hx with hx | hx
   · exact k10 x hx
   · rw [List.mem_singleton.1 hx]; exact ⟨by have := hp.1.2; show p.1.T.length ≤ 100; omega, hq.1.2⟩
 refine Ok.bind (P := fun (y : List Track × Int × Int) => okB y.1 ∧ Ci c.b y.2.1) ?_ fun y hy => Ok.ret hy
 refine Ok.ite (fun _ => Ok.grd gi (Ok.bind (l3any_ok (l1Cur.mk c.b w.2.i w.2.h) w3) fun q hq => Ok.grd (by simp only [Lim, List.length_singleton]; omega) (Ok.grd gi (Ok.bind (Ok.ret (P := okB) (hset _ ⟨⟨k1, k2, k3, trivial, k5, ⟨maxl (by simp; omega), fun x hx => ?_⟩, trivial, trivial⟩, k8, by simp; omega, k10, fun x hx => ?_⟩)) fun y hy => Ok.ret ⟨hy, hq.2⟩)))) fun _ => ?_
 · rcases List.mem_append.1 hx with hx | hx
   · exact k6.2 x hx
   · rw [List.mem_singleton.1 hx]; exact hq.1.1
 · rcases List.mem_append.1 hx with hx | hx
   · exact k11 x hx
   · rw [List.mem_singleton.1 hx]; exact hq.1.2
 refine Ok.bind (P := fun (y : List Track × Int × Int) => okB y.1 ∧ Ci c.b y.2.1) ?_ fun y hy => Ok.ret hy
 refine Ok.ite (fun _ => Ok.grd gi (Ok.grd gi (Ok.bind (Ok.ret (P := okB) (hset _ ⟨⟨k1, k2, k3, trivial, k5, k6, trivial, trivial⟩, k8, k9, k10, k11⟩)) fun y hy => Ok.ret ⟨hy, w3⟩))) fun _ => ?_
 refine Ok.bind (P := fun (y : List Track × Int × Int) => okB y.1 ∧ Ci c.b y.2.1) ?_ fun y hy => Ok.ret hy
 refine Ok.ite (fun _ => ?_) fun _ => ?_
 · obtain ⟨k, hk⟩ : ∃ k : Nat, i.1 = (k : Int) := ⟨i.1.toNat, by omega⟩
   have hkl : k < l.length := by omega
   refine Ok.iter (fun s => (∀ d ∈ s.1, okTt d) ∧ s.1.length = l.length ∧ Ci c.b s.2.1 ∧ (at_ s.1 i.1).Reads.length ≤ 7) (fun s => 8 - (at_ s.1 i.1).Reads.length) (fun s hs => ?_) _ ⟨ho', rfl, w3, by show (at_ l i.1).Reads.length ≤ 7; omega⟩
   obtain ⟨s1, s2, s3, s4⟩ := hs
   have gi' : 0 ≤ i.1 ∧ i.1 < (s.1.length : Int) := by rw [s2]; exact gi
   unfold spec_l13bent.b0
   refine Ok.grd gi' (Ok.bind (l1Below_ok (l1Cur.mk c.b s.2.1 s.2.2) 2 s3 (by omega)) fun q hq => ?_)
   obtain ⟨q1, q2, q3⟩ := hq
   rw [w64 (n := 6 + q.1) (by omega) (by omega)]
   refine Ok.ite (fun hc => Ok.grd gi' (Ok.bind (l13span_ok2 (l1Cur.mk c.b q.2.i q.2.h) q3) fun z hz => Ok.grd (by simp only [Lim, List.length_singleton]; omega) (Ok.grd gi' (Ok.bind (Ok.ret (P := fun y => y = _) rfl) fun y hy => Ok.ret ?_)))) fun _ => Ok.out (Ok.ret ⟨⟨s1, by rw [s2]; omega⟩, q3⟩)
   have hc' : ((at_ s.1 i.1).Reads.length : Int) < 6 + q.1 := by simpa using hc
   obtain ⟨⟨j1, j2, j3, j4, j5, j6, j7⟩, j8, j9, j10, j11⟩ := at_al s1 gi'
   have hat : (at_ y i.1).Reads.length = (at_ s.1 i.1).Reads.length + 1 := by
    rw [hy, hk, Int.toNat_natCast, at_set _ _ _ (by omega)]; simp
   refine ⟨⟨fun x hx => ?_, by rw [hy, List.length_set]; exact s2, hz.2, by rw [hat]; omega⟩, by show 8 - (at_ y i.1).Reads.length < 8 - (at_ s.1 i.1).Reads.length; rw [hat]; omega⟩
   rw [hy] at hx
   rcases List.mem_or_eq_of_mem_set hx with hx | hx
   · exact s1 x hx
   · rw [hx]
     refine ⟨⟨j1, j2, j3, trivial, ⟨maxl (by simp; omega), fun x hx => ?_⟩, j6, trivial, trivial⟩, by simp; omega, j9, fun x hx => ?_, j11⟩
     · rcases List.mem_append.1 hx with hx | hx
       · exact j5.2 x hx
       · rw [List.mem_singleton.1 hx]; exact hz.1.1
     · rcases List.mem_append.1 hx with hx | hx
       · exact j10 x hx
       · rw [List.mem_singleton.1 hx]; exact hz.1.2
 · refine Ok.bind (P := fun (y : List Track × Int × Int) => okB y.1 ∧ Ci c.b y.2.1) ?_ fun y hy => Ok.ret hy
   refine Ok.ite (fun _ => ?_) fun _ => Ok.ret ⟨⟨ho', by show l.length ≤ 66; omega⟩, w3⟩
   refine Ok.iter (fun s => (∀ d ∈ s.1, okTt d) ∧ s.1.length ≤ 66 ∧ Ci c.b s.2.1) (fun s => 1000 - s.1.length) (fun s hs => ?_) _ ⟨ho', by show l.length ≤ 66; omega, w3⟩
   obtain ⟨s1, s2, s3⟩ := hs
   unfold spec_l13bent.b1
   refine Ok.bind (l1Below_ok (l1Cur.mk c.b s.2.1 s.2.2) 2 s3 (by omega)) fun q hq => ?_
   obtain ⟨q1, q2, q3⟩ := hq
   rw [w64 (n := 64 + q.1) (by omega) (by omega)]
   refine Ok.ite (fun hc => ?_) fun _ => Ok.out (Ok.ret ⟨⟨s1, s2⟩, q3⟩)
   have hc' : (s.1.length : Int) < 64 + q.1 := by simpa using hc
   refine Ok.grd (by simp only [Lim, List.length_singleton]; omega) (Ok.ret ⟨⟨fun x hx => ?_, by simp only [List.length_append, List.length_singleton]; omega, q3⟩, by simp only [List.length_append, List.length_singleton]; omega⟩)
   rcases List.mem_append.1 hx with hx | hx
   · exact s1 x hx
   · rw [List.mem_singleton.1 hx]; exact (okT0 (i64w _) (ik 1)).1
theorem l13who_ok (c : l1Cur) (l : List Track) (h : Ci c.b c.i) (hl : l.length ≤ 66) : Ok (spec_l13who.f c l) fun r => Ci c.b r.2.i := by
 unfold spec_l13who.f
 refine Ok.iter (fun s => 0 ≤ s.1 ∧ s.1 ≤ (l.length : Int) ∧ Ci c.b s.2.1) (fun s => ((l.length : Int) - s.1).toNat) (fun s hs => ?_) _ ⟨by show (0 : Int) ≤ 0; omega, by show (0 : Int) ≤ _; omega, h⟩
 obtain ⟨s1, s2, s3⟩ := hs
 unfold spec_l13who.b0
 refine Ok.ite (fun hc => ?_) fun _ => Ok.out (Ok.bind (l1Below_ok (l1Cur.mk c.b s.2.1 s.2.2) 9 s3 (by omega)) fun z hz => Ok.ret hz.2.2)
 have hc' : s.1 < (l.length : Int) := by simpa using hc
 refine Ok.grd ⟨s1, hc'⟩ (Ok.bind (P := fun (y : Bool × Int × Int) => Ci c.b y.2.1) (Ok.ite (fun _ => Ok.bind (l1Once_ok (l1Cur.mk c.b s.2.1 s.2.2) 2 s3 (by omega)) fun z hz => Ok.ret hz) fun _ => Ok.ret s3) fun y hy => Ok.ite (fun _ => Ok.grd ⟨s1, hc'⟩ (Ok.ret hy)) fun _ => Ok.ret ?_)
 rw [w64 (n := s.1 + 1) (by omega) (by omega)]
 exact ⟨⟨by show 0 ≤ s.1 + 1; omega, by show s.1 + 1 ≤ (l.length : Int); omega, hy⟩, by show ((l.length : Int) - (s.1 + 1)).toNat < ((l.length : Int) - s.1).toNat; omega⟩
theorem DrawEdgeEnd_ok (a : List Int) (h : a.length ≤ 1048576) : Ok (spec_DrawEdgeEnd.f a) fun r => okB r.1 ∧ InK .i64 r.2.2.1 := by
 unfold spec_DrawEdgeEnd.f
 refine Ok.bind (l1New_ok a h) fun c hc => Ok.bind (l1Size_ok a 28 h (by omega)) fun m hm => Ok.bind (l13tracks_ok c m hc.2 hm.1 (by omega)) fun d hd => Ok.bind (l1Once_ok (l1Cur.mk c.b d.2.2.i d.2.2.h) 6 hd.2.1 (by omega)) fun o ho => ?_
 refine Ok.bind (P := fun (y : List Track × Int × Int) => okB y.1 ∧ Ci c.b y.2.1) (Ok.ite (fun _ => Ok.bind (l13bent_ok (l1Cur.mk c.b o.2.i o.2.h) _ ho hd.1) fun b hb => Ok.ret hb) fun _ => Ok.ret ⟨⟨fun t ht => (hd.1.1 t ht).1, by have := hd.1.2; show d.1.length ≤ 66; omega⟩, ho⟩) fun y hy => ?_
 refine Ok.bind (l13who_ok (l1Cur.mk c.b y.2.1 y.2.2) y.1 hy.2 hy.1.2) fun x hx => Ok.bind (l1Once_ok (l1Cur.mk c.b x.2.i x.2.h) 6 hx (by omega)) fun p hp => ?_
 refine Ok.bind (P := fun (z : Int × Int × Int) => Ci c.b z.2.1 ∧ InK .i64 z.1) (Ok.ite (fun _ => Ok.bind (l1Below_ok (l1Cur.mk c.b p.2.i p.2.h) 9 hp (by omega)) fun z hz => Ok.ret ⟨hz.2.2, i64w _⟩) fun _ => Ok.ret ⟨hp, hd.2.2⟩) fun z hz => ?_
 exact Ok.bind (l1Once_ok (l1Cur.mk c.b z.2.1 z.2.2) 3 hz.1 (by omega)) fun q hq => Ok.ret ⟨hy.1, hz.2⟩
theorem DrawConcurrent_ok (a : List Int) (h : a.length ≤ 1048576) : Ok (spec_DrawConcurrent.f a) fun _ => True := by
 unfold spec_DrawConcurrent.f
 refine Ok.bind (l1New_ok a h) fun c hc => Ok.bind (l1Below_ok c 8 hc.2 (by omega)) fun x hx => Ok.bind (l1Below_ok (l1Cur.mk c.b x.2.i x.2.h) 8 hx.2.2 (by omega)) fun y hy => Ok.bind (l1Once_ok (l1Cur.mk c.b y.2.i y.2.h) 3 hy.2.2 (by omega)) fun o ho => ?_
 refine Ok.bind (P := fun (z : Int × Int × Int) => Ci c.b z.2.1) (Ok.ite (fun _ => Ok.bind (l1Below_ok (l1Cur.mk c.b o.2.i o.2.h) 9 ho (by omega)) fun z hz => Ok.ret hz.2.2) fun _ => Ok.ret ho) fun z hz => ?_
 refine Ok.bind (l1Once_ok (l1Cur.mk c.b z.2.1 z.2.2) 3 hz (by omega)) fun q hq => ?_
 exact Ok.bind (P := fun _ => True) (Ok.ite (fun _ => Ok.bind (l1Below_ok (l1Cur.mk c.b q.2.i q.2.h) 9 hq (by omega)) fun z hz => Ok.ret trivial) fun _ => Ok.ret trivial) fun _ _ => Ok.ret trivial
end Go.Proofs.Ytcgbhldenkeplaa
