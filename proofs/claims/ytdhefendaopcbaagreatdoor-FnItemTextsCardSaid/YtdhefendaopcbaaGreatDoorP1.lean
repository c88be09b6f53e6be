import Derived.Test.YtdhefendaopcbaaGreatDoorG2
import Derived.Test.YtdhefendaopcbaaGreatDoorGs
import Derived.Lib.ItoaNum
import Derived.Lib.ItoaLen
import Derived.Lib.AtoiAll
import Derived.Lib.Bytealg
import Derived.Lib.AtoiAllCases
import Derived.Lib.Join
import Derived.Lib.SplitLaws
import Derived.Lib.RuneCount
set_option linter.unusedVariables false
set_option linter.unusedSimpArgs false
namespace Go.Proofs.YtdhefendaopcbaaGreatDoor
open Go V
theorem w64 {n : Int} (h0 : -9223372036854775808 ≤ n) (h1 : n ≤ 9223372036854775807) : IntKind.i64.wrap n = n := by
 rw [IntKind.wrap_i64]; omega
theorem i64_of {n : Int} (h : InK .i64 n) : -9223372036854775808 ≤ n ∧ n ≤ 9223372036854775807 := by
 simpa [InK, IntKind.min, IntKind.max, IntKind.signed, IntKind.bits] using h
theorem u8_of {n : Int} (h : InK .u8 n) : 0 ≤ n ∧ n ≤ 255 := by
 simpa [InK, IntKind.min, IntKind.max, IntKind.signed, IntKind.bits] using h
theorem i64_ok {n : Int} (h0 : -9223372036854775808 ≤ n) (h1 : n ≤ 9223372036854775807) : InK .i64 n := by
 simp [InK, IntKind.min, IntKind.max, IntKind.signed, IntKind.bits]; omega
theorem u8_ok {n : Int} (h0 : 0 ≤ n) (h1 : n ≤ 255) : InK .u8 n := by
 simp [InK, IntKind.min, IntKind.max, IntKind.signed, IntKind.bits]; omega
theorem u8n {b : Int} (h : InK .u8 b) : b = ((b.toNat : Nat) : Int) ∧ b.toNat < 256 := by have := u8_of h; omega
theorem fdiv_nat (a b : Nat) : Int.fdiv (a : Int) (b : Int) = ((a / b : Nat) : Int) := by
 rw [Int.fdiv_eq_ediv_of_nonneg _ (by omega)]; rfl
theorem ishr_nat (k : IntKind) (a b : Nat) (h : b ≤ k.bits) : ishr k (a : Int) (b : Int) = ((a / 2 ^ b : Nat) : Int) := by
 unfold ishr
 rw [Int.toNat_natCast, Nat.min_eq_left h]
 have : (2 : Int) ^ b = ((2 ^ b : Nat) : Int) := by simp
 rw [this, fdiv_nat]
theorem ofInt_nat (w a : Nat) (h : a < 2 ^ w) : (BitVec.ofInt w (a : Int)).toNat = a := by
 rw [BitVec.ofInt_natCast, BitVec.toNat_ofNat, Nat.mod_eq_of_lt h]
theorem wu64 (a : Nat) (h : a < 18446744073709551616) : IntKind.wrap .u64 ((a : Nat) : Int) = (a : Int) := by rw [IntKind.wrap_u64]; omega
theorem ior_u64 (a b : Nat) (ha : a < 18446744073709551616) (hb : b < 18446744073709551616) : ior .u64 (a : Int) (b : Int) = ((a ||| b : Nat) : Int) := by
 unfold ior
 rw [BitVec.toNat_or, ofInt_nat _ a ha, ofInt_nat _ b hb]
 exact wu64 _ (Nat.or_lt_two_pow (n := 64) ha hb)
theorem iand_u64 (a b : Nat) (ha : a < 18446744073709551616) (hb : b < 18446744073709551616) : iand .u64 (a : Int) (b : Int) = ((a &&& b : Nat) : Int) := by
 unfold iand
 rw [BitVec.toNat_and, ofInt_nat _ a ha, ofInt_nat _ b hb]
 exact wu64 _ (Nat.and_lt_two_pow (n := 64) _ hb)
theorem or_add (k n b : Nat) (h : b < 2 ^ k) : (n * 2 ^ k) ||| b = n * 2 ^ k + b := by
 have := Nat.two_pow_add_eq_or_of_lt (i := k) (b := b) h n
 rw [Nat.mul_comm n]
 exact this.symm
def rin (a b c : Int) : Bool := decide (b ≤ a) && decide (a ≤ c)
theorem rin_iff {a b c : Int} : rin a b c = true ↔ b ≤ a ∧ a ≤ c := by simp [rin]
theorem iter_for {S O : Type} {body : S → Option (S ⊕ O)} (n : Nat) (st : Nat → S) (o : O) (h : ∀ k, k < n → body (st k) = some (.inl (st (k + 1)))) (hn : body (st n) = some (.inr o)) : iter body (st 0) = some o := by
 have key : ∀ m, m ≤ n → iter body (st (n - m)) = some o := by
  intro m
  induction m with
  | zero => intro _; rw [iter_eq, Nat.sub_zero, hn]; rfl
  | succ m ih =>
   intro hm
   rw [iter_eq, h (n - (m + 1)) (by omega)]
   simp only [Option.bind_some]
   rw [show n - (m + 1) + 1 = n - m by omega]
   exact ih (by omega)
 have := key n (Nat.le_refl _)
 rwa [Nat.sub_self] at this
theorem iter_l {S O : Type} {body : S → Option (S ⊕ O)} {s s' : S} (h : body s = some (.inl s')) : iter body s = iter body s' := by rw [iter_eq, h]; rfl
theorem iter_r {S O : Type} {body : S → Option (S ⊕ O)} {s : S} {o : O} (h : body s = some (.inr o)) : iter body s = some o := by rw [iter_eq, h]; rfl
theorem at_nat {α : Type} [Inhabited α] (xs : List α) (k : Nat) (h : k < xs.length) : at_ xs (k : Int) = xs[k] := by
 rw [at_eq xs k (by simpa using h)]; simp
end Go.Proofs.YtdhefendaopcbaaGreatDoor
set_option linter.unusedVariables false
set_option linter.unusedSimpArgs false
set_option linter.unusedSectionVars false
namespace Go.Proofs.YtdhefendaopcbaaGreatDoor
open Go V Ieee
theorem iter_pass {S O : Type} {body : S → Option (S ⊕ O)} {s : S} {m : Option O} (h : body s = m.bind fun o => some (Sum.inr o)) : iter body s = m := by
 rw [iter_eq, h]
 cases m <;> rfl
def wd (M e : Nat) : Nat := D.word false (e * 4503599627370496 + M)
theorem wd_eq (M e : Nat) : wd M e = e * 4503599627370496 + M := rfl
theorem wd_v {M e : Nat} (h1 : M < 9007199254740992) (h2 : e = 0 ∨ 4503599627370496 ≤ M) (h3 : e ≤ 2045) : IsV (wd M e) false (M * pw e) := ⟨M, e, h1, h2, h3, rfl, rfl⟩
theorem rep_of {M : Nat} (h1 : M < 9007199254740992) : ∀ e, e ≤ 2045 → Rep (M * pw e) := by
 intro e
 induction e generalizing M with
 | zero => intro _; exact ⟨M, 0, h1, .inl rfl, by omega, rfl⟩
 | succ e ih =>
  intro he
  by_cases hm : 4503599627370496 ≤ M
  · exact ⟨M, e + 1, h1, .inr hm, he, rfl⟩
  · have := ih (M := 2 * M) (by omega) (by omega)
    rwa [show 2 * M * pw e = M * pw (e + 1) by rw [pw_succ, Nat.mul_comm 2 M, Nat.mul_assoc, Nat.mul_comm 2]] at this
theorem v0 : IsV 0 false 0 := ⟨0, 0, by decide, .inl rfl, by omega, by simp, rfl⟩
theorem v1 : IsV 4607182418800017408 false (4503599627370496 * pw 1022) := ⟨4503599627370496, 1022, by decide, .inr (Nat.le_refl _), by omega, rfl, rfl⟩
theorem v2 : IsV 4611686018427387904 false (4503599627370496 * pw 1023) := ⟨4503599627370496, 1023, by decide, .inr (Nat.le_refl _), by omega, rfl, rfl⟩
theorem vM : IsV 9218868437227405311 false (9007199254740991 * pw 2045) := ⟨9007199254740991, 2045, by decide, .inr (by decide), by omega, rfl, rfl⟩
section
variable {a b u v : Nat} (ha : IsV a false u) (hb : IsV b false v)
include ha hb
theorem cmp_v : fcmp .f64 a b = some (compare u v) := by
 have h := order_v ha hb
 rw [signed_f, signed_f, Nat.pow_zero, Nat.mul_one, Nat.mul_one] at h
 show D.order a b = _
 rw [h]
 show some (compareOfLessAndEq (u : Int) (v : Int)) = some (compareOfLessAndEq u v)
 unfold compareOfLessAndEq
 by_cases h1 : u < v
 · rw [if_pos h1, if_pos (by omega)]
 · rw [if_neg h1, if_neg (by omega)]
   by_cases h2 : u = v
   · rw [if_pos h2, if_pos (by omega)]
   · rw [if_neg h2, if_neg (by omega)]
theorem cmp_lt : (fcmp .f64 a b == some .lt) = decide (u < v) := by
 rw [cmp_v ha hb]
 by_cases h : u < v
 · simp [Nat.compare_eq_lt.2 h, h]
 · have : compare u v ≠ .lt := fun hc => h (Nat.compare_eq_lt.1 hc)
   simp [this, h]
theorem cmp_gt : (fcmp .f64 a b == some .gt) = decide (v < u) := by
 rw [cmp_v ha hb]
 by_cases h : v < u
 · simp [Nat.compare_eq_gt.2 h, h]
 · have : compare u v ≠ .gt := fun hc => h (Nat.compare_eq_gt.1 hc)
   simp [this, h]
theorem cmp_eq : (fcmp .f64 a b == some .eq) = decide (u = v) := by
 rw [cmp_v ha hb]
 by_cases h : u = v
 · simp [Nat.compare_eq_eq.2 h, h]
 · have : compare u v ≠ .eq := fun hc => h (Nat.compare_eq_eq.1 hc)
   simp [this, h]
end
theorem far_half {a u : Nat} (h : IsV a false (u * 2)) (hu : Rep u) : IsV (far .quo a 4611686018427387904) false u := by
 obtain ⟨w', hw, hv⟩ := div_pow (j := 1) c_two (by simpa [pw] using h) hu
 have : far .quo a 4611686018427387904 = w' := by show (D.div a _).getD _ = _; rw [hw]; rfl
 rwa [this]
theorem far_dbl {a u : Nat} (h : IsV a false u) (hu : Rep (u * 2)) : IsV (far .mul a 4611686018427387904) false (u * 2) := by
 obtain ⟨w', hw, hv⟩ := mul_pow_ (j := 1) c_two h (by simpa using hu)
 have : far .mul a 4611686018427387904 = w' := by show (D.mul a _).getD _ = _; rw [hw]; rfl
 rw [this]; simpa using hv
theorem far_big {a u : Nat} (h : IsV a false u) (hu : Rep (u * pw 52)) : IsV (far .mul a 4841369599423283200) false (u * pw 52) := by
 obtain ⟨w', hw, hv⟩ := mul_pow_ (j := 52) c_big h hu
 have : far .mul a 4841369599423283200 = w' := by show (D.mul a _).getD _ = _; rw [hw]; rfl
 rwa [this]
theorem far_sub1 {a v : Nat} (h : IsV a false (U1 + v)) (hv : Rep v) : IsV (far .sub a 4607182418800017408) false v := by
 obtain ⟨w', hw, hv⟩ := sub_one h hv
 have : far .sub a 4607182418800017408 = w' := by show (D.sub a _).getD _ = _; rw [hw]; rfl
 rwa [this]
theorem f2i_v {a n : Nat} (h : IsV a false (n * pw 1074)) (hn : n < 18446744073709551616) : floatToIntVal .f64 a .u64 = some (n : Int) := by
 unfold floatToIntVal
 have := toInt_p h
 show (match (D.read a).toInt .zero with | some n => _ | none => _) = _
 rw [this]
 simp only []
 rw [if_pos]
 simp [IntKind.min, IntKind.max, IntKind.signed, IntKind.bits]; omega
section
variable (S E : Nat) (A : Nat)
theorem bits_num (s E K : Nat) (hs : s ≤ 1) (hE : E < 2048) (hK : K < 4503599627370496) : ior .u64 (ior .u64 ((s * 9223372036854775808 : Nat) : Int) (ishl .u64 (IntKind.wrap .u64 (IntKind.wrap .i64 (E : Int))) 52)) (K : Int) = ((s * 9223372036854775808 + E * 4503599627370496 + K : Nat) : Int) := by
 rw [w64 (by omega) (by omega), wu64 E (by omega)]
 have h1 : ishl .u64 (E : Int) 52 = ((E * 4503599627370496 : Nat) : Int) := by
  unfold ishl
  show IntKind.wrap .u64 ((E : Int) * 2 ^ 52) = _
  have : (E : Int) * 2 ^ 52 = ((E * 4503599627370496 : Nat) : Int) := by rw [show (2 : Int) ^ 52 = 4503599627370496 by decide]; omega
  rw [this, wu64 _ (by omega)]
 rw [h1, ior_u64 _ _ (by omega) (by omega)]
 have h2 : s * 9223372036854775808 ||| E * 4503599627370496 = s * 9223372036854775808 + E * 4503599627370496 := by
  have := or_add 63 s (E * 4503599627370496) (by show _ < 9223372036854775808; omega)
  exact this
 rw [h2, ior_u64 _ _ (by omega) (by omega)]
 have h3 := or_add 52 (s * 2048 + E) K (by show _ < 4503599627370496; omega)
 have e : (s * 2048 + E) * 2 ^ 52 = s * 9223372036854775808 + E * 4503599627370496 := by
  rw [show (2 : Nat) ^ 52 = 4503599627370496 by decide]; omega
 rw [e] at h3
 rw [h3]
theorem bits_sub (s K : Nat) (hs : s ≤ 1) (hK : K < 4503599627370496) : ior .u64 ((s * 9223372036854775808 : Nat) : Int) (K : Int) = ((s * 9223372036854775808 + K : Nat) : Int) := by
 rw [ior_u64 _ _ (by omega) (by omega)]
 have h3 := or_add 63 s K (by show _ < 9223372036854775808; omega)
 rw [show (s * 2 ^ 63 : Nat) = s * 9223372036854775808 from rfl] at h3
 rw [h3]
end
theorem p_lt {M e : Nat} (k k' : Nat) (h : M < 9007199254740992) (he : e ≤ k) (hk : k' = k + 1) : M * pw e < 4503599627370496 * pw k' := by
 have h1 : M * pw e < 9007199254740992 * pw e := Nat.mul_lt_mul_of_pos_right h (pw_pos e)
 have h2 : 9007199254740992 * pw e ≤ 9007199254740992 * pw k := Nat.mul_le_mul_left _ (pw_le he)
 have h3 : 4503599627370496 * (pw k * 2) = 9007199254740992 * pw k := by
  generalize pw k = q
  omega
 rw [hk, pw_succ, h3]
 exact Nat.lt_of_lt_of_le h1 h2
theorem p_ge {M e k : Nat} (h : 4503599627370496 ≤ M) (he : k ≤ e) : 4503599627370496 * pw k ≤ M * pw e :=
 Nat.mul_le_mul h (pw_le he)
theorem fb_one (s M : Nat) (A : Nat) (c : Int) (E : Nat) (hs : s ≤ 1) (h1 : M < 9007199254740992) (h2 : 4503599627370496 ≤ M) (hE : E < 2048) (hc : c + 1023 = (E : Int)) : iter (spec_FloatBits.b1 (((s * 9223372036854775808 : Nat) : Int), A)) (wd M 1022, c) = some ((s * 9223372036854775808 + E * 4503599627370496 + (M - 4503599627370496) : Nat) : Int) := by
 have hv := wd_v h1 (.inr h2) (show 1022 ≤ 2045 by omega)
 have hlt := cmp_lt hv v1
 have hnl : ¬ M * pw 1022 < 4503599627370496 * pw 1022 := Nat.not_lt.2 (p_ge h2 (Nat.le_refl _))
 rw [decide_eq_false hnl] at hlt
 have hsum : M * pw 1022 = U1 + (M - 4503599627370496) * pw 1022 := by
  rw [U1_eq, ← Nat.add_mul, show 4503599627370496 + (M - 4503599627370496) = M by omega]
 have hK : M - 4503599627370496 < 9007199254740992 := by omega
 rw [hsum] at hv
 have hs1 := far_sub1 hv (rep_of hK 1022 (by omega))
 have hb := far_big hs1 (by rw [Nat.mul_assoc, ← pw_add]; exact rep_of hK _ (by omega))
 rw [Nat.mul_assoc, ← pw_add] at hb
 have hi := f2i_v hb (by omega)
 refine iter_r ?_
 unfold spec_FloatBits.b1
 simp only [hlt, hi, Bool.false_and, Bool.false_eq_true, if_false, Option.bind_some]
 rw [hc, bits_num s E _ hs hE (by omega)]
theorem fb_up (s M : Nat) (A : Nat) (hs : s ≤ 1) (h1 : M < 9007199254740992) (h2 : 4503599627370496 ≤ M) : ∀ (j i : Nat), i + j ≤ 1022 → iter (spec_FloatBits.b1 (((s * 9223372036854775808 : Nat) : Int), A)) (wd M (1022 - j), -(i : Int)) = some ((s * 9223372036854775808 + (1023 - i - j) * 4503599627370496 + (M - 4503599627370496) : Nat) : Int) := by
 intro j
 induction j with
 | zero => intro i hi; exact fb_one s M A _ _ hs h1 h2 (by omega) (by omega)
 | succ j ih =>
  intro i hi
  have hv := wd_v h1 (.inr h2) (show 1022 - (j + 1) ≤ 2045 by omega)
  have hlt := cmp_lt hv v1
  have hl : M * pw (1022 - (j + 1)) < 4503599627370496 * pw 1022 := p_lt 1021 1022 h1 (by omega) rfl
  rw [decide_eq_true hl] at hlt
  have he : M * pw (1022 - (j + 1)) * 2 = M * pw (1022 - j) := by
   rw [Nat.mul_assoc, ← pw_succ, show 1022 - (j + 1) + 1 = 1022 - j by omega]
  have hd := far_dbl hv (by rw [he]; exact rep_of h1 _ (by omega))
  rw [he] at hd
  have hw := hd.eq (wd_v h1 (.inr h2) (show 1022 - j ≤ 2045 by omega))
  have hstep : spec_FloatBits.b1 (((s * 9223372036854775808 : Nat) : Int), A) (wd M (1022 - (j + 1)), -(i : Int)) = some (.inl (wd M (1022 - j), -((i + 1 : Nat) : Int))) := by
   unfold spec_FloatBits.b1
   simp only [hlt, Bool.true_and]
   rw [if_pos (by simp; omega), hw, w64 (by omega) (by omega), show -(i : Int) - 1 = -((i + 1 : Nat) : Int) by omega]
  rw [iter_l hstep, ih (i + 1) (by omega), show 1023 - (i + 1) - j = 1023 - i - (j + 1) by omega]
theorem fb_sub (s M : Nat) (A : Nat) (hs : s ≤ 1) (h1 : M < 4503599627370496) : ∀ (j i a : Nat), i + j = 1022 → IsV a false (M * pw i) → iter (spec_FloatBits.b1 (((s * 9223372036854775808 : Nat) : Int), A)) (a, -(i : Int)) = some ((s * 9223372036854775808 + M : Nat) : Int) := by
 intro j
 induction j with
 | zero =>
  intro i a hi hv
  have hlt := cmp_lt hv v1
  have hl : M * pw i < 4503599627370496 * pw 1022 := by
   rw [show i = 1022 by omega]
   exact Nat.mul_lt_mul_of_pos_right h1 (pw_pos _)
  rw [decide_eq_true hl] at hlt
  have hb := far_big hv (by rw [Nat.mul_assoc, ← pw_add]; exact rep_of (by omega) _ (by omega))
  rw [Nat.mul_assoc, ← pw_add, show i + 52 = 1074 by omega] at hb
  have hi2 := f2i_v hb (by omega)
  refine iter_r ?_
  unfold spec_FloatBits.b1
  have hc : decide (-(i : Int) > -1022) = false := by simp; omega
  simp only [hlt, hc, hi2, Bool.true_and, Bool.false_eq_true, if_false, if_true, Option.bind_some]
  rw [bits_sub s M hs h1]
 | succ j ih =>
  intro i a hi hv
  have hlt := cmp_lt hv v1
  have hl : M * pw i < 4503599627370496 * pw 1022 := p_lt 1021 1022 (by omega) (by omega) rfl
  rw [decide_eq_true hl] at hlt
  have he : M * pw i * 2 = M * pw (i + 1) := by rw [Nat.mul_assoc, ← pw_succ]
  have hd := far_dbl hv (by rw [he]; exact rep_of (by omega) _ (by omega))
  rw [he] at hd
  have hstep : spec_FloatBits.b1 (((s * 9223372036854775808 : Nat) : Int), A) (a, -(i : Int)) = some (.inl (far .mul a 4611686018427387904, -((i + 1 : Nat) : Int))) := by
   unfold spec_FloatBits.b1
   simp only [hlt, Bool.true_and]
   rw [if_pos (by simp; omega), w64 (by omega) (by omega), show -(i : Int) - 1 = -((i + 1 : Nat) : Int) by omega]
  rw [iter_l hstep, ih (i + 1) _ (by omega) hd]
theorem fb_pass {y : Int × Nat} {a u : Nat} {c : Int} (hv : IsV a false u) (hu : u < 4503599627370496 * pw 1023) : iter (spec_FloatBits.b0 y) (a, c) = iter (spec_FloatBits.b1 y) (a, c) := by
 refine iter_pass ?_
 unfold spec_FloatBits.b0
 have h1 := cmp_gt hv v2
 have h2 := cmp_eq hv v2
 rw [decide_eq_false (by omega)] at h1
 rw [decide_eq_false (by omega)] at h2
 simp only [h1, h2, Bool.or_self, Bool.false_eq_true, if_false]
theorem fb_down (y : Int × Nat) (M : Nat) (h1 : M < 9007199254740992) (h2 : 4503599627370496 ≤ M) : ∀ (n e : Nat) (c : Int), e = 1022 + n → e ≤ 2045 → 0 ≤ c → c ≤ 10000 - n → iter (spec_FloatBits.b0 y) (wd M e, c) = iter (spec_FloatBits.b1 y) (wd M 1022, c + n) := by
 intro n
 induction n with
 | zero =>
  intro e c he _ _ _
  have : e = 1022 := by omega
  subst this
  rw [fb_pass (wd_v h1 (.inr h2) (by omega)) (p_lt 1022 1023 h1 (by omega) rfl)]
  simp
 | succ n ih =>
  intro e c he he2 hc0 hc1
  obtain ⟨e, rfl⟩ : ∃ e', e = e' + 1 := ⟨e - 1, by omega⟩
  have hv := wd_v h1 (.inr h2) he2
  have g1 := cmp_gt hv v2
  have g2 := cmp_eq hv v2
  have hge : 4503599627370496 * pw 1023 ≤ M * pw (e + 1) := p_ge h2 (by omega)
  have hor : (fcmp .f64 (wd M (e + 1)) 4611686018427387904 == some .gt || fcmp .f64 (wd M (e + 1)) 4611686018427387904 == some .eq) = true := by
   rw [g1, g2, Bool.or_eq_true, decide_eq_true_eq, decide_eq_true_eq]
   generalize 4503599627370496 * pw 1023 = q at hge ⊢
   omega
  have hv2 : IsV (wd M (e + 1)) false (M * pw e * 2) := by rw [Nat.mul_assoc, ← pw_succ]; exact hv
  have hw := (far_half hv2 (rep_of h1 _ (by omega))).eq (wd_v h1 (.inr h2) (by omega))
  have hstep : spec_FloatBits.b0 y (wd M (e + 1), c) = some (.inl (wd M e, c + 1)) := by
   unfold spec_FloatBits.b0
   simp only [hor, if_true]
   rw [hw, w64 (by omega) (by omega)]
  rw [iter_l hstep, ih e (c + 1) (by omega) (by omega) (by omega) (by omega), show c + 1 + (n : Int) = c + ((n + 1 : Nat) : Int) by omega]
theorem xor_sign (r : Nat) (h : r < 9223372036854775808) : Op.negFloat .f64 (9223372036854775808 + r) = r := by
 show (9223372036854775808 + r) ^^^ 2 ^ 63 = r
 have e : 9223372036854775808 + r = 2 ^ 63 ||| r := by
  have := Nat.two_pow_add_eq_or_of_lt (i := 63) (b := r) h 1
  simpa using this
 have e2 : 2 ^ 63 ||| r = 2 ^ 63 ^^^ r := by
  apply Nat.eq_of_testBit_eq
  intro i
  rw [Nat.testBit_or, Nat.testBit_xor]
  by_cases hi : i = 63
  · subst hi
    have : r.testBit 63 = false := Nat.testBit_lt_two_pow h
    rw [this]; simp
  · have : (2 ^ 63).testBit i = false := by rw [Nat.testBit_two_pow]; simp; omega
    rw [this]; simp
 rw [e, e2, Nat.xor_comm (2 ^ 63) r, Nat.xor_assoc, Nat.xor_self, Nat.xor_zero]
theorem fin_word {x : Nat} (hx : x < 18446744073709551616) (h : x % 9223372036854775808 < 9218868437227405312) : ∃ s M e, s ≤ 1 ∧ M < 9007199254740992 ∧ (e = 0 ∨ 4503599627370496 ≤ M) ∧ e ≤ 2045 ∧ x = s * 9223372036854775808 + wd M e := by
 refine ⟨x / 9223372036854775808, ?_⟩
 by_cases hr : x % 9223372036854775808 < 4503599627370496
 · exact ⟨x % 9223372036854775808, 0, by omega, by omega, .inl rfl, by omega, by rw [wd_eq]; omega⟩
 · refine ⟨4503599627370496 + x % 9223372036854775808 % 4503599627370496, x % 9223372036854775808 / 4503599627370496 - 1, by omega, by omega, .inr (by omega), by omega, ?_⟩
   rw [wd_eq]; omega
theorem fb_loops (s M e : Nat) (A : Nat) (hs : s ≤ 1) (h1 : M < 9007199254740992) (h2 : e = 0 ∨ 4503599627370496 ≤ M) (h3 : e ≤ 2045) : iter (spec_FloatBits.b0 (((s * 9223372036854775808 : Nat) : Int), A)) (wd M e, (0 : Int)) = some ((s * 9223372036854775808 + wd M e : Nat) : Int) := by
 by_cases hm : 4503599627370496 ≤ M
 · by_cases he : 1022 ≤ e
   · rw [fb_down _ M h1 hm (e - 1022) e 0 (by omega) h3 (by omega) (by omega)]
     rw [fb_one s M A _ (e + 1) hs h1 hm (by omega) (by omega), wd_eq, show s * 9223372036854775808 + (e + 1) * 4503599627370496 + (M - 4503599627370496) = s * 9223372036854775808 + (e * 4503599627370496 + M) by omega]
   · rw [fb_pass (wd_v h1 (.inr hm) h3) (p_lt 1022 1023 h1 (by omega) rfl)]
     have := fb_up s M A hs h1 hm (1022 - e) 0 (by omega)
     rw [show 1022 - (1022 - e) = e by omega] at this
     rw [show (0 : Int) = -((0 : Nat) : Int) by simp, this, wd_eq, show s * 9223372036854775808 + (1023 - 0 - (1022 - e)) * 4503599627370496 + (M - 4503599627370496) = s * 9223372036854775808 + (e * 4503599627370496 + M) by omega]
 · have he : e = 0 := by omega
   subst he
   have hv := wd_v h1 (.inl rfl) h3
   rw [fb_pass hv (p_lt 1022 1023 h1 (by omega) rfl)]
   have h0 : M * pw 0 = M * pw 0 := rfl
   have := fb_sub s M A hs (by omega) 1022 0 (wd M 0) (by omega) hv
   rw [show (0 : Int) = -((0 : Nat) : Int) by simp, this, wd_eq, show 0 * 4503599627370496 + M = M by omega]
theorem nan_word {x : Nat} (h : okF x) (hn : isN x = true) : x = nanB := by rw [← h.1, cn_nan hn]
theorem fb_nan : spec_FloatBits.f 9221120237041090560 = some 9221120237041090560 := by
 unfold spec_FloatBits.f
 rw [if_pos (by decide)]
theorem fb_inf : spec_FloatBits.f 9218868437227405312 = some 9218868437227405312 := by
 have h1 : (fcmp .f64 9218868437227405312 9218868437227405312 != some .eq) = false := by decide
 have h2 : (fcmp .f64 9218868437227405312 0 == some .lt) = false := by decide
 have h3 : (fcmp .f64 9218868437227405312 0 == some .eq) = false := by decide
 have h4 : (fcmp .f64 9218868437227405312 9218868437227405311 == some .gt) = true := by decide
 unfold spec_FloatBits.f
 simp only [h1, h2, h3, h4, Bool.false_eq_true, if_false, if_true, Option.bind_some]
 rfl
theorem fb_ninf : spec_FloatBits.f 18442240474082181120 = some 18442240474082181120 := by
 have h1 : (fcmp .f64 18442240474082181120 18442240474082181120 != some .eq) = false := by decide
 have h2 : (fcmp .f64 18442240474082181120 0 == some .lt) = true := by decide
 have h0 : fneg 18442240474082181120 = 9218868437227405312 := by decide
 have h3 : (fcmp .f64 9218868437227405312 0 == some .eq) = false := by decide
 have h4 : (fcmp .f64 9218868437227405312 9218868437227405311 == some .gt) = true := by decide
 unfold spec_FloatBits.f
 simp only [h1, h2, h0, h3, h4, Bool.false_eq_true, if_false, if_true, Option.bind_some]
 rfl
theorem fb_zero : spec_FloatBits.f 0 = some 0 := by
 have h1 : (fcmp .f64 0 0 != some .eq) = false := by decide
 have h2 : (fcmp .f64 0 0 == some .lt) = false := by decide
 have h3 : (fcmp .f64 0 0 == some .eq) = true := by decide
 have h4 : (fcmp .f64 (far .quo 4607182418800017408 0) 0 == some .lt) = false := by decide
 unfold spec_FloatBits.f
 simp only [h1, h2, h3, h4, Bool.false_eq_true, if_false, if_true, Option.bind_some]
theorem fb_nzero : spec_FloatBits.f 9223372036854775808 = some 9223372036854775808 := by
 have h1 : (fcmp .f64 9223372036854775808 9223372036854775808 != some .eq) = false := by decide
 have h2 : (fcmp .f64 9223372036854775808 0 == some .lt) = false := by decide
 have h3 : (fcmp .f64 9223372036854775808 0 == some .eq) = true := by decide
 have h4 : (fcmp .f64 (far .quo 4607182418800017408 9223372036854775808) 0 == some .lt) = true := by decide
 have h5 : (fcmp .f64 (fneg 9223372036854775808) 0 == some .eq) = true := by decide
 unfold spec_FloatBits.f
 simp only [h1, h2, h3, h4, h5, Bool.false_eq_true, if_false, if_true, Option.bind_some]
theorem ifF {α : Type} {b : Bool} {x y : α} (h : b = false) : (if b = true then x else y) = y := by subst h; rfl
theorem ifT {α : Type} {b : Bool} {x y : α} (h : b = true) : (if b = true then x else y) = x := by subst h; rfl
theorem cmp_self {w u : Nat} {s : Bool} (hw : IsV w s u) : (fcmp .f64 w w != some .eq) = false := by
 have : fcmp .f64 w w = some .eq := by
  show D.order w w = _
  rw [order_v hw hw]
  show (some (compareOfLessAndEq _ _)) = some _
  unfold compareOfLessAndEq
  rw [if_neg (Int.lt_irrefl _), if_pos rfl]
 rw [this]; rfl
theorem cmp_le {M e : Nat} (h1 : M < 9007199254740992) (h3 : e ≤ 2045) : ¬ 9007199254740991 * pw 2045 < M * pw e := by
 have : M * pw e ≤ 9007199254740991 * pw 2045 := Nat.mul_le_mul (by omega) (pw_le h3)
 exact Nat.not_lt.2 this
section
variable {M e : Nat} (h1 : M < 9007199254740992) (h2 : e = 0 ∨ 4503599627370496 ≤ M) (h3 : e ≤ 2045) (hM : 0 < M)
include h1 h2 h3
theorem wd_lt : wd M e < 9218868437227405312 := by rw [wd_eq]; omega
theorem wd_max : (fcmp .f64 (wd M e) 9218868437227405311 == some .gt) = false := by
 rw [cmp_gt (wd_v h1 h2 h3) vM, decide_eq_false (cmp_le h1 h3)]
theorem wd_neg : IsV (9223372036854775808 + wd M e) true (M * pw e) := ⟨M, e, h1, h2, h3, rfl, by rw [wd_eq]; rfl⟩
include hM
theorem wd_pos : 0 < M * pw e := Nat.mul_pos hM (pw_pos e)
theorem wd_ne0 : (fcmp .f64 (wd M e) 0 == some .eq) = false := by
 have := wd_pos h1 h2 h3 hM
 rw [cmp_eq (wd_v h1 h2 h3) v0, decide_eq_false (Nat.ne_of_gt this)]
theorem wd_nl : (fcmp .f64 (wd M e) 0 == some .lt) = false := by
 rw [cmp_lt (wd_v h1 h2 h3) v0, decide_eq_false (Nat.not_lt_zero _)]
theorem wd_gt : (fcmp .f64 (wd M e) 0 == some .gt) = true := by
 have := wd_pos h1 h2 h3 hM
 rw [cmp_gt (wd_v h1 h2 h3) v0, decide_eq_true this]
theorem neg_cmp : fcmp .f64 (9223372036854775808 + wd M e) 0 = some .lt := by
 have hp := wd_pos h1 h2 h3 hM
 have ho := order_v (wd_neg h1 h2 h3) v0
 rw [signed_t, signed_f, Nat.pow_zero, Nat.mul_one, Nat.zero_mul] at ho
 show D.order _ _ = _
 rw [ho]
 show (some (compareOfLessAndEq _ _)) = some _
 unfold compareOfLessAndEq
 generalize M * pw e = q at hp
 rw [if_pos (show (-((q : Nat) : Int)) < ((0 : Nat) : Int) by omega)]
theorem neg_neg' : fneg (9223372036854775808 + wd M e) = wd M e := by
 have hl := wd_lt h1 h2 h3
 unfold fneg
 have hn : isN (9223372036854775808 + wd M e) = false := by
  unfold isN
  generalize wd M e = q at hl
  simp; omega
 rw [hn, cond_false]
 exact xor_sign _ (by omega)
theorem fb_plus : spec_FloatBits.f (wd M e) = some ((wd M e : Nat) : Int) := by
 have hl := fb_loops 0 M e (wd M e) (by omega) h1 h2 h3
 have e0 : 0 * 9223372036854775808 + wd M e = wd M e := by rw [Nat.zero_mul, Nat.zero_add]
 have eS : ((0 * 9223372036854775808 : Nat) : Int) = 0 := by omega
 rw [e0, eS] at hl
 unfold spec_FloatBits.f
 rw [ifF (cmp_self (wd_v h1 h2 h3)), ifF (wd_nl h1 h2 h3 hM), ifF (wd_ne0 h1 h2 h3 hM), Option.bind_some, Option.bind_some, ifF rfl, Option.bind_some, ifF (wd_ne0 h1 h2 h3 hM), ifF (wd_max h1 h2 h3)]
 exact hl
theorem fb_minus : spec_FloatBits.f (9223372036854775808 + wd M e) = some ((9223372036854775808 + wd M e : Nat) : Int) := by
 have hl := fb_loops 1 M e (wd M e) (by omega) h1 h2 h3
 have eS : ((1 * 9223372036854775808 : Nat) : Int) = 9223372036854775808 := by omega
 rw [eS, Nat.one_mul] at hl
 have h4 : (fcmp .f64 (9223372036854775808 + wd M e) 0 == some .lt) = true := by rw [neg_cmp h1 h2 h3 hM]; rfl
 unfold spec_FloatBits.f
 rw [ifF (cmp_self (wd_neg h1 h2 h3)), ifT h4, Option.bind_some, ifT rfl, Option.bind_some, neg_neg' h1 h2 h3 hM, ifF (wd_ne0 h1 h2 h3 hM), ifF (wd_max h1 h2 h3)]
 exact hl
end
theorem word_cases {x : Nat} (h : okF x) (P : Nat → Prop) (hnan : P nanB) (hi : P 9218868437227405312) (hni : P 18442240474082181120) (h0 : P 0) (hn0 : P 9223372036854775808)
    (hp : ∀ M e, M < 9007199254740992 → (e = 0 ∨ 4503599627370496 ≤ M) → e ≤ 2045 → 0 < M → P (wd M e)) (hm : ∀ M e, M < 9007199254740992 → (e = 0 ∨ 4503599627370496 ≤ M) → e ≤ 2045 → 0 < M → P (9223372036854775808 + wd M e)) : P x := by
  cases hn : isN x with
  | true => rw [nan_word h hn]; exact hnan
  | false =>
    have hx := h.2
    have hr : x % 9223372036854775808 ≤ 9218868437227405312 := by
      unfold isN at hn
      have := of_decide_eq_false hn
      omega
    by_cases hi' : x % 9223372036854775808 = 9218868437227405312
    · rcases (show x = 9218868437227405312 ∨ x = 18442240474082181120 by omega) with rfl | rfl
      · exact hi
      · exact hni
    · obtain ⟨s, M, e, hs, h1, h2, h3, rfl⟩ := fin_word hx (by omega)
      by_cases hM : M = 0
      · subst hM
        have he : e = 0 := by omega
        subst he
        rcases (show s = 0 ∨ s = 1 by omega) with rfl | rfl
        · exact h0
        · exact hn0
      · rcases (show s = 0 ∨ s = 1 by omega) with rfl | rfl
        · rw [Nat.zero_mul, Nat.zero_add]; exact hp M e h1 h2 h3 (by omega)
        · rw [Nat.one_mul]; exact hm M e h1 h2 h3 (by omega)
theorem spec_FloatBits (x : Nat) (h : okF x) : spec_FloatBits.f x = some (x : Int) :=
 word_cases h (fun x => spec_FloatBits.f x = some (x : Int)) fb_nan fb_inf fb_ninf fb_zero fb_nzero (fun M e h1 h2 h3 hM => fb_plus h1 h2 h3 hM) (fun M e h1 h2 h3 hM => fb_minus h1 h2 h3 hM)
end Go.Proofs.YtdhefendaopcbaaGreatDoor
set_option linter.unusedVariables false
set_option linter.unusedSimpArgs false
set_option linter.unusedSectionVars false
namespace Go.Proofs.YtdhefendaopcbaaGreatDoor
open Go V Ieee
def highP (n k : Nat) : List Int := (List.range k).map fun j : Nat => ((n / 2 ^ (56 - 8 * j) % 256 : Nat) : Int)
def highB (n : Nat) : List Int := highP n 8
theorem highP_succ (n k : Nat) : highP n (k + 1) = highP n k ++ [((n / 2 ^ (56 - 8 * k) % 256 : Nat) : Int)] := by simp [highP, List.range_succ]
theorem highP_len (n k : Nat) : (highP n k).length = k := by simp [highP]
theorem highB_u8 (n : Nat) : ∀ x ∈ highB n, InK .u8 x := by
 intro x hx
 simp only [highB, highP, List.mem_map] at hx
 obtain ⟨j, _, rfl⟩ := hx
 have := Nat.mod_lt (n / 2 ^ (56 - 8 * j)) (show 256 > 0 by omega)
 exact u8_ok (by omega) (by omega)
theorem wrap8 (q : Nat) : IntKind.wrap .u8 ((q : Nat) : Int) = ((q % 256 : Nat) : Int) := by rw [IntKind.wrap_u8]; omega
theorem impl_highFirst (n : Nat) : impl_highFirst.f (n : Int) = some (highB n) := by
 unfold impl_highFirst.f
 have hst : (([] : List Int), (56 : Int)) = (highP n 0, (56 : Int) - 8 * ((0 : Nat) : Int)) := rfl
 rw [hst]
 refine iter_for 8 (fun k => (highP n k, (56 : Int) - 8 * (k : Int))) _ (fun k hk => ?_) ?_
 · unfold impl_highFirst.b0
   simp only []
   have e1 : (56 : Int) - 8 * (k : Int) = ((56 - 8 * k : Nat) : Int) := by omega
   rw [if_pos (by simp; omega), if_pos (by omega), if_pos (by rw [highP_len]; simp [Lim]; omega), e1, ishr_nat .u64 n _ (by show 56 - 8 * k ≤ 64; omega), wrap8, highP_succ, w64 (by omega) (by omega)]
   rw [show ((56 - 8 * k : Nat) : Int) - 8 = (56 : Int) - 8 * ((k + 1 : Nat) : Int) by omega]
 · unfold impl_highFirst.b0
   simp only []
   rw [if_neg (by simp)]; rfl
end Go.Proofs.YtdhefendaopcbaaGreatDoor
set_option linter.unusedVariables false
set_option linter.unusedSimpArgs false
set_option linter.unusedSectionVars false
namespace Go.Proofs.YtdhefendaopcbaaGreatDoor
open Go V Ieee
def U8 (l : List Int) : Prop := ∀ x ∈ l, InK .u8 x
theorem str_data' (xs : List Int) : (str xs).data.toList = xs.map fun n => UInt8.ofNat n.toNat := by
 have key : ∀ (xs : List Int) (r : ByteArray), (xs.foldl (fun (r : ByteArray) n => r.push (UInt8.ofNat n.toNat)) r).data.toList = r.data.toList ++ xs.map fun n => UInt8.ofNat n.toNat := by
  intro xs
  induction xs with
  | nil => intro r; simp
  | cons x xs ih => intro r; rw [List.foldl_cons, ih]; simp
 have := key xs ByteArray.empty
 simpa [str] using this
theorem bts_str {xs : List Int} (h : U8 xs) : bts (str xs) = xs := by
 unfold bts
 rw [str_data', List.map_map]
 conv => rhs; rw [← List.map_id xs]
 apply List.map_congr_left
 intro x hx
 have hx' := u8n (h x hx)
 simp only [Function.comp, id]
 rw [UInt8.toNat_ofNat', Nat.mod_eq_of_lt (by omega)]
 omega
theorem bts_app (a b : ByteArray) : bts (a ++ b) = bts a ++ bts b := by
 unfold bts
 simp
theorem size_str {xs : List Int} (h : U8 xs) : (str xs).size = xs.length := by rw [← bts_len, bts_str h]
def hx (n : Nat) : Int := if n < 10 then ((48 + n : Nat) : Int) else ((87 + n : Nat) : Int)
def HX (b : List Int) : List Int := b.flatMap fun x => [hx (x.toNat / 16), hx (x.toNat % 16)]
theorem hx_u8 (n : Nat) (h : n < 16) : InK .u8 (hx n) := by
 unfold hx
 split <;> exact u8_ok (by omega) (by omega)
theorem HX_u8 {b : List Int} (h : U8 b) : U8 (HX b) := by
 intro x hx'
 simp only [HX, List.mem_flatMap] at hx'
 obtain ⟨y, hy, hx'⟩ := hx'
 have := u8n (h y hy)
 simp only [List.mem_cons, List.not_mem_nil, or_false] at hx'
 rcases hx' with rfl | rfl <;> exact hx_u8 _ (by omega)
theorem HX_len (b : List Int) : (HX b).length = 2 * b.length := by
 induction b with
 | nil => rfl
 | cons x b ih => simp only [HX, List.flatMap_cons, List.length_append, List.length_cons, List.length_nil] at ih ⊢; omega
theorem HX_succ (b : List Int) (k : Nat) (h : k < b.length) : HX (b.take (k + 1)) = HX (b.take k) ++ [hx (b[k].toNat / 16), hx (b[k].toNat % 16)] := by
 rw [List.take_succ_eq_append_getElem h]
 simp only [HX, List.flatMap_append, List.flatMap_cons, List.flatMap_nil, List.append_nil]
theorem dig_at (n : Nat) (h : n < 16) : at_ ([(48 : Int), (49 : Int), (50 : Int), (51 : Int), (52 : Int), (53 : Int), (54 : Int), (55 : Int), (56 : Int), (57 : Int), (97 : Int), (98 : Int), (99 : Int), (100 : Int), (101 : Int), (102 : Int)]) (n : Int) = hx n := by
 have : ∀ m : Fin 16, at_ ([(48 : Int), (49 : Int), (50 : Int), (51 : Int), (52 : Int), (53 : Int), (54 : Int), (55 : Int), (56 : Int), (57 : Int), (97 : Int), (98 : Int), (99 : Int), (100 : Int), (101 : Int), (102 : Int)]) ((m : Nat) : Int) = hx m := by decide
 exact this ⟨n, h⟩
theorem bts_dig : bts (⟨#[48, 49, 50, 51, 52, 53, 54, 55, 56, 57, 97, 98, 99, 100, 101, 102]⟩ : ByteArray) = [(48 : Int), (49 : Int), (50 : Int), (51 : Int), (52 : Int), (53 : Int), (54 : Int), (55 : Int), (56 : Int), (57 : Int), (97 : Int), (98 : Int), (99 : Int), (100 : Int), (101 : Int), (102 : Int)] := by decide
theorem shr4 (n : Nat) : ishr .u8 (n : Int) (4 : Int) = ((n / 16 : Nat) : Int) := ishr_nat .u8 n 4 (by show 4 ≤ 8; omega)
theorem and15 (n : Nat) (h : n < 256) : iand .u8 (n : Int) (15 : Int) = ((n % 16 : Nat) : Int) := by
 have : ∀ m : Fin 256, iand .u8 ((m : Nat) : Int) (15 : Int) = (((m : Nat) % 16 : Nat) : Int) := by decide +kernel
 exact this ⟨n, h⟩
theorem impl_hexText (b : List Int) (h : U8 b) (hl : b.length ≤ 1048576) : impl_hexText.f b = some (str (HX b)) := by
 unfold impl_hexText.f
 have hst : (([] : List Int), (0 : Int)) = (HX (b.take 0), ((0 : Nat) : Int)) := by simp [HX]
 rw [hst]
 refine iter_for b.length (fun k => (HX (b.take k), (k : Int))) _ (fun k hk => ?_) ?_
 · unfold impl_hexText.b0
   simp only []
   have hu := u8n (h _ (List.getElem_mem hk))
   have hlen : (HX (b.take k)).length ≤ 2097152 := by rw [HX_len, List.length_take]; omega
   have e1 : at_ b (k : Int) = ((b[k].toNat : Nat) : Int) := by rw [at_nat b k hk]; exact hu.1
   have hsz : ((⟨#[48, 49, 50, 51, 52, 53, 54, 55, 56, 57, 97, 98, 99, 100, 101, 102]⟩ : ByteArray).size : Int) = 16 := rfl
   rw [e1, shr4, and15 _ hu.2, bts_dig, dig_at _ (by omega), dig_at _ (by omega), hsz]
   rw [if_pos (by simp; omega), if_pos (by omega), if_pos (by omega), if_pos (by omega), if_pos (by simp [Lim]; omega), w64 (by omega) (by omega), HX_succ b k hk]
   rfl
 · unfold impl_hexText.b0
   simp only []
   rw [if_neg (by simp), List.take_length]; rfl
end Go.Proofs.YtdhefendaopcbaaGreatDoor
set_option linter.unusedVariables false
set_option linter.unusedSimpArgs false
set_option linter.unusedSectionVars false
namespace Go.Proofs.YtdhefendaopcbaaGreatDoor
open Go V Ieee
def DG (u : Nat) : List Int := (Lib.decDigits u).map fun b => (b.toNat : Int)
def IT (n : Int) : List Int := (Lib.itoa n).map fun b => (b.toNat : Int)
theorem bts_itoa (n : Int) : bts ⟨(Lib.itoa n).toArray⟩ = IT n := rfl
theorem DG_lt {u : Nat} (h : u < 10) : DG u = [((48 + u : Nat) : Int)] := by
 unfold DG
 rw [Lib.decDigits, dif_pos h]
 simp only [List.map_cons, List.map_nil, UInt8.toNat_ofNat']
 rw [Nat.mod_eq_of_lt (by omega)]
theorem DG_ge {u : Nat} (h : ¬ u < 10) : DG u = DG (u / 10) ++ [((48 + u % 10 : Nat) : Int)] := by
 unfold DG
 conv => lhs; rw [Lib.decDigits, dif_neg h]
 simp only [List.map_append, List.map_cons, List.map_nil, UInt8.toNat_ofNat']
 rw [Nat.mod_eq_of_lt (by omega)]
theorem IT_u8 (n : Int) : U8 (IT n) := by
 intro x hx
 simp only [IT, List.mem_map] at hx
 obtain ⟨b, _, rfl⟩ := hx
 have := b.toNat_lt
 exact u8_ok (by omega) (by omega)
theorem IT_len (n : Int) (h : InK .i64 n) : (IT n).length ≤ 21 := by
 have := i64_of h
 simp only [IT, List.length_map]
 exact Lib.itoa_length_le n this.1 this.2
end Go.Proofs.YtdhefendaopcbaaGreatDoor
set_option linter.unusedVariables false
set_option linter.unusedSimpArgs false
set_option linter.unusedSectionVars false
namespace Go.Proofs.YtdhefendaopcbaaGreatDoor
open Go V Ieee
theorem wd_rng {M e : Nat} (h1 : M < 9007199254740992) (h3 : e ≤ 2045) (hM : 0 < M) : 0 < wd M e ∧ wd M e < 9218868437227405312 := by rw [wd_eq]; omega
theorem cmp_facts (x : Nat) (h : okF x) : (fcmp .f64 x x != some .eq) = decide (x = 9221120237041090560) ∧ (fcmp .f64 x 0 == some .eq) = decide (x = 0 ∨ x = 9223372036854775808) ∧
    (x ≠ 9221120237041090560 → (fcmp .f64 x 0 == some .gt) = decide (0 < x ∧ x < 9223372036854775808)) ∧ isN x = decide (x = 9221120237041090560) := by
  refine word_cases h (fun x => (fcmp .f64 x x != some .eq) = decide (x = 9221120237041090560) ∧ (fcmp .f64 x 0 == some .eq) = decide (x = 0 ∨ x = 9223372036854775808) ∧
    (x ≠ 9221120237041090560 → (fcmp .f64 x 0 == some .gt) = decide (0 < x ∧ x < 9223372036854775808)) ∧ isN x = decide (x = 9221120237041090560)) ?_ ?_ ?_ ?_ ?_ (fun M e h1 h2 h3 hM => ?_) (fun M e h1 h2 h3 hM => ?_)
  · exact ⟨by decide, by decide, fun h => absurd rfl h, by decide⟩
  · exact ⟨by decide, by decide, fun _ => by decide, by decide⟩
  · exact ⟨by decide, by decide, fun _ => by decide, by decide⟩
  · exact ⟨by decide, by decide, fun _ => by decide, by decide⟩
  · exact ⟨by decide, by decide, fun _ => by decide, by decide⟩
  · obtain ⟨q0, q1⟩ := wd_rng h1 h3 hM
    have c1 := cmp_self (wd_v h1 h2 h3)
    have c2 := wd_ne0 h1 h2 h3 hM
    have c3 := wd_gt h1 h2 h3 hM
    rw [c1, c2, c3]
    generalize wd M e = q at q0 q1
    refine ⟨?_, ?_, fun _ => ?_, ?_⟩
    · rw [decide_eq_false (by omega)]
    · rw [decide_eq_false (by omega)]
    · rw [decide_eq_true (by omega)]
    · unfold isN
      rw [decide_eq_false (by omega), decide_eq_false (by omega)]
  · obtain ⟨q0, q1⟩ := wd_rng h1 h3 hM
    have c1 := cmp_self (wd_neg h1 h2 h3)
    have c2 := neg_cmp h1 h2 h3 hM
    rw [c1, c2]
    generalize wd M e = q at q0 q1
    refine ⟨?_, ?_, fun _ => ?_, ?_⟩
    · rw [decide_eq_false (by omega)]
    · rw [decide_eq_false (by omega)]; rfl
    · rw [decide_eq_false (by omega)]; rfl
    · unfold isN
      rw [decide_eq_false (by omega), decide_eq_false (by omega)]
theorem ishr63 (n : Nat) : (ishr .u64 (n : Int) (63 : Int) == (1 : Int)) = decide (n / 9223372036854775808 = 1) := by
 have h2 : ishr .u64 (n : Int) (63 : Int) = ((n / 9223372036854775808 : Nat) : Int) := ishr_nat .u64 n 63 (by decide)
 rw [h2]
 generalize n / 9223372036854775808 = q
 by_cases hq : q = 1
 · rw [decide_eq_true hq, hq]; rfl
 · rw [decide_eq_false hq]; simp; omega
end Go.Proofs.YtdhefendaopcbaaGreatDoor
set_option linter.unusedVariables false
set_option linter.unusedSimpArgs false
set_option linter.unusedSectionVars false
namespace Go.Proofs.YtdhefendaopcbaaGreatDoor
open Go V Ieee
theorem within_rin (a b c : Int) : impl_within.f a b c = some (rin a b c) := rfl
def IOK (a : Item) : Bool := ((rin a.Kind 0 3 && ((a.N == (0 : Int)) || (a.Kind == (1 : Int)))) && (((a.F : Int) == 0) || (a.Kind == (2 : Int)))) && (((a.T.length : Int) == (0 : Int)) || ((a.Kind == (3 : Int)) && (decide ((a.T.length : Int) ≤ (40 : Int)))))
theorem impl_ItemOk (a : Item) : impl_ItemOk.f a = some (IOK a) := by
 unfold impl_ItemOk.f
 rw [within_rin, Option.bind_some]; rfl
theorem iok_iff (a : Item) : IOK a = true ↔ ((0 ≤ a.Kind ∧ a.Kind ≤ 3) ∧ (a.N = 0 ∨ a.Kind = 1)) ∧ (a.F = 0 ∨ a.Kind = 2) ∧ (a.T.length = 0 ∨ a.Kind = 3 ∧ a.T.length ≤ 40) := by
 simp only [IOK, rin, Bool.and_eq_true, Bool.or_eq_true, decide_eq_true_eq, beq_iff_eq]
 constructor
 · rintro ⟨⟨⟨h1, h2⟩, h3⟩, h4⟩; exact ⟨⟨h1, h2⟩, by omega, by omega⟩
 · rintro ⟨⟨h1, h2⟩, h3, h4⟩; exact ⟨⟨⟨h1, h2⟩, by omega⟩, by omega⟩
theorem spec_ItemOk (a : Item) (h : okF a.F) : spec_ItemOk.f a = some (IOK a) := by
  unfold spec_ItemOk.f
  rw [spec_FloatBits a.F h]
  obtain ⟨k, n, f, t⟩ := a
  have hi := iok_iff ⟨k, n, f, t⟩
  simp only at hi ⊢
  generalize t.length = l at hi ⊢
  by_cases c1 : (((decide (k < (0 : Int))) || (decide (k > (3 : Int)))) || (decide ((l : Int) > (40 : Int)))) = true
  · rw [if_pos c1]
    have : IOK ⟨k, n, f, t⟩ = false := by
      cases hh : IOK ⟨k, n, f, t⟩ with
      | false => rfl
      | true =>
        have := hi.1 hh
        simp only [Bool.or_eq_true, decide_eq_true_eq] at c1
        omega
    rw [this]
  · rw [if_neg c1]
    simp only [Bool.or_eq_true, decide_eq_true_eq, not_or] at c1
    by_cases c2 : ((k != (1 : Int)) && (n != (0 : Int))) = true
    · rw [if_pos c2]
      have : IOK ⟨k, n, f, t⟩ = false := by
        cases hh : IOK ⟨k, n, f, t⟩ with
        | false => rfl
        | true =>
          have := hi.1 hh
          simp only [Bool.and_eq_true, bne_iff_ne, ne_eq] at c2
          omega
      rw [this]
    · rw [if_neg c2]
      simp only [Bool.and_eq_true, bne_iff_ne, ne_eq, not_and, Decidable.not_not] at c2
      by_cases c3 : k = 2
      · rw [if_neg (by simp [c3])]
        simp only [Option.bind_some, Bool.false_eq_true, if_false]
        congr 1
        have e : ((k == (3 : Int)) || ((l : Int) == (0 : Int))) = decide (k = 3 ∨ l = 0) := by
          by_cases q : k = 3 <;> by_cases q2 : l = 0 <;> simp [q, q2]
        rw [e]
        cases hh : IOK ⟨k, n, f, t⟩ with
        | true => exact decide_eq_true (by have := hi.1 hh; omega)
        | false => exact decide_eq_false (fun hc => by
            have : IOK ⟨k, n, f, t⟩ = true := hi.2 (by omega)
            rw [hh] at this; cases this)
      · rw [if_pos (by simp [c3])]
        simp only [Option.bind_some]
        by_cases c4 : f = 0
        · rw [if_neg (by simp [c4])]
          congr 1
          have e : ((k == (3 : Int)) || ((l : Int) == (0 : Int))) = decide (k = 3 ∨ l = 0) := by
            by_cases q : k = 3 <;> by_cases q2 : l = 0 <;> simp [q, q2]
          rw [e]
          cases hh : IOK ⟨k, n, f, t⟩ with
          | true => exact decide_eq_true (by have := hi.1 hh; omega)
          | false => exact decide_eq_false (fun hc => by
              have : IOK ⟨k, n, f, t⟩ = true := hi.2 (by omega)
              rw [hh] at this; cases this)
        · rw [if_pos (by simp; exact c4)]
          have : IOK ⟨k, n, f, t⟩ = false := by
            cases hh : IOK ⟨k, n, f, t⟩ with
            | false => rfl
            | true =>
              have := hi.1 hh
              omega
          rw [this]
def KOK (a : Item) : Bool := (IOK a && (a.Kind != (0 : Int))) && decide (a.F ≠ 9223372036854775808)
theorem impl_KeyOk (a : Item) (h : okF a.F) : impl_KeyOk.f a = some (KOK a) := by
 unfold impl_KeyOk.f KOK
 rw [impl_ItemOk, Option.bind_some]
 obtain ⟨_, c2, _, _⟩ := cmp_facts a.F h
 have e : ((fcmp .f64 a.F 0 != some .eq) || ((a.F : Int) == 0)) = decide (a.F ≠ 9223372036854775808) := by
  have hb : (fcmp .f64 a.F 0 != some .eq) = !(fcmp .f64 a.F 0 == some .eq) := rfl
  rw [hb, c2]
  generalize a.F = q
  by_cases h0 : q = 0
  · subst h0; rfl
  · by_cases h1 : q = 9223372036854775808
    · subst h1; rfl
    · rw [decide_eq_false (by omega), decide_eq_true h1]; rfl
 rw [e]
theorem spec_KeyOk (a : Item) (h : okF a.F) : spec_KeyOk.f a = some (KOK a) := by
 unfold spec_KeyOk.f KOK
 rw [spec_ItemOk a h, Option.bind_some]
 obtain ⟨_, c2, _, _⟩ := cmp_facts a.F h
 cases hc : (IOK a && (a.Kind != (0 : Int))) with
 | false => rfl
 | true =>
  rw [if_pos rfl, c2, spec_FloatBits a.F h]
  generalize a.F = q
  by_cases h0 : q = 0
  · subst h0; rfl
  · by_cases h1 : q = 9223372036854775808
    · subst h1; rfl
    · rw [decide_eq_false (by omega), decide_eq_true h1]; rfl
theorem iok_T {a : Item} (h : IOK a = true) : a.T.length ≤ 40 := by have := (iok_iff a).1 h; omega
end Go.Proofs.YtdhefendaopcbaaGreatDoor
set_option linter.unusedVariables false
set_option linter.unusedSimpArgs false
set_option linter.unusedSectionVars false
namespace Go.Proofs.YtdhefendaopcbaaGreatDoor
open Go V Ieee
theorem impl_FloatBits (x : Nat) (h : okF x) : impl_FloatBits.f x = some (x : Int) := by
 obtain ⟨c1, _, _, c4⟩ := cmp_facts x h
 unfold impl_FloatBits.f
 by_cases hx : x = 9221120237041090560
 · rw [ifT (by rw [c1]; exact decide_eq_true hx), hx]; rfl
 · rw [ifF (by rw [c1]; exact decide_eq_false hx), if_pos (by rw [c4]; exact decide_eq_false hx)]
end Go.Proofs.YtdhefendaopcbaaGreatDoor
set_option linter.unusedVariables false
set_option linter.unusedSimpArgs false
set_option linter.unusedSectionVars false
namespace Go.Proofs.YtdhefendaopcbaaGreatDoor
open Go V Ieee
def TX (a : Item) : List Int := if a.Kind = 1 then 105 :: IT a.N else if a.Kind = 2 then 102 :: HX (highB a.F) else if a.Kind = 3 then 116 :: HX a.T else [45]
theorem TX_u8 (a : Item) (h : U8 a.T) : U8 (TX a) := by
 have c : ∀ (x : Int) (l : List Int), InK .u8 x → U8 l → U8 (x :: l) := fun x l h1 h2 y hy => by
  rcases List.mem_cons.1 hy with rfl | hy
  · exact h1
  · exact h2 y hy
 unfold TX
 split
 · exact c _ _ (u8_ok (by omega) (by omega)) (IT_u8 _)
 · split
   · exact c _ _ (u8_ok (by omega) (by omega)) (HX_u8 (highB_u8 _))
   · split
     · exact c _ _ (u8_ok (by omega) (by omega)) (HX_u8 h)
     · exact c _ _ (u8_ok (by omega) (by omega)) (fun x hx => by cases hx)
theorem TX_len (a : Item) (hn : InK .i64 a.N) : (TX a).length ≤ 2 * a.T.length + 30 := by
 unfold TX
 have h1 := IT_len a.N hn
 have h2 : (HX (highB a.F)).length = 16 := by rw [HX_len, highB, highP_len]
 have h3 := HX_len a.T
 split
 · simp only [List.length_cons]; omega
 · split
   · simp only [List.length_cons]; omega
   · split <;> simp only [List.length_cons, List.length_nil] <;> omega
theorem highB_len (n : Nat) : (highB n).length = 8 := by rw [highB, highP_len]
theorem impl_bitsText (x : Nat) (hx : okF x) : impl_bitsText.f x = some (str (HX (highB x))) := by
 unfold impl_bitsText.f
 rw [impl_FloatBits x hx, Option.bind_some, impl_highFirst, Option.bind_some, impl_hexText _ (highB_u8 x) (by rw [highB_len]; omega)]; rfl
theorem okF_lt {x : Nat} (h : okF x) : x < 18446744073709551616 := h.2
theorem bts_itemText (a : Item) (ha : ok_Item a) (hT : a.T.length ≤ 1000000) : ∃ t, impl_itemText.f a = some t ∧ bts t = TX a := by
 have hn := i64_of ha.2.1
 have hil := IT_len a.N ha.2.1
 unfold impl_itemText.f TX
 by_cases h1 : a.Kind = 1
 · rw [if_pos (by simp [h1]), if_pos h1]
   have : strconv_Itoa.f a.N = some ⟨(Lib.itoa a.N).toArray⟩ := by unfold strconv_Itoa.f; rw [if_pos hn]
   rw [this, Option.bind_some, if_pos (by rw [← bts_len, ← bts_len, bts_itoa]; simp [bts, Lim]; omega)]
   exact ⟨_, rfl, by rw [bts_app, bts_itoa]; rfl⟩
 · rw [if_neg (by simp [h1]), if_neg h1]
   by_cases h2 : a.Kind = 2
   · rw [if_pos (by simp [h2]), if_pos h2, impl_bitsText a.F ha.2.2.1, Option.bind_some]
     have hu := HX_u8 (highB_u8 a.F)
     rw [if_pos (by rw [size_str hu, HX_len, highB_len]; decide)]
     exact ⟨_, rfl, by rw [bts_app, bts_str hu]; rfl⟩
   · rw [if_neg (by simp [h2]), if_neg h2]
     by_cases h3 : a.Kind = 3
     · have hu := HX_u8 ha.2.2.2.2
       rw [if_pos (by simp [h3]), if_pos h3, impl_hexText a.T ha.2.2.2.2 (by omega), Option.bind_some, if_pos (by rw [size_str hu, HX_len, ← bts_len]; simp [bts, Lim]; omega)]
       exact ⟨_, rfl, by rw [bts_app, bts_str hu]; rfl⟩
     · rw [if_neg (by simp [h3]), if_neg h3]
       exact ⟨_, rfl, rfl⟩
def TXO (a : Item) : List Int := if IOK a = true then TX a else []
theorem impl_ItemText (a : Item) (ha : ok_Item a) : impl_ItemText.f a = some (TXO a) := by
 unfold impl_ItemText.f TXO
 rw [impl_ItemOk, Option.bind_some]
 by_cases h : IOK a = true
 · have hT := iok_T h
   obtain ⟨t, ht, hbt⟩ := bts_itemText a ha (by omega)
   have hl := TX_len a ha.2.1
   rw [if_neg (by simp [h]), if_pos h, ht, Option.bind_some, if_pos (by rw [← bts_len, hbt]; simp [Lim]; omega), hbt]
 · rw [if_pos (by simpa using h), if_neg h]
end Go.Proofs.YtdhefendaopcbaaGreatDoor
set_option linter.unusedVariables false
set_option linter.unusedSimpArgs false
set_option linter.unusedSectionVars false
namespace Go.Proofs.YtdhefendaopcbaaGreatDoor
open Go V Ieee
theorem near_v (n : Nat) (h : n < 9007199254740992) : IsV (FloatKind.f64.nearest (n : Int)) false (n * pw 1074) := by
 have hr := rep_of h 1074 (by omega)
 have := write_rep false n 0 (n * pw 1074) hr (by
  rw [show ((0 : Int) + 1074).toNat = 1074 by omega, show (-((0 : Int) + 1074)).toNat = 0 by omega, Nat.pow_zero, Nat.mul_one, pw])
 have e : FloatKind.f64.nearest (n : Int) = D.write (.number false n 0) := by
  show D.write (.number (decide ((n : Int) < 0)) (n : Int).natAbs 0) = _
  rw [decide_eq_false (by omega), Int.natAbs_natCast]
 rwa [e]
end Go.Proofs.YtdhefendaopcbaaGreatDoor
set_option linter.unusedVariables false
set_option linter.unusedSimpArgs false
set_option linter.unusedSectionVars false
namespace Go.Proofs.YtdhefendaopcbaaGreatDoor
open Go V Ieee
theorem far_quob {a u : Nat} (h : IsV a false (u * pw 52)) (hu : Rep u) : IsV (far .quo a 4841369599423283200) false u := by
 obtain ⟨w', hw, hv⟩ := div_pow (j := 52) c_big h hu
 have : far .quo a 4841369599423283200 = w' := by show (D.div a _).getD _ = _; rw [hw]; rfl
 rwa [this]
theorem far_add1 {a v : Nat} (h : IsV a false v) (hv : Rep (U1 + v)) : IsV (far .add a 4607182418800017408) false (U1 + v) := by
 obtain ⟨w', hw, hv⟩ := add_one h hv
 have : far .add a 4607182418800017408 = w' := by show (D.add a _).getD _ = _; rw [hw]; rfl
 rwa [this]
theorem fo_dn (M : Nat) (hM : M < 9007199254740992) : ∀ (n c a : Nat), c + n ≤ 2045 → IsV a false (M * pw (c + n)) → ∃ a', iter spec_FloatOf.b1 (a, -(n : Int)) = some (Sum.inl a') ∧ IsV a' false (M * pw c) := by
 intro n
 induction n with
 | zero =>
  intro c a hc hv
  refine ⟨a, iter_r ?_, hv⟩
  unfold spec_FloatOf.b1
  rw [if_neg (by simp)]; rfl
 | succ n ih =>
  intro c a hc hv
  have hv2 : IsV a false (M * pw (c + n) * 2) := by rw [Nat.mul_assoc, ← pw_succ]; exact hv
  obtain ⟨a', ha, hav⟩ := ih c _ (by omega) (far_half hv2 (rep_of hM _ (by omega)))
  refine ⟨a', ?_, hav⟩
  have hstep : spec_FloatOf.b1 (a, -((n + 1 : Nat) : Int)) = some (.inl (far .quo a 4611686018427387904, -(n : Int))) := by
   unfold spec_FloatOf.b1
   rw [if_pos (decide_eq_true (by show -((n + 1 : Nat) : Int) < 0; omega)), w64 (by omega) (by omega), show -((n + 1 : Nat) : Int) + 1 = -(n : Int) by omega]
  rw [iter_l hstep, ha]
theorem fo_0 (a : Nat) (k : Int) (h : k ≤ 0) : iter spec_FloatOf.b0 (a, k) = iter spec_FloatOf.b1 (a, k) := by
 refine iter_pass ?_
 unfold spec_FloatOf.b0
 rw [if_neg (by simp; omega)]
theorem fo_up (M : Nat) (hM : M < 9007199254740992) : ∀ (n e a : Nat), e + n ≤ 2045 → IsV a false (M * pw e) → ∃ a', iter spec_FloatOf.b0 (a, (n : Int)) = some (Sum.inl a') ∧ IsV a' false (M * pw (e + n)) := by
 intro n
 induction n with
 | zero =>
  intro e a he hv
  rw [fo_0 _ _ (by omega)]
  exact fo_dn M hM 0 e a (by omega) hv
 | succ n ih =>
  intro e a he hv
  have hd := far_dbl hv (by rw [Nat.mul_assoc, ← pw_succ]; exact rep_of hM _ (by omega))
  rw [Nat.mul_assoc, ← pw_succ] at hd
  obtain ⟨a', ha, hav⟩ := ih (e + 1) _ (by omega) hd
  refine ⟨a', ?_, by rw [show e + (n + 1) = e + 1 + n by omega]; exact hav⟩
  have hstep : spec_FloatOf.b0 (a, ((n + 1 : Nat) : Int)) = some (.inl (far .mul a 4611686018427387904, (n : Int))) := by
   unfold spec_FloatOf.b0
   rw [if_pos (decide_eq_true (by show ((n + 1 : Nat) : Int) > 0; omega)), w64 (by omega) (by omega), show ((n + 1 : Nat) : Int) - 1 = (n : Int) by omega]
  rw [iter_l hstep, ha]
theorem efield (n : Nat) (h : n < 18446744073709551616) : IntKind.wrap .i64 (iand .u64 (ishr .u64 (n : Int) (52 : Int)) (2047 : Int)) = ((n / 4503599627370496 % 2048 : Nat) : Int) := by
 have h1 : ishr .u64 (n : Int) (52 : Int) = ((n / 4503599627370496 : Nat) : Int) := ishr_nat .u64 n 52 (by decide)
 have h2 : iand .u64 ((n / 4503599627370496 : Nat) : Int) (2047 : Int) = (((n / 4503599627370496) &&& 2047 : Nat) : Int) := iand_u64 _ 2047 (by omega) (by omega)
 have h3 : (n / 4503599627370496) &&& 2047 = n / 4503599627370496 % 2048 := Nat.and_two_pow_sub_one_eq_mod _ 11
 rw [h1, h2, h3, w64 (by omega) (by omega)]
theorem ffield (n : Nat) (h : n < 18446744073709551616) : iand .u64 (n : Int) (4503599627370495 : Int) = ((n % 4503599627370496 : Nat) : Int) := by
 have h2 : iand .u64 (n : Int) (4503599627370495 : Int) = ((n &&& 4503599627370495 : Nat) : Int) := iand_u64 _ 4503599627370495 h (by omega)
 have h3 : n &&& 4503599627370495 = n % 4503599627370496 := Nat.and_two_pow_sub_one_eq_mod _ 52
 rw [h2, h3]
theorem fneg_wd (r : Nat) (h : r ≤ 9218868437227405312) : fneg r = 9223372036854775808 + r := by
 have hn : isN r = false := by unfold isN; rw [decide_eq_false (by omega)]
 unfold fneg
 rw [hn, cond_false]
 show r ^^^ 2 ^ 63 = _
 have := xor_sign r (by omega)
 have h2 : (9223372036854775808 + r) ^^^ 2 ^ 63 = r := this
 have h3 : ((9223372036854775808 + r) ^^^ 2 ^ 63) ^^^ 2 ^ 63 = r ^^^ 2 ^ 63 := by rw [h2]
 rw [Nat.xor_assoc, Nat.xor_self, Nat.xor_zero] at h3
 exact h3.symm
theorem fo_sign (n r : Nat) (hn : n = n / 9223372036854775808 * 9223372036854775808 + r) (h2 : n / 9223372036854775808 ≤ 1) (h : r ≤ 9218868437227405312) :
    (if ((ishr .u64 (n : Int) (63 : Int)) == (1 : Int)) = true then (some (fneg r)) else (some r)) = some (cn n) := by
  have hc : cn n = n := by
    refine cn_of ?_
    unfold isN
    rw [decide_eq_false (by omega)]
  rw [hc]
  by_cases h1 : n / 9223372036854775808 = 1
  · rw [ifT (by rw [ishr63]; exact decide_eq_true h1), fneg_wd r h, show 9223372036854775808 + r = n by omega]
  · rw [ifF (by rw [ishr63]; exact decide_eq_false h1), show r = n by omega]
theorem spec_FloatOf (n : Nat) (h : n < 18446744073709551616) : spec_FloatOf.f (n : Int) = some (cn n) := by
 unfold spec_FloatOf.f
 rw [efield n h, ffield n h]
 have hE : n / 4503599627370496 % 2048 < 2048 := Nat.mod_lt _ (by decide)
 have hF : n % 4503599627370496 < 4503599627370496 := Nat.mod_lt _ (by decide)
 have hn : n = n / 9223372036854775808 * 9223372036854775808 + (n / 4503599627370496 % 2048 * 4503599627370496 + n % 4503599627370496) := by omega
 have h2 : n / 9223372036854775808 ≤ 1 := by omega
 have hfs := fo_sign n
 generalize hEe : n / 4503599627370496 % 2048 = E at *
 generalize hFf : n % 4503599627370496 = f at *
 by_cases hinf : E = 2047
 · rw [ifT (by simp; omega)]
   by_cases hf : f = 0
   · rw [ifF (by simp; omega)]
     have e : far .quo 4607182418800017408 0 = 9218868437227405312 := by decide
     have hA := hfs 9218868437227405312 (by omega) h2 (by omega)
     rw [Option.bind_some, sel_inl, e]
     exact hA
   · rw [ifT (by simp; omega)]
     have e : far .quo 0 0 = 9221120237041090560 := by decide
     rw [Option.bind_some, sel_inr, e]
     rw [cn_nan (by unfold isN; rw [decide_eq_true (by omega)])]
     rfl
 · rw [ifF (by simp; omega)]
   have hq : IsV (far .quo (FloatKind.f64.nearest (f : Int)) 4841369599423283200) false (f * pw 1022) := by
    refine far_quob ?_ (rep_of (by omega) _ (by omega))
    rw [Nat.mul_assoc, ← pw_add]
    exact near_v f (by omega)
   by_cases h0 : E = 0
   · have hA := hfs f (by omega) h2 (by omega)
     have hB : 0 * 4503599627370496 + f = f := by omega
     rw [ifT (by simp; omega), Option.bind_some, fo_0 _ _ (by show (-1022 : Int) ≤ 0; decide)]
     obtain ⟨a', ha, hav⟩ := fo_dn f (by omega) 1022 0 _ (by omega) hq
     have hk : (-1022 : Int) = -((1022 : Nat) : Int) := by decide
     rw [hk, ha, Option.bind_some, sel_inl]
     have := hav.eq (wd_v (e := 0) (by omega) (.inl rfl) (by omega))
     rw [this, wd_eq, hB]
     exact hA
   · have hA := hfs (E * 4503599627370496 + f) (by omega) h2 (by omega)
     have hB : (E - 1) * 4503599627370496 + (4503599627370496 + f) = E * 4503599627370496 + f := by omega
     rw [ifF (by simp; omega), Option.bind_some, w64 (by omega) (by omega)]
     have hsum : U1 + f * pw 1022 = (4503599627370496 + f) * pw 1022 := by rw [U1_eq, Nat.add_mul]
     have hM : 4503599627370496 + f < 9007199254740992 := by omega
     have ha1 := far_add1 hq (by rw [hsum]; exact rep_of hM _ (by omega))
     rw [hsum] at ha1
     have key : ∃ a', iter spec_FloatOf.b0 (far .add (far .quo (FloatKind.f64.nearest (f : Int)) 4841369599423283200) 4607182418800017408, (E : Int) - 1023) = some (Sum.inl a') ∧ IsV a' false ((4503599627370496 + f) * pw (E - 1)) := by
      by_cases hk : 1023 ≤ E
      · obtain ⟨a', ha, hav⟩ := fo_up _ hM (E - 1023) 1022 _ (by omega) ha1
        refine ⟨a', ?_, by rw [show E - 1 = 1022 + (E - 1023) by omega]; exact hav⟩
        rw [show (E : Int) - 1023 = ((E - 1023 : Nat) : Int) by omega]; exact ha
      · obtain ⟨a', ha, hav⟩ := fo_dn _ hM (1023 - E) (E - 1) _ (by omega) (by rw [show E - 1 + (1023 - E) = 1022 by omega]; exact ha1)
        refine ⟨a', ?_, hav⟩
        rw [fo_0 _ _ (by omega), show (E : Int) - 1023 = -((1023 - E : Nat) : Int) by omega]; exact ha
     obtain ⟨a', ha, hav⟩ := key
     rw [ha, Option.bind_some, sel_inl]
     have := hav.eq (wd_v hM (.inr (by omega)) (by omega))
     rw [this, wd_eq, hB]
     exact hA
theorem impl_FloatOf (n : Nat) : impl_FloatOf.f (n : Int) = some (cn n) := rfl
end Go.Proofs.YtdhefendaopcbaaGreatDoor
set_option linter.unusedVariables false
set_option linter.unusedSimpArgs false
set_option linter.unusedSectionVars false
namespace Go.Proofs.YtdhefendaopcbaaGreatDoor
open Go V Ieee
theorem i64w (x : Int) : InK .i64 (IntKind.wrap .i64 x) := by rw [IntKind.wrap_i64]; exact i64_ok (by omega) (by omega)
theorem okF_cn (n : Nat) (h : n < 18446744073709551616) : okF (cn n) := by
 refine ⟨cn_cn n, ?_⟩
 unfold cn
 cases isN n with
 | true => show nanB < _; decide
 | false => exact h
theorem okF_0 : okF 0 := ⟨by decide, by decide⟩
def lwS (n : Nat) (b : Int) : Nat := (n * 256 % 18446744073709551616) ||| b.toNat
def LW (l : List Int) : Nat := l.foldl lwS 0
theorem lw_lt (l : List Int) (h : ∀ x ∈ l, InK .u8 x) : LW l < 18446744073709551616 := by
 unfold LW
 have : ∀ (l : List Int) (n : Nat), (∀ x ∈ l, InK .u8 x) → n < 18446744073709551616 → l.foldl lwS n < 18446744073709551616 := by
  intro l
  induction l with
  | nil => intro n _ h; exact h
  | cons x l ih =>
   intro n hx hn
   have := u8n (hx x (by simp))
   exact ih _ (fun y hy => hx y (by simp [hy])) (Nat.or_lt_two_pow (n := 64) (Nat.mod_lt _ (by decide)) (by omega))
 exact this l 0 h (by decide)
theorem lw_take (l : List Int) (k : Nat) (h : k < l.length) : LW (l.take (k + 1)) = lwS (LW (l.take k)) l[k] := by
 unfold LW
 rw [List.take_succ_eq_append_getElem h, List.foldl_append]; rfl
theorem lw_step (n : Nat) (b : Int) (hn : n < 18446744073709551616) (hb : InK .u8 b) : ior .u64 (ishl .u64 (n : Int) (8 : Int)) (IntKind.wrap .u64 b) = ((lwS n b : Nat) : Int) := by
 obtain ⟨e, hl⟩ := u8n hb
 have h1 : ishl .u64 (n : Int) (8 : Int) = ((n * 256 % 18446744073709551616 : Nat) : Int) := by
  unfold ishl
  show IntKind.wrap .u64 ((n : Int) * 2 ^ 8) = _
  rw [IntKind.wrap_u64, show (2 : Int) ^ 8 = 256 by decide]
  omega
 rw [h1, e, wu64 _ (by omega), ior_u64 _ _ (Nat.mod_lt _ (by decide)) (by omega), ← e]; rfl
theorem spec_l3low (l : List Int) (h : ∀ x ∈ l, InK .u8 x) (hl : l.length ≤ 1000000000) : spec_l3low.f l = some ((LW l : Nat) : Int) := by
 unfold spec_l3low.f
 have hst : ((0 : Int), (0 : Int)) = (((LW (l.take 0) : Nat) : Int), ((0 : Nat) : Int)) := rfl
 have he : LW l = LW (l.take l.length) := by rw [List.take_length]
 rw [hst, he]
 refine iter_for l.length (fun k => (((LW (l.take k) : Nat) : Int), (k : Int))) _ (fun k hk => ?_) ?_
 · unfold spec_l3low.b0
   simp only []
   rw [if_pos (by simp; omega), if_pos ⟨by omega, by omega⟩, at_nat l k hk, lw_step _ _ (lw_lt _ fun x hx => h x (List.mem_of_mem_take hx)) (h _ (List.getElem_mem hk)), w64 (by omega) (by omega), lw_take l k hk]
   rfl
 · unfold spec_l3low.b0
   simp only []
   rw [if_neg (by simp)]; rfl
theorem impl_fromHigh (l : List Int) (h : ∀ x ∈ l, InK .u8 x) (hl : l.length ≤ 1000000000) : impl_fromHigh.f l = some ((LW l : Nat) : Int) := by
 rw [← spec_l3low l h hl]; rfl
end Go.Proofs.YtdhefendaopcbaaGreatDoor
set_option linter.unusedVariables false
set_option linter.unusedSimpArgs false
set_option linter.unusedSectionVars false
namespace Go.Proofs.YtdhefendaopcbaaGreatDoor
open Go V Ieee
theorem lw_app (l : List Int) (x : Int) : LW (l ++ [x]) = lwS (LW l) x := by unfold LW; rw [List.foldl_append]; rfl
theorem lw_high (n : Nat) (h : n < 18446744073709551616) : ∀ k, k ≤ 8 → LW (highP n k) = n / 2 ^ (64 - 8 * k) := by
 intro k
 induction k with
 | zero =>
  intro _
  show 0 = n / 2 ^ 64
  rw [Nat.div_eq_of_lt h]
 | succ k ih =>
  intro hk
  rw [highP_succ, lw_app, ih (by omega)]
  unfold lwS
  rw [Int.toNat_natCast]
  have e1 : 2 ^ (64 - 8 * k) = 2 ^ (56 - 8 * k) * 256 := by
   rw [show 64 - 8 * k = (56 - 8 * k) + 8 by omega, Nat.pow_add]
  have e2 : 64 - 8 * (k + 1) = 56 - 8 * k := by omega
  rw [e1, e2, ← Nat.div_div_eq_div_mul]
  generalize hm : n / 2 ^ (56 - 8 * k) = m
  have hlt : m < 18446744073709551616 := by rw [← hm]; exact Nat.lt_of_le_of_lt (Nat.div_le_self _ _) h
  rw [Nat.mod_eq_of_lt (by omega)]
  have := or_add 8 (m / 256) (m % 256) (Nat.mod_lt _ (by decide))
  rw [show (2 : Nat) ^ 8 = 256 by decide] at this
  rw [this]; omega
theorem lw_highB (n : Nat) (h : n < 18446744073709551616) : LW (highB n) = n := by
 have := lw_high n h 8 (Nat.le_refl _)
 unfold highB
 rw [this]
 show n / 1 = n
 exact Nat.div_one n
end Go.Proofs.YtdhefendaopcbaaGreatDoor
set_option linter.unusedVariables false
set_option linter.unusedSimpArgs false
set_option linter.unusedSectionVars false
namespace Go.Proofs.YtdhefendaopcbaaGreatDoor
open Go V
end Go.Proofs.YtdhefendaopcbaaGreatDoor
set_option linter.unusedVariables false
set_option linter.unusedSimpArgs false
set_option linter.unusedSectionVars false
namespace Go.Proofs.YtdhefendaopcbaaGreatDoor
open Go V Ieee
def dv (l : List Int) (acc : Nat) : Nat := l.foldl (fun a c => a * 10 + (c - 48).toNat) acc
theorem dv_ge : ∀ (l : List Int) (acc : Nat), acc ≤ dv l acc
 | [], acc => Nat.le_refl _
 | c :: l, acc => by
  have := dv_ge l (acc * 10 + (c - 48).toNat)
  have e : dv (c :: l) acc = dv l (acc * 10 + (c - 48).toNat) := rfl
  rw [e]; omega
theorem dv_DG : ∀ (k u : Nat), u < 10 ^ (k + 1) → dv (DG u) 0 = u ∧ (∀ c ∈ DG u, 48 ≤ c ∧ c ≤ 57) ∧ (DG u).length ≤ k + 1 ∧ 1 ≤ (DG u).length := by
 have small : ∀ u : Nat, u < 10 → dv (DG u) 0 = u ∧ (∀ c ∈ DG u, 48 ≤ c ∧ c ≤ 57) ∧ (DG u).length = 1 := fun u hu => by
  rw [DG_lt hu]
  refine ⟨by simp [dv]; omega, fun c hc => by simp at hc; omega, rfl⟩
 intro k
 induction k with
 | zero =>
  intro u h
  obtain ⟨h1, h2, h3⟩ := small u (by simpa using h)
  exact ⟨h1, h2, by omega, by omega⟩
 | succ k ih =>
  intro u h
  by_cases hu : u < 10
  · obtain ⟨h1, h2, h3⟩ := small u hu
    exact ⟨h1, h2, by omega, by omega⟩
  · obtain ⟨h1, h2, h3, h4⟩ := ih (u / 10) (by rw [Nat.pow_succ] at h; omega)
    rw [DG_ge hu]
    refine ⟨?_, fun c hc => ?_, by simp; omega, by simp⟩
    · unfold dv at h1 ⊢
      rw [List.foldl_append, h1]
      simp only [List.foldl_cons, List.foldl_nil]
      omega
    · rcases List.mem_append.1 hc with hc | hc
      · exact h2 c hc
      · simp at hc; omega
theorem parse_dv : ∀ (l : List UInt8) (acc : Nat), (∀ c ∈ l, 48 ≤ c.toNat ∧ c.toNat ≤ 57) → dv (l.map fun b => (b.toNat : Int)) acc < 18446744073709551616 → Lib.parseUint10 acc l = .ok (dv (l.map fun b => (b.toNat : Int)) acc)
 | [], acc, _, _ => rfl
 | c :: l, acc, hd, hv => by
  have hc := hd c List.mem_cons_self
  have e : dv ((c :: l).map fun b => (b.toNat : Int)) acc = dv (l.map fun b => (b.toNat : Int)) (acc * 10 + (c.toNat - 48)) := by
   have : ((c.toNat : Int) - 48).toNat = c.toNat - 48 := by omega
   show dv (l.map fun b => (b.toNat : Int)) (acc * 10 + ((c.toNat : Int) - 48).toNat) = _
   rw [this]
  rw [e] at hv ⊢
  have hge := dv_ge (l.map fun b => (b.toNat : Int)) (acc * 10 + (c.toNat - 48))
  unfold Lib.parseUint10
  rw [if_pos hc, if_neg (by omega), if_neg (by omega)]
  exact parse_dv l _ (fun c' h' => hd c' (List.mem_cons_of_mem _ h')) hv
theorem mag_dig (u : Nat) (hu : u < 10000000000000000000) : Lib.parseMag (Lib.decDigits u) = .ok u := by
 obtain ⟨h1, h2, h3, h4⟩ := dv_DG 18 u hu
 have hne : Lib.decDigits u ≠ [] := fun h => by unfold DG at h4; rw [h] at h4; simp at h4
 unfold Lib.parseMag
 rw [if_neg hne, parse_dv (Lib.decDigits u) 0 (fun c hc => by
  have := h2 (c.toNat : Int) (List.mem_map.2 ⟨c, hc, rfl⟩)
  omega) (by have h1' : dv ((Lib.decDigits u).map fun b => (b.toNat : Int)) 0 = u := h1; rw [h1']; omega)]
 exact congrArg _ h1
theorem atoi_itoa (n : Int) (h : InK .i64 n) : Lib.atoiAll (Lib.itoa n) = .ok n := by
 have hn := i64_of h
 unfold Lib.itoa
 by_cases hs : n < 0
 · rw [if_pos hs]
   unfold Lib.atoiAll
   have e : (45 : UInt8).toNat = 45 := rfl
   simp only [e, or_true, if_true, mag_dig n.natAbs (by omega)]
   rw [if_neg (by simp), if_neg (by simp; omega)]
   congr 1
   omega
 · rw [if_neg hs]
   obtain ⟨h1, h2, h3, h4⟩ := dv_DG 18 n.toNat (by omega)
   have hm := mag_dig n.toNat (by omega)
   cases hl : Lib.decDigits n.toNat with
   | nil => unfold DG at h4; rw [hl] at h4; simp at h4
   | cons c r =>
    have hc := h2 (c.toNat : Int) (by unfold DG; rw [hl]; simp)
    unfold Lib.atoiAll
    simp only []
    rw [if_neg (by omega), ← hl, hm]
    simp only []
    rw [if_neg (by omega), if_neg (by omega), if_neg (by omega)]
    congr 1
    omega
end Go.Proofs.YtdhefendaopcbaaGreatDoor
set_option linter.unusedVariables false
set_option linter.unusedSimpArgs false
set_option linter.unusedSectionVars false
namespace Go.Proofs.YtdhefendaopcbaaGreatDoor
open Go V Ieee
theorem U8_nil : U8 [] := fun x hx => by cases hx
theorem U8_app {a b : List Int} (ha : U8 a) (hb : U8 b) : U8 (a ++ b) := fun x hx => (List.mem_append.1 hx).elim (ha x) (hb x)
def hv (c : Int) : Option Int := if 48 ≤ c ∧ c ≤ 57 then some (c - 48) else if 97 ≤ c ∧ c ≤ 102 then some (c - 87) else none
theorem HX_get (t : List Int) : ∀ (k : Nat) (h : k < t.length), (HX t)[2 * k]? = some (hx (t[k].toNat / 16)) ∧ (HX t)[2 * k + 1]? = some (hx (t[k].toNat % 16)) := by
 induction t with
 | nil => intro k h; simp at h
 | cons x t ih =>
  intro k h
  have e : HX (x :: t) = hx (x.toNat / 16) :: hx (x.toNat % 16) :: HX t := rfl
  rw [e]
  cases k with
  | zero => exact ⟨rfl, rfl⟩
  | succ k =>
   have := ih k (by simpa using h)
   rw [show 2 * (k + 1) = 2 * k + 1 + 1 by omega, show 2 * k + 1 + 1 + 1 = (2 * k + 1) + 1 + 1 by omega]
   simpa using this
def IX (c : Int) : Int := Lib.indexByte (⟨#[48, 49, 50, 51, 52, 53, 54, 55, 56, 57, 97, 98, 99, 100, 101, 102]⟩ : ByteArray).data.toList c.toNat.toUInt8
theorem ix_eq (c : Int) : strings_IndexByte.f (⟨#[48, 49, 50, 51, 52, 53, 54, 55, 56, 57, 97, 98, 99, 100, 101, 102]⟩ : ByteArray) c = some (IX c) := rfl
theorem ix_rng (c : Int) (h : InK .u8 c) : -1 ≤ IX c ∧ IX c ≤ 15 := by
 have key : ∀ m : Fin 256, -1 ≤ IX ((m : Nat) : Int) ∧ IX ((m : Nat) : Int) ≤ 15 := by decide +kernel
 have hc := u8n h
 have := key ⟨c.toNat, hc.2⟩
 rw [hc.1]; exact this
theorem ix_hx (n : Nat) (h : n < 16) : IX (hx n) = (n : Int) := by
 have key : ∀ m : Fin 16, IX (hx (m : Nat)) = ((m : Nat) : Int) := by decide +kernel
 exact key ⟨n, h⟩
theorem or4 (a b : Nat) (ha : a < 16) (hb : b < 16) : IntKind.wrap .u8 (ior .i64 (ishl .i64 (a : Int) (4 : Int)) (b : Int)) = ((a * 16 + b : Nat) : Int) := by
 have key : ∀ x y : Fin 16, IntKind.wrap .u8 (ior .i64 (ishl .i64 ((x : Nat) : Int) (4 : Int)) ((y : Nat) : Int)) = (((x : Nat) * 16 + (y : Nat) : Nat) : Int) := by decide +kernel
 exact key ⟨a, ha⟩ ⟨b, hb⟩
theorem readHex_step (s : ByteArray) (out : List Int) (k : Nat) (hk : 2 * k + 1 < (bts s).length) (hl : (bts s).length ≤ 4000000) (hol : out.length ≤ 4000000) :
    impl_readHex.b0 s (out, ((2 * k : Nat) : Int)) = (if ((decide (IX ((bts s)[2 * k]'(by omega)) < (0 : Int))) || (decide (IX ((bts s)[2 * k + 1]) < (0 : Int)))) = true then (some (Sum.inr (([] : (List Int)), false))) else some (.inl (out ++ [(IntKind.wrap .u8 (ior .i64 (ishl .i64 (IX ((bts s)[2 * k]'(by omega))) (4 : Int)) (IX ((bts s)[2 * k + 1]))))], ((2 * (k + 1) : Nat) : Int)))) := by
  have hs := bts_len s
  unfold impl_readHex.b0
  simp only []
  have e1 : IntKind.wrap .i64 (((2 * k : Nat) : Int) + (1 : Int)) = ((2 * k + 1 : Nat) : Int) := by rw [w64 (by omega) (by omega)]; rfl
  rw [e1, if_pos (by simp; omega), if_pos (by omega), if_pos (by omega), at_nat (bts s) (2 * k) (by omega), at_nat (bts s) (2 * k + 1) hk, ix_eq, ix_eq, Option.bind_some, Option.bind_some]
  split
  · rfl
  · rw [if_pos (by simp [Lim]; omega), w64 (by omega) (by omega)]; rfl
theorem readHex_end (s : ByteArray) (out : List Int) (k : Nat) (hk : 2 * k = (bts s).length) : iter (impl_readHex.b0 s) (out, ((2 * k : Nat) : Int)) = some (out, true) := by
 have hs := bts_len s
 refine iter_r ?_
 unfold impl_readHex.b0
 simp only []
 rw [if_neg (by simp; omega)]; rfl
theorem readHex_run (s : ByteArray) (hu : U8 (bts s)) (hl : (bts s).length ≤ 4000000) : ∀ (m k : Nat) (out : List Int), 2 * k + 2 * m = (bts s).length → U8 out → out.length ≤ k → ∃ l ok, iter (impl_readHex.b0 s) (out, ((2 * k : Nat) : Int)) = some (l, ok) ∧ U8 l ∧ l.length ≤ 4000000
 | 0, k, out, h, ho, hol => ⟨_, _, readHex_end s out k (by omega), ho, by omega⟩
 | m + 1, k, out, h, ho, hol => by
  have hk : 2 * k + 1 < (bts s).length := by omega
  have hs := readHex_step s out k hk hl (by omega)
  have r1 := ix_rng _ (hu _ (List.getElem_mem (show 2 * k < (bts s).length by omega)))
  have r2 := ix_rng _ (hu _ (List.getElem_mem hk))
  split at hs
  · exact ⟨_, _, iter_r hs, U8_nil, by simp⟩
  · rename_i hn
    simp only [Bool.or_eq_true, decide_eq_true_eq, not_or] at hn
    rw [iter_l hs]
    refine readHex_run s hu hl m (k + 1) _ (by omega) (U8_app ho ?_) (by simp; omega)
    intro x hx
    simp at hx
    subst hx
    rw [IntKind.wrap_u8]
    exact u8_ok (by omega) (by omega)
theorem readHex_tot (s : ByteArray) (hu : U8 (bts s)) (hl : (bts s).length ≤ 4000000) : ∃ l ok, impl_readHex.f s = some (l, ok) ∧ U8 l ∧ l.length ≤ 4000000 := by
 have hs := bts_len s
 unfold impl_readHex.f
 have hm : (((s.size : Int).tmod (2 : Int)) == (1 : Int)) = decide ((bts s).length % 2 = 1) := by
  have : Int.tmod (s.size : Int) (2 : Int) = ((s.size % 2 : Nat) : Int) := rfl
  rw [this, hs]
  by_cases hp : s.size % 2 = 1
  · rw [hp]; rfl
  · rw [show s.size % 2 = 0 by omega]; rfl
 rw [hm]
 by_cases hp : (bts s).length % 2 = 1
 · rw [if_pos (by simpa using hp)]; exact ⟨_, _, rfl, U8_nil, by simp⟩
 · rw [if_neg (by simpa using hp)]
   exact readHex_run s hu hl ((bts s).length / 2) 0 [] (by omega) U8_nil (by simp)
theorem readHex_HX (s : ByteArray) (t : List Int) (ht : U8 t) (hl : t.length ≤ 1000000) (hs : bts s = HX t) : impl_readHex.f s = some (t, true) := by
 have hlen := HX_len t
 have hsz := bts_len s
 unfold impl_readHex.f
 rw [if_neg (by
  have : Int.tmod (s.size : Int) (2 : Int) = ((s.size % 2 : Nat) : Int) := rfl
  rw [this, ← hsz, hs, hlen, Nat.mul_mod_right]; decide)]
 have key : ∀ (m k : Nat), k + m = t.length → iter (impl_readHex.b0 s) (t.take k, ((2 * k : Nat) : Int)) = some (t, true) := by
  intro m
  induction m with
  | zero =>
   intro k h
   obtain rfl : k = t.length := by omega
   rw [readHex_end s _ _ (by rw [hs, hlen]), List.take_length]
  | succ m ih =>
   intro k h
   have hk : k < t.length := by omega
   have hu := u8n (ht _ (List.getElem_mem hk))
   obtain ⟨g1, g2⟩ := HX_get t k hk
   have k2 : 2 * k + 1 < (bts s).length := by rw [hs]; omega
   have hst := readHex_step s (t.take k) k k2 (by rw [hs]; omega) (by simp; omega)
   have b1 : (bts s)[2 * k]'(by omega) = hx (t[k].toNat / 16) := by
    have : (bts s)[2 * k]? = some (hx (t[k].toNat / 16)) := by rw [hs]; exact g1
    rw [List.getElem?_eq_getElem (by omega)] at this
    exact Option.some.inj this
   have b2 : (bts s)[2 * k + 1] = hx (t[k].toNat % 16) := by
    have : (bts s)[2 * k + 1]? = some (hx (t[k].toNat % 16)) := by rw [hs]; exact g2
    rw [List.getElem?_eq_getElem k2] at this
    exact Option.some.inj this
   rw [b1, b2, ix_hx _ (by omega), ix_hx _ (by omega), or4 _ _ (by omega) (by omega), if_neg (by simp; omega)] at hst
   rw [iter_l hst]
   have : t.take k ++ [((t[k].toNat / 16 * 16 + t[k].toNat % 16 : Nat) : Int)] = t.take (k + 1) := by
    rw [List.take_succ_eq_append_getElem hk]
    congr 2
    omega
   rw [this]
   exact ih (k + 1) (by omega)
 have := key t.length 0 (by omega)
 simpa using this
end Go.Proofs.YtdhefendaopcbaaGreatDoor
set_option linter.unusedVariables false
set_option linter.unusedSimpArgs false
set_option linter.unusedSectionVars false
namespace Go.Proofs.YtdhefendaopcbaaGreatDoor
open Go V Ieee
theorem bts_inj {x y : ByteArray} (h : bts x = bts y) : x.data.toList = y.data.toList := by
 unfold bts at h
 exact (List.map_inj_right (fun a b hab => by
  have : a.toNat = b.toNat := by omega
  exact UInt8.toNat_inj.1 this)).1 h
theorem eqs (x y : ByteArray) : (x.toList == y.toList) = decide (bts x = bts y) := by
 rw [ByteArray.toList_eq, ByteArray.toList_eq]
 by_cases h : bts x = bts y
 · rw [bts_inj h, decide_eq_true h]; simp
 · rw [decide_eq_false h]
   refine beq_eq_false_iff_ne.2 fun hh => h ?_
   unfold bts; rw [hh]
theorem bts_cut (x : ByteArray) : bts (ByteArray.extract x ((1 : Int)).toNat ((x.size : Int)).toNat) = (bts x).drop 1 := by
 unfold bts
 rw [ByteArray.data_extract]
 simp
 rw [List.take_of_length_le]
 rw [List.length_tail, List.length_map]
 exact Nat.le_refl _
theorem bts_u8 (x : ByteArray) : U8 (bts x) := by
 intro c hc
 simp only [bts, List.mem_map] at hc
 obtain ⟨b, _, rfl⟩ := hc
 have := b.toNat_lt
 exact u8_ok (by omega) (by omega)
theorem itoa_of {x : ByteArray} {n : Int} (h : bts x = IT n) : x.data.toList = Lib.itoa n := by
 have := bts_inj (x := x) (y := ⟨(Lib.itoa n).toArray⟩) (by rw [h, bts_itoa])
 simpa using this
structure VI (a : Item) : Prop where
 ok : ok_Item a
 iok : IOK a = true
theorem TX_81 {a : Item} (h : VI a) : 1 ≤ (TX a).length ∧ (TX a).length ≤ 81 := by
 have h1 := IT_len a.N h.ok.2.1
 have h2 : (HX (highB a.F)).length = 16 := by rw [HX_len, highB_len]
 have h3 := HX_len a.T
 have h4 := iok_T h.iok
 unfold TX
 split
 · simp only [List.length_cons]; omega
 · split
   · simp only [List.length_cons]; omega
   · split <;> simp only [List.length_cons, List.length_nil] <;> omega
def zI0 : Item := Item.mk (0 : Int) (0 : Int) (0 : Nat) ([] : (List Int))
theorem mk_ok {k n : Int} {f : Nat} {t : List Int} (hk : InK .i64 k) (hn : InK .i64 n) (hf : okF f) (ht : U8 t) (hl : t.length ≤ 1000000000) : ok_Item (Item.mk k n f t) := ⟨hk, hn, hf, by simp only [maxLen]; omega, ht⟩
theorem small_ok {k : Int} (h0 : 0 ≤ k) (h1 : k ≤ 3) : InK .i64 k := i64_ok (by omega) (by omega)
noncomputable def endT (s : ByteArray) (y12 : Int × Int × Nat × List Int) : Option (Item × Bool) := ((impl_ItemOk.f (Item.mk y12.1 y12.2.1 y12.2.2.1 y12.2.2.2)).bind fun r93 => ((if (!r93) = true then (some true) else ((impl_itemText.f (Item.mk y12.1 y12.2.1 y12.2.2.1 y12.2.2.2)).bind fun r103 => (some (!(r103.toList == s.toList))))).bind fun y95 => (if y95 = true then (some ((Item.mk (0 : Int) (0 : Int) (0 : Nat) ([] : (List Int))), false)) else (some ((Item.mk y12.1 y12.2.1 y12.2.2.1 y12.2.2.2), true)))))
theorem endT_yes (s : ByteArray) (a : Item) (h : VI a) (hs : bts s = TX a) (k n : Int) (f : Nat) (t : List Int) (ha : Item.mk k n f t = a) : endT s (k, n, f, t) = some (a, true) := by
 unfold endT
 simp only [ha]
 have hT := iok_T h.iok
 obtain ⟨x, hx, hb⟩ := bts_itemText a h.ok (by omega)
 rw [impl_ItemOk, h.iok, Option.bind_some, if_neg (by decide), hx, Option.bind_some, eqs, hb, hs, decide_eq_true rfl, Option.bind_some, if_neg (by decide)]
theorem endT_no (s : ByteArray) (h : ∀ a, VI a → TX a ≠ bts s) (k n : Int) (f : Nat) (t : List Int) (ha : ok_Item (Item.mk k n f t)) : endT s (k, n, f, t) = some (zI0, false) := by
 unfold endT
 simp only []
 rw [impl_ItemOk, Option.bind_some]
 by_cases hi : IOK (Item.mk k n f t) = true
 · have hT := iok_T hi
   obtain ⟨x, hx, hb⟩ := bts_itemText _ ha (by simp only at hT ⊢; omega)
   rw [if_neg (by simp [hi]), hx, Option.bind_some, eqs, hb, decide_eq_false (h _ ⟨ha, hi⟩), Option.bind_some, if_pos (by decide)]; rfl
 · rw [if_pos (by simpa using hi), Option.bind_some, if_pos rfl]; rfl
theorem atoi_run (x : ByteArray) (hl : x.size ≤ 4294967296) : ∃ v ok, strconv_Atoi.f x = some (v, ok) ∧ (ok = true → InK .i64 v) := by
 unfold strconv_Atoi.f
 rw [if_pos (by simp only [Lim]; omega)]
 cases h : Lib.atoiAll x.data.toList with
 | ok v =>
  have := Lib.atoiAll_bounds h
  exact ⟨v, true, rfl, fun _ => i64_ok this.1 this.2⟩
 | «syntax» => exact ⟨0, false, rfl, fun hh => by cases hh⟩
 | range => exact ⟨_, false, rfl, fun hh => by cases hh⟩
theorem impl_shape (s : ByteArray) (hne : 1 ≤ (bts s).length) (hl : (bts s).length ≤ 3000000) : impl_readText.f s =
    ((if ((at_ (bts s) (0 : Int)) == (105 : Int)) = true then ((strconv_Atoi.f (ByteArray.extract s ((1 : Int)).toNat ((s.size : Int)).toNat)).bind fun r15 => (if (!r15.2) = true then (some (Sum.inr ((Item.mk (0 : Int) (0 : Int) (0 : Nat) ([] : (List Int))), false))) else (some (Sum.inl ((1 : Int), r15.1, (0 : Nat), ([] : (List Int))))))) else ((if ((at_ (bts s) (0 : Int)) == (102 : Int)) = true then (some ((at_ (bts s) (0 : Int)) == (102 : Int))) else (some ((at_ (bts s) (0 : Int)) == (116 : Int)))).bind fun y29 => ((if y29 = true then ((impl_readHex.f (ByteArray.extract s ((1 : Int)).toNat ((s.size : Int)).toNat)).bind fun r40 => ((if (!r40.2) = true then (some true) else (if 0 ≤ (0 : Int) ∧ (0 : Int) < (s.size : Int) then (some (((at_ (bts s) (0 : Int)) == (102 : Int)) && ((r40.1.length : Int) != (8 : Int)))) else none)).bind fun y43 => (if y43 = true then (some (Sum.inr (Sum.inr ((Item.mk (0 : Int) (0 : Int) (0 : Nat) ([] : (List Int))), false)))) else (if 0 ≤ (0 : Int) ∧ (0 : Int) < (s.size : Int) then ((if ((at_ (bts s) (0 : Int)) == (102 : Int)) = true then ((impl_fromHigh.f r40.1).bind fun r65 => ((impl_FloatOf.f r65).bind fun r67 => (some ((2 : Int), r67, ([] : (List Int)))))) else (some ((3 : Int), (0 : Nat), r40.1))).bind fun y62 => (some (Sum.inl (y62.1, y62.2.1, y62.2.2)))) else none)))) else (some (Sum.inl ((0 : Int), (0 : Nat), ([] : (List Int)))))).bind (sel fun y38 => (some (Sum.inl (y38.1, (0 : Int), y38.2.1, y38.2.2))))))).bind (sel (endT s))) := by
  have hs := bts_len s
  unfold impl_readText.f
  rw [if_neg (by
    rw [eqs]
    simp only [decide_eq_true_eq]
    intro hh
    rw [hh] at hne
    exact absurd hne (by decide)), if_pos (by omega), if_pos (by omega)]
  rfl
theorem impl_yes (a : Item) (h : VI a) (s : ByteArray) (hs : bts s = TX a) : impl_readText.f s = some (a, true) := by
 have hl := TX_81 h
 have hsz := bts_len s
 have hlen : (bts s).length = (TX a).length := by rw [hs]
 have hi := (iok_iff a).1 h.iok
 rw [impl_shape s (by rw [hs]; omega) (by rw [hs]; omega)]
 have hT0 : a.Kind ≠ 3 → a.T = [] := fun hk => List.eq_nil_of_length_eq_zero (by omega)
 have hF0 : a.Kind ≠ 2 → a.F = 0 := fun hk => by omega
 have hN0 : a.Kind ≠ 1 → a.N = 0 := fun hk => by omega
 have hcases : a.Kind = 0 ∨ a.Kind = 1 ∨ a.Kind = 2 ∨ a.Kind = 3 := by omega
 have hlo := okF_lt h.ok.2.2.1
 have hcut := bts_cut s
 rcases hcases with hk | hk | hk | hk
 · have hx : bts s = [45] := by rw [hs]; unfold TX; simp [hk]
   rw [if_neg (by rw [hx]; decide), if_neg (by rw [hx]; decide), Option.bind_some, if_neg (by rw [hx]; decide), Option.bind_some, sel_inl, Option.bind_some, sel_inl]
   refine endT_yes s a h hs 0 0 0 [] ?_
   obtain ⟨k, n, f, t⟩ := a
   simp only at hk hT0 hF0 hN0 ⊢
   rw [hk, hN0 (by omega), hF0 (by omega), hT0 (by omega)]
 · have hx : bts s = 105 :: IT a.N := by rw [hs]; unfold TX; simp [hk]
   have hd : (ByteArray.extract s ((1 : Int)).toNat ((s.size : Int)).toNat).data.toList = Lib.itoa a.N := itoa_of (by rw [hcut, hx]; rfl)
   have hat : strconv_Atoi.f (ByteArray.extract s ((1 : Int)).toNat ((s.size : Int)).toNat) = some (a.N, true) := by
    unfold strconv_Atoi.f
    rw [if_pos (by rw [← bts_len, hcut, List.length_drop]; simp only [Lim]; omega), hd, atoi_itoa _ h.ok.2.1]
   rw [if_pos (by rw [hx]; rfl), hat, Option.bind_some, if_neg (by simp), Option.bind_some, sel_inl]
   refine endT_yes s a h hs 1 a.N 0 [] ?_
   obtain ⟨k, n, f, t⟩ := a
   simp only at hk hT0 hF0 hN0 ⊢
   rw [hk, hF0 (by omega), hT0 (by omega)]
 · have hx : bts s = 102 :: HX (highB a.F) := by rw [hs]; unfold TX; simp [hk]
   have hr := readHex_HX (ByteArray.extract s ((1 : Int)).toNat ((s.size : Int)).toNat) (highB a.F) (highB_u8 _) (by rw [highB_len]; omega) (by rw [hcut, hx]; rfl)
   have hF : ((at_ (bts s) (0 : Int)) == (102 : Int)) = true := by rw [hx]; rfl
   rw [if_neg (by rw [hx]; show ¬ ((102 : Int) == 105) = true; decide), if_pos hF, hF, Option.bind_some, if_pos rfl, hr, Option.bind_some, if_neg (by simp), if_pos (by omega), Option.bind_some, if_neg (by rw [highB_len]; decide), if_pos (by omega), if_pos rfl, impl_fromHigh _ (highB_u8 _) (by rw [highB_len]; omega), Option.bind_some, lw_highB _ hlo, impl_FloatOf, h.ok.2.2.1.1, Option.bind_some, Option.bind_some, Option.bind_some, sel_inl, Option.bind_some, sel_inl]
   refine endT_yes s a h hs 2 0 a.F [] ?_
   obtain ⟨k, n, f, t⟩ := a
   simp only at hk hT0 hF0 hN0 ⊢
   rw [hk, hN0 (by omega), hT0 (by omega)]
 · have hx : bts s = 116 :: HX a.T := by rw [hs]; unfold TX; simp [hk]
   have hT := iok_T h.iok
   have hr := readHex_HX (ByteArray.extract s ((1 : Int)).toNat ((s.size : Int)).toNat) a.T h.ok.2.2.2.2 (by omega) (by rw [hcut, hx]; rfl)
   have hF : ((at_ (bts s) (0 : Int)) == (102 : Int)) = false := by rw [hx]; rfl
   have hG : ((at_ (bts s) (0 : Int)) == (116 : Int)) = true := by rw [hx]; rfl
   rw [if_neg (by rw [hx]; show ¬ ((116 : Int) == 105) = true; decide), hF, if_neg (by decide), hG, Option.bind_some, if_pos rfl, hr, Option.bind_some, if_neg (by simp), if_pos (by omega), Option.bind_some, if_neg (by simp), if_pos (by omega), if_neg (by decide), Option.bind_some, Option.bind_some, sel_inl, Option.bind_some, sel_inl]
   refine endT_yes s a h hs 3 0 0 a.T ?_
   obtain ⟨k, n, f, t⟩ := a
   simp only at hk hT0 hF0 hN0 ⊢
   rw [hk, hN0 (by omega), hF0 (by omega)]
theorem impl_no (s : ByteArray) (hl : (bts s).length ≤ 3000000) (h : ∀ a, VI a → TX a ≠ bts s) : impl_readText.f s = some (zI0, false) := by
 have hsz := bts_len s
 by_cases hne : (bts s).length = 0
 · unfold impl_readText.f
   rw [if_pos (by rw [eqs]; simp only [decide_eq_true_eq]; rw [List.eq_nil_of_length_eq_zero hne]; rfl)]; rfl
 · rw [impl_shape s (by omega) hl]
   have hcut := bts_cut s
   have hcu := bts_u8 (ByteArray.extract s ((1 : Int)).toNat ((s.size : Int)).toNat)
   have hcl : (bts (ByteArray.extract s ((1 : Int)).toNat ((s.size : Int)).toNat)).length ≤ 3000000 := by rw [hcut, List.length_drop]; omega
   by_cases c1 : ((at_ (bts s) (0 : Int)) == (105 : Int)) = true
   · obtain ⟨v, ok, hr, hv⟩ := atoi_run (ByteArray.extract s ((1 : Int)).toNat ((s.size : Int)).toNat) (by rw [← bts_len]; omega)
     rw [if_pos c1, hr, Option.bind_some]
     cases ok with
     | false => rw [if_pos (by simp), Option.bind_some, sel_inr]; rfl
     | true =>
      rw [if_neg (by simp), Option.bind_some, sel_inl]
      exact endT_no s h 1 v 0 [] (mk_ok (small_ok (by omega) (by omega)) (hv rfl) okF_0 U8_nil (by simp))
   · rw [if_neg c1]
     obtain ⟨y29, e29⟩ : ∃ y29 : Bool, (if ((at_ (bts s) (0 : Int)) == (102 : Int)) = true then (some ((at_ (bts s) (0 : Int)) == (102 : Int))) else (some ((at_ (bts s) (0 : Int)) == (116 : Int)))) = some y29 := by split <;> exact ⟨_, rfl⟩
     rw [e29, Option.bind_some]
     cases y29 with
     | false =>
      rw [if_neg (by decide), Option.bind_some, sel_inl, Option.bind_some, sel_inl]
      exact endT_no s h 0 0 0 [] (mk_ok (small_ok (by omega) (by omega)) (small_ok (by omega) (by omega)) okF_0 U8_nil (by simp))
     | true =>
      obtain ⟨l, ok, hr, hu, hll⟩ := readHex_tot (ByteArray.extract s ((1 : Int)).toNat ((s.size : Int)).toNat) hcu (by omega)
      rw [if_pos rfl, hr, Option.bind_some]
      obtain ⟨y43, e43⟩ : ∃ y43 : Bool, (if (!ok) = true then (some true) else (if 0 ≤ (0 : Int) ∧ (0 : Int) < (s.size : Int) then (some (((at_ (bts s) (0 : Int)) == (102 : Int)) && ((l.length : Int) != (8 : Int)))) else none)) = some y43 := by
       rw [if_pos (show 0 ≤ (0 : Int) ∧ (0 : Int) < (s.size : Int) by omega)]
       split <;> exact ⟨_, rfl⟩
      simp only []
      rw [e43, Option.bind_some]
      cases y43 with
      | true => rw [if_pos rfl, Option.bind_some, sel_inr, Option.bind_some, sel_inr]; rfl
      | false =>
       rw [if_neg (by decide), if_pos (by omega)]
       by_cases c2 : ((at_ (bts s) (0 : Int)) == (102 : Int)) = true
       · have hlt := lw_lt l hu
         rw [if_pos c2, impl_fromHigh l hu (by omega), Option.bind_some, impl_FloatOf, Option.bind_some, Option.bind_some, Option.bind_some, sel_inl, Option.bind_some, sel_inl]
         exact endT_no s h 2 0 (cn (LW l)) [] (mk_ok (small_ok (by omega) (by omega)) (small_ok (by omega) (by omega)) (okF_cn _ hlt) U8_nil (by simp))
       · rw [if_neg c2, Option.bind_some, Option.bind_some, sel_inl, Option.bind_some, sel_inl]
         exact endT_no s h 3 0 0 l (mk_ok (small_ok (by omega) (by omega)) (small_ok (by omega) (by omega)) okF_0 hu (by omega))
end Go.Proofs.YtdhefendaopcbaaGreatDoor
set_option linter.unusedVariables false
set_option linter.unusedSimpArgs false
set_option linter.unusedSectionVars false
namespace Go.Proofs.YtdhefendaopcbaaGreatDoor
open Go V Ieee
end Go.Proofs.YtdhefendaopcbaaGreatDoor
set_option linter.unusedVariables false
set_option linter.unusedSimpArgs false
set_option linter.unusedSectionVars false
namespace Go.Proofs.YtdhefendaopcbaaGreatDoor
open Go V Ieee
end Go.Proofs.YtdhefendaopcbaaGreatDoor
set_option linter.unusedVariables false
set_option linter.unusedSimpArgs false
set_option linter.unusedSectionVars false
namespace Go.Proofs.YtdhefendaopcbaaGreatDoor
open Go V Ieee
def JW (w : List Int) (ws : List (List Int)) : List Int := w ++ (ws.map fun x => (32 : Int) :: x).flatten
theorem JW_nil (w : List Int) : JW w [] = w := by simp [JW]
theorem JW_len (w : List Int) (c : Nat) : ∀ ws : List (List Int), (∀ x ∈ ws, x.length + 1 ≤ c) → (JW w ws).length ≤ w.length + ws.length * c
 | [], _ => by simp [JW]
 | x :: ws, h => by
  have ih := JW_len w c ws fun y hy => h y (List.mem_cons_of_mem _ hy)
  have hx := h x List.mem_cons_self
  simp only [JW, List.map_cons, List.flatten_cons, List.length_append, List.length_cons, Nat.add_mul] at ih ⊢
  omega
theorem bts_join (x : ByteArray) (xs : List ByteArray) : bts ⟨(Lib.join ((x :: xs).map (·.data.toList)) (⟨#[32]⟩ : ByteArray).data.toList).toArray⟩ = JW (bts x) (xs.map bts) := by
 unfold bts JW
 rw [List.map_cons, Lib.join_cons]
 simp only [Lib.joinTail, List.map_append, List.map_flatten, List.map_map]
 congr 2
theorem TX_le {a : Item} (hn : InK .i64 a.N) (h : IOK a = true) : (TX a).length ≤ 110 := by
 have := TX_len a hn
 have := iok_T h
 omega
theorem itoa_ok (n : Int) (h : InK .i64 n) : strconv_Itoa.f n = some ⟨(Lib.itoa n).toArray⟩ := by
 unfold strconv_Itoa.f
 rw [if_pos (i64_of h)]
end Go.Proofs.YtdhefendaopcbaaGreatDoor
set_option linter.unusedVariables false
set_option linter.unusedSimpArgs false
set_option linter.unusedSectionVars false
namespace Go.Proofs.YtdhefendaopcbaaGreatDoor
open Go V Ieee
def CLN (a : Item) : Item := if IOK a = true then ⟨a.Kind, a.N, if (fcmp .f64 a.F (0 : Nat) == some .eq) = true then 0 else a.F, a.T⟩ else ⟨0, 0, 0, []⟩
theorem clone40 (l : List Int) (h : l.length ≤ 40) : slices_Clone_byte_byte.f l = some l := by
 unfold slices_Clone_byte_byte.f
 by_cases hn : l = []
 · subst hn; simp [Lim]
 · simp [Lim]; omega
theorem okF_cln (a : Item) (h : okF a.F) : okF (CLN a).F := by
 unfold CLN
 split
 · simp only []
   split
   · exact ⟨by decide, by omega⟩
   · exact h
 · show okF 0
   exact ⟨by decide, by omega⟩
theorem spec_ItemClean (a : Item) (h : okF a.F) : spec_ItemClean.f a = some (CLN a) := by
 unfold spec_ItemClean.f CLN
 rw [spec_ItemOk a h, Option.bind_some]
 by_cases hi : IOK a = true
 · have hT := iok_T hi
   have hc : spec_l3copy.f a = some a := by unfold spec_l3copy.f; rw [if_pos (by simp [Lim]; omega), List.nil_append]
   rw [if_neg (by simp [hi]), if_pos hi, hc, Option.bind_some]
   by_cases hz : (fcmp .f64 a.F (0 : Nat) == some .eq) = true
   · rw [if_pos hz, if_pos hz]; rfl
   · rw [if_neg hz, if_neg hz]; rfl
 · rw [if_pos (by simpa using hi), if_neg hi]
theorem impl_ItemClean (a : Item) : impl_ItemClean.f a = some (CLN a) := by
 unfold impl_ItemClean.f CLN
 rw [impl_ItemOk, Option.bind_some]
 by_cases hi : IOK a = true
 · have hT := iok_T hi
   have ho : ∀ y : Nat, impl_Item_own.f ⟨a.Kind, a.N, y, a.T⟩ = some ⟨a.Kind, a.N, y, a.T⟩ := fun y => by unfold impl_Item_own.f; simp only [clone40 _ hT, Option.bind_some]
   rw [if_neg (by simp [hi]), if_pos hi]
   by_cases hz : (fcmp .f64 a.F (0 : Nat) == some .eq) = true
   · rw [if_pos hz, if_pos hz, Option.bind_some, ho]; rfl
   · rw [if_neg hz, if_neg hz, Option.bind_some, ho]; rfl
 · rw [if_pos (by simpa using hi), if_neg hi]
def CK (a : Item) : Bool := KOK (CLN a)
theorem ck_iok {a : Item} (h : CK a = true) : IOK a = true := by
 unfold CK at h
 by_cases hi : IOK a = true
 · exact hi
 · unfold CLN at h
   rw [if_neg hi] at h
   have hf : KOK ⟨0, 0, 0, []⟩ = false := by decide
   rw [hf] at h; cases h
def VAL (a : Item) : Bool := IOK a && (a.Kind != (0 : Int))
theorem impl_isClean (a : Item) (h : okF a.F) : impl_isClean.f a = some (CK a) := by
 unfold impl_isClean.f
 rw [impl_ItemClean, Option.bind_some, impl_KeyOk _ (okF_cln a h)]; rfl
theorem impl_isValue (a : Item) : impl_isValue.f a = some (VAL a) := by
 unfold impl_isValue.f
 rw [impl_ItemOk]; rfl
theorem l5in_rin (a b c : Int) : spec_l5in.f a b c = some (rin a b c) := rfl
def opb (k : Int) (s l ck ct v n50 n15 n0 kl : Bool) : Bool :=
 (rin k 1 13 && (decide (k > 8) || s)) &&
  (if k = 1 then l else if k = 2 ∨ k = 4 then ck else if k = 3 then ck && v else if k = 5 then (ck && ct) && n50 else if k = 6 then ck && ct else if k = 11 then n15 else if k = 12 then n0 else if k = 13 then kl else true)
def OOK (o : Op) : Bool := opb o.Kind (rin o.Seat 0 7) (rin o.Level 0 1) (CK o.Key) (CK o.To) (VAL o.Value) (rin o.N 0 50) (rin o.N 0 15) (decide (o.N ≥ 0)) (decide ((o.Keep.length : Int) ≤ 600))
theorem kinds {k : Int} (h : rin k 1 13 = true) : k = 1 ∨ k = 2 ∨ k = 3 ∨ k = 4 ∨ k = 5 ∨ k = 6 ∨ k = 7 ∨ k = 8 ∨ k = 9 ∨ k = 10 ∨ k = 11 ∨ k = 12 ∨ k = 13 := by
 have := rin_iff.1 h
 omega
theorem no_kind {k : Int} (h : rin k 1 13 = false) : (k == 1) = false ∧ (k == 2) = false ∧ (k == 3) = false ∧ (k == 4) = false ∧ (k == 5) = false ∧ (k == 6) = false ∧ (k == 11) = false ∧ (k == 12) = false ∧ (k == 13) = false := by
 have h' : ¬ (1 ≤ k ∧ k ≤ 13) := fun hh => by rw [rin_iff.2 hh] at h; cases h
 simp only [beq_eq_false_iff_ne, ne_eq]
 omega
theorem spec_OpOk (o : Op) (h : ok_Op o) : spec_OpOk.f o = some (OOK o) := by
 unfold spec_OpOk.f OOK
 simp only [l5in_rin, Option.bind_some, spec_ItemClean _ h.2.2.2.2.1.2.2.1, spec_ItemClean _ h.2.2.2.2.2.1.2.2.1, spec_KeyOk _ (okF_cln _ h.2.2.2.2.1.2.2.1), spec_KeyOk _ (okF_cln _ h.2.2.2.2.2.1.2.2.1), spec_ItemOk _ h.2.2.2.2.2.2.1.2.2.1]
 change _ = some (opb o.Kind (rin o.Seat 0 7) (rin o.Level 0 1) (KOK (CLN o.Key)) (KOK (CLN o.To)) (IOK o.Value && (o.Value.Kind != (0 : Int))) (rin o.N 0 50) (rin o.N 0 15) (decide (o.N ≥ 0)) (decide ((o.Keep.length : Int) ≤ 600)))
 generalize rin o.Seat 0 7 = s
 generalize rin o.Level 0 1 = l
 generalize KOK (CLN o.Key) = ck
 generalize KOK (CLN o.To) = ct
 generalize (IOK o.Value && (o.Value.Kind != (0 : Int))) = v
 generalize rin o.N 0 50 = n50
 generalize rin o.N 0 15 = n15
 generalize decide (o.N ≥ 0) = n0
 generalize decide ((o.Keep.length : Int) ≤ 600) = kl
 generalize o.Kind = k
 cases hk : rin k 1 13 with
 | false => simp [hk, opb]
 | true =>
  rcases kinds hk with rfl | rfl | rfl | rfl | rfl | rfl | rfl | rfl | rfl | rfl | rfl | rfl | rfl <;> (clear hk; revert s l ck ct v n50 n15 n0 kl; decide +kernel)
theorem impl_OpOk (o : Op) (h : ok_Op o) : impl_OpOk.f o = some (OOK o) := by
 unfold impl_OpOk.f OOK
 simp only [within_rin, Option.bind_some, impl_isClean _ h.2.2.2.2.1.2.2.1, impl_isClean _ h.2.2.2.2.2.1.2.2.1, impl_isValue]
 generalize rin o.Seat 0 7 = s
 generalize rin o.Level 0 1 = l
 generalize CK o.Key = ck
 generalize CK o.To = ct
 generalize VAL o.Value = v
 generalize rin o.N 0 50 = n50
 generalize rin o.N 0 15 = n15
 generalize decide (o.N ≥ 0) = n0
 generalize decide ((o.Keep.length : Int) ≤ 600) = kl
 generalize o.Kind = k
 cases hk : rin k 1 13 with
 | false =>
  obtain ⟨e1, e2, e3, e4, e5, e6, e7, e8, e9⟩ := no_kind hk
  simp only [e1, e2, e3, e4, e5, e6, e7, e8, e9, hk, opb, Option.bind_some, Bool.false_eq_true, if_false]
  generalize decide (k ≤ 8) = d
  cases d <;> cases s <;> rfl
 | true =>
  rcases kinds hk with rfl | rfl | rfl | rfl | rfl | rfl | rfl | rfl | rfl | rfl | rfl | rfl | rfl <;> (clear hk; revert s l ck ct v n50 n15 n0 kl; decide +kernel)
end Go.Proofs.YtdhefendaopcbaaGreatDoor
set_option linter.unusedVariables false
set_option linter.unusedSimpArgs false
set_option linter.unusedSectionVars false
namespace Go.Proofs.YtdhefendaopcbaaGreatDoor
open Go V Ieee
noncomputable def names : List ByteArray := (impl_opNames.f).getD []
theorem impl_names : impl_opNames.f = some names := rfl
theorem names_len : names.length = 14 := rfl
noncomputable def NM (k : Int) : List Int := bts (at_ names k)
theorem NM_len {k : Int} (h : rin k 1 13 = true) : (NM k).length ≤ 10 := by
 unfold NM
 rw [bts_len]
 rcases kinds h with rfl | rfl | rfl | rfl | rfl | rfl | rfl | rfl | rfl | rfl | rfl | rfl | rfl <;> decide
def KT (l : List Bool) : List Int := l.map fun b => if b = true then 49 else 48
theorem KT_u8 (l : List Bool) : U8 (KT l) := by
 intro x hx
 simp only [KT, List.mem_map] at hx
 obtain ⟨b, _, rfl⟩ := hx
 split <;> exact u8_ok (by omega) (by omega)
theorem KT_len (l : List Bool) : (KT l).length = l.length := by simp [KT]
theorem keepText (l : List Bool) (h : l.length ≤ 1000) : impl_keepText.f l = some (str (KT l)) := by
 unfold impl_keepText.f
 rw [if_pos ⟨by omega, by simp only [Lim]; omega⟩]
 have hst : (List.replicate ((l.length : Int)).toNat (0 : Int), (0 : Int)) = ((KT l).take 0 ++ List.replicate (l.length - 0) 0, ((0 : Nat) : Int)) := by simp
 rw [hst]
 have hkl := KT_len l
 refine iter_for l.length (fun k => ((KT l).take k ++ List.replicate (l.length - k) 0, (k : Int))) _ (fun k hk => ?_) ?_
 · unfold impl_keepText.b0
   simp only []
   have hl2 : ((KT l).take k ++ List.replicate (l.length - k) (0 : Int)).length = l.length := by simp; omega
   have hset : ∀ v : Int, ((KT l).take k ++ List.replicate (l.length - k) 0).set k v = (KT l).take k ++ v :: List.replicate (l.length - (k + 1)) 0 := fun v => by
    rw [List.set_append, if_neg (by simp; omega)]
    have : ((KT l).take k).length = k := by simp; omega
    rw [this, Nat.sub_self, show l.length - k = (l.length - (k + 1)) + 1 by omega, List.replicate_succ, List.set_cons_zero]
   have hset2 : ∀ u v : Int, ((KT l).take k ++ u :: List.replicate (l.length - (k + 1)) 0).set k v = (KT l).take k ++ v :: List.replicate (l.length - (k + 1)) 0 := fun u v => by
    rw [List.set_append, if_neg (by simp; omega)]
    have : ((KT l).take k).length = k := by simp; omega
    rw [this, Nat.sub_self, List.set_cons_zero]
   have hkk : (KT l)[k]'(by omega) = if l[k] = true then 49 else 48 := by simp [KT]
   have ht : (KT l).take (k + 1) = (KT l).take k ++ [if l[k] = true then 49 else 48] := by rw [List.take_succ_eq_append_getElem (by omega), hkk]
   rw [if_pos (by simp; omega), if_pos (by omega), if_pos (by rw [hl2]; omega), at_nat l k hk]
   simp only [Int.toNat_natCast, List.set_set, hset, List.length_append, List.length_cons, List.length_replicate, List.length_take, hkl]
   by_cases hb : l[k] = true
   · rw [if_pos hb] at ht
     rw [if_pos hb, if_pos (by omega), Option.bind_some, w64 (by omega) (by omega), ht, hset2]
     simp
   · rw [if_neg hb] at ht
     rw [if_neg hb, Option.bind_some, w64 (by omega) (by omega), ht]
     simp
 · unfold impl_keepText.b0
   simp only []
   rw [if_neg (by simp), List.take_of_length_le (by omega)]
   simp
def W1 (o : Op) : List (List Int) := if o.Kind ≤ 8 then [IT o.Seat] else []
def W2 (o : Op) : List (List Int) := if o.Kind = 1 then [IT o.Level] else if o.Kind = 2 ∨ o.Kind = 4 then [TX o.Key] else if o.Kind = 3 then [TX o.Key, TX o.Value] else if o.Kind = 5 then [TX o.Key, TX o.To, IT o.N] else if o.Kind = 6 then [TX o.Key, TX o.To] else if o.Kind = 11 ∨ o.Kind = 12 then [IT o.N] else if o.Kind = 13 then (if o.Keep = [] then [] else [KT o.Keep]) else []
noncomputable def OPT (o : Op) : List Int := JW (NM o.Kind) (W1 o ++ W2 o)
structure OpF (o : Op) : Prop where
 kind : rin o.Kind 1 13 = true
 key : 2 ≤ o.Kind → o.Kind ≤ 6 → IOK o.Key = true
 value : o.Kind = 3 → IOK o.Value = true
 to : o.Kind = 5 ∨ o.Kind = 6 → IOK o.To = true
 keep : o.Kind = 13 → o.Keep.length ≤ 600
theorem opF {o : Op} (h : OOK o = true) : OpF o := by
 unfold OOK opb at h
 simp only [Bool.and_eq_true] at h
 obtain ⟨⟨hk, _⟩, h⟩ := h
 refine ⟨hk, fun h2 h6 => ?_, fun h3 => ?_, fun h5 => ?_, fun hh => ?_⟩
 · rw [if_neg (by omega)] at h
   split at h
   · exact ck_iok h
   · split at h
     · exact ck_iok (Bool.and_eq_true _ _ ▸ h).1
     · split at h
       · exact ck_iok (by simp only [Bool.and_eq_true] at h; exact h.1.1)
       · split at h
         · exact ck_iok (by simp only [Bool.and_eq_true] at h; exact h.1)
         · omega
 · rw [h3] at h
   have h := (show (CK o.Key && VAL o.Value) = true from h)
   simp only [Bool.and_eq_true, VAL] at h
   exact h.2.1
 · rcases h5 with h5 | h5
   · rw [h5] at h
     have h := (show ((CK o.Key && CK o.To) && rin o.N 0 50) = true from h)
     simp only [Bool.and_eq_true] at h
     exact ck_iok h.1.2
   · rw [h5] at h
     have h := (show (CK o.Key && CK o.To) = true from h)
     simp only [Bool.and_eq_true] at h
     exact ck_iok h.2
 · rw [hh] at h
   have h := (show decide ((o.Keep.length : Int) ≤ 600) = true from h)
   simp only [decide_eq_true_eq] at h
   omega
theorem y1_len (o : Op) (h : ok_Op o) (hk : rin o.Kind 1 13 = true) : (JW (NM o.Kind) (W1 o)).length ≤ 40 := by
 have h1 := NM_len hk
 have h2 := IT_len o.Seat h.2.1
 have h3 := JW_len (NM o.Kind) 22 (W1 o) (fun x hx => by
  unfold W1 at hx
  split at hx
  · simp at hx; subst hx; omega
  · cases hx)
 have : (W1 o).length ≤ 1 := by unfold W1; split <;> simp
 omega
theorem OPT_len (o : Op) (h : ok_Op o) (hO : OOK o = true) : (OPT o).length ≤ 3000 := by
 have hF := opF hO
 have h0 := y1_len o h hF.kind
 unfold OPT
 have hJ : ∀ ws : List (List Int), (JW (NM o.Kind) (W1 o ++ ws)).length = (JW (NM o.Kind) (W1 o)).length + (ws.map fun x => (32 : Int) :: x).flatten.length := fun ws => by simp [JW]; omega
 rw [hJ]
 have i1 := IT_len o.Level h.2.2.1
 have i2 := IT_len o.N h.2.2.2.1
 have i3 := fun hh => TX_le (a := o.Key) h.2.2.2.2.1.2.1 hh
 have i4 := fun hh => TX_le (a := o.To) h.2.2.2.2.2.1.2.1 hh
 have i5 := fun hh => TX_le (a := o.Value) h.2.2.2.2.2.2.1.2.1 hh
 have i6 := KT_len o.Keep
 unfold W2
 split
 · simp; omega
 · split
   · have := i3 (hF.key (by omega) (by omega)); simp; omega
   · split
     · have := i3 (hF.key (by omega) (by omega)); have := i5 (hF.value (by assumption)); simp; omega
     · split
       · have := i3 (hF.key (by omega) (by omega)); have := i4 (hF.to (.inl (by assumption))); simp; omega
       · split
         · have := i3 (hF.key (by omega) (by omega)); have := i4 (hF.to (.inr (by assumption))); simp; omega
         · split
           · simp; omega
           · split
             · have := hF.keep (by assumption)
               split
               · simp; omega
               · simp; omega
             · simp; omega
end Go.Proofs.YtdhefendaopcbaaGreatDoor
set_option linter.unusedVariables false
set_option linter.unusedSimpArgs false
set_option linter.unusedSectionVars false
namespace Go.Proofs.YtdhefendaopcbaaGreatDoor
open Go V Ieee
theorem at_names {k : Int} (h : rin k 1 13 = true) : 0 ≤ k ∧ k < (names.length : Int) := by
 have := rin_iff.1 h
 rw [names_len]; omega
theorem join_ok (x : ByteArray) (xs : List ByteArray) (w : List Int) (ws : List (List Int)) (hx : bts x = w) (hs : xs.map bts = ws) (h1 : xs.length ≤ 1000) (h2 : (JW w ws).length ≤ 100000) : ∃ t, strings_Join.f (x :: xs) (⟨#[32]⟩ : ByteArray) = some t ∧ bts t = JW w ws := by
 subst hx
 subst hs
 have hj := bts_join x xs
 unfold strings_Join.f
 rw [if_pos ⟨by simp only [List.length_cons, Lim]; omega, by
  have := congrArg List.length hj
  rw [bts_len] at this
  have e : (ByteArray.mk (Lib.join ((x :: xs).map (·.data.toList)) (⟨#[32]⟩ : ByteArray).data.toList).toArray).size = (Lib.join ((x :: xs).map (·.data.toList)) (⟨#[32]⟩ : ByteArray).data.toList).length := rfl
  rw [e] at this
  rw [this]
  simp only [Lim]
  omega⟩]
 exact ⟨_, rfl, hj⟩
noncomputable def itx (a : Item) : ByteArray := (impl_itemText.f a).getD ⟨#[]⟩
theorem itx_ok {a : Item} (ha : ok_Item a) (h : IOK a = true) : impl_itemText.f a = some (itx a) ∧ bts (itx a) = TX a := by
 have hT := iok_T h
 obtain ⟨t, ht, hb⟩ := bts_itemText a ha (by omega)
 have : itx a = t := by unfold itx; rw [ht]; rfl
 rw [this]; exact ⟨ht, hb⟩
def itb (n : Int) : ByteArray := ⟨(Lib.itoa n).toArray⟩
theorem itb_ok {n : Int} (h : InK .i64 n) : strconv_Itoa.f n = some (itb n) := itoa_ok n h
theorem bts_itb (n : Int) : bts (itb n) = IT n := rfl
theorem l2 (x : ByteArray) (xs ys : List ByteArray) (h1 : xs.length ≤ 1000) (h2 : ys.length ≤ 1000) : (if (x :: xs).length + ys.length ≤ Lim then some ((x :: xs) ++ ys) else none) = some (x :: (xs ++ ys)) := by
 rw [if_pos (by simp only [List.length_cons, Lim]; omega)]; rfl
theorem impl_opText (o : Op) (h : ok_Op o) (hO : OOK o = true) : ∃ t, impl_opText.f o = some t ∧ bts t = OPT o := by
 have hF := opF hO
 have hlen := OPT_len o h hO
 unfold impl_opText.f
 rw [impl_names, Option.bind_some, if_pos (at_names hF.kind)]
 obtain ⟨B1, e1, hB1, hB1l⟩ : ∃ B1, (if (decide (o.Kind ≤ (8 : Int))) = true then ((strconv_Itoa.f o.Seat).bind fun r26 => (if ([(at_ names o.Kind)]).length + ([r26]).length ≤ Lim then (some ([(at_ names o.Kind)] ++ [r26])) else none)) else (some ([(at_ names o.Kind)]))) = some (at_ names o.Kind :: B1) ∧ B1.map bts = W1 o ∧ B1.length ≤ 1 := by
  unfold W1
  by_cases hk : o.Kind ≤ 8
  · rw [if_pos (by simpa using hk), if_pos hk, itb_ok h.2.1, Option.bind_some, if_pos (by simp [Lim])]
    exact ⟨[itb o.Seat], rfl, rfl, Nat.le_refl _⟩
  · rw [if_neg (by simpa using hk), if_neg hk]
    exact ⟨[], rfl, rfl, Nat.zero_le _⟩
 rw [e1, Option.bind_some]
 suffices hs : ∃ B2 : List ByteArray, B2.map bts = W2 o ∧ B2.length ≤ 10 ∧ ∀ t, strings_Join.f (at_ names o.Kind :: (B1 ++ B2)) (⟨#[32]⟩ : ByteArray) = some t → _ = some t by
  obtain ⟨B2, hB2, hB2l, hs⟩ := hs
  obtain ⟨t, ht, hbt⟩ := join_ok (at_ names o.Kind) (B1 ++ B2) (NM o.Kind) (W1 o ++ W2 o) rfl (by rw [List.map_append, hB1, hB2]) (by simp; omega) (by have : (JW (NM o.Kind) (W1 o ++ W2 o)) = OPT o := rfl; rw [this]; omega)
  exact ⟨t, hs t ht, hbt⟩
 unfold W2
 have hk0 := hF.kind
 have h1 := hF.key
 have h2 := hF.value
 have h3 := hF.to
 have h4 := hF.keep
 generalize at_ names o.Kind = nm
 have nil2 : B1 ++ ([] : List ByteArray) = B1 := List.append_nil B1
 rcases kinds hk0 with hk | hk | hk | hk | hk | hk | hk | hk | hk | hk | hk | hk | hk <;> rw [hk] at h1 h2 h3 h4 ⊢
 · refine ⟨[itb o.Level], rfl, by simp, fun t ht => ?_⟩
   simp only [Int.reduceBEq, Bool.false_eq_true, if_false, if_true, Option.bind_some, itb_ok h.2.2.1, l2 nm B1 [itb o.Level] (by omega) (by simp), ht]
 · have hi := itx_ok h.2.2.2.2.1 (h1 (by decide) (by decide))
   refine ⟨[itx o.Key], by simp [hi.2], by simp, fun t ht => ?_⟩
   simp only [Int.reduceBEq, Bool.false_eq_true, if_false, if_true, Option.bind_some, hi.1, l2 nm B1 [itx o.Key] (by omega) (by simp), ht]
 · have hi := itx_ok h.2.2.2.2.1 (h1 (by decide) (by decide))
   have hv := itx_ok h.2.2.2.2.2.2.1 (h2 rfl)
   refine ⟨[itx o.Key, itx o.Value], by simp [hi.2, hv.2], by simp, fun t ht => ?_⟩
   simp only [Int.reduceBEq, Bool.false_eq_true, if_false, if_true, Option.bind_some, hi.1, hv.1, l2 nm B1 [itx o.Key, itx o.Value] (by omega) (by simp), ht]
 · have hi := itx_ok h.2.2.2.2.1 (h1 (by decide) (by decide))
   refine ⟨[itx o.Key], by simp [hi.2], by simp, fun t ht => ?_⟩
   simp only [Int.reduceBEq, Bool.false_eq_true, if_false, if_true, Option.bind_some, hi.1, l2 nm B1 [itx o.Key] (by omega) (by simp), ht]
 · have hi := itx_ok h.2.2.2.2.1 (h1 (by decide) (by decide))
   have hv := itx_ok h.2.2.2.2.2.1 (h3 (.inl rfl))
   refine ⟨[itx o.Key, itx o.To, itb o.N], by simp [hi.2, hv.2, bts_itb], by simp, fun t ht => ?_⟩
   simp only [Int.reduceBEq, Bool.false_eq_true, if_false, if_true, Option.bind_some, hi.1, hv.1, itb_ok h.2.2.2.1, l2 nm B1 [itx o.Key, itx o.To, itb o.N] (by omega) (by simp), ht]
 · have hi := itx_ok h.2.2.2.2.1 (h1 (by decide) (by decide))
   have hv := itx_ok h.2.2.2.2.2.1 (h3 (.inr rfl))
   refine ⟨[itx o.Key, itx o.To], by simp [hi.2, hv.2], by simp, fun t ht => ?_⟩
   simp only [Int.reduceBEq, Bool.false_eq_true, if_false, if_true, Option.bind_some, hi.1, hv.1, l2 nm B1 [itx o.Key, itx o.To] (by omega) (by simp), ht]
 · refine ⟨[], by simp, by simp, fun t ht => ?_⟩
   rw [nil2] at ht
   simp only [Int.reduceBEq, Bool.false_eq_true, if_false, if_true, Option.bind_some, ht]
 · refine ⟨[], by simp, by simp, fun t ht => ?_⟩
   rw [nil2] at ht
   simp only [Int.reduceBEq, Bool.false_eq_true, if_false, if_true, Option.bind_some, ht]
 · refine ⟨[], by simp, by simp, fun t ht => ?_⟩
   rw [nil2] at ht
   simp only [Int.reduceBEq, Bool.false_eq_true, if_false, if_true, Option.bind_some, ht]
 · refine ⟨[], by simp, by simp, fun t ht => ?_⟩
   rw [nil2] at ht
   simp only [Int.reduceBEq, Bool.false_eq_true, if_false, if_true, Option.bind_some, ht]
 · refine ⟨[itb o.N], by simp [bts_itb], by simp, fun t ht => ?_⟩
   simp only [Int.reduceBEq, Bool.false_eq_true, if_false, if_true, Option.bind_some, itb_ok h.2.2.2.1, l2 nm B1 [itb o.N] (by omega) (by simp), ht]
 · refine ⟨[itb o.N], by simp [bts_itb], by simp, fun t ht => ?_⟩
   simp only [Int.reduceBEq, Bool.false_eq_true, if_false, if_true, Option.bind_some, itb_ok h.2.2.2.1, l2 nm B1 [itb o.N] (by omega) (by simp), ht]
 · have hl := h4 rfl
   by_cases hn : o.Keep = []
   · refine ⟨[], by simp [hn], by simp, fun t ht => ?_⟩
     rw [nil2] at ht
     have e : ¬ (decide ((o.Keep.length : Int) > (0 : Int))) = true := by simp [hn]
     simp only [Int.reduceBEq, Bool.false_eq_true, if_false, if_true, Option.bind_some, if_neg e, ht]
   · refine ⟨[str (KT o.Keep)], by simp [hn, bts_str (KT_u8 o.Keep)], by simp, fun t ht => ?_⟩
     have e : (decide ((o.Keep.length : Int) > (0 : Int))) = true := by simp; exact List.length_pos_iff.2 hn
     simp only [Int.reduceBEq, Bool.false_eq_true, if_false, if_true, Option.bind_some, if_pos e, keepText o.Keep (by omega), l2 nm B1 [str (KT o.Keep)] (by omega) (by simp), ht]
noncomputable def OPO (o : Op) : List Int := if OOK o = true then OPT o else []
theorem impl_OpText (o : Op) (h : ok_Op o) : impl_OpText.f o = some (OPO o) := by
 unfold impl_OpText.f OPO
 rw [impl_OpOk o h, Option.bind_some]
 by_cases hO : OOK o = true
 · obtain ⟨t, ht, hb⟩ := impl_opText o h hO
   have hlen := OPT_len o h hO
   rw [if_neg (by simp [hO]), if_pos hO, ht, Option.bind_some, if_pos (by rw [← bts_len, hb]; simp only [Lim]; omega), hb]
 · rw [if_pos (by simpa using hO), if_neg hO]
end Go.Proofs.YtdhefendaopcbaaGreatDoor
set_option linter.unusedVariables false
set_option linter.unusedSimpArgs false
set_option linter.unusedSectionVars false
namespace Go.Proofs.YtdhefendaopcbaaGreatDoor
open Go V Ieee
def SPL {α : Type} [DecidableEq α] (c : α) : List α → List (List α)
 | [] => [[]]
 | b :: l => if b = c then [] :: SPL c l else match SPL c l with
  | [] => [[b]]
  | w :: ws => (b :: w) :: ws
theorem SPL_ne {α : Type} [DecidableEq α] (c : α) (l : List α) : ∃ w ws, SPL c l = w :: ws := by
 cases l with
 | nil => exact ⟨_, _, rfl⟩
 | cons b l =>
  unfold SPL
  split
  · exact ⟨_, _, rfl⟩
  · cases SPL c l with
    | nil => exact ⟨_, _, rfl⟩
    | cons w ws => exact ⟨_, _, rfl⟩
theorem SPL_eq {α : Type} [DecidableEq α] (c : α) (l : List α) : SPL c (c :: l) = [] :: SPL c l := by
 rw [SPL, if_pos rfl]
theorem SPL_cons {α : Type} [DecidableEq α] (c : α) {b : α} {l w : List α} {ws : List (List α)} (hb : b ≠ c) (h : SPL c l = w :: ws) : SPL c (b :: l) = (b :: w) :: ws := by
 rw [SPL, if_neg hb, h]
theorem SPL_map {α β : Type} [DecidableEq α] [DecidableEq β] (f : α → β) (hf : ∀ x y, f x = f y → x = y) (c : α) : ∀ l : List α, SPL (f c) (l.map f) = (SPL c l).map (·.map f)
 | [] => rfl
 | b :: l => by
  have ih := SPL_map f hf c l
  obtain ⟨w, ws, hw⟩ := SPL_ne c l
  rw [List.map_cons]
  by_cases hb : b = c
  · subst hb; rw [SPL_eq, SPL_eq, ih]; rfl
  · rw [SPL_cons c hb hw, SPL_cons (f c) (fun h => hb (hf _ _ h)) (by rw [ih, hw]; rfl)]; rfl
theorem SPL_word {α : Type} [DecidableEq α] (c : α) : ∀ (w : List α), c ∉ w → SPL c w = [w]
 | [], _ => rfl
 | b :: w, h => by
  have ih := SPL_word c w fun hh => h (List.mem_cons_of_mem _ hh)
  exact SPL_cons c (fun hb => h (by rw [hb]; exact List.mem_cons_self)) ih
theorem SPL_next {α : Type} [DecidableEq α] (c : α) (r : List α) : ∀ (w : List α), c ∉ w → SPL c (w ++ c :: r) = w :: SPL c r
 | [], _ => SPL_eq c r
 | b :: w, h => by
  have ih := SPL_next c r w fun hh => h (List.mem_cons_of_mem _ hh)
  exact SPL_cons c (fun hb => h (by rw [hb]; exact List.mem_cons_self)) ih
theorem JW_cons (w x : List Int) (ws : List (List Int)) : JW w (x :: ws) = w ++ 32 :: JW x ws := by simp [JW]
theorem SPL_JW : ∀ (ws : List (List Int)) (w : List Int), (32 : Int) ∉ w → (∀ x ∈ ws, (32 : Int) ∉ x) → SPL 32 (JW w ws) = w :: ws
 | [], w, h, _ => by rw [JW_nil, SPL_word _ _ h]
 | x :: ws, w, h, hs => by rw [JW_cons, SPL_next _ _ _ h, SPL_JW ws x (hs x List.mem_cons_self) fun y hy => hs y (List.mem_cons_of_mem _ hy)]
theorem SPL_len {α : Type} [DecidableEq α] (c : α) : ∀ l : List α, (SPL c l).length ≤ l.length + 1 ∧ ∀ w ∈ SPL c l, w.length ≤ l.length ∧ ∀ x ∈ w, x ∈ l
 | [] => ⟨by simp [SPL], fun w hw => by simp [SPL] at hw; subst hw; simp⟩
 | b :: l => by
  obtain ⟨h1, h2⟩ := SPL_len c l
  by_cases hb : b = c
  · subst hb
    rw [SPL_eq]
    refine ⟨by simp; omega, fun w hw => ?_⟩
    rcases List.mem_cons.1 hw with rfl | hw
    · simp
    · have := h2 w hw
      exact ⟨by simp; omega, fun x hx => List.mem_cons_of_mem _ (this.2 x hx)⟩
  · obtain ⟨v, vs, hv⟩ := SPL_ne c l
    rw [SPL_cons c hb hv]
    rw [hv] at h1 h2
    refine ⟨by simp at h1 ⊢; omega, fun w hw => ?_⟩
    rcases List.mem_cons.1 hw with rfl | hw
    · have := h2 v List.mem_cons_self
      refine ⟨by simp; omega, fun x hx => ?_⟩
      rcases List.mem_cons.1 hx with rfl | hx
      · exact List.mem_cons_self
      · exact List.mem_cons_of_mem _ (this.2 x hx)
    · have := h2 w (List.mem_cons_of_mem _ hw)
      exact ⟨by simp; omega, fun x hx => List.mem_cons_of_mem _ (this.2 x hx)⟩
theorem splitK_SPL (c : UInt8) : ∀ s : List UInt8, Lib.splitK [c] 0 (Lib.count s [c]) s = SPL c s
 | [] => by rw [Lib.count_miss (by simp [Lib.index])]; rfl
 | b :: l => by
  have ih := splitK_SPL c l
  by_cases hb : b = c
  · subst hb
    have hix : Lib.index (b :: l) [b] = 0 := by rw [Lib.index]; simp [List.isPrefixOf]
    rw [Lib.count_cons_eq, SPL_eq, ← ih, Nat.add_comm]
    conv => lhs; unfold Lib.splitK
    rw [if_neg (by rw [hix]; decide), hix]
    rfl
  · have hp : ([c] : List UInt8).isPrefixOf (b :: l) = false := by simp [List.isPrefixOf, Ne.symm hb]
    have hix : Lib.index (b :: l) [c] = if Lib.index l [c] == -1 then -1 else Lib.index l [c] + 1 := by rw [Lib.index, hp]; simp
    rw [Lib.count_cons_ne b c l hb]
    by_cases hm : Lib.index l [c] = -1
    · rw [Lib.count_miss hm] at ih ⊢
      exact (SPL_cons c hb ih.symm).symm
    · have hge := Lib.index_ge l [c]
      obtain ⟨j, hj⟩ : ∃ j : Nat, Lib.index l [c] = j := ⟨(Lib.index l [c]).toNat, by omega⟩
      rw [Lib.count_hit (by simp) hj, Nat.add_comm] at ih ⊢
      unfold Lib.splitK at ih
      rw [if_neg (by simpa using hm), hj] at ih
      rw [SPL_cons c hb ih.symm, Lib.splitK, if_neg (by rw [hix, if_neg (by simpa using hm), hj]; simp; omega), hix, if_neg (by simpa using hm), hj]
      have e : ((j : Int) + 1).toNat = j + 1 := by omega
      rw [e]
      simp
theorem bts_split (a : ByteArray) : (Lib.splitB (⟨#[32]⟩ : ByteArray) 0 (Lib.countB a (⟨#[32]⟩ : ByteArray)) a).map bts = SPL 32 (bts a) := by
 have h1 := Lib.splitB_data (⟨#[32]⟩ : ByteArray) 0 (Lib.countB a (⟨#[32]⟩ : ByteArray)) a
 have h2 := splitK_SPL 32 a.data.toList
 have h3 : Lib.countB a (⟨#[32]⟩ : ByteArray) = Lib.count a.data.toList [32] := rfl
 rw [show (⟨#[32]⟩ : ByteArray).data.toList = [32] from rfl, h3, h2] at h1
 have h4 : ∀ l : List ByteArray, l.map bts = (l.map (·.data.toList)).map (·.map fun b => (b.toNat : Int)) := fun l => by rw [List.map_map]; rfl
 rw [h4, h3, h1, ← SPL_map (fun b : UInt8 => (b.toNat : Int)) (fun x y h => UInt8.toNat_inj.1 (by omega)) 32 a.data.toList]
 rfl
end Go.Proofs.YtdhefendaopcbaaGreatDoor
set_option linter.unusedVariables false
set_option linter.unusedSimpArgs false
set_option linter.unusedSectionVars false
namespace Go.Proofs.YtdhefendaopcbaaGreatDoor
open Go V Ieee
theorem DG_dig (u : Nat) (h : u < 10 ^ 25) : ∀ c ∈ DG u, 48 ≤ c ∧ c ≤ 57 := (dv_DG 24 u h).2.1
theorem IT_nb (n : Int) (h : InK .i64 n) : (32 : Int) ∉ IT n := by
 have hn := i64_of h
 by_cases hs : n < 0
 · obtain ⟨u, rfl⟩ : ∃ u : Nat, n = -(u : Int) := ⟨n.natAbs, by omega⟩
   have e : IT (-(u : Int)) = 45 :: DG u := by unfold IT Lib.itoa; rw [if_pos hs]; simp [DG]
   rw [e]
   intro hm
   rcases List.mem_cons.1 hm with hm | hm
   · omega
   · have := DG_dig u (by omega) _ hm; omega
 · obtain ⟨u, rfl⟩ := Int.eq_ofNat_of_zero_le (show 0 ≤ n by omega)
   have e : IT (u : Int) = DG u := by unfold IT Lib.itoa; rw [if_neg hs]; simp [DG]
   rw [e]
   intro hm
   have := DG_dig u (by omega) _ hm; omega
theorem hx_ge (n : Nat) : 48 ≤ hx n := by unfold hx; split <;> omega
theorem HX_nb (b : List Int) : (32 : Int) ∉ HX b := by
 intro hm
 simp only [HX, List.mem_flatMap, List.mem_cons, List.not_mem_nil, or_false] at hm
 obtain ⟨x, _, h | h⟩ := hm
 · have := hx_ge (x.toNat / 16); omega
 · have := hx_ge (x.toNat % 16); omega
theorem TX_nb (a : Item) (h : InK .i64 a.N) : (32 : Int) ∉ TX a := by
 have h1 := IT_nb a.N h
 have h2 := HX_nb (highB a.F)
 have h3 := HX_nb a.T
 unfold TX
 split
 · simp [h1]
 · split
   · simp [h2]
   · split
     · simp [h3]
     · simp
theorem KT_nb (l : List Bool) : (32 : Int) ∉ KT l := by
 intro hm
 simp only [KT, List.mem_map] at hm
 obtain ⟨b, _, h⟩ := hm
 split at h <;> omega
noncomputable def nmw (k : Nat) : List Int := bts ((names[k]?).getD ⟨#[]⟩)
theorem NM_nat (k : Nat) (h : k < 14) : NM (k : Int) = nmw k := by
 unfold NM nmw
 have hl : k < names.length := by rw [names_len]; exact h
 rw [at_nat names k hl, List.getElem?_eq_getElem hl]; rfl
theorem nmw_facts : ∀ k : Fin 14, (32 : Int) ∉ nmw k ∧ ∀ j : Fin 14, nmw k = nmw j → k = j := by
 unfold nmw; decide +kernel
theorem NM_nb {k : Int} (h : rin k 1 13 = true) : (32 : Int) ∉ NM k := by
 have hk := rin_iff.1 h
 obtain ⟨u, rfl⟩ := Int.eq_ofNat_of_zero_le (show 0 ≤ k by omega)
 rw [NM_nat u (by omega)]
 exact (nmw_facts ⟨u, by omega⟩).1
theorem nmw_inj {j k : Nat} (hj : j < 14) (hk : k < 14) (h : nmw j = nmw k) : j = k := by
 have := (nmw_facts ⟨j, hj⟩).2 ⟨k, hk⟩ h
 simpa using this
structure ZO (o : Op) : Prop where
 seat : 8 < o.Kind → o.Seat = 0
 level : o.Kind ≠ 1 → o.Level = 0
 n : o.Kind ≠ 5 → o.Kind ≠ 11 → o.Kind ≠ 12 → o.N = 0
 key : ¬ (2 ≤ o.Kind ∧ o.Kind ≤ 6) → o.Key = zI0
 to : o.Kind ≠ 5 → o.Kind ≠ 6 → o.To = zI0
 value : o.Kind ≠ 3 → o.Value = zI0
 keep : o.Kind ≠ 13 → o.Keep = []
structure VO (o : Op) : Prop where
 ok : ok_Op o
 ook : OOK o = true
 zo : ZO o
def zO : Op := Op.mk 0 0 0 0 zI0 zI0 zI0 []
theorem W12_nb (o : Op) (h : VO o) : ∀ x ∈ W1 o ++ W2 o, (32 : Int) ∉ x := by
 have hF := opF h.ook
 have i1 := IT_nb o.Seat h.ok.2.1
 have i2 := IT_nb o.Level h.ok.2.2.1
 have i3 := IT_nb o.N h.ok.2.2.2.1
 have i4 := TX_nb o.Key h.ok.2.2.2.2.1.2.1
 have i5 := TX_nb o.To h.ok.2.2.2.2.2.1.2.1
 have i6 := TX_nb o.Value h.ok.2.2.2.2.2.2.1.2.1
 have i7 := KT_nb o.Keep
 intro x hx
 rcases List.mem_append.1 hx with hx | hx
 · unfold W1 at hx
   split at hx
   · simp at hx; subst hx; exact i1
   · cases hx
 · unfold W2 at hx
   split at hx
   · simp at hx; subst hx; exact i2
   · split at hx
     · simp at hx; subst hx; exact i4
     · split at hx
       · simp at hx; rcases hx with rfl | rfl <;> assumption
       · split at hx
         · simp at hx; rcases hx with rfl | rfl | rfl <;> assumption
         · split at hx
           · simp at hx; rcases hx with rfl | rfl <;> assumption
           · split at hx
             · simp at hx; subst hx; exact i3
             · split at hx
               · split at hx
                 · cases hx
                 · simp at hx; subst hx; exact i7
               · cases hx
theorem OPT_split (o : Op) (h : VO o) : SPL 32 (OPT o) = NM o.Kind :: (W1 o ++ W2 o) :=
 SPL_JW _ _ (NM_nb (opF h.ook).kind) (W12_nb o h)
def szs (l : List ByteArray) : Prop := ∀ x ∈ l, x.size ≤ 3000000
theorem next_cons (x : ByteArray) (l : List ByteArray) (bad : Bool) : impl_opWords_next.f ⟨x :: l, bad⟩ = some (x, ⟨l, bad⟩) := by
 unfold impl_opWords_next.f
 rw [if_neg (by simp; omega), if_pos (by simp only [List.length_cons]; omega), if_pos (by simp only [List.length_cons]; omega)]; rfl
theorem next_nil (bad : Bool) : impl_opWords_next.f ⟨[], bad⟩ = some (⟨#[]⟩, ⟨[], true⟩) := rfl
theorem next_tot (l : List ByteArray) (bad : Bool) (h : szs l) : ∃ x l' bad', impl_opWords_next.f ⟨l, bad⟩ = some (x, ⟨l', bad'⟩) ∧ x.size ≤ 3000000 ∧ szs l' ∧ (bad' = false → bad = false) := by
 cases l with
 | nil => exact ⟨_, [], true, next_nil bad, by decide, h, fun hh => by cases hh⟩
 | cons x l => exact ⟨x, l, bad, next_cons x l bad, h x List.mem_cons_self, fun y hy => h y (List.mem_cons_of_mem _ hy), fun hh => hh⟩
theorem num_tot' (l : List ByteArray) (bad : Bool) (h : szs l) : ∃ n l' bad', impl_opWords_number.f ⟨l, bad⟩ = some (n, ⟨l', bad'⟩) ∧ szs l' ∧ (bad' = false → bad = false ∧ InK .i64 n) := by
 obtain ⟨x, l', bad', hx, hs, hl, hb⟩ := next_tot l bad h
 obtain ⟨v, ok, hv, hk⟩ := atoi_run x (by omega)
 refine ⟨v, l', bad' || !ok, by unfold impl_opWords_number.f; rw [hx, Option.bind_some, hv]; rfl, hl, fun hh => ?_⟩
 simp only [Bool.or_eq_false_iff, Bool.not_eq_false'] at hh
 exact ⟨hb hh.1, hk hh.2⟩
theorem num_yes (n : Int) (hn : InK .i64 n) (x : ByteArray) (l : List ByteArray) (hx : bts x = IT n) : impl_opWords_number.f ⟨x :: l, false⟩ = some (n, ⟨l, false⟩) := by
 have hlen := IT_len n hn
 have hat : strconv_Atoi.f x = some (n, true) := by
  unfold strconv_Atoi.f
  rw [if_pos (by rw [← bts_len, hx]; simp only [Lim]; omega), itoa_of hx, atoi_itoa _ hn]
 unfold impl_opWords_number.f
 rw [next_cons, Option.bind_some, hat]; rfl
theorem readText_tot (x : ByteArray) (h : x.size ≤ 3000000) : ∃ a ok, impl_readText.f x = some (a, ok) ∧ ok_Item a := by
 by_cases hh : ∃ a, VI a ∧ TX a = bts x
 · obtain ⟨a, ha, hx⟩ := hh
   exact ⟨a, true, impl_yes a ha x hx.symm, ha.ok⟩
 · exact ⟨zI0, false, impl_no x (by rw [bts_len]; exact h) fun a ha hx => hh ⟨a, ha, hx⟩, mk_ok (small_ok (by omega) (by omega)) (small_ok (by omega) (by omega)) okF_0 U8_nil (by simp)⟩
theorem item_tot (l : List ByteArray) (bad : Bool) (h : szs l) : ∃ a l' bad', impl_opWords_item.f ⟨l, bad⟩ = some (a, ⟨l', bad'⟩) ∧ szs l' ∧ (bad' = false → bad = false) ∧ ok_Item a := by
 obtain ⟨x, l', bad', hx, hs, hl, hb⟩ := next_tot l bad h
 obtain ⟨a, ok, ha, hk⟩ := readText_tot x hs
 refine ⟨a, l', bad' || !ok, by unfold impl_opWords_item.f; rw [hx, Option.bind_some, ha]; rfl, hl, fun hh => ?_, hk⟩
 simp only [Bool.or_eq_false_iff, Bool.not_eq_false'] at hh
 exact hb hh.1
theorem item_yes (a : Item) (ha : VI a) (x : ByteArray) (l : List ByteArray) (hx : bts x = TX a) : impl_opWords_item.f ⟨x :: l, false⟩ = some (a, ⟨l, false⟩) := by
 unfold impl_opWords_item.f
 rw [next_cons, Option.bind_some, impl_yes a ha x hx]; rfl
theorem keep_tot (l : List ByteArray) (bad : Bool) (h : szs l) : ∃ k l' bad', impl_opWords_keep.f ⟨l, bad⟩ = some (k, ⟨l', bad'⟩) ∧ (bad' = false → bad = false) ∧ k.length ≤ 3000000 := by
 unfold impl_opWords_keep.f
 by_cases hl : l = []
 · subst hl; exact ⟨[], [], bad, rfl, fun h => h, by simp⟩
 · rw [if_neg (by simp only [beq_iff_eq]; have := List.length_pos_iff.2 hl; omega)]
   obtain ⟨x, l', bad', hx, hs, hl', hb⟩ := next_tot l bad h
   rw [hx, Option.bind_some]
   have key : ∀ m off (out : List Bool), x.size ≤ off + m → out.length ≤ off → out.length ≤ 3000000 → ∃ k, iter (impl_opWords_keep.b0 (x, ⟨l', bad'⟩)) (out, off) = some (k, ⟨l', bad'⟩) ∧ k.length ≤ 3000000 := by
    intro m
    induction m with
    | zero =>
     intro off out ho hout hb3
     refine ⟨out, iter_r ?_, by omega⟩
     unfold impl_opWords_keep.b0
     rw [if_neg (by simp; omega)]; rfl
    | succ m ih =>
     intro off out ho hout hb3
     by_cases hlt : off < x.size
     · have hw := Lib.decode_width_pos x off hlt
       obtain ⟨k, hk, hkl⟩ := ih (off + (Utf8.decode x off).2) (out ++ [((((Utf8.decode x off).1 : Nat) : Int) == (49 : Int))]) (by omega) (by simp; omega) (by simp; omega)
       refine ⟨k, ?_, hkl⟩
       rw [iter_l (s' := (out ++ [((((Utf8.decode x off).1 : Nat) : Int) == (49 : Int))], off + (Utf8.decode x off).2)) ?_, hk]
       unfold impl_opWords_keep.b0
       simp only []
       rw [if_pos (by simpa using hlt), if_pos hlt, if_pos (by simp only [List.length_cons, List.length_nil, Lim]; omega)]
       unfold nxo
       rw [if_pos hlt]
     · refine ⟨out, iter_r ?_, by omega⟩
       unfold impl_opWords_keep.b0
       rw [if_neg (by simpa using hlt)]; rfl
   obtain ⟨k, hk, hkl⟩ := key x.size 0 [] (by omega) (by simp) (by simp)
   exact ⟨k, l', bad', hk, hb, hkl⟩
theorem at_byte (x : ByteArray) (i : Nat) (h : i < x.size) : (bts x)[i]? = some (((x[i]'h).toNat : Nat) : Int) := by
 unfold bts
 rw [List.getElem?_map, Array.getElem?_toList, Array.getElem?_eq_getElem (show i < x.data.size from h)]; rfl
theorem keep_yes (k : List Bool) (hk : k.length ≤ 600) (x : ByteArray) (l : List ByteArray) (hx : bts x = KT k) : impl_opWords_keep.f ⟨x :: l, false⟩ = some (k, ⟨l, false⟩) := by
 unfold impl_opWords_keep.f
 rw [if_neg (by simp; omega), next_cons, Option.bind_some]
 have hsz : x.size = k.length := by rw [← bts_len, hx, KT_len]
 refine iter_for k.length (fun i => (k.take i, i)) _ (fun i hi => ?_) ?_
 · unfold impl_opWords_keep.b0
   simp only []
   have hlt : i < x.size := by omega
   have hb := at_byte x i hlt
   rw [hx] at hb
   have hki : (KT k)[i]? = some (if k[i] = true then (49 : Int) else 48) := by
    unfold KT; rw [List.getElem?_map, List.getElem?_eq_getElem hi]; rfl
   rw [hki] at hb
   have hb := Option.some.inj hb
   have hr : (x[i]'hlt).toNat < 128 := by split at hb <;> omega
   have hd : Utf8.decode x i = ((x[i]'hlt).toNat, 1) := decode_ascii x i hlt hr
   rw [if_pos (by simpa using hlt), if_pos hlt, if_pos (by simp only [List.length_cons, List.length_nil, List.length_take, Lim]; omega)]
   unfold nxo
   rw [if_pos hlt, hd]
   simp only []
   have e : ((((x[i]'hlt).toNat : Nat) : Int) == (49 : Int)) = k[i] := by
    rw [← hb]
    cases k[i] <;> decide
   rw [e, List.take_succ_eq_append_getElem hi]
 · unfold impl_opWords_keep.b0
   rw [if_neg (by simp; omega), List.take_length]; rfl
end Go.Proofs.YtdhefendaopcbaaGreatDoor
set_option linter.unusedVariables false
set_option linter.unusedSimpArgs false
set_option linter.unusedSectionVars false
namespace Go.Proofs.YtdhefendaopcbaaGreatDoor
open Go V Ieee
noncomputable def midI (k : Int) (l : List ByteArray) : Option (Bool × Op) :=
 if k = 1 then (impl_opWords_number.f ⟨l, false⟩).bind fun r => (impl_opWords_number.f r.2).bind fun q => some (q.2.bad, ⟨k, r.1, q.1, 0, zI0, zI0, zI0, []⟩)
 else if k = 2 ∨ k = 4 then (impl_opWords_number.f ⟨l, false⟩).bind fun r => (impl_opWords_item.f r.2).bind fun q => some (q.2.bad, ⟨k, r.1, 0, 0, q.1, zI0, zI0, []⟩)
 else if k = 3 then (impl_opWords_number.f ⟨l, false⟩).bind fun r => (impl_opWords_item.f r.2).bind fun q => (impl_opWords_item.f q.2).bind fun p => some (p.2.bad, ⟨k, r.1, 0, 0, q.1, zI0, p.1, []⟩)
 else if k = 5 then (impl_opWords_number.f ⟨l, false⟩).bind fun r => (impl_opWords_item.f r.2).bind fun q => (impl_opWords_item.f q.2).bind fun p => (impl_opWords_number.f p.2).bind fun n => some (n.2.bad, ⟨k, r.1, 0, n.1, q.1, p.1, zI0, []⟩)
 else if k = 6 then (impl_opWords_number.f ⟨l, false⟩).bind fun r => (impl_opWords_item.f r.2).bind fun q => (impl_opWords_item.f q.2).bind fun p => some (p.2.bad, ⟨k, r.1, 0, 0, q.1, p.1, zI0, []⟩)
 else if k = 7 ∨ k = 8 then (impl_opWords_number.f ⟨l, false⟩).bind fun r => some (r.2.bad, ⟨k, r.1, 0, 0, zI0, zI0, zI0, []⟩)
 else if k = 11 ∨ k = 12 then (impl_opWords_number.f ⟨l, false⟩).bind fun r => some (r.2.bad, ⟨k, 0, 0, r.1, zI0, zI0, zI0, []⟩)
 else if k = 13 then (impl_opWords_keep.f ⟨l, false⟩).bind fun r => some (r.2.bad, ⟨k, 0, 0, 0, zI0, zI0, zI0, r.1⟩)
 else some (false, ⟨k, 0, 0, 0, zI0, zI0, zI0, []⟩)
noncomputable def endI (s : ByteArray) (c : Bool × Op) : Option (Op × Bool) :=
 ((if c.1 = true then (some true) else ((impl_OpOk.f c.2).bind fun r390 => (some (!r390)))).bind fun y389 => ((if y389 = true then (some true) else ((impl_opText.f c.2).bind fun r403 => (some (!(r403.toList == s.toList))))).bind fun y402 => (if y402 = true then (some (zO, false)) else (some (c.2, true)))))
theorem ok_zI0 : ok_Item zI0 := mk_ok (small_ok (by omega) (by omega)) (small_ok (by omega) (by omega)) okF_0 U8_nil (by simp)
theorem ok_mk {k s l n : Int} {a b c : Item} {q : List Bool} (h1 : InK .i64 k) (h2 : InK .i64 s) (h3 : InK .i64 l) (h4 : InK .i64 n) (h5 : ok_Item a) (h6 : ok_Item b) (h7 : ok_Item c) (h8 : q.length ≤ 3000000) : ok_Op ⟨k, s, l, n, a, b, c, q⟩ :=
 ⟨h1, h2, h3, h4, h5, h6, h7, by simp only [maxLen]; omega, fun _ _ => trivial⟩
theorem sm {k : Int} (h : rin k 1 13 = true) : InK .i64 k := by have := rin_iff.1 h; exact i64_ok (by omega) (by omega)
theorem i0 : InK .i64 0 := i64_ok (by omega) (by omega)
theorem midI_tot (k : Int) (hk : rin k 1 13 = true) (l : List ByteArray) (hl : szs l) : ∃ bad c, midI k l = some (bad, c) ∧ (bad = false → ok_Op c ∧ ZO c ∧ c.Kind = k) := by
 have hkk := sm hk
 have hr := rin_iff.1 hk
 unfold midI
 split
 · obtain ⟨n, l1, b1, e1, h1, q1⟩ := num_tot' l false hl
   obtain ⟨m, l2, b2, e2, h2, q2⟩ := num_tot' l1 b1 h1
   rw [e1, Option.bind_some, e2, Option.bind_some]
   refine ⟨_, _, rfl, fun hb => ?_⟩
   have p2 := q2 hb
   have p1 := q1 p2.1
   exact ⟨ok_mk hkk p1.2 p2.2 i0 ok_zI0 ok_zI0 ok_zI0 (by simp), ⟨fun _ => by simp only at *; omega, fun _ => by simp only at *; omega, fun _ _ _ => rfl, fun _ => rfl, fun _ _ => rfl, fun _ => rfl, fun _ => rfl⟩, rfl⟩
 · split
   · obtain ⟨n, l1, b1, e1, h1, q1⟩ := num_tot' l false hl
     obtain ⟨a, l2, b2, e2, h2, q2, oa⟩ := item_tot l1 b1 h1
     rw [e1, Option.bind_some, e2, Option.bind_some]
     refine ⟨_, _, rfl, fun hb => ?_⟩
     have p1 := q1 (q2 hb)
     exact ⟨ok_mk hkk p1.2 i0 i0 oa ok_zI0 ok_zI0 (by simp), ⟨fun _ => by simp only at *; omega, fun _ => rfl, fun _ _ _ => rfl, fun _ => by simp only at *; omega, fun _ _ => rfl, fun _ => rfl, fun _ => rfl⟩, rfl⟩
   · split
     · obtain ⟨n, l1, b1, e1, h1, q1⟩ := num_tot' l false hl
       obtain ⟨a, l2, b2, e2, h2, q2, oa⟩ := item_tot l1 b1 h1
       obtain ⟨c, l3, b3, e3, h3, q3, oc⟩ := item_tot l2 b2 h2
       rw [e1, Option.bind_some, e2, Option.bind_some, e3, Option.bind_some]
       refine ⟨_, _, rfl, fun hb => ?_⟩
       have p1 := q1 (q2 (q3 hb))
       exact ⟨ok_mk hkk p1.2 i0 i0 oa ok_zI0 oc (by simp), ⟨fun _ => by simp only at *; omega, fun _ => rfl, fun _ _ _ => rfl, fun _ => by simp only at *; omega, fun _ _ => rfl, fun _ => by simp only at *; omega, fun _ => rfl⟩, rfl⟩
     · split
       · obtain ⟨n, l1, b1, e1, h1, q1⟩ := num_tot' l false hl
         obtain ⟨a, l2, b2, e2, h2, q2, oa⟩ := item_tot l1 b1 h1
         obtain ⟨c, l3, b3, e3, h3, q3, oc⟩ := item_tot l2 b2 h2
         obtain ⟨m, l4, b4, e4, h4, q4⟩ := num_tot' l3 b3 h3
         rw [e1, Option.bind_some, e2, Option.bind_some, e3, Option.bind_some, e4, Option.bind_some]
         refine ⟨_, _, rfl, fun hb => ?_⟩
         have p4 := q4 hb
         have p1 := q1 (q2 (q3 p4.1))
         exact ⟨ok_mk hkk p1.2 i0 p4.2 oa oc ok_zI0 (by simp), ⟨fun _ => by simp only at *; omega, fun _ => rfl, fun _ _ _ => by simp only at *; omega, fun _ => by simp only at *; omega, fun _ _ => by simp only at *; omega, fun _ => rfl, fun _ => rfl⟩, rfl⟩
       · split
         · obtain ⟨n, l1, b1, e1, h1, q1⟩ := num_tot' l false hl
           obtain ⟨a, l2, b2, e2, h2, q2, oa⟩ := item_tot l1 b1 h1
           obtain ⟨c, l3, b3, e3, h3, q3, oc⟩ := item_tot l2 b2 h2
           rw [e1, Option.bind_some, e2, Option.bind_some, e3, Option.bind_some]
           refine ⟨_, _, rfl, fun hb => ?_⟩
           have p1 := q1 (q2 (q3 hb))
           exact ⟨ok_mk hkk p1.2 i0 i0 oa oc ok_zI0 (by simp), ⟨fun _ => by simp only at *; omega, fun _ => rfl, fun _ _ _ => rfl, fun _ => by simp only at *; omega, fun _ _ => by simp only at *; omega, fun _ => rfl, fun _ => rfl⟩, rfl⟩
         · split
           · obtain ⟨n, l1, b1, e1, h1, q1⟩ := num_tot' l false hl
             rw [e1, Option.bind_some]
             refine ⟨_, _, rfl, fun hb => ?_⟩
             have p1 := q1 hb
             exact ⟨ok_mk hkk p1.2 i0 i0 ok_zI0 ok_zI0 ok_zI0 (by simp), ⟨fun _ => by simp only at *; omega, fun _ => rfl, fun _ _ _ => rfl, fun _ => rfl, fun _ _ => rfl, fun _ => rfl, fun _ => rfl⟩, rfl⟩
           · split
             · obtain ⟨n, l1, b1, e1, h1, q1⟩ := num_tot' l false hl
               rw [e1, Option.bind_some]
               refine ⟨_, _, rfl, fun hb => ?_⟩
               have p1 := q1 hb
               exact ⟨ok_mk hkk i0 i0 p1.2 ok_zI0 ok_zI0 ok_zI0 (by simp), ⟨fun _ => rfl, fun _ => rfl, fun _ _ _ => by simp only at *; omega, fun _ => rfl, fun _ _ => rfl, fun _ => rfl, fun _ => rfl⟩, rfl⟩
             · split
               · obtain ⟨n, l1, b1, e1, q1, hn⟩ := keep_tot l false hl
                 rw [e1, Option.bind_some]
                 refine ⟨_, _, rfl, fun hb => ?_⟩
                 exact ⟨ok_mk hkk i0 i0 i0 ok_zI0 ok_zI0 ok_zI0 hn, ⟨fun _ => rfl, fun _ => rfl, fun _ _ _ => rfl, fun _ => rfl, fun _ _ => rfl, fun _ => rfl, fun _ => by simp only at *; omega⟩, rfl⟩
               · refine ⟨_, _, rfl, fun hb => ?_⟩
                 exact ⟨ok_mk hkk i0 i0 i0 ok_zI0 ok_zI0 ok_zI0 (by simp), ⟨fun _ => rfl, fun _ => rfl, fun _ _ _ => rfl, fun _ => rfl, fun _ _ => rfl, fun _ => rfl, fun _ => rfl⟩, rfl⟩
theorem cons_of {l : List ByteArray} {w : List Int} {ws : List (List Int)} (h : l.map bts = w :: ws) : ∃ x l', l = x :: l' ∧ bts x = w ∧ l'.map bts = ws := by
 cases l with
 | nil => cases h
 | cons x l' => exact ⟨x, l', rfl, (List.cons.inj h).1, (List.cons.inj h).2⟩
theorem nil_of {l : List ByteArray} (h : l.map bts = []) : l = [] := List.map_eq_nil_iff.1 h
theorem midI_yes (o : Op) (h : VO o) (l : List ByteArray) (hl : l.map bts = W1 o ++ W2 o) : midI o.Kind l = some (false, o) := by
  have hF := opF h.ook
  have hz := h.zo
  have hvk : 2 ≤ o.Kind → o.Kind ≤ 6 → VI o.Key := fun a b => ⟨h.ok.2.2.2.2.1, hF.key a b⟩
  have hvt : o.Kind = 5 ∨ o.Kind = 6 → VI o.To := fun a => ⟨h.ok.2.2.2.2.2.1, hF.to a⟩
  have hvv : o.Kind = 3 → VI o.Value := fun a => ⟨h.ok.2.2.2.2.2.2.1, hF.value a⟩
  have h2 := h.ok.2.1
  have h3 := h.ok.2.2.1
  have h4 := h.ok.2.2.2.1
  have hkp := hF.keep
  have hk := hF.kind
  obtain ⟨k, s, lv, n, a, b, c, q⟩ := o
  obtain ⟨z1, z2, z3, z4, z5, z6, z7⟩ := hz
  simp only at hvk hvt hvv h2 h3 h4 hk z1 z2 z3 z4 z5 z6 z7 hkp ⊢
  unfold W1 W2 at hl
  simp only at hl
  unfold midI
  rcases kinds hk with rfl | rfl | rfl | rfl | rfl | rfl | rfl | rfl | rfl | rfl | rfl | rfl | rfl
  · obtain ⟨x, l', rfl, hx, hl⟩ := cons_of hl
    obtain ⟨y, l'', rfl, hy, hl⟩ := cons_of hl
    rw [if_pos rfl, num_yes s h2 x _ hx, Option.bind_some, num_yes lv h3 y _ hy, Option.bind_some, z3 (by decide) (by decide) (by decide), z4 (by decide), z5 (by decide) (by decide), z6 (by decide), z7 (by decide)]
  · obtain ⟨x, l', rfl, hx, hl⟩ := cons_of hl
    obtain ⟨y, l'', rfl, hy, hl⟩ := cons_of hl
    rw [if_neg (by decide), if_pos (by decide), num_yes s h2 x _ hx, Option.bind_some, item_yes a (hvk (by decide) (by decide)) y _ hy, Option.bind_some, z2 (by decide), z3 (by decide) (by decide) (by decide), z5 (by decide) (by decide), z6 (by decide), z7 (by decide)]
  · obtain ⟨x, l', rfl, hx, hl⟩ := cons_of hl
    obtain ⟨y, l'', rfl, hy, hl⟩ := cons_of hl
    obtain ⟨u, l3, rfl, hu, hl⟩ := cons_of hl
    rw [if_neg (by decide), if_neg (by decide), if_pos (by decide), num_yes s h2 x _ hx, Option.bind_some, item_yes a (hvk (by decide) (by decide)) y _ hy, Option.bind_some, item_yes c (hvv rfl) u _ hu, Option.bind_some, z2 (by decide), z3 (by decide) (by decide) (by decide), z5 (by decide) (by decide), z7 (by decide)]
  · obtain ⟨x, l', rfl, hx, hl⟩ := cons_of hl
    obtain ⟨y, l'', rfl, hy, hl⟩ := cons_of hl
    rw [if_neg (by decide), if_pos (by decide), num_yes s h2 x _ hx, Option.bind_some, item_yes a (hvk (by decide) (by decide)) y _ hy, Option.bind_some, z2 (by decide), z3 (by decide) (by decide) (by decide), z5 (by decide) (by decide), z6 (by decide), z7 (by decide)]
  · obtain ⟨x, l', rfl, hx, hl⟩ := cons_of hl
    obtain ⟨y, l'', rfl, hy, hl⟩ := cons_of hl
    obtain ⟨u, l3, rfl, hu, hl⟩ := cons_of hl
    obtain ⟨v, l4, rfl, hv, hl⟩ := cons_of hl
    rw [if_neg (by decide), if_neg (by decide), if_neg (by decide), if_pos (by decide), num_yes s h2 x _ hx, Option.bind_some, item_yes a (hvk (by decide) (by decide)) y _ hy, Option.bind_some, item_yes b (hvt (by decide)) u _ hu, Option.bind_some, num_yes n h4 v _ hv, Option.bind_some, z2 (by decide), z6 (by decide), z7 (by decide)]
  · obtain ⟨x, l', rfl, hx, hl⟩ := cons_of hl
    obtain ⟨y, l'', rfl, hy, hl⟩ := cons_of hl
    obtain ⟨u, l3, rfl, hu, hl⟩ := cons_of hl
    rw [if_neg (by decide), if_neg (by decide), if_neg (by decide), if_neg (by decide), if_pos (by decide), num_yes s h2 x _ hx, Option.bind_some, item_yes a (hvk (by decide) (by decide)) y _ hy, Option.bind_some, item_yes b (hvt (by decide)) u _ hu, Option.bind_some, z2 (by decide), z3 (by decide) (by decide) (by decide), z6 (by decide), z7 (by decide)]
  · obtain ⟨x, l', rfl, hx, hl⟩ := cons_of hl
    rw [if_neg (by decide), if_neg (by decide), if_neg (by decide), if_neg (by decide), if_neg (by decide), if_pos (by decide), num_yes s h2 x _ hx, Option.bind_some, z2 (by decide), z3 (by decide) (by decide) (by decide), z4 (by decide), z5 (by decide) (by decide), z6 (by decide), z7 (by decide)]
  · obtain ⟨x, l', rfl, hx, hl⟩ := cons_of hl
    rw [if_neg (by decide), if_neg (by decide), if_neg (by decide), if_neg (by decide), if_neg (by decide), if_pos (by decide), num_yes s h2 x _ hx, Option.bind_some, z2 (by decide), z3 (by decide) (by decide) (by decide), z4 (by decide), z5 (by decide) (by decide), z6 (by decide), z7 (by decide)]
  · rw [if_neg (by decide), if_neg (by decide), if_neg (by decide), if_neg (by decide), if_neg (by decide), if_neg (by decide), if_neg (by decide), if_neg (by decide), z1 (by decide), z2 (by decide), z3 (by decide) (by decide) (by decide), z4 (by decide), z5 (by decide) (by decide), z6 (by decide), z7 (by decide)]
  · rw [if_neg (by decide), if_neg (by decide), if_neg (by decide), if_neg (by decide), if_neg (by decide), if_neg (by decide), if_neg (by decide), if_neg (by decide), z1 (by decide), z2 (by decide), z3 (by decide) (by decide) (by decide), z4 (by decide), z5 (by decide) (by decide), z6 (by decide), z7 (by decide)]
  · obtain ⟨x, l', rfl, hx, hl⟩ := cons_of hl
    rw [if_neg (by decide), if_neg (by decide), if_neg (by decide), if_neg (by decide), if_neg (by decide), if_neg (by decide), if_pos (by decide), num_yes n h4 x _ hx, Option.bind_some, z1 (by decide), z2 (by decide), z4 (by decide), z5 (by decide) (by decide), z6 (by decide), z7 (by decide)]
  · obtain ⟨x, l', rfl, hx, hl⟩ := cons_of hl
    rw [if_neg (by decide), if_neg (by decide), if_neg (by decide), if_neg (by decide), if_neg (by decide), if_neg (by decide), if_pos (by decide), num_yes n h4 x _ hx, Option.bind_some, z1 (by decide), z2 (by decide), z4 (by decide), z5 (by decide) (by decide), z6 (by decide), z7 (by decide)]
  · rw [if_neg (by decide), if_neg (by decide), if_neg (by decide), if_neg (by decide), if_neg (by decide), if_neg (by decide), if_neg (by decide), if_pos (by decide), z1 (by decide), z2 (by decide), z3 (by decide) (by decide) (by decide), z4 (by decide), z5 (by decide) (by decide), z6 (by decide)]
    by_cases hn : q = []
    · subst hn
      have hl' : l.map bts = [] := hl
      rw [nil_of hl']; rfl
    · have hl' : l.map bts = [KT q] := by
        have : (if q = [] then ([] : List (List Int)) else [KT q]) = [KT q] := if_neg hn
        rw [← this]; exact hl
      obtain ⟨x, l', rfl, hx, hl''⟩ := cons_of hl'
      rw [keep_yes q (hkp rfl) x _ hx, Option.bind_some]
theorem endI_yes (s : ByteArray) (o : Op) (h : VO o) (hs : bts s = OPT o) : endI s (false, o) = some (o, true) := by
 unfold endI
 simp only []
 obtain ⟨t, ht, hb⟩ := impl_opText o h.ok h.ook
 rw [if_neg (by decide), impl_OpOk o h.ok, h.ook, Option.bind_some, Option.bind_some, if_neg (by decide), ht, Option.bind_some, eqs, hb, hs, decide_eq_true rfl, Option.bind_some, if_neg (by decide)]
theorem endI_no (s : ByteArray) (h : ∀ o, VO o → OPT o ≠ bts s) (bad : Bool) (c : Op) (hc : bad = false → ok_Op c ∧ ZO c) : endI s (bad, c) = some (zO, false) := by
 unfold endI
 simp only []
 cases bad with
 | true => rw [if_pos rfl, Option.bind_some, if_pos rfl, Option.bind_some, if_pos rfl]
 | false =>
  obtain ⟨h1, h2⟩ := hc rfl
  rw [if_neg (by decide), impl_OpOk c h1, Option.bind_some, Option.bind_some]
  by_cases hO : OOK c = true
  · obtain ⟨t, ht, hb⟩ := impl_opText c h1 hO
    rw [if_neg (by simp [hO]), ht, Option.bind_some, eqs, hb, decide_eq_false (h c ⟨h1, hO, h2⟩), Option.bind_some, if_pos (by decide)]
  · rw [if_pos (by simpa using hO), Option.bind_some, if_pos rfl]
theorem index_names (w : ByteArray) : ∃ i : Int, slices_Index_string_string.f names w = some i ∧ (rin i 1 13 = true → bts w = NM i) ∧ (∀ k, rin k 1 13 = true → bts w = NM k → i = k) := by
  have key : ∀ m j : Nat, j + m = 14 → (∀ q, q < j → nmw q ≠ bts w) → ∃ i : Int, iter (slices_Index_string_string.b0 names w) (j : Int) = some i ∧ ((i = -1 ∧ ∀ q, q < 14 → nmw q ≠ bts w) ∨ ∃ q : Nat, q < 14 ∧ i = q ∧ nmw q = bts w) := by
    intro m
    induction m with
    | zero =>
      intro j hj hq
      refine ⟨-1, iter_r ?_, .inl ⟨rfl, fun q hq' => hq q (by omega)⟩⟩
      unfold slices_Index_string_string.b0
      rw [if_neg (by rw [names_len]; simp; omega)]; rfl
    | succ m ih =>
      intro j hj hq
      have hjl : j < names.length := by rw [names_len]; omega
      have e : bts (names[j]) = nmw j := by unfold nmw; rw [List.getElem?_eq_getElem hjl]; rfl
      by_cases hw : nmw j = bts w
      · refine ⟨j, iter_r ?_, .inr ⟨j, by omega, rfl, hw⟩⟩
        unfold slices_Index_string_string.b0
        rw [if_pos (by rw [names_len]; simp; omega), if_pos (by rw [names_len]; omega), at_nat names j hjl, eqs, e, if_pos (by rw [hw]; simp)]
      · obtain ⟨i, hi, hp⟩ := ih (j + 1) (by omega) (fun q hq' => by
          rcases Nat.lt_succ_iff_lt_or_eq.1 hq' with h | rfl
          · exact hq q h
          · exact hw)
        refine ⟨i, ?_, hp⟩
        rw [iter_l (s' := ((j + 1 : Nat) : Int)) ?_, hi]
        unfold slices_Index_string_string.b0
        rw [if_pos (by rw [names_len]; simp; omega), if_pos (by rw [names_len]; omega), at_nat names j hjl, eqs, e, if_neg (by simp only [decide_eq_true_eq]; exact fun h => hw h.symm), w64 (by omega) (by omega)]; rfl
  obtain ⟨i, hi, hp⟩ := key 14 0 rfl (fun q hq => by omega)
  refine ⟨i, hi, fun hr => ?_, fun k hk hw => ?_⟩
  · have := rin_iff.1 hr
    rcases hp with ⟨rfl, _⟩ | ⟨q, hq, rfl, e⟩
    · omega
    · rw [NM_nat q hq, e]
  · have hkr := rin_iff.1 hk
    obtain ⟨u, rfl⟩ := Int.eq_ofNat_of_zero_le (show 0 ≤ k by omega)
    rw [NM_nat u (by omega)] at hw
    rcases hp with ⟨_, hno⟩ | ⟨q, hq, rfl, e⟩
    · exact absurd hw.symm (hno u (by omega))
    · rw [hw] at e
      rw [nmw_inj hq (by omega) e]
theorem split_ok (s : ByteArray) (h : s.size ≤ 20000) : ∃ x l, strings_Split.f s (⟨#[32]⟩ : ByteArray) = some (x :: l) ∧ bts x :: l.map bts = SPL 32 (bts s) ∧ szs (x :: l) ∧ (x :: l).length ≤ 20001 := by
 unfold strings_Split.f
 rw [if_pos ⟨by omega, by decide⟩]
 have hb := bts_split s
 obtain ⟨w, ws, hw⟩ := SPL_ne 32 (bts s)
 have hlen := SPL_len 32 (bts s)
 generalize Lib.splitB (⟨#[32]⟩ : ByteArray) 0 (Lib.countB s (⟨#[32]⟩ : ByteArray)) s = L at hb
 obtain ⟨x, l, rfl, hx, hl⟩ := cons_of (hb.trans hw)
 refine ⟨x, l, rfl, by rw [hx, hl, hw], fun y hy => ?_, ?_⟩
 · have hm : bts y ∈ SPL 32 (bts s) := by rw [← hb]; exact List.mem_map_of_mem hy
   have := (hlen.2 _ hm).1
   rw [bts_len, bts_len] at this; omega
 · have := congrArg List.length hb
   rw [List.length_map] at this
   have h1 := hlen.1
   rw [bts_len] at h1; omega
end Go.Proofs.YtdhefendaopcbaaGreatDoor
set_option linter.unusedVariables false
set_option linter.unusedSimpArgs false
set_option linter.unusedSectionVars false
namespace Go.Proofs.YtdhefendaopcbaaGreatDoor
open Go V Ieee
theorem impl_OpRead_eq (b : List Int) (hb : U8 b) (hl : b.length ≤ 20000) : ∃ (x : ByteArray) (l : List ByteArray) (i : Int), bts x :: l.map bts = SPL 32 b ∧ szs l ∧ (rin i 1 13 = true → bts x = NM i) ∧ (∀ k, rin k 1 13 = true → bts x = NM k → i = k) ∧
    impl_OpRead.f b = if rin i 1 13 = true then (midI i l).bind (endI (str b)) else some (zO, false) := by
  obtain ⟨x, l, h1, h2, h3, h4⟩ := split_ok (str b) (by rw [size_str hb]; exact hl)
  rw [bts_str hb] at h2
  obtain ⟨i, hi, p1, p2⟩ := index_names x
  refine ⟨x, l, i, h2, fun y hy => h3 y (List.mem_cons_of_mem _ hy), p1, p2, ?_⟩
  unfold impl_OpRead.f
  rw [if_neg (by simp; omega), h1, Option.bind_some, if_pos (by simp only [List.length_cons]; omega), impl_names, Option.bind_some]
  have hat : at_ (x :: l) (0 : Int) = x := rfl
  rw [hat, hi, Option.bind_some, Option.bind_some, if_pos (by simp only [List.length_cons]; omega), within_rin, Option.bind_some]
  have hd : (x :: l).drop ((1 : Int)).toNat = l := rfl
  rw [hd]
  clear h1 h2 h3 h4 p1 p2 hi hat hd
  by_cases hk : rin i 1 13 = true
  · rw [if_neg (by simp [hk]), if_pos hk]
    rcases kinds hk with rfl | rfl | rfl | rfl | rfl | rfl | rfl | rfl | rfl | rfl | rfl | rfl | rfl
    · rw [if_pos (by decide)]
      simp only [Int.reduceBEq, Bool.false_eq_true, if_false, if_true, Option.bind_some]
      unfold midI
      rw [if_pos rfl]
      simp only [Option.bind_assoc, Option.bind_some]
      rfl
    · rw [if_pos (by decide)]
      simp only [Int.reduceBEq, Bool.false_eq_true, if_false, if_true, Option.bind_some]
      unfold midI
      rw [if_neg (by decide), if_pos (by decide)]
      simp only [Option.bind_assoc, Option.bind_some]
      rfl
    · rw [if_pos (by decide)]
      simp only [Int.reduceBEq, Bool.false_eq_true, if_false, if_true, Option.bind_some]
      unfold midI
      rw [if_neg (by decide), if_neg (by decide), if_pos (by decide)]
      simp only [Option.bind_assoc, Option.bind_some]
      rfl
    · rw [if_pos (by decide)]
      simp only [Int.reduceBEq, Bool.false_eq_true, if_false, if_true, Option.bind_some]
      unfold midI
      rw [if_neg (by decide), if_pos (by decide)]
      simp only [Option.bind_assoc, Option.bind_some]
      rfl
    · rw [if_pos (by decide)]
      simp only [Int.reduceBEq, Bool.false_eq_true, if_false, if_true, Option.bind_some]
      unfold midI
      rw [if_neg (by decide), if_neg (by decide), if_neg (by decide), if_pos (by decide)]
      simp only [Option.bind_assoc, Option.bind_some]
      rfl
    · rw [if_pos (by decide)]
      simp only [Int.reduceBEq, Bool.false_eq_true, if_false, if_true, Option.bind_some]
      unfold midI
      rw [if_neg (by decide), if_neg (by decide), if_neg (by decide), if_neg (by decide), if_pos (by decide)]
      simp only [Option.bind_assoc, Option.bind_some]
      rfl
    · rw [if_pos (by decide)]
      simp only [Int.reduceBEq, Bool.false_eq_true, if_false, if_true, Option.bind_some]
      unfold midI
      rw [if_neg (by decide), if_neg (by decide), if_neg (by decide), if_neg (by decide), if_neg (by decide), if_pos (by decide)]
      simp only [Option.bind_assoc, Option.bind_some]
      rfl
    · rw [if_pos (by decide)]
      simp only [Int.reduceBEq, Bool.false_eq_true, if_false, if_true, Option.bind_some]
      unfold midI
      rw [if_neg (by decide), if_neg (by decide), if_neg (by decide), if_neg (by decide), if_neg (by decide), if_pos (by decide)]
      simp only [Option.bind_assoc, Option.bind_some]
      rfl
    · rw [if_neg (by decide)]
      simp only [Int.reduceBEq, Bool.false_eq_true, if_false, if_true, Option.bind_some]
      unfold midI
      rw [if_neg (by decide), if_neg (by decide), if_neg (by decide), if_neg (by decide), if_neg (by decide), if_neg (by decide), if_neg (by decide), if_neg (by decide)]
      rfl
    · rw [if_neg (by decide)]
      simp only [Int.reduceBEq, Bool.false_eq_true, if_false, if_true, Option.bind_some]
      unfold midI
      rw [if_neg (by decide), if_neg (by decide), if_neg (by decide), if_neg (by decide), if_neg (by decide), if_neg (by decide), if_neg (by decide), if_neg (by decide)]
      rfl
    · rw [if_neg (by decide)]
      simp only [Int.reduceBEq, Bool.false_eq_true, if_false, if_true, Option.bind_some]
      unfold midI
      rw [if_neg (by decide), if_neg (by decide), if_neg (by decide), if_neg (by decide), if_neg (by decide), if_neg (by decide), if_pos (by decide)]
      simp only [Option.bind_assoc, Option.bind_some]
      rfl
    · rw [if_neg (by decide)]
      simp only [Int.reduceBEq, Bool.false_eq_true, if_false, if_true, Option.bind_some]
      unfold midI
      rw [if_neg (by decide), if_neg (by decide), if_neg (by decide), if_neg (by decide), if_neg (by decide), if_neg (by decide), if_pos (by decide)]
      simp only [Option.bind_assoc, Option.bind_some]
      rfl
    · rw [if_neg (by decide)]
      simp only [Int.reduceBEq, Bool.false_eq_true, if_false, if_true, Option.bind_some]
      unfold midI
      rw [if_neg (by decide), if_neg (by decide), if_neg (by decide), if_neg (by decide), if_neg (by decide), if_neg (by decide), if_neg (by decide), if_pos (by decide)]
      simp only [Option.bind_assoc, Option.bind_some]
      rfl
  · rw [if_pos (by simpa using hk), if_neg hk]; rfl
theorem impl_OpRead_yes (o : Op) (h : VO o) (hu : U8 (OPT o)) : impl_OpRead.f (OPT o) = some (o, true) := by
 have hlen := OPT_len o h.ok h.ook
 obtain ⟨x, l, i, h1, h2, _, h4, he⟩ := impl_OpRead_eq (OPT o) hu (by omega)
 rw [OPT_split o h] at h1
 have hx := (List.cons.inj h1).1
 have hl := (List.cons.inj h1).2
 have hk := (opF h.ook).kind
 obtain rfl := h4 o.Kind hk hx
 rw [he, if_pos hk, midI_yes o h l hl, Option.bind_some, endI_yes _ o h (bts_str hu)]
theorem impl_OpRead_no (b : List Int) (hb : U8 b) (h : ∀ o, VO o → OPT o ≠ b) : impl_OpRead.f b = some (zO, false) := by
 by_cases hl : b.length ≤ 20000
 · obtain ⟨x, l, i, h1, h2, h3, h4, he⟩ := impl_OpRead_eq b hb hl
   rw [he]
   by_cases hk : rin i 1 13 = true
   · obtain ⟨bad, c, hc, hp⟩ := midI_tot i hk l h2
     rw [if_pos hk, hc, Option.bind_some]
     exact endI_no (str b) (by rw [bts_str hb]; exact h) bad c fun hh => ⟨(hp hh).1, (hp hh).2.1⟩
   · rw [if_neg hk]
 · unfold impl_OpRead.f
   rw [if_pos (by simp; omega)]; rfl
end Go.Proofs.YtdhefendaopcbaaGreatDoor
set_option linter.unusedVariables false
set_option linter.unusedSimpArgs false
set_option linter.unusedSectionVars false
namespace Go.Proofs.YtdhefendaopcbaaGreatDoor
open Go V Ieee
theorem OPT_u8 (o : Op) (h : VO o) : U8 (OPT o) := by
 have hb : ∀ k : Int, U8 (NM k) := fun k => bts_u8 _
 have hj : ∀ (ws : List (List Int)) (w : List Int), U8 w → (∀ x ∈ ws, U8 x) → U8 (JW w ws) := by
  intro ws
  induction ws with
  | nil => intro w hw _; rw [JW_nil]; exact hw
  | cons x ws ih =>
   intro w hw hs
   rw [JW_cons]
   refine U8_app hw fun y hy => ?_
   rcases List.mem_cons.1 hy with rfl | hy
   · exact u8_ok (by omega) (by omega)
   · exact ih x (hs x List.mem_cons_self) (fun z hz => hs z (List.mem_cons_of_mem _ hz)) y hy
 have k1 := TX_u8 o.Key h.ok.2.2.2.2.1.2.2.2.2
 have k2 := TX_u8 o.To h.ok.2.2.2.2.2.1.2.2.2.2
 have k3 := TX_u8 o.Value h.ok.2.2.2.2.2.2.1.2.2.2.2
 have k4 := IT_u8 o.Seat
 have k5 := IT_u8 o.Level
 have k6 := IT_u8 o.N
 have k7 := KT_u8 o.Keep
 refine hj _ _ (hb _) fun x hx => ?_
 rcases List.mem_append.1 hx with hx | hx
 · unfold W1 at hx
   split at hx
   · simp at hx; subst hx; exact k4
   · cases hx
 · unfold W2 at hx
   split at hx
   · simp at hx; subst hx; exact k5
   · split at hx
     · simp at hx; subst hx; exact k1
     · split at hx
       · simp at hx; rcases hx with rfl | rfl <;> assumption
       · split at hx
         · simp at hx; rcases hx with rfl | rfl | rfl <;> assumption
         · split at hx
           · simp at hx; rcases hx with rfl | rfl <;> assumption
           · split at hx
             · simp at hx; subst hx; exact k6
             · split at hx
               · split at hx
                 · cases hx
                 · simp at hx; subst hx; exact k7
               · cases hx
end Go.Proofs.YtdhefendaopcbaaGreatDoor
set_option linter.unusedVariables false
set_option linter.unusedSimpArgs false
set_option linter.unusedSectionVars false
namespace Go.Proofs.YtdhefendaopcbaaGreatDoor
open Go V Ieee
end Go.Proofs.YtdhefendaopcbaaGreatDoor
set_option linter.unusedVariables false
set_option linter.unusedSimpArgs false
set_option linter.unusedSectionVars false
namespace Go.Proofs.YtdhefendaopcbaaGreatDoor
open Go V Ieee
def nz (o : Op) : Op := ⟨o.Kind, if o.Kind ≤ 8 then o.Seat else 0, if o.Kind = 1 then o.Level else 0, if o.Kind = 5 ∨ o.Kind = 11 ∨ o.Kind = 12 then o.N else 0, if 2 ≤ o.Kind ∧ o.Kind ≤ 6 then o.Key else zI0, if o.Kind = 5 ∨ o.Kind = 6 then o.To else zI0, if o.Kind = 3 then o.Value else zI0, if o.Kind = 13 then o.Keep else []⟩
theorem nz_zo (o : Op) : ZO (nz o) := by
 refine ⟨fun h => ?_, fun h => ?_, fun h1 h2 h3 => ?_, fun h => ?_, fun h1 h2 => ?_, fun h => ?_, fun h => ?_⟩ <;> simp only [nz] at *
 · rw [if_neg (by omega)]
 · rw [if_neg h]
 · rw [if_neg (by omega)]
 · rw [if_neg h]
 · rw [if_neg (by omega)]
 · rw [if_neg h]
 · rw [if_neg h]
theorem nz_ok {o : Op} (h : ok_Op o) : ok_Op (nz o) := by
 obtain ⟨h1, h2, h3, h4, h5, h6, h7, h8, h9⟩ := h
 unfold nz
 refine ⟨h1, ?_, ?_, ?_, ?_, ?_, ?_, ?_, fun _ _ => trivial⟩ <;> simp only []
 · split <;> first | exact h2 | exact i0
 · split <;> first | exact h3 | exact i0
 · split <;> first | exact h4 | exact i0
 · split <;> first | exact h5 | exact ok_zI0
 · split <;> first | exact h6 | exact ok_zI0
 · split <;> first | exact h7 | exact ok_zI0
 · split
   · exact h8
   · simp [maxLen]
theorem nz_same {o : Op} (hO : OOK o = true) : OOK (nz o) = true ∧ OPT (nz o) = OPT o := by
 have hk := (opF hO).kind
 obtain ⟨k, s, lv, n, a, b, c, q⟩ := o
 simp only at hk
 rcases kinds hk with rfl | rfl | rfl | rfl | rfl | rfl | rfl | rfl | rfl | rfl | rfl | rfl | rfl
 all_goals
  refine ⟨?_, ?_⟩
  · simpa [OOK, opb, nz] using hO
  · simp [OPT, W1, W2, nz]
theorem OPT_ne {o : Op} (hO : OOK o = true) : OPT o ≠ [] := by
 have hk := rin_iff.1 (opF hO).kind
 intro h
 have hn : NM o.Kind = [] := by unfold OPT JW at h; exact (List.append_eq_nil_iff.1 h).1
 have hpos : ∀ k : Fin 14, k.val ≠ 0 → nmw k ≠ [] := by unfold nmw; decide +kernel
 obtain ⟨u, hu⟩ := Int.eq_ofNat_of_zero_le (show 0 ≤ o.Kind by omega)
 rw [hu, NM_nat u (by omega)] at hn
 exact hpos ⟨u, by omega⟩ (by simp only; omega) hn
theorem OpRead_back (o : Op) (h : ok_Op o) : ∃ p : Op, impl_OpRead.f (OPO o) = some (p, OOK o) ∧ (OOK o = true → impl_OpText.f p = some (OPO o) ∧ p.Kind = o.Kind ∧ 0 < (OPO o).length) := by
 unfold OPO
 by_cases hO : OOK o = true
 · obtain ⟨h1, h2⟩ := nz_same hO
   have hv : VO (nz o) := ⟨nz_ok h, h1, nz_zo o⟩
   rw [if_pos hO, hO, ← h2]
   refine ⟨nz o, impl_OpRead_yes _ hv (OPT_u8 _ hv), fun _ => ⟨?_, rfl, List.length_pos_iff.2 (OPT_ne h1)⟩⟩
   rw [impl_OpText _ hv.ok, OPO, if_pos h1]
 · rw [if_neg hO]
   refine ⟨zO, ?_, fun hh => absurd hh hO⟩
   rw [impl_OpRead_no [] U8_nil fun p hp => OPT_ne hp.ook]
   cases hh : OOK o with
   | true => exact absurd hh hO
   | false => rfl
end Go.Proofs.YtdhefendaopcbaaGreatDoor
set_option linter.unusedVariables false
set_option linter.unusedSimpArgs false
set_option linter.unusedSectionVars false
namespace Go.Proofs.YtdhefendaopcbaaGreatDoor
open Go V
def Ok {α : Type} (m : Option α) (P : α → Prop) : Prop := ∃ r, m = some r ∧ P r
section
variable {α β S O : Type} {P : α → Prop} {Q : β → Prop}
theorem Ok.ret {x : α} (h : P x) : Ok (some x) P := ⟨x, rfl, h⟩
theorem Ok.eq {m : Option α} {x : α} (e : m = some x) (h : P x) : Ok m P := ⟨x, e, h⟩
theorem Ok.bind {m : Option α} {k : α → Option β} (h : Ok m P) (hk : ∀ r, P r → Ok (k r) Q) : Ok (m.bind k) Q := by
 obtain ⟨r, rfl, hp⟩ := h
 exact hk r hp
theorem Ok.mono {P' : α → Prop} {m : Option α} (h : Ok m P) (hk : ∀ r, P r → P' r) : Ok m P' := by
 obtain ⟨r, e, hp⟩ := h
 exact ⟨r, e, hk r hp⟩
theorem Ok.ite {c : Bool} {m n : Option α} (h1 : c = true → Ok m P) (h2 : c = false → Ok n P) : Ok (if c = true then m else n) P := by
 cases c with
 | true => exact h1 rfl
 | false => exact h2 rfl
theorem Ok.grd {c : Prop} [Decidable c] {m n : Option α} (hc : c) (h : Ok m P) : Ok (if c then m else n) P := by rw [if_pos hc]; exact h
theorem Ok.sel {m : Option (S ⊕ β)} {f : S → Option β} {R : S → Prop} (h : Ok m (Sum.elim R Q)) (hk : ∀ y, R y → Ok (f y) Q) : Ok (m.bind (sel f)) Q := by
 obtain ⟨r, rfl, hp⟩ := h
 cases r with
 | inl y => exact hk y hp
 | inr o => exact ⟨o, rfl, hp⟩
theorem Ok.out {m : Option O} {R : S → Prop} {Q : O → Prop} (h : Ok m Q) : Ok (m.bind fun o => some (Sum.inr o)) (Sum.elim R Q) := by
 obtain ⟨r, rfl, hp⟩ := h
 exact ⟨_, rfl, hp⟩
theorem Ok.iter {body : S → Option (S ⊕ O)} {Q : O → Prop} (Inv : S → Prop) (μ : S → Nat) (h : ∀ s, Inv s → Ok (body s) (Sum.elim (fun s' => Inv s' ∧ μ s' < μ s) Q)) : ∀ s, Inv s → Ok (iter body s) Q := by
 have key : ∀ n s, μ s < n → Inv s → Ok (V.iter body s) Q := by
  intro n
  induction n with
  | zero => intro s hs; omega
  | succ n ih =>
   intro s hs hi
   obtain ⟨r, e, hr⟩ := h s hi
   rw [iter_eq, e]
   cases r with
   | inl s' => exact ih s' (by have := hr.2; omega) hr.1
   | inr o => exact ⟨o, rfl, hr⟩
 intro s hi
 exact key _ s (Nat.lt_succ_self _) hi
end
end Go.Proofs.YtdhefendaopcbaaGreatDoor
set_option linter.unusedVariables false
set_option linter.unusedSimpArgs false
namespace Go.Proofs.YtdhefendaopcbaaGreatDoor
open Go V
theorem iand_mask (x : Int) (m : Nat) (hm : m < 9223372036854775808) : 0 ≤ iand .i64 x (m : Int) ∧ iand .i64 x (m : Int) ≤ m := by
 unfold iand
 have e : (BitVec.ofInt IntKind.i64.bits x &&& BitVec.ofInt IntKind.i64.bits (m : Int)).toNat ≤ m := by
  rw [BitVec.toNat_and, BitVec.ofInt_natCast, BitVec.toNat_ofNat, Nat.mod_eq_of_lt (show m < 2 ^ IntKind.i64.bits by show m < 2 ^ 64; omega)]
  exact Nat.and_le_right
 generalize (BitVec.ofInt IntKind.i64.bits x &&& BitVec.ofInt IntKind.i64.bits (m : Int)).toNat = y at *
 rw [w64 (by omega) (by omega)]
 omega
theorem tmod_lt {a n : Int} (h0 : 0 ≤ a) (hn : 0 < n) : 0 ≤ a.tmod n ∧ a.tmod n < n := by
 rw [Int.tmod_eq_emod_of_nonneg h0]
 exact ⟨Int.emod_nonneg _ (by omega), Int.emod_lt_of_pos _ hn⟩
def Ci (b : List Int) (i : Int) : Prop := 0 ≤ i ∧ i ≤ (b.length : Int) ∧ b.length ≤ 1048576
theorem l1Byte_ok (c : l1Cur) (h : Ci c.b c.i) : Ok (spec_l1Byte.f c) fun r => 0 ≤ r.1 ∧ r.1 ≤ 255 ∧ Ci c.b r.2.i := by
 obtain ⟨h0, h1, h2⟩ := h
 unfold spec_l1Byte.f
 have m1 := fun x => iand_mask x 255 (by omega)
 refine Ok.bind (P := fun y => 0 ≤ y.1 ∧ y.1 ≤ 255 ∧ Ci c.b y.2) (Ok.ite (fun hc => ?_) fun _ => Ok.ret ⟨(m1 _).1, (m1 _).2, h0, h1, h2⟩) fun y hy => Ok.ret hy
 have hi : c.i < (c.b.length : Int) := by simpa using hc
 refine Ok.grd ⟨h0, hi⟩ (Ok.ret ⟨(m1 _).1, (m1 _).2, ?_⟩)
 show Ci c.b (IntKind.wrap .i64 (c.i + 1))
 rw [w64 (by omega) (by omega)]
 exact ⟨by omega, by omega, h2⟩
theorem l1Below_ok (c : l1Cur) (n : Int) (h : Ci c.b c.i) (hn : 0 < n) : Ok (spec_l1Below.f c n) fun r => 0 ≤ r.1 ∧ r.1 < n ∧ Ci c.b r.2.i := by
 unfold spec_l1Below.f
 refine Ok.ite (fun hc => by simp at hc; omega) fun _ => Ok.ite (fun _ => ?_) fun _ => ?_
 · refine Ok.bind (l1Byte_ok c h) fun r hr => Ok.grd (by omega) (Ok.ret ?_)
   have := tmod_lt hr.1 hn
   exact ⟨this.1, this.2, hr.2.2⟩
 · refine Ok.bind (l1Byte_ok c h) fun r1 h1 => Ok.bind (l1Byte_ok (l1Cur.mk c.b r1.2.i r1.2.h) h1.2.2) fun r2 h2 => Ok.bind (l1Byte_ok (l1Cur.mk c.b r2.2.i r2.2.h) h2.2.2) fun r3 h3 => Ok.bind (l1Byte_ok (l1Cur.mk c.b r3.2.i r3.2.h) h3.2.2) fun r4 h4 => Ok.grd (by omega) (Ok.ret ?_)
   obtain ⟨p1, q1, _⟩ := h1
   obtain ⟨p2, q2, _⟩ := h2
   obtain ⟨p3, q3, _⟩ := h3
   obtain ⟨p4, q4, k4⟩ := h4
   rw [w64 (n := r1.1 * 16777216) (by omega) (by omega), w64 (n := r2.1 * 65536) (by omega) (by omega), w64 (n := r1.1 * 16777216 + r2.1 * 65536) (by omega) (by omega), w64 (n := r3.1 * 256) (by omega) (by omega), w64 (n := r1.1 * 16777216 + r2.1 * 65536 + r3.1 * 256) (by omega) (by omega), w64 (by omega) (by omega)]
   have := tmod_lt (a := r1.1 * 16777216 + r2.1 * 65536 + r3.1 * 256 + r4.1) (by omega) hn
   exact ⟨this.1, this.2, k4⟩
theorem l1Once_ok (c : l1Cur) (n : Int) (h : Ci c.b c.i) (hn : 0 < n) : Ok (spec_l1Once.f c n) fun r => Ci c.b r.2.i :=
 Ok.bind (l1Below_ok c n h hn) fun r hr => Ok.ret hr.2.2
theorem l1PickInt_ok (c : l1Cur) (l : List Int) (h : Ci c.b c.i) (hl : l ≠ []) : Ok (spec_l1PickInt.f c l) fun r => r.1 ∈ l ∧ Ci c.b r.2.i := by
 have hp : 0 < l.length := List.length_pos_iff.2 hl
 refine Ok.bind (l1Below_ok c (l.length : Int) h (by omega)) fun r hr => Ok.grd ⟨hr.1, hr.2.1⟩ (Ok.ret ⟨?_, hr.2.2⟩)
 obtain ⟨k, hk⟩ := Int.eq_ofNat_of_zero_le hr.1
 show at_ l r.1 ∈ l
 have h2 := hr.2.1
 rw [hk] at h2 ⊢
 rw [at_nat l k (by omega)]
 exact List.getElem_mem _
theorem l1New_ok (a : List Int) (h : a.length ≤ 1048576) : Ok (spec_l1New.f a) fun c => c.b = a ∧ Ci c.b c.i := by
 unfold spec_l1New.f
 refine Ok.iter (fun s => 0 ≤ s.2 ∧ s.2 ≤ (a.length : Int)) (fun s => a.length - s.2.toNat) (fun s hs => ?_) _ ⟨by simp, by simp⟩
 unfold spec_l1New.b0
 refine Ok.ite (fun hc => ?_) fun _ => Ok.out (Ok.ret ⟨rfl, ?_⟩)
 · simp at hc
   refine Ok.grd ⟨hs.1, hc.1⟩ (Ok.ret ?_)
   show (_ ∧ _) ∧ _
   simp only []
   rw [w64 (by omega) (by omega)]
   omega
 · exact ⟨Int.le_refl 0, by simp, h⟩
theorem l1some_ok (c : l1Cur) (n : Int) (h : Ci c.b c.i) (h0 : 0 ≤ n) (hn : n ≤ 100000) : Ok (spec_l1some.f c n) fun r => ((r.1.length : Int) ≤ n ∧ ∀ x ∈ r.1, InK .u8 x) ∧ Ci c.b r.2.i := by
 unfold spec_l1some.f
 rw [w64 (by omega) (by omega)]
 refine Ok.bind (l1Below_ok c _ h (by omega)) fun r hr => ?_
 obtain ⟨k1, k2, k3⟩ := hr
 refine Ok.iter (fun s => 0 ≤ s.2.1 ∧ s.2.1 ≤ r.1 ∧ (s.1.length : Int) = s.2.1 ∧ (∀ x ∈ s.1, InK .u8 x) ∧ Ci c.b s.2.2.1) (fun s => (r.1 - s.2.1).toNat) (fun s hs => ?_) _ ?_
 rotate_left
 · exact ⟨Int.le_refl 0, k1, rfl, (fun x hx => by cases hx), k3⟩
 obtain ⟨j1, j2, j3, j4, j5⟩ := hs
 unfold spec_l1some.b0
 refine Ok.ite (fun hc => ?_) fun hc => Ok.out (Ok.ret ⟨⟨by show ((s.1).length : Int) ≤ n; omega, j4⟩, j5⟩)
 have hc' : s.2.1 < r.1 := by simpa using hc
 refine Ok.bind (l1Byte_ok (l1Cur.mk c.b s.2.2.1 s.2.2.2) j5) fun q hq => Ok.grd (by simp only [Lim, List.length_singleton]; omega) (Ok.ret ?_)
 show (_ ∧ _ ∧ _ ∧ _ ∧ _) ∧ _
 simp only []
 rw [w64 (by omega) (by omega)]
 refine ⟨⟨by omega, by omega, by simp; omega, fun x hx => ?_, hq.2.2⟩, by omega⟩
 rcases List.mem_append.1 hx with hx | hx
 · exact j4 x hx
 · rw [List.mem_singleton.1 hx, IntKind.wrap_u8]; exact u8_ok (by omega) (by omega)
end Go.Proofs.YtdhefendaopcbaaGreatDoor
set_option linter.unusedVariables false
set_option linter.unusedSimpArgs false
set_option linter.unusedSectionVars false
namespace Go.Proofs.YtdhefendaopcbaaGreatDoor
open Go V Ieee
end Go.Proofs.YtdhefendaopcbaaGreatDoor
set_option linter.unusedVariables false
set_option linter.unusedSimpArgs false
namespace Go.Proofs.YtdhefendaopcbaaGreatDoor
open Go V
def val (l : List Int) : Nat := l.foldr (fun b acc => b.toNat + 256 * acc) 0
end Go.Proofs.YtdhefendaopcbaaGreatDoor
set_option linter.unusedVariables false
set_option linter.unusedSimpArgs false
set_option linter.unusedSectionVars false
namespace Go.Proofs.YtdhefendaopcbaaGreatDoor
open Go V Ieee
theorem u8w (x : Int) : InK .u8 (IntKind.wrap .u8 x) := by rw [IntKind.wrap_u8]; exact u8_ok (by omega) (by omega)
end Go.Proofs.YtdhefendaopcbaaGreatDoor
set_option linter.unusedVariables false
set_option linter.unusedSimpArgs false
set_option linter.unusedSectionVars false
namespace Go.Proofs.YtdhefendaopcbaaGreatDoor
open Go V Ieee
def I0 : Item := Item.mk 0 0 0 []
section
variable (b : List Int) (hb : ∀ x ∈ b, InK .u8 x)
include hb
end
theorem ok_I0 : ok_Item I0 := ⟨i64_ok (by decide) (by decide), i64_ok (by decide) (by decide), okF_0, by simp [I0], fun y hy => by cases hy⟩
end Go.Proofs.YtdhefendaopcbaaGreatDoor
set_option linter.unusedVariables false
set_option linter.unusedSimpArgs false
set_option linter.unusedSectionVars false
namespace Go.Proofs.YtdhefendaopcbaaGreatDoor
open Go V Ieee
end Go.Proofs.YtdhefendaopcbaaGreatDoor
set_option linter.unusedVariables false
set_option linter.unusedSimpArgs false
set_option linter.unusedSectionVars false
namespace Go.Proofs.YtdhefendaopcbaaGreatDoor
open Go V Ieee
end Go.Proofs.YtdhefendaopcbaaGreatDoor
set_option linter.unusedVariables false
set_option linter.unusedSimpArgs false
namespace Go.Proofs.YtdhefendaopcbaaGreatDoor
open Go V Ieee
theorem ik (n : Int) (h : -9223372036854775808 ≤ n := by decide) (h' : n ≤ 9223372036854775807 := by decide) : InK .i64 n := i64_ok h h'
theorem u64w (x : Int) : InK .u64 (IntKind.wrap .u64 x) := by
 rw [IntKind.wrap_u64]
 exact ⟨by show (0 : Int) ≤ _; omega, by show _ ≤ (18446744073709551615 : Int); omega⟩
theorem u64_of {n : Int} (h : InK .u64 n) : n = ((n.toNat : Nat) : Int) ∧ n.toNat < 18446744073709551616 := by
 have h1 : (0 : Int) ≤ n := h.1
 have h2 : n ≤ (18446744073709551615 : Int) := h.2
 omega
theorem l1number_ok (c : l1Cur) (h : Ci c.b c.i) : Ok (spec_l1number.f c) fun r => InK .i64 r.1 ∧ Ci c.b r.2.i := by
 unfold spec_l1number.f
 refine Ok.bind (l1Below_ok c 1000 h (by omega)) fun r1 h1 => Ok.bind (l1Below_ok (l1Cur.mk c.b r1.2.i r1.2.h) 6 h1.2.2 (by omega)) fun r2 h2 => ?_
 refine Ok.iter (fun s => InK .i64 s.1 ∧ 0 ≤ s.2.1 ∧ s.2.1 ≤ 6 ∧ Ci c.b s.2.2.1) (fun s => s.2.1.toNat) (fun s hs => ?_) _ ?_
 rotate_left
 · obtain ⟨a1, a2, _⟩ := h1
   obtain ⟨b1, b2, b3⟩ := h2
   exact ⟨i64_ok (by omega) (by omega), b1, by show r2.1 ≤ 6; omega, b3⟩
 obtain ⟨k1, k2, k3, k4⟩ := hs
 unfold spec_l1number.b0
 refine Ok.ite (fun hc => ?_) fun _ => Ok.out ?_
 · have hc' : s.2.1 > 0 := by simpa using hc
   refine Ok.bind (l1Byte_ok (l1Cur.mk c.b s.2.2.1 s.2.2.2) k4) fun r hr => Ok.ret ?_
   show (_ ∧ _ ∧ _ ∧ _) ∧ _
   simp only []
   rw [w64 (n := s.2.1 - 1) (by omega) (by omega)]
   exact ⟨⟨i64w _, by omega, by omega, hr.2.2⟩, by omega⟩
 · refine Ok.bind (l1Below_ok (l1Cur.mk c.b s.2.2.1 s.2.2.2) 12 k4 (by omega)) fun r hr => Ok.ite (fun _ => Ok.ret ⟨i64w _, hr.2.2⟩) fun _ => Ok.ite (fun _ => ?_) fun _ => Ok.ite (fun _ => Ok.ret ⟨ik 9223372036854775807, hr.2.2⟩) fun _ => Ok.ite (fun _ => Ok.ret ⟨ik (-9223372036854775808), hr.2.2⟩) fun _ => Ok.ret ⟨k1, hr.2.2⟩
   refine Ok.bind (l1Below_ok (l1Cur.mk c.b r.2.i r.2.h) 7 hr.2.2 (by omega)) fun q hq => ?_
   obtain ⟨q1, q2, q3⟩ := hq
   refine Ok.grd ?_ (Ok.bind (l1Below_ok (l1Cur.mk c.b q.2.i q.2.h) 2 q3 (by omega)) fun z hz => Ok.ret ⟨i64w _, hz.2.2⟩)
   rw [w64 (n := 1 + q.1) (by omega) (by omega), w64 (by omega) (by omega)]; omega
theorem l2bits_ok (c : l1Cur) (h : Ci c.b c.i) : Ok (spec_l2bits.f c) fun r => InK .u64 r.1 ∧ Ci c.b r.2.i := by
 unfold spec_l2bits.f
 refine Ok.iter (fun s => InK .u64 s.1 ∧ 0 ≤ s.2.1 ∧ s.2.1 ≤ 8 ∧ Ci c.b s.2.2.1) (fun s => (8 - s.2.1).toNat) (fun s hs => ?_) _ ⟨u64w 0, by simp, by simp, h⟩
 obtain ⟨k1, k2, k3, k4⟩ := hs
 unfold spec_l2bits.b0
 refine Ok.ite (fun hc => ?_) fun _ => Ok.out ?_
 · have hc' : s.2.1 < 8 := by simpa using hc
   refine Ok.bind (l1Byte_ok (l1Cur.mk c.b s.2.2.1 s.2.2.2) k4) fun r hr => Ok.ret ?_
   show (_ ∧ _ ∧ _ ∧ _) ∧ _
   simp only []
   rw [w64 (n := s.2.1 + 1) (by omega) (by omega)]
   exact ⟨⟨u64w _, by omega, by omega, hr.2.2⟩, by omega⟩
 · refine Ok.bind (l1Below_ok (l1Cur.mk c.b s.2.2.1 s.2.2.2) 9 k4 (by omega)) fun r hr => ?_
   refine Ok.ite (fun _ => Ok.bind (l1Below_ok (l1Cur.mk c.b r.2.i r.2.h) 2 hr.2.2 (by omega)) fun p hp => Ok.bind (l1Below_ok (l1Cur.mk c.b p.2.i p.2.h) 3 hp.2.2 (by omega)) fun q hq => Ok.ret ⟨u64w _, hq.2.2⟩) fun _ => ?_
   refine Ok.ite (fun _ => Ok.bind (l1Below_ok (l1Cur.mk c.b r.2.i r.2.h) 2 hr.2.2 (by omega)) fun p hp => Ok.bind (l1Below_ok (l1Cur.mk c.b p.2.i p.2.h) 3 hp.2.2 (by omega)) fun q hq => Ok.ret ⟨u64w _, hq.2.2⟩) fun _ => ?_
   refine Ok.ite (fun _ => Ok.bind (l1Below_ok (l1Cur.mk c.b r.2.i r.2.h) 2 hr.2.2 (by omega)) fun p hp => Ok.ret ⟨u64w _, hp.2.2⟩) fun _ => ?_
   refine Ok.ite (fun _ => Ok.bind (l1Below_ok (l1Cur.mk c.b r.2.i r.2.h) 2 hr.2.2 (by omega)) fun p hp => Ok.bind (l1Below_ok (l1Cur.mk c.b p.2.i p.2.h) 3 hp.2.2 (by omega)) fun q hq => Ok.ret ⟨u64w _, hq.2.2⟩) fun _ => ?_
   refine Ok.ite (fun _ => Ok.bind (l1Below_ok (l1Cur.mk c.b r.2.i r.2.h) 12 hr.2.2 (by omega)) fun p hp => Ok.bind (l1Below_ok (l1Cur.mk c.b p.2.i p.2.h) 16 hp.2.2 (by omega)) fun q hq => Ok.ret ⟨u64w _, hq.2.2⟩) fun _ => ?_
   refine Ok.ite (fun _ => Ok.bind (l1Below_ok (l1Cur.mk c.b r.2.i r.2.h) 21 hr.2.2 (by omega)) fun p hp => ?_) fun _ => Ok.ret ⟨k1, hr.2.2⟩
   obtain ⟨p1, p2, p3⟩ := hp
   have hk : okF (FloatKind.f64.nearest (IntKind.wrap .i64 (p.1 - 10))) := by
    rw [w64 (by omega) (by omega)]
    have key : ∀ n : Fin 21, (let x := FloatKind.f64.nearest (((n : Nat) : Int) - 10); (cn x == x && decide (x < 18446744073709551616))) = true := by decide +kernel
    have h2 := key ⟨p.1.toNat, by omega⟩
    have e : ((p.1.toNat : Nat) : Int) - 10 = p.1 - 10 := by omega
    simp only [e, Bool.and_eq_true, beq_iff_eq, decide_eq_true_eq] at h2
    exact h2
   refine Ok.bind (Ok.eq (spec_FloatBits _ hk) (P := fun v => InK .u64 v) ⟨by show (0 : Int) ≤ _; omega, by have := hk.2; show _ ≤ (18446744073709551615 : Int); omega⟩) fun v hv => Ok.ret ⟨hv, p3⟩
theorem l2float_ok (c : l1Cur) (h : Ci c.b c.i) : Ok (spec_l2float.f c) fun r => okF r.1 ∧ Ci c.b r.2.i := by
 unfold spec_l2float.f
 refine Ok.bind (l2bits_ok c h) fun r hr => ?_
 obtain ⟨e, hl⟩ := u64_of hr.1
 rw [e]
 exact Ok.bind (Ok.eq (spec_FloatOf _ hl) (P := okF) (okF_cn _ hl)) fun v hv => Ok.ret ⟨hv, hr.2⟩
def okI (a : Item) : Prop := ok_Item a ∧ a.T.length ≤ 40
def okJ (a : Item) : Prop := ok_Item a ∧ a.T.length ≤ 100
theorem okI0 : okI I0 := ⟨ok_I0, by decide⟩
theorem okI_mk {k n : Int} {f : Nat} {t : List Int} (hk : InK .i64 k) (hn : InK .i64 n) (hf : okF f) (ht : ∀ x ∈ t, InK .u8 x) (hl : t.length ≤ 40) : okI (Item.mk k n f t) := ⟨⟨hk, hn, hf, by show t.length ≤ maxLen; simp only [maxLen]; omega, ht⟩, hl⟩
theorem ItemClean_ok (a : Item) (h : okI a) : Ok (spec_ItemClean.f a) okI := by
 unfold spec_ItemClean.f
 obtain ⟨⟨h1, h2, h3, h4, h5⟩, h6⟩ := h
 refine Ok.bind (Ok.eq (spec_ItemOk a h3) trivial (P := fun _ => True)) fun r _ => Ok.ite (fun _ => Ok.ret okI0) fun _ => ?_
 refine Ok.bind (P := fun b => okI b) ?_ fun b hb => ?_
 · unfold spec_l3copy.f
   refine Ok.grd (by simp only [Lim, List.length_nil]; omega) (Ok.ret ?_)
   exact okI_mk h1 h2 h3 h5 h6
 · refine Ok.bind (P := okF) (Ok.ite (fun _ => Ok.ret okF_0) fun _ => Ok.ret hb.1.2.2.1) fun f hf => Ok.ret ?_
   exact okI_mk hb.1.1 hb.1.2.1 hf hb.1.2.2.2.2 hb.2
theorem nu8 : ∀ x ∈ ([] : List Int), InK .u8 x := fun x hx => by cases hx
theorem l3key_ok (c : l1Cur) (h : Ci c.b c.i) : Ok (spec_l3key.f c) fun r => okI r.1 ∧ Ci c.b r.2.i := by
 unfold spec_l3key.f
 refine Ok.bind (l1Below_ok c 6 h (by omega)) fun r hr => ?_
 have k := hr.2.2
 refine Ok.ite (fun _ => ?_) fun _ => Ok.ite (fun _ => ?_) fun _ => ?_
 · refine Ok.bind (l1Below_ok (l1Cur.mk c.b r.2.i r.2.h) 3 k (by omega)) fun p hp => Ok.ret ⟨okI_mk (ik 3) (ik 0) okF_0 (fun x hx => ?_) (by simp), hp.2.2⟩
   rw [List.mem_singleton.1 hx]; exact u8w _
 · refine Ok.bind (l1Below_ok (l1Cur.mk c.b r.2.i r.2.h) 5 k (by omega)) fun p hp => ?_
   obtain ⟨p1, p2, p3⟩ := hp
   refine Ok.bind (ItemClean_ok _ (okI_mk (ik 2) (ik 0) ?_ nu8 (by simp))) fun b hb => Ok.ret ⟨hb, p3⟩
   rw [w64 (by omega) (by omega)]
   have key : ∀ n : Fin 5, (let x := far .quo (FloatKind.f64.nearest (((n : Nat) : Int) - 2)) (4611686018427387904 : Nat); (cn x == x && decide (x < 18446744073709551616))) = true := by decide +kernel
   have h2 := key ⟨p.1.toNat, by omega⟩
   have e : ((p.1.toNat : Nat) : Int) - 2 = p.1 - 2 := by omega
   simp only [e, Bool.and_eq_true, beq_iff_eq, decide_eq_true_eq] at h2
   exact h2
 · refine Ok.sel (R := fun y => Ci c.b y.1) (Ok.ite (fun _ => ?_) fun _ => ?_) fun y hy => ?_
   · refine Ok.bind (l1Once_ok (l1Cur.mk c.b r.2.i r.2.h) 3 k (by omega)) fun p hp => Ok.ite (fun _ => ?_) fun _ => Ok.ret hp
     exact Ok.bind (l2float_ok (l1Cur.mk c.b p.2.i p.2.h) hp) fun q hq => Ok.bind (ItemClean_ok _ (okI_mk (ik 2) (ik 0) hq.1 nu8 (by simp))) fun b hb => Ok.ret ⟨hb, hq.2⟩
   · refine Ok.sel (R := fun y => Ci c.b y.1) (Ok.ite (fun _ => ?_) fun _ => Ok.ret k) fun y hy => Ok.ret hy
     refine Ok.bind (l1Once_ok (l1Cur.mk c.b r.2.i r.2.h) 4 k (by omega)) fun p hp => Ok.ite (fun _ => ?_) fun _ => Ok.ret hp
     exact Ok.bind (l1some_ok (l1Cur.mk c.b p.2.i p.2.h) 40 hp (by omega) (by omega)) fun q hq => Ok.ret ⟨okI_mk (ik 3) (ik 0) okF_0 hq.1.2 (by have := hq.1.1; omega), hq.2⟩
   · exact Ok.bind (l1Below_ok (l1Cur.mk c.b y.1 y.2) 6 hy (by omega)) fun p hp => Ok.ret ⟨okI_mk (ik 1) (i64w _) okF_0 nu8 (by simp), hp.2.2⟩
theorem l3value_ok (c : l1Cur) (h : Ci c.b c.i) : Ok (spec_l3value.f c) fun r => okI r.1 ∧ Ci c.b r.2.i := by
 unfold spec_l3value.f
 refine Ok.bind (l1Below_ok c 5 h (by omega)) fun r hr => ?_
 have k := hr.2.2
 refine Ok.ite (fun _ => ?_) fun _ => Ok.ite (fun _ => ?_) fun _ => Ok.ite (fun _ => ?_) fun _ => ?_
 · exact Ok.bind (l1some_ok (l1Cur.mk c.b r.2.i r.2.h) 8 k (by omega) (by omega)) fun q hq => Ok.ret ⟨okI_mk (ik 3) (ik 0) okF_0 hq.1.2 (by have := hq.1.1; omega), hq.2⟩
 · exact Ok.bind (l2float_ok (l1Cur.mk c.b r.2.i r.2.h) k) fun q hq => Ok.ret ⟨okI_mk (ik 2) (ik 0) hq.1 nu8 (by simp), hq.2⟩
 · refine Ok.bind (l1Below_ok (l1Cur.mk c.b r.2.i r.2.h) 64 k (by omega)) fun p hp => Ok.ret ⟨okI_mk (ik 2) (ik 0) ?_ nu8 (by simp), hp.2.2⟩
   obtain ⟨p1, p2, p3⟩ := hp
   rw [w64 (by omega) (by omega)]
   have key : ∀ n : Fin 64, (let x := far .quo (FloatKind.f64.nearest (((n : Nat) : Int) - 32)) (4616189618054758400 : Nat); (cn x == x && decide (x < 18446744073709551616))) = true := by decide +kernel
   have h2 := key ⟨p.1.toNat, by omega⟩
   have e : ((p.1.toNat : Nat) : Int) - 32 = p.1 - 32 := by omega
   simp only [e, Bool.and_eq_true, beq_iff_eq, decide_eq_true_eq] at h2
   exact h2
 · refine Ok.sel (R := fun y => Ci c.b y.1) (Ok.ite (fun _ => ?_) fun _ => Ok.ret k) fun y hy => ?_
   · refine Ok.bind (l1Once_ok (l1Cur.mk c.b r.2.i r.2.h) 5 k (by omega)) fun p hp => Ok.ite (fun _ => ?_) fun _ => Ok.ret hp
     exact Ok.bind (l1some_ok (l1Cur.mk c.b p.2.i p.2.h) 40 hp (by omega) (by omega)) fun q hq => Ok.ret ⟨okI_mk (ik 3) (ik 0) okF_0 hq.1.2 (by have := hq.1.1; omega), hq.2⟩
   · exact Ok.bind (l1number_ok (l1Cur.mk c.b y.1 y.2) hy) fun p hp => Ok.ret ⟨okI_mk (ik 1) hp.1 okF_0 nu8 (by simp), hp.2⟩
theorem l3any_ok (c : l1Cur) (h : Ci c.b c.i) : Ok (spec_l3any.f c) fun r => okJ r.1 ∧ Ci c.b r.2.i := by
 unfold spec_l3any.f
 refine Ok.bind (l3value_ok c h) fun v hv => Ok.bind (l1Once_ok (l1Cur.mk c.b v.2.i v.2.h) 2 hv.2 (by omega)) fun o ho => ?_
 refine Ok.bind (P := fun y => Ci c.b y.1 ∧ okI (Item.mk y.2.2.1 y.2.2.2.1 y.2.2.2.2.1 y.2.2.2.2.2)) (Ok.ite (fun _ => Ok.bind (l3key_ok (l1Cur.mk c.b o.2.i o.2.h) ho) fun q hq => Ok.ret ⟨hq.2, hq.1⟩) fun _ => Ok.ret ⟨ho, hv.1⟩) fun y hy => ?_
 obtain ⟨hy0, ⟨y1, y2, y3, y4, y5⟩, y6⟩ := hy
 simp only [] at y1 y2 y3 y4 y5 y6
 refine Ok.bind (l1Below_ok (l1Cur.mk c.b y.1 y.2.1) 14 hy0 (by omega)) fun p hp => ?_
 obtain ⟨p1, p2, p3⟩ := hp
 refine Ok.bind (P := fun y => Ci c.b y.1 ∧ InK .i64 y.2.2.1 ∧ InK .i64 y.2.2.2.1 ∧ okF y.2.2.2.2.1 ∧ (∀ x ∈ y.2.2.2.2.2, InK .u8 x) ∧ y.2.2.2.2.2.length ≤ 100) ?_ fun y hy => Ok.ret ⟨⟨⟨hy.2.1, hy.2.2.1, hy.2.2.2.1, by have := hy.2.2.2.2.2; show y.2.2.2.2.2.length ≤ maxLen; simp only [maxLen]; omega, hy.2.2.2.2.1⟩, hy.2.2.2.2.2⟩, hy.1⟩
 have h100 : y.2.2.2.2.2.length ≤ 100 := by omega
 refine Ok.ite (fun _ => Ok.bind (l1Below_ok (l1Cur.mk c.b p.2.i p.2.h) 7 p3 (by omega)) fun q hq => Ok.ret ⟨hq.2.2, i64w _, y2, y3, y5, h100⟩) fun _ => ?_
 refine Ok.bind (P := fun y => Ci c.b y.1 ∧ InK .i64 y.2.2.1 ∧ InK .i64 y.2.2.2.1 ∧ okF y.2.2.2.2.1 ∧ (∀ x ∈ y.2.2.2.2.2, InK .u8 x) ∧ y.2.2.2.2.2.length ≤ 100) ?_ fun y hy => Ok.ret hy
 refine Ok.ite (fun _ => Ok.ret ⟨p3, y1, i64w _, y3, y5, h100⟩) fun _ => ?_
 refine Ok.bind (P := fun y => Ci c.b y.1 ∧ InK .i64 y.2.2.1 ∧ InK .i64 y.2.2.2.1 ∧ okF y.2.2.2.2.1 ∧ (∀ x ∈ y.2.2.2.2.2, InK .u8 x) ∧ y.2.2.2.2.2.length ≤ 100) ?_ fun y hy => Ok.ret hy
 refine Ok.ite (fun _ => Ok.bind (l2float_ok (l1Cur.mk c.b p.2.i p.2.h) p3) fun q hq => Ok.ret ⟨hq.2, y1, y2, hq.1, y5, h100⟩) fun _ => ?_
 refine Ok.bind (P := fun y => Ci c.b y.1 ∧ InK .i64 y.2.2.1 ∧ InK .i64 y.2.2.2.1 ∧ okF y.2.2.2.2.1 ∧ (∀ x ∈ y.2.2.2.2.2, InK .u8 x) ∧ y.2.2.2.2.2.length ≤ 100) ?_ fun y hy => Ok.ret hy
 refine Ok.ite (fun _ => Ok.bind (l1some_ok (l1Cur.mk c.b p.2.i p.2.h) 3 p3 (by omega) (by omega)) fun q hq => ?_) fun _ => ?_
 · obtain ⟨⟨q1, q2⟩, q3⟩ := hq
   refine Ok.grd (by simp only [Lim]; omega) (Ok.ret ⟨q3, y1, y2, y3, fun x hx => ?_, by simp; omega⟩)
   rcases List.mem_append.1 hx with hx | hx
   · exact y5 x hx
   · exact q2 x hx
 refine Ok.bind (P := fun y => Ci c.b y.1 ∧ InK .i64 y.2.2.1 ∧ InK .i64 y.2.2.2.1 ∧ okF y.2.2.2.2.1 ∧ (∀ x ∈ y.2.2.2.2.2, InK .u8 x) ∧ y.2.2.2.2.2.length ≤ 100) ?_ fun y hy => Ok.ret hy
 refine Ok.ite (fun _ => ?_) fun _ => ?_
 · refine Ok.iter (fun s => Ci c.b s.1 ∧ (∀ x ∈ s.2.2, InK .u8 x) ∧ s.2.2.length ≤ 41) (fun s => 41 - s.2.2.length) (fun s hs => ?_) _ ⟨p3, y5, by show y.2.2.2.2.2.length ≤ 41; omega⟩
   obtain ⟨s1, s2, s3⟩ := hs
   unfold spec_l3any.b0
   refine Ok.bind (l1Below_ok (l1Cur.mk c.b s.1 s.2.1) 2 s1 (by omega)) fun q hq => ?_
   obtain ⟨q1, q2, q3⟩ := hq
   rw [w64 (by omega) (by omega)]
   refine Ok.ite (fun hc => ?_) fun _ => Ok.out (Ok.ret ⟨q3, ik 3, ik 0, okF_0, s2, by show s.2.2.length ≤ 100; omega⟩)
   have hc' : (s.2.2.length : Int) < 40 + q.1 := by simpa using hc
   refine Ok.grd (by simp only [Lim, List.length_singleton]; omega) (Ok.ret ⟨⟨q3, fun x hx => ?_, by simp; omega⟩, by simp; omega⟩)
   rcases List.mem_append.1 hx with hx | hx
   · exact s2 x hx
   · rw [List.mem_singleton.1 hx]; exact u8_ok (by decide) (by decide)
 · refine Ok.bind (P := fun y => InK .i64 y.1 ∧ InK .i64 y.2.1 ∧ okF y.2.2.1 ∧ (∀ x ∈ y.2.2.2, InK .u8 x) ∧ y.2.2.2.length ≤ 100) (Ok.ite (fun _ => Ok.ret ⟨ik 2, ik 0, ⟨by decide +kernel, by decide +kernel⟩, nu8, by simp⟩) fun _ => Ok.ret ⟨y1, y2, y3, y5, h100⟩) fun z hz => Ok.ret ⟨p3, hz⟩
end Go.Proofs.YtdhefendaopcbaaGreatDoor
set_option linter.unusedVariables false
set_option linter.unusedSimpArgs false
set_option linter.unusedSectionVars false
namespace Go.Proofs.YtdhefendaopcbaaGreatDoor
open Go V
theorem okJ_of {a : Item} (h : okI a) : okJ a := ⟨h.1, by have := h.2; omega⟩
def okO (o : Op) : Prop := InK .i64 o.Kind ∧ InK .i64 o.Seat ∧ InK .i64 o.Level ∧ InK .i64 o.N ∧ okJ o.Key ∧ okJ o.To ∧ okJ o.Value ∧ o.Keep.length ≤ 1000
theorem okO_ok {o : Op} (h : okO o) : ok_Op o := by
 obtain ⟨h1, h2, h3, h4, h5, h6, h7, h8⟩ := h
 exact ⟨h1, h2, h3, h4, h5.1, h6.1, h7.1, by simp only [maxLen]; omega, fun _ _ => trivial⟩
theorem l4keep_ok (c : l1Cur) (n : Int) (h : Ci c.b c.i) (h0 : 0 ≤ n) (hn : n ≤ 1000) : Ok (spec_l4keep.f c n) fun r => (r.1.length : Int) ≤ n ∧ Ci c.b r.2.i := by
 unfold spec_l4keep.f
 rw [w64 (by omega) (by omega)]
 refine Ok.bind (l1Below_ok c _ h (by omega)) fun r hr => ?_
 obtain ⟨k1, k2, k3⟩ := hr
 refine Ok.iter (fun s => 0 ≤ s.2.1 ∧ s.2.1 ≤ r.1 ∧ (s.1.length : Int) = r.1 - s.2.1 ∧ Ci c.b s.2.2.1) (fun s => s.2.1.toNat) (fun s hs => ?_) _ ⟨k1, Int.le_refl _, by simp, k3⟩
 obtain ⟨j1, j2, j3, j4⟩ := hs
 unfold spec_l4keep.b0
 refine Ok.ite (fun hc => ?_) fun hc => Ok.out (Ok.ret ⟨by show (s.1.length : Int) ≤ n; omega, j4⟩)
 have hc' : 0 < s.2.1 := by simpa using hc
 refine Ok.bind (l1Once_ok (l1Cur.mk c.b s.2.2.1 s.2.2.2) 2 j4 (by omega)) fun q hq => Ok.grd (by simp only [Lim, List.length_singleton]; omega) (Ok.ret ?_)
 show (_ ∧ _ ∧ _ ∧ _) ∧ _
 simp only []
 rw [w64 (by omega) (by omega)]
 exact ⟨⟨by omega, by omega, by simp; omega, hq⟩, by omega⟩
theorem inK_small {n : Int} (h0 : -100000 ≤ n) (h1 : n ≤ 100000) : InK .i64 n := i64_ok (by omega) (by omega)
theorem mem3 {x : Int} {l : List Int} (h : x ∈ l) (hl : ∀ y ∈ l, -100000 ≤ y ∧ y ≤ 100000) : InK .i64 x := inK_small (hl x h).1 (hl x h).2
theorem l15op_ok (c : l1Cur) (busy : List Bool) (ex : Bool) (h : Ci c.b c.i) (hb : busy.length = 8) : Ok (spec_l15op.f c busy ex) fun r => okO r.1 ∧ Ci c.b r.2.i := by
 unfold spec_l15op.f
 refine Ok.bind (l1Below_ok c 4 h (by omega)) fun r8 h8 => Ok.bind (l3key_ok (l1Cur.mk c.b r8.2.i r8.2.h) h8.2.2) fun r14 h14 => Ok.bind (l3key_ok (l1Cur.mk c.b r14.2.i r14.2.h) h14.2) fun r20 h20 => Ok.bind (l3value_ok (l1Cur.mk c.b r20.2.i r20.2.h) h20.2) fun r26 h26 => Ok.bind (l1Once_ok (l1Cur.mk c.b r26.2.i r26.2.h) 4 h26.2 (by omega)) fun r39 h39 => ?_
 refine Ok.bind (P := fun y : Int × Int × Nat × List Int => okI (Item.mk y.1 y.2.1 y.2.2.1 y.2.2.2)) (Ok.ite (fun _ => Ok.grd (by simp only [Lim]; omega) (Ok.ret (okI_mk (ik 3) (ik 0) okF_0 (fun x hx => by rw [List.eq_of_mem_replicate hx]; exact u8_ok (by decide) (by decide)) (by simp)))) fun _ => Ok.ret h26.1) fun y43 h43 => ?_
 refine Ok.bind (l1Once_ok (l1Cur.mk c.b r39.2.i r39.2.h) 3 h39 (by omega)) fun r72 h72 => ?_
 refine Ok.bind (P := fun y : Int × Int × Int × Int × Nat × List Int => Ci c.b y.1 ∧ okI (Item.mk y.2.2.1 y.2.2.2.1 y.2.2.2.2.1 y.2.2.2.2.2)) (Ok.ite (fun _ => Ok.bind (l1Below_ok (l1Cur.mk c.b r72.2.i r72.2.h) 3 h72 (by omega)) fun q hq => Ok.ret ⟨hq.2.2, okI_mk (ik 1) (inK_small (n := q.1) (by have := hq.1; omega) (by have := hq.2.1; omega)) okF_0 nu8 (by simp)⟩) fun _ => Ok.ret ⟨h72, h14.1⟩) fun y75 h75 => ?_
 refine Ok.bind (l1Once_ok (l1Cur.mk c.b y75.1 y75.2.1) 3 h75.1 (by omega)) fun r102 h102 => ?_
 refine Ok.bind (P := fun y : Int × Int × Int => Ci c.b y.1 ∧ 0 ≤ y.2.2 ∧ y.2.2 < 4) (Ok.ite (fun _ => Ok.bind (l1Below_ok (l1Cur.mk c.b r102.2.i r102.2.h) 2 h102 (by omega)) fun q hq => Ok.ret ⟨hq.2.2, hq.1, by have := hq.2.1; show q.1 < 4; omega⟩) fun _ => Ok.ret ⟨h102, h8.1, h8.2.1⟩) fun y105 h105 => ?_
 refine Ok.bind (l1Below_ok (l1Cur.mk c.b y105.1 y105.2.1) 2 h105.1 (by omega)) fun r132 h132 => ?_
 have hseat : InK .i64 y105.2.2 := inK_small (by have := h105.2.1; omega) (by have := h105.2.2; omega)
 have hlev : InK .i64 r132.1 := inK_small (by have := h132.1; omega) (by have := h132.2.1; omega)
 refine Ok.grd (by have := h105.2; omega) ?_
 refine Ok.bind (P := fun y : Bool × Int × Int => Ci c.b y.2.1) (Ok.ite (fun _ => Ok.bind (l1Once_ok (l1Cur.mk c.b r132.2.i r132.2.h) 9 h132.2.2 (by omega)) fun q hq => Ok.ret hq) fun _ => Ok.ret h132.2.2) fun y142 h142 => ?_
 refine Ok.ite (fun _ => Ok.ret ⟨⟨ik 1, hseat, hlev, ik 0, okJ_of h75.2, okJ_of h20.1, okJ_of h43, by simp⟩, h142⟩) fun _ => ?_
 refine Ok.bind (l1Below_ok (l1Cur.mk c.b y142.2.1 y142.2.2) 16 h142 (by omega)) fun r185 h185 => ?_
 have tt : ∀ {m : Option Bool}, (∃ b, m = some b) → Ok m (fun _ => True) := fun ⟨b, e⟩ => Ok.eq e trivial
 have ob : ∀ (p q : Bool), Ok (if p = true then some q else some p) (fun _ => True) := fun p q => by cases p <;> exact Ok.ret trivial
 refine Ok.bind (P := fun _ : Bool => True) (Ok.ite (fun _ => Ok.ret trivial) fun _ => Ok.bind (P := fun _ : Bool => True) (Ok.ite (fun _ => Ok.ret trivial) fun _ => Ok.ret trivial) fun _ _ => Ok.ret trivial) fun y188 _ => ?_
 have K := h185.2.2
 refine Ok.bind (P := fun y : Int × Int × Int × Int => Ci c.b y.1 ∧ InK .i64 y.2.2.1 ∧ InK .i64 y.2.2.2) ?_ fun y218 h218 => ?_
 · refine Ok.ite (fun _ => Ok.ret ⟨K, ik 2, ik 0⟩) fun _ => ?_
   refine Ok.bind (P := fun _ : Bool => True) (Ok.ite (fun _ => Ok.ret trivial) fun _ => Ok.bind (P := fun _ : Bool => True) (Ok.ite (fun _ => Ok.ret trivial) fun _ => Ok.bind (P := fun _ : Bool => True) (Ok.ite (fun _ => Ok.ret trivial) fun _ => Ok.bind (P := fun _ : Bool => True) (Ok.ite (fun _ => Ok.ret trivial) fun _ => Ok.ret trivial) fun _ _ => Ok.ret trivial) fun _ _ => Ok.ret trivial) fun _ _ => Ok.ret trivial) fun y228 _ => ?_
   refine Ok.bind (P := fun y : Int × Int × Int × Int => Ci c.b y.1 ∧ InK .i64 y.2.2.1 ∧ InK .i64 y.2.2.2) ?_ fun y hy => Ok.ret hy
   refine Ok.ite (fun _ => Ok.ret ⟨K, ik 3, ik 0⟩) fun _ => ?_
   refine Ok.bind (P := fun _ : Bool => True) (Ok.ite (fun _ => Ok.ret trivial) fun _ => Ok.ret trivial) fun y262 _ => ?_
   refine Ok.bind (P := fun y : Int × Int × Int × Int => Ci c.b y.1 ∧ InK .i64 y.2.2.1 ∧ InK .i64 y.2.2.2) ?_ fun y hy => Ok.ret hy
   refine Ok.ite (fun _ => Ok.ret ⟨K, ik 4, ik 0⟩) fun _ => ?_
   refine Ok.bind (P := fun y : Int × Int × Int × Int => Ci c.b y.1 ∧ InK .i64 y.2.2.1 ∧ InK .i64 y.2.2.2) ?_ fun y hy => Ok.ret hy
   refine Ok.ite (fun _ => Ok.bind (l1Below_ok (l1Cur.mk c.b r185.2.i r185.2.h) 6 K (by omega)) fun q hq => Ok.ret ⟨hq.2.2, ik 5, inK_small (n := q.1) (by have := hq.1; omega) (by have := hq.2.1; omega)⟩) fun _ => ?_
   refine Ok.bind (P := fun y : Int × Int × Int => Ci c.b y.1 ∧ InK .i64 y.2.2) ?_ fun y hy => Ok.ret ⟨hy.1, hy.2, ik 0⟩
   refine Ok.ite (fun _ => Ok.ret ⟨K, ik 6⟩) fun _ => ?_
   refine Ok.bind (P := fun _ : Bool => True) (Ok.ite (fun _ => Ok.ret trivial) fun _ => Ok.ret trivial) fun y307 _ => ?_
   refine Ok.bind (P := fun y : Int × Int × Int => Ci c.b y.1 ∧ InK .i64 y.2.2) ?_ fun y hy => Ok.ret hy
   refine Ok.ite (fun _ => Ok.ret ⟨K, ik 7⟩) fun _ => ?_
   refine Ok.bind (P := fun y : Int × Int × Int => Ci c.b y.1 ∧ InK .i64 y.2.2) ?_ fun y hy => Ok.ret hy
   refine Ok.ite (fun _ => ?_) fun _ => Ok.ret ⟨K, ik 9⟩
   refine Ok.bind (l1Once_ok (l1Cur.mk c.b r185.2.i r185.2.h) 2 K (by omega)) fun q hq => ?_
   exact Ok.bind (P := fun y : Int => InK .i64 y) (Ok.ite (fun _ => Ok.ret (ik 9)) fun _ => Ok.ret (ik 8)) fun y hy => Ok.ret ⟨hq, hy⟩
 refine Ok.bind (P := fun y : Bool × Int × Int => Ci c.b y.2.1) (Ok.ite (fun _ => Ok.bind (l1Once_ok (l1Cur.mk c.b y218.1 y218.2.1) 2 h218.1 (by omega)) fun q hq => Ok.ret hq) fun _ => Ok.ret h218.1) fun y391 h391 => ?_
 refine Ok.bind (P := fun y : Int × Int × Nat × List Int × Int × Int × Nat × List Int => okI (Item.mk y.1 y.2.1 y.2.2.1 y.2.2.2.1) ∧ okI (Item.mk y.2.2.2.2.1 y.2.2.2.2.2.1 y.2.2.2.2.2.2.1 y.2.2.2.2.2.2.2)) (Ok.ite (fun _ => Ok.ret ⟨okI_mk (ik 1) (ik (-9)) okF_0 nu8 (by simp), okI_mk (ik 3) (ik 0) okF_0 (fun x hx => by simp at hx; subst hx; exact u8_ok (by decide) (by decide)) (by simp)⟩) fun _ => Ok.ret ⟨h75.2, h20.1⟩) fun y406 h406 => ?_
 refine Ok.bind (P := fun y : Bool × Int × Int => Ci c.b y.2.1) (Ok.ite (fun _ => Ok.bind (l1Once_ok (l1Cur.mk c.b y391.2.1 y391.2.2) 25 h391 (by omega)) fun q hq => Ok.ret hq) fun _ => Ok.ret h391) fun y437 h437 => ?_
 have hk := h218.2.1
 have hn := h218.2.2
 have hkey := okJ_of h406.1
 have hval := okJ_of h43
 refine Ok.bind (P := fun y : Int × Int × Int × Int × Int × Int × Int × Int × Nat × List Int × Int × Int × Nat × List Int => Ci c.b y.1 ∧ InK .i64 y.2.2.1 ∧ InK .i64 y.2.2.2.1 ∧ InK .i64 y.2.2.2.2.1 ∧ InK .i64 y.2.2.2.2.2.1 ∧ okJ (Item.mk y.2.2.2.2.2.2.1 y.2.2.2.2.2.2.2.1 y.2.2.2.2.2.2.2.2.1 y.2.2.2.2.2.2.2.2.2.1) ∧ okJ (Item.mk y.2.2.2.2.2.2.2.2.2.2.1 y.2.2.2.2.2.2.2.2.2.2.2.1 y.2.2.2.2.2.2.2.2.2.2.2.2.1 y.2.2.2.2.2.2.2.2.2.2.2.2.2)) ?_ fun y452 h452 => ?_
 rotate_left
 · obtain ⟨q1, q2, q3, q4, q5, q6, q7⟩ := h452
   exact Ok.ret ⟨⟨q2, q3, q4, q5, q6, okJ_of h406.2, q7, by simp⟩, q1⟩
 refine Ok.ite (fun _ => ?_) fun _ => Ok.ret ⟨h437, hk, hseat, hlev, hn, hkey, hval⟩
 refine Ok.bind (l1Below_ok (l1Cur.mk c.b y437.2.1 y437.2.2) 6 h437 (by omega)) fun r455 h455 => ?_
 have K2 := h455.2.2
 refine Ok.bind (P := fun y : Int × Int × Int × Int × Int × Int × Int × Int × Nat × List Int × Int × Int × Nat × List Int => Ci c.b y.1 ∧ InK .i64 y.2.2.1 ∧ InK .i64 y.2.2.2.1 ∧ InK .i64 y.2.2.2.2.1 ∧ InK .i64 y.2.2.2.2.2.1 ∧ okJ (Item.mk y.2.2.2.2.2.2.1 y.2.2.2.2.2.2.2.1 y.2.2.2.2.2.2.2.2.1 y.2.2.2.2.2.2.2.2.2.1) ∧ okJ (Item.mk y.2.2.2.2.2.2.2.2.2.2.1 y.2.2.2.2.2.2.2.2.2.2.2.1 y.2.2.2.2.2.2.2.2.2.2.2.2.1 y.2.2.2.2.2.2.2.2.2.2.2.2.2)) ?_ fun y hy => Ok.ret hy
 refine Ok.ite (fun _ => Ok.bind (l1Below_ok (l1Cur.mk c.b r455.2.i r455.2.h) 16 K2 (by omega)) fun q hq => Ok.ret ⟨hq.2.2, i64w _, hseat, hlev, hn, hkey, hval⟩) fun _ => ?_
 refine Ok.bind (P := fun y : Int × Int × Int × Int × Int × Int × Int × Nat × List Int × Int × Int × Nat × List Int => Ci c.b y.1 ∧ InK .i64 y.2.2.1 ∧ InK .i64 y.2.2.2.1 ∧ InK .i64 y.2.2.2.2.1 ∧ okJ (Item.mk y.2.2.2.2.2.1 y.2.2.2.2.2.2.1 y.2.2.2.2.2.2.2.1 y.2.2.2.2.2.2.2.2.1) ∧ okJ (Item.mk y.2.2.2.2.2.2.2.2.2.1 y.2.2.2.2.2.2.2.2.2.2.1 y.2.2.2.2.2.2.2.2.2.2.2.1 y.2.2.2.2.2.2.2.2.2.2.2.2)) ?_ fun y hy => Ok.ret ⟨hy.1, hk, hy.2⟩
 refine Ok.ite (fun _ => Ok.bind (l1PickInt_ok (l1Cur.mk c.b r455.2.i r455.2.h) _ K2 (by simp)) fun q hq => Ok.ret ⟨hq.2, mem3 hq.1 (by decide), hlev, hn, hkey, hval⟩) fun _ => ?_
 refine Ok.bind (P := fun y : Int × Int × Int × Int × Int × Int × Nat × List Int × Int × Int × Nat × List Int => Ci c.b y.1 ∧ InK .i64 y.2.2.1 ∧ InK .i64 y.2.2.2.1 ∧ okJ (Item.mk y.2.2.2.2.1 y.2.2.2.2.2.1 y.2.2.2.2.2.2.1 y.2.2.2.2.2.2.2.1) ∧ okJ (Item.mk y.2.2.2.2.2.2.2.2.1 y.2.2.2.2.2.2.2.2.2.1 y.2.2.2.2.2.2.2.2.2.2.1 y.2.2.2.2.2.2.2.2.2.2.2)) ?_ fun y hy => Ok.ret ⟨hy.1, hseat, hy.2⟩
 refine Ok.ite (fun _ => Ok.bind (l1PickInt_ok (l1Cur.mk c.b r455.2.i r455.2.h) _ K2 (by simp)) fun q hq => Ok.ret ⟨hq.2, mem3 hq.1 (by decide), hn, hkey, hval⟩) fun _ => ?_
 refine Ok.bind (P := fun y : Int × Int × Int × Int × Int × Nat × List Int × Int × Int × Nat × List Int => Ci c.b y.1 ∧ InK .i64 y.2.2.1 ∧ okJ (Item.mk y.2.2.2.1 y.2.2.2.2.1 y.2.2.2.2.2.1 y.2.2.2.2.2.2.1) ∧ okJ (Item.mk y.2.2.2.2.2.2.2.1 y.2.2.2.2.2.2.2.2.1 y.2.2.2.2.2.2.2.2.2.1 y.2.2.2.2.2.2.2.2.2.2)) ?_ fun y hy => Ok.ret ⟨hy.1, hlev, hy.2⟩
 refine Ok.ite (fun _ => Ok.bind (l3any_ok (l1Cur.mk c.b r455.2.i r455.2.h) K2) fun q hq => Ok.ret ⟨hq.2, hn, hq.1, hval⟩) fun _ => ?_
 refine Ok.bind (P := fun y : Int × Int × Int × Int × Int × Nat × List Int => Ci c.b y.1 ∧ InK .i64 y.2.2.1 ∧ okJ (Item.mk y.2.2.2.1 y.2.2.2.2.1 y.2.2.2.2.2.1 y.2.2.2.2.2.2)) ?_ fun y hy => Ok.ret ⟨hy.1, hy.2.1, hkey, hy.2.2⟩
 refine Ok.ite (fun _ => Ok.bind (l1PickInt_ok (l1Cur.mk c.b r455.2.i r455.2.h) _ K2 (by simp)) fun q hq => Ok.ret ⟨hq.2, mem3 hq.1 (by decide), hval⟩) fun _ => ?_
 refine Ok.bind (P := fun y : Int × Int × Int × Int × Nat × List Int => Ci c.b y.1 ∧ okJ (Item.mk y.2.2.1 y.2.2.2.1 y.2.2.2.2.1 y.2.2.2.2.2)) ?_ fun y hy => Ok.ret ⟨hy.1, hn, hy.2⟩
 exact Ok.ite (fun _ => Ok.bind (l3any_ok (l1Cur.mk c.b r455.2.i r455.2.h) K2) fun q hq => Ok.ret ⟨hq.2, hq.1⟩) fun _ => Ok.ret ⟨K2, hval⟩
theorem DrawOpText_ok (a : List Int) (h : a.length ≤ 1048576) : Ok (spec_DrawOpText.f a) okO := by
 unfold spec_DrawOpText.f
 refine Ok.bind (l1New_ok a h) fun c hc => Ok.grd (by simp only [Lim]; omega) (Ok.bind (l15op_ok c _ true hc.2 (by simp)) fun r hr => ?_)
 obtain ⟨⟨q1, q2, q3, q4, q5, q6, q7, q8⟩, hi⟩ := hr
 refine Ok.bind (l1Below_ok (l1Cur.mk c.b r.2.i r.2.h) 13 hi (by omega)) fun p hp => Ok.bind (l1Below_ok (l1Cur.mk c.b p.2.i p.2.h) 12 hp.2.2 (by omega)) fun n hn => ?_
 refine Ok.bind (P := fun y : List Bool => y.length ≤ 1000) (Ok.ite (fun _ => Ok.bind (l4keep_ok (l1Cur.mk c.b n.2.i n.2.h) 9 hn.2.2 (by omega) (by omega)) fun q hq => Ok.ret (by have := hq.1; omega)) fun _ => Ok.ret q8) fun y hy => Ok.ret ⟨i64w _, q2, q3, inK_small (n := n.1) (by have := hn.1; omega) (by have := hn.2.1; omega), q5, q6, q7, hy⟩
theorem DrawItemText_ok (a : List Int) (h : a.length ≤ 1048576) : Ok (spec_DrawItemText.f a) okJ := by
 unfold spec_DrawItemText.f
 refine Ok.bind (l1New_ok a h) fun c hc => Ok.bind (l3any_ok c hc.2) fun r hr => Ok.bind (l1Once_ok (l1Cur.mk c.b r.2.i r.2.h) 9 hr.2 (by omega)) fun o ho => ?_
 exact Ok.bind (P := fun y : Int × Int × Nat × List Int => okJ (Item.mk y.1 y.2.1 y.2.2.1 y.2.2.2)) (Ok.ite (fun _ => Ok.bind (l1number_ok (l1Cur.mk c.b o.2.i o.2.h) ho) fun q hq => Ok.ret (okJ_of (okI_mk (ik 1) hq.1 okF_0 nu8 (by simp)))) fun _ => Ok.ret hr.1) fun y hy => Ok.ret hy
end Go.Proofs.YtdhefendaopcbaaGreatDoor
