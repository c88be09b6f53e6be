
import Derived.Test.YtcagjdngannneaaGreatQf
set_option linter.unusedVariables false
set_option linter.unusedSimpArgs false
set_option linter.unusedSectionVars false
namespace Go.Proofs.YtcagjdngannneaaGreat
open Go V Ieee
theorem wd_rng {M e : Nat} (h1 : M < 9007199254740992) (h3 : e ≤ 2045) (hM : 0 < M) : 0 < wd M e ∧ wd M e < 9218868437227405312 := by rw [wd_eq]; omega
theorem cmp_facts (x : Nat) (h : okF x) : (fcmp .f64 x x != some .eq) = decide (x = 9221120237041090560) ∧ (fcmp .f64 x 0 == some .eq) = decide (x = 0 ∨ x = 9223372036854775808) ∧
    (x ≠ 9221120237041090560 → (fcmp .f64 x 0 == some .gt) = decide (0 < x ∧ x < 9223372036854775808)) ∧ isN x = decide (x = 9221120237041090560) := by
  refine word_cases h (fun x => (fcmp .f64 x x != some .eq) = decide (x = 9221120237041090560) ∧ (fcmp .f64 x 0 == some .eq) = decide (x = 0 ∨ x = 9223372036854775808) ∧
    (x ≠ 9221120237041090560 → (fcmp .f64 x 0 == some .gt) = decide (0 < x ∧ x < 9223372036854775808)) ∧ isN x = decide (x = 9221120237041090560)) ?_ ?_ ?_ ?_ ?_ (fun M e h1 h2 h3 hM => ?_) (fun M e h1 h2 h3 hM => ?_)
  · exact ⟨by decide, by decide, fun h => absurd rfl h, by decide⟩
  · exact ⟨by decide, by decide, fun _ => by decide, by decide⟩
  · exact ⟨by decide, by decide, fun _ => by decide, by decide⟩
  · exact ⟨by decide, by decide, fun _ => by decide, by decide⟩
  · exact ⟨by decide, by decide, fun _ => by decide, by decide⟩
  · obtain ⟨q0, q1⟩ := wd_rng h1 h3 hM
    have c1 := cmp_self (wd_v h1 h2 h3)
    have c2 := wd_ne0 h1 h2 h3 hM
    have c3 := wd_gt h1 h2 h3 hM
    rw [c1, c2, c3]
    generalize wd M e = q at q0 q1
    refine ⟨?_, ?_, fun _ => ?_, ?_⟩
    · rw [decide_eq_false (by omega)]
    · rw [decide_eq_false (by omega)]
    · rw [decide_eq_true (by omega)]
    · unfold isN
      rw [decide_eq_false (by omega), decide_eq_false (by omega)]
  · obtain ⟨q0, q1⟩ := wd_rng h1 h3 hM
    have c1 := cmp_self (wd_neg h1 h2 h3)
    have c2 := neg_cmp h1 h2 h3 hM
    rw [c1, c2]
    generalize wd M e = q at q0 q1
    refine ⟨?_, ?_, fun _ => ?_, ?_⟩
    · rw [decide_eq_false (by omega)]
    · rw [decide_eq_false (by omega)]; rfl
    · rw [decide_eq_false (by omega)]; rfl
    · unfold isN
      rw [decide_eq_false (by omega), decide_eq_false (by omega)]
theorem impl_FloatBits (x : Nat) (h : okF x) : impl_FloatBits.f x = some (x : Int) := by
  obtain ⟨c1, _, _, c4⟩ := cmp_facts x h
  unfold impl_FloatBits.f
  by_cases hx : x = 9221120237041090560
  · rw [ifT (by rw [c1]; exact decide_eq_true hx), hx]; rfl
  · rw [ifF (by rw [c1]; exact decide_eq_false hx), if_pos (by rw [c4]; exact decide_eq_false hx)]
def FRK (x : Nat) : Nat := if x = 9221120237041090560 then 18446744073709551615 else if x = 0 ∨ x = 9223372036854775808 then 9223372036854775808 else if 9223372036854775808 ≤ x then 18446744073709551615 ^^^ x else x ||| 9223372036854775808
theorem max_u64 : IntKind.max .u64 = ((18446744073709551615 : Nat) : Int) := by decide
theorem FRK_lt (x : Nat) (h : x < 18446744073709551616) : FRK x < 18446744073709551616 := by
  unfold FRK
  split
  · omega
  · split
    · omega
    · split
      · exact Nat.xor_lt_two_pow (n := 64) (by omega) h
      · exact Nat.or_lt_two_pow (n := 64) h (by omega)
theorem impl_FloatRank (x : Nat) (h : okF x) : impl_FloatRank.f x = some (FRK x : Int) := by
  obtain ⟨c1, c2, c3, c4⟩ := cmp_facts x h
  unfold impl_FloatRank.f FRK
  by_cases hx : x = 9221120237041090560
  · rw [ifT (by rw [c1]; exact decide_eq_true hx), if_pos hx]; rfl
  · rw [ifF (by rw [c1]; exact decide_eq_false hx), if_neg hx]
    by_cases h0 : x = 0 ∨ x = 9223372036854775808
    · rw [ifT (by rw [c2]; exact decide_eq_true h0), if_pos h0]; rfl
    · rw [ifF (by rw [c2]; exact decide_eq_false h0), if_neg h0]
      have hn : isN x = false := by rw [c4]; exact decide_eq_false hx
      have hl := h.2
      by_cases hs : 9223372036854775808 ≤ x
      · rw [ifF (by rw [c3 hx]; exact decide_eq_false (by omega)), if_pos hn, if_pos hs, max_u64, ixor_u64 _ _ (by omega) hl]
      · rw [ifT (by rw [c3 hx]; exact decide_eq_true (by omega)), if_pos hn, if_neg hs]
        exact congrArg some (ior_u64 x 9223372036854775808 hl (by omega))
theorem ishr63 (n : Nat) : (ishr .u64 (n : Int) (63 : Int) == (1 : Int)) = decide (n / 9223372036854775808 = 1) := by
  have h2 : ishr .u64 (n : Int) (63 : Int) = ((n / 9223372036854775808 : Nat) : Int) := ishr_nat .u64 n 63 (by decide)
  rw [h2]
  generalize n / 9223372036854775808 = q
  by_cases hq : q = 1
  · rw [decide_eq_true hq, hq]; rfl
  · rw [decide_eq_false hq]; simp; omega
theorem spec_FloatRank (x : Nat) (h : okF x) : spec_FloatRank.f x = some (FRK x : Int) := by
  obtain ⟨c1, c2, c3, c4⟩ := cmp_facts x h
  unfold spec_FloatRank.f FRK
  rw [spec_FloatBits x h, Option.bind_some]
  have hl := h.2
  by_cases hx : x = 9221120237041090560
  · rw [ifT (by rw [hx]; rfl), if_pos hx]; rfl
  · rw [ifF (by simp; omega), if_neg hx]
    by_cases h0 : x = 0 ∨ x = 9223372036854775808
    · rw [ifT (by rw [c2]; exact decide_eq_true h0), if_pos h0]; rfl
    · rw [ifF (by rw [c2]; exact decide_eq_false h0), if_neg h0]
      by_cases hs : 9223372036854775808 ≤ x
      · rw [ifT (by rw [ishr63]; exact decide_eq_true (by omega)), if_pos hs, max_u64, ixor_u64 _ _ (by omega) hl]
      · rw [ifF (by rw [ishr63]; exact decide_eq_false (by omega)), if_neg hs]
        exact congrArg some (ior_u64 x 9223372036854775808 hl (by omega))

theorem near_v (n : Nat) (h : n < 9007199254740992) : IsV (FloatKind.f64.nearest (n : Int)) false (n * pw 1074) := by
  have hr := rep_of h 1074 (by omega)
  have := write_rep false n 0 (n * pw 1074) hr (by
    rw [show ((0 : Int) + 1074).toNat = 1074 by omega, show (-((0 : Int) + 1074)).toNat = 0 by omega, Nat.pow_zero, Nat.mul_one, pw])
  have e : FloatKind.f64.nearest (n : Int) = D.write (.number false n 0) := by
    show D.write (.number (decide ((n : Int) < 0)) (n : Int).natAbs 0) = _
    rw [decide_eq_false (by omega), Int.natAbs_natCast]
  rwa [e]
theorem far_quob {a u : Nat} (h : IsV a false (u * pw 52)) (hu : Rep u) : IsV (far .quo a 4841369599423283200) false u := by
  obtain ⟨w', hw, hv⟩ := div_pow (j := 52) c_big h hu
  have : far .quo a 4841369599423283200 = w' := by show (D.div a _).getD _ = _; rw [hw]; rfl
  rwa [this]
theorem far_add1 {a v : Nat} (h : IsV a false v) (hv : Rep (U1 + v)) : IsV (far .add a 4607182418800017408) false (U1 + v) := by
  obtain ⟨w', hw, hv⟩ := add_one h hv
  have : far .add a 4607182418800017408 = w' := by show (D.add a _).getD _ = _; rw [hw]; rfl
  rwa [this]
theorem fo_dn (M : Nat) (hM : M < 9007199254740992) : ∀ (n c a : Nat), c + n ≤ 2045 → IsV a false (M * pw (c + n)) → ∃ a', iter spec_FloatOf.b1 (a, -(n : Int)) = some (Sum.inl a') ∧ IsV a' false (M * pw c) := by
  intro n
  induction n with
  | zero =>
    intro c a hc hv
    refine ⟨a, iter_r ?_, hv⟩
    unfold spec_FloatOf.b1
    rw [if_neg (by simp)]; rfl
  | succ n ih =>
    intro c a hc hv
    have hv2 : IsV a false (M * pw (c + n) * 2) := by rw [Nat.mul_assoc, ← pw_succ]; exact hv
    obtain ⟨a', ha, hav⟩ := ih c _ (by omega) (far_half hv2 (rep_of hM _ (by omega)))
    refine ⟨a', ?_, hav⟩
    have hstep : spec_FloatOf.b1 (a, -((n + 1 : Nat) : Int)) = some (.inl (far .quo a 4611686018427387904, -(n : Int))) := by
      unfold spec_FloatOf.b1
      rw [if_pos (decide_eq_true (by show -((n + 1 : Nat) : Int) < 0; omega)), w64 (by omega) (by omega), show -((n + 1 : Nat) : Int) + 1 = -(n : Int) by omega]
    rw [iter_l hstep, ha]
theorem fo_0 (a : Nat) (k : Int) (h : k ≤ 0) : iter spec_FloatOf.b0 (a, k) = iter spec_FloatOf.b1 (a, k) := by
  refine iter_pass ?_
  unfold spec_FloatOf.b0
  rw [if_neg (by simp; omega)]
theorem fo_up (M : Nat) (hM : M < 9007199254740992) : ∀ (n e a : Nat), e + n ≤ 2045 → IsV a false (M * pw e) → ∃ a', iter spec_FloatOf.b0 (a, (n : Int)) = some (Sum.inl a') ∧ IsV a' false (M * pw (e + n)) := by
  intro n
  induction n with
  | zero =>
    intro e a he hv
    rw [fo_0 _ _ (by omega)]
    exact fo_dn M hM 0 e a (by omega) hv
  | succ n ih =>
    intro e a he hv
    have hd := far_dbl hv (by rw [Nat.mul_assoc, ← pw_succ]; exact rep_of hM _ (by omega))
    rw [Nat.mul_assoc, ← pw_succ] at hd
    obtain ⟨a', ha, hav⟩ := ih (e + 1) _ (by omega) hd
    refine ⟨a', ?_, by rw [show e + (n + 1) = e + 1 + n by omega]; exact hav⟩
    have hstep : spec_FloatOf.b0 (a, ((n + 1 : Nat) : Int)) = some (.inl (far .mul a 4611686018427387904, (n : Int))) := by
      unfold spec_FloatOf.b0
      rw [if_pos (decide_eq_true (by show ((n + 1 : Nat) : Int) > 0; omega)), w64 (by omega) (by omega), show ((n + 1 : Nat) : Int) - 1 = (n : Int) by omega]
    rw [iter_l hstep, ha]
theorem efield (n : Nat) (h : n < 18446744073709551616) : IntKind.wrap .i64 (iand .u64 (ishr .u64 (n : Int) (52 : Int)) (2047 : Int)) = ((n / 4503599627370496 % 2048 : Nat) : Int) := by
  have h1 : ishr .u64 (n : Int) (52 : Int) = ((n / 4503599627370496 : Nat) : Int) := ishr_nat .u64 n 52 (by decide)
  have h2 : iand .u64 ((n / 4503599627370496 : Nat) : Int) (2047 : Int) = (((n / 4503599627370496) &&& 2047 : Nat) : Int) := iand_u64 _ 2047 (by omega) (by omega)
  have h3 : (n / 4503599627370496) &&& 2047 = n / 4503599627370496 % 2048 := Nat.and_two_pow_sub_one_eq_mod _ 11
  rw [h1, h2, h3, w64 (by omega) (by omega)]
theorem ffield (n : Nat) (h : n < 18446744073709551616) : iand .u64 (n : Int) (4503599627370495 : Int) = ((n % 4503599627370496 : Nat) : Int) := by
  have h2 : iand .u64 (n : Int) (4503599627370495 : Int) = ((n &&& 4503599627370495 : Nat) : Int) := iand_u64 _ 4503599627370495 h (by omega)
  have h3 : n &&& 4503599627370495 = n % 4503599627370496 := Nat.and_two_pow_sub_one_eq_mod _ 52
  rw [h2, h3]
theorem fneg_wd (r : Nat) (h : r ≤ 9218868437227405312) : fneg r = 9223372036854775808 + r := by
  have hn : isN r = false := by unfold isN; rw [decide_eq_false (by omega)]
  unfold fneg
  rw [hn, cond_false]
  show r ^^^ 2 ^ 63 = _
  have := xor_sign r (by omega)
  have h2 : (9223372036854775808 + r) ^^^ 2 ^ 63 = r := this
  have h3 : ((9223372036854775808 + r) ^^^ 2 ^ 63) ^^^ 2 ^ 63 = r ^^^ 2 ^ 63 := by rw [h2]
  rw [Nat.xor_assoc, Nat.xor_self, Nat.xor_zero] at h3
  exact h3.symm
theorem fo_sign (n r : Nat) (hn : n = n / 9223372036854775808 * 9223372036854775808 + r) (h2 : n / 9223372036854775808 ≤ 1) (h : r ≤ 9218868437227405312) :
    (if ((ishr .u64 (n : Int) (63 : Int)) == (1 : Int)) = true then (some (fneg r)) else (some r)) = some (cn n) := by
  have hc : cn n = n := by
    refine cn_of ?_
    unfold isN
    rw [decide_eq_false (by omega)]
  rw [hc]
  by_cases h1 : n / 9223372036854775808 = 1
  · rw [ifT (by rw [ishr63]; exact decide_eq_true h1), fneg_wd r h, show 9223372036854775808 + r = n by omega]
  · rw [ifF (by rw [ishr63]; exact decide_eq_false h1), show r = n by omega]
theorem spec_FloatOf (n : Nat) (h : n < 18446744073709551616) : spec_FloatOf.f (n : Int) = some (cn n) := by
  unfold spec_FloatOf.f
  rw [efield n h, ffield n h]
  have hE : n / 4503599627370496 % 2048 < 2048 := Nat.mod_lt _ (by decide)
  have hF : n % 4503599627370496 < 4503599627370496 := Nat.mod_lt _ (by decide)
  have hn : n = n / 9223372036854775808 * 9223372036854775808 + (n / 4503599627370496 % 2048 * 4503599627370496 + n % 4503599627370496) := by omega
  have h2 : n / 9223372036854775808 ≤ 1 := by omega
  have hfs := fo_sign n
  generalize hEe : n / 4503599627370496 % 2048 = E at *
  generalize hFf : n % 4503599627370496 = f at *
  by_cases hinf : E = 2047
  · rw [ifT (by simp; omega)]
    by_cases hf : f = 0
    · rw [ifF (by simp; omega)]
      have e : far .quo 4607182418800017408 0 = 9218868437227405312 := by decide
      have hA := hfs 9218868437227405312 (by omega) h2 (by omega)
      rw [Option.bind_some, sel_inl, e]
      exact hA
    · rw [ifT (by simp; omega)]
      have e : far .quo 0 0 = 9221120237041090560 := by decide
      rw [Option.bind_some, sel_inr, e]
      rw [cn_nan (by unfold isN; rw [decide_eq_true (by omega)])]
      rfl
  · rw [ifF (by simp; omega)]
    have hq : IsV (far .quo (FloatKind.f64.nearest (f : Int)) 4841369599423283200) false (f * pw 1022) := by
      refine far_quob ?_ (rep_of (by omega) _ (by omega))
      rw [Nat.mul_assoc, ← pw_add]
      exact near_v f (by omega)
    by_cases h0 : E = 0
    · have hA := hfs f (by omega) h2 (by omega)
      have hB : 0 * 4503599627370496 + f = f := by omega
      rw [ifT (by simp; omega), Option.bind_some, fo_0 _ _ (by show (-1022 : Int) ≤ 0; decide)]
      obtain ⟨a', ha, hav⟩ := fo_dn f (by omega) 1022 0 _ (by omega) hq
      have hk : (-1022 : Int) = -((1022 : Nat) : Int) := by decide
      rw [hk, ha, Option.bind_some, sel_inl]
      have := hav.eq (wd_v (e := 0) (by omega) (.inl rfl) (by omega))
      rw [this, wd_eq, hB]
      exact hA
    · have hA := hfs (E * 4503599627370496 + f) (by omega) h2 (by omega)
      have hB : (E - 1) * 4503599627370496 + (4503599627370496 + f) = E * 4503599627370496 + f := by omega
      rw [ifF (by simp; omega), Option.bind_some, w64 (by omega) (by omega)]
      have hsum : U1 + f * pw 1022 = (4503599627370496 + f) * pw 1022 := by rw [U1_eq, Nat.add_mul]
      have hM : 4503599627370496 + f < 9007199254740992 := by omega
      have ha1 := far_add1 hq (by rw [hsum]; exact rep_of hM _ (by omega))
      rw [hsum] at ha1
      have key : ∃ a', iter spec_FloatOf.b0 (far .add (far .quo (FloatKind.f64.nearest (f : Int)) 4841369599423283200) 4607182418800017408, (E : Int) - 1023) = some (Sum.inl a') ∧ IsV a' false ((4503599627370496 + f) * pw (E - 1)) := by
        by_cases hk : 1023 ≤ E
        · obtain ⟨a', ha, hav⟩ := fo_up _ hM (E - 1023) 1022 _ (by omega) ha1
          refine ⟨a', ?_, by rw [show E - 1 = 1022 + (E - 1023) by omega]; exact hav⟩
          rw [show (E : Int) - 1023 = ((E - 1023 : Nat) : Int) by omega]; exact ha
        · obtain ⟨a', ha, hav⟩ := fo_dn _ hM (1023 - E) (E - 1) _ (by omega) (by rw [show E - 1 + (1023 - E) = 1022 by omega]; exact ha1)
          refine ⟨a', ?_, hav⟩
          rw [fo_0 _ _ (by omega), show (E : Int) - 1023 = -((1023 - E : Nat) : Int) by omega]; exact ha
      obtain ⟨a', ha, hav⟩ := key
      rw [ha, Option.bind_some, sel_inl]
      have := hav.eq (wd_v hM (.inr (by omega)) (by omega))
      rw [this, wd_eq, hB]
      exact hA
theorem impl_FloatOf (n : Nat) : impl_FloatOf.f (n : Int) = some (cn n) := rfl
end Go.Proofs.YtcagjdngannneaaGreat
