
import Derived.Test.YtcagjdngannneaaQf
set_option linter.unusedVariables false
set_option linter.unusedSimpArgs false
set_option linter.unusedSectionVars false
namespace Go.Proofs.Ytcagjdngannneaa
open Go V Ieee
theorem wd_rng {M e : Nat} (h1 : M < 9007199254740992) (h3 : e ≤ 2045) (hM : 0 < M) : 0 < wd M e ∧ wd M e < 9218868437227405312 := by rw [wd_eq]; omega
theorem cmp_facts (x : Nat) (h : okF x) : (fcmp .f64 x x != some .eq) = decide (x = 9221120237041090560) ∧ (fcmp .f64 x 0 == some .eq) = decide (x = 0 ∨ x = 9223372036854775808) ∧
    (x ≠ 9221120237041090560 → (fcmp .f64 x 0 == some .gt) = decide (0 < x ∧ x < 9223372036854775808)) ∧ isN x = decide (x = 9221120237041090560) := by
  refine word_cases h (fun x => (fcmp .f64 x x != some .eq) = decide (x = 9221120237041090560) ∧ (fcmp .f64 x 0 == some .eq) = decide (x = 0 ∨ x = 9223372036854775808) ∧
    (x ≠ 9221120237041090560 → (fcmp .f64 x 0 == some .gt) = decide (0 < x ∧ x < 9223372036854775808)) ∧ isN x = decide (x = 9221120237041090560)) ?_ ?_ ?_ ?_ ?_ (fun M e h1 h2 h3 hM => ?_) (fun M e h1 h2 h3 hM => ?_)
  · exact ⟨by decide, by decide, fun h => absurd rfl h, by decide⟩
  · exact ⟨by decide, by decide, fun _ => by decide, by decide⟩
  · exact ⟨by decide, by decide, fun _ => by decide, by decide⟩
  · exact ⟨by decide, by decide, fun _ => by decide, by decide⟩
  · exact ⟨by decide, by decide, fun _ => by decide, by decide⟩
  · obtain ⟨q0, q1⟩ := wd_rng h1 h3 hM
    have c1 := cmp_self (wd_v h1 h2 h3)
    have c2 := wd_ne0 h1 h2 h3 hM
    have c3 := wd_gt h1 h2 h3 hM
    rw [c1, c2, c3]
    generalize wd M e = q at q0 q1
    refine ⟨?_, ?_, fun _ => ?_, ?_⟩
    · rw [decide_eq_false (by omega)]
    · rw [decide_eq_false (by omega)]
    · rw [decide_eq_true (by omega)]
    · unfold isN
      rw [decide_eq_false (by omega), decide_eq_false (by omega)]
  · obtain ⟨q0, q1⟩ := wd_rng h1 h3 hM
    have c1 := cmp_self (wd_neg h1 h2 h3)
    have c2 := neg_cmp h1 h2 h3 hM
    rw [c1, c2]
    generalize wd M e = q at q0 q1
    refine ⟨?_, ?_, fun _ => ?_, ?_⟩
    · rw [decide_eq_false (by omega)]
    · rw [decide_eq_false (by omega)]; rfl
    · rw [decide_eq_false (by omega)]; rfl
    · unfold isN
      rw [decide_eq_false (by omega), decide_eq_false (by omega)]
def FRK (x : Nat) : Nat := if x = 9221120237041090560 then 18446744073709551615 else if x = 0 ∨ x = 9223372036854775808 then 9223372036854775808 else if 9223372036854775808 ≤ x then 18446744073709551615 ^^^ x else x ||| 9223372036854775808
theorem max_u64 : IntKind.max .u64 = ((18446744073709551615 : Nat) : Int) := by decide
theorem impl_FloatRank (x : Nat) (h : okF x) : impl_FloatRank.f x = some (FRK x : Int) := by
  obtain ⟨c1, c2, c3, c4⟩ := cmp_facts x h
  unfold impl_FloatRank.f FRK
  by_cases hx : x = 9221120237041090560
  · rw [ifT (by rw [c1]; exact decide_eq_true hx), if_pos hx]; rfl
  · rw [ifF (by rw [c1]; exact decide_eq_false hx), if_neg hx]
    by_cases h0 : x = 0 ∨ x = 9223372036854775808
    · rw [ifT (by rw [c2]; exact decide_eq_true h0), if_pos h0]; rfl
    · rw [ifF (by rw [c2]; exact decide_eq_false h0), if_neg h0]
      have hn : isN x = false := by rw [c4]; exact decide_eq_false hx
      have hl := h.2
      by_cases hs : 9223372036854775808 ≤ x
      · rw [ifF (by rw [c3 hx]; exact decide_eq_false (by omega)), if_pos hn, if_pos hs, max_u64, ixor_u64 _ _ (by omega) hl]
      · rw [ifT (by rw [c3 hx]; exact decide_eq_true (by omega)), if_pos hn, if_neg hs]
        exact congrArg some (ior_u64 x 9223372036854775808 hl (by omega))
theorem ishr63 (n : Nat) : (ishr .u64 (n : Int) (63 : Int) == (1 : Int)) = decide (n / 9223372036854775808 = 1) := by
  have h2 : ishr .u64 (n : Int) (63 : Int) = ((n / 9223372036854775808 : Nat) : Int) := ishr_nat .u64 n 63 (by decide)
  rw [h2]
  generalize n / 9223372036854775808 = q
  by_cases hq : q = 1
  · rw [decide_eq_true hq, hq]; rfl
  · rw [decide_eq_false hq]; simp; omega
theorem spec_FloatRank (x : Nat) (h : okF x) : spec_FloatRank.f x = some (FRK x : Int) := by
  obtain ⟨c1, c2, c3, c4⟩ := cmp_facts x h
  unfold spec_FloatRank.f FRK
  rw [spec_FloatBits x h, Option.bind_some]
  have hl := h.2
  by_cases hx : x = 9221120237041090560
  · rw [ifT (by rw [hx]; rfl), if_pos hx]; rfl
  · rw [ifF (by simp; omega), if_neg hx]
    by_cases h0 : x = 0 ∨ x = 9223372036854775808
    · rw [ifT (by rw [c2]; exact decide_eq_true h0), if_pos h0]; rfl
    · rw [ifF (by rw [c2]; exact decide_eq_false h0), if_neg h0]
      by_cases hs : 9223372036854775808 ≤ x
      · rw [ifT (by rw [ishr63]; exact decide_eq_true (by omega)), if_pos hs, max_u64, ixor_u64 _ _ (by omega) hl]
      · rw [ifF (by rw [ishr63]; exact decide_eq_false (by omega)), if_neg hs]
        exact congrArg some (ior_u64 x 9223372036854775808 hl (by omega))
end Go.Proofs.Ytcagjdngannneaa
