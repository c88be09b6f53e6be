
import Derived.Test.YtcagjdngannneaaRa
set_option linter.unusedVariables false
set_option linter.unusedSimpArgs false
set_option linter.unusedSectionVars false
namespace Go.Proofs.Ytcagjdngannneaa
open Go V Ieee
theorem in_rin (a b c : Int) : spec_l5in.f a b c = some (rin a b c) := rfl
theorem within_rin (a b c : Int) : impl_within.f a b c = some (rin a b c) := rfl
def IOK (a : Item) : Bool := ((rin a.Kind 0 3 && ((a.N == (0 : Int)) || (a.Kind == (1 : Int)))) && (((a.F : Int) == 0) || (a.Kind == (2 : Int)))) && (((a.T.length : Int) == (0 : Int)) || ((a.Kind == (3 : Int)) && (decide ((a.T.length : Int) ≤ (40 : Int)))))
theorem impl_ItemOk (a : Item) : impl_ItemOk.f a = some (IOK a) := by
  unfold impl_ItemOk.f
  rw [within_rin, Option.bind_some]; rfl
theorem iok_iff (a : Item) : IOK a = true ↔ ((0 ≤ a.Kind ∧ a.Kind ≤ 3) ∧ (a.N = 0 ∨ a.Kind = 1)) ∧ (a.F = 0 ∨ a.Kind = 2) ∧ (a.T.length = 0 ∨ a.Kind = 3 ∧ a.T.length ≤ 40) := by
  simp only [IOK, rin, Bool.and_eq_true, Bool.or_eq_true, decide_eq_true_eq, beq_iff_eq]
  constructor
  · rintro ⟨⟨⟨h1, h2⟩, h3⟩, h4⟩; exact ⟨⟨h1, h2⟩, by omega, by omega⟩
  · rintro ⟨⟨h1, h2⟩, h3, h4⟩; exact ⟨⟨⟨h1, h2⟩, by omega⟩, by omega⟩
theorem spec_ItemOk (a : Item) (h : okF a.F) : spec_ItemOk.f a = some (IOK a) := by
  unfold spec_ItemOk.f
  rw [spec_FloatBits a.F h]
  obtain ⟨k, n, f, t⟩ := a
  have hi := iok_iff ⟨k, n, f, t⟩
  simp only at hi ⊢
  generalize t.length = l at hi ⊢
  by_cases c1 : (((decide (k < (0 : Int))) || (decide (k > (3 : Int)))) || (decide ((l : Int) > (40 : Int)))) = true
  · rw [if_pos c1]
    have : IOK ⟨k, n, f, t⟩ = false := by
      cases hh : IOK ⟨k, n, f, t⟩ with
      | false => rfl
      | true =>
        have := hi.1 hh
        simp only [Bool.or_eq_true, decide_eq_true_eq] at c1
        omega
    rw [this]
  · rw [if_neg c1]
    simp only [Bool.or_eq_true, decide_eq_true_eq, not_or] at c1
    by_cases c2 : ((k != (1 : Int)) && (n != (0 : Int))) = true
    · rw [if_pos c2]
      have : IOK ⟨k, n, f, t⟩ = false := by
        cases hh : IOK ⟨k, n, f, t⟩ with
        | false => rfl
        | true =>
          have := hi.1 hh
          simp only [Bool.and_eq_true, bne_iff_ne, ne_eq] at c2
          omega
      rw [this]
    · rw [if_neg c2]
      simp only [Bool.and_eq_true, bne_iff_ne, ne_eq, not_and, Decidable.not_not] at c2
      by_cases c3 : k = 2
      · rw [if_neg (by simp [c3])]
        simp only [Option.bind_some, Bool.false_eq_true, if_false]
        congr 1
        have e : ((k == (3 : Int)) || ((l : Int) == (0 : Int))) = decide (k = 3 ∨ l = 0) := by
          by_cases q : k = 3 <;> by_cases q2 : l = 0 <;> simp [q, q2]
        rw [e]
        cases hh : IOK ⟨k, n, f, t⟩ with
        | true => exact decide_eq_true (by have := hi.1 hh; omega)
        | false => exact decide_eq_false (fun hc => by
            have : IOK ⟨k, n, f, t⟩ = true := hi.2 (by omega)
            rw [hh] at this; cases this)
      · rw [if_pos (by simp [c3])]
        simp only [Option.bind_some]
        by_cases c4 : f = 0
        · rw [if_neg (by simp [c4])]
          congr 1
          have e : ((k == (3 : Int)) || ((l : Int) == (0 : Int))) = decide (k = 3 ∨ l = 0) := by
            by_cases q : k = 3 <;> by_cases q2 : l = 0 <;> simp [q, q2]
          rw [e]
          cases hh : IOK ⟨k, n, f, t⟩ with
          | true => exact decide_eq_true (by have := hi.1 hh; omega)
          | false => exact decide_eq_false (fun hc => by
              have : IOK ⟨k, n, f, t⟩ = true := hi.2 (by omega)
              rw [hh] at this; cases this)
        · rw [if_pos (by simp; exact c4)]
          have : IOK ⟨k, n, f, t⟩ = false := by
            cases hh : IOK ⟨k, n, f, t⟩ with
            | false => rfl
            | true =>
              have := hi.1 hh
              omega
          rw [this]
def KOK (a : Item) : Bool := (IOK a && (a.Kind != (0 : Int))) && decide (a.F ≠ 9223372036854775808)
theorem impl_KeyOk (a : Item) (h : okF a.F) : impl_KeyOk.f a = some (KOK a) := by
  unfold impl_KeyOk.f KOK
  rw [impl_ItemOk, Option.bind_some]
  obtain ⟨_, c2, _, _⟩ := cmp_facts a.F h
  have e : ((fcmp .f64 a.F 0 != some .eq) || ((a.F : Int) == 0)) = decide (a.F ≠ 9223372036854775808) := by
    have hb : (fcmp .f64 a.F 0 != some .eq) = !(fcmp .f64 a.F 0 == some .eq) := rfl
    rw [hb, c2]
    generalize a.F = q
    by_cases h0 : q = 0
    · subst h0; rfl
    · by_cases h1 : q = 9223372036854775808
      · subst h1; rfl
      · rw [decide_eq_false (by omega), decide_eq_true h1]; rfl
  rw [e]
theorem spec_KeyOk (a : Item) (h : okF a.F) : spec_KeyOk.f a = some (KOK a) := by
  unfold spec_KeyOk.f KOK
  rw [spec_ItemOk a h, Option.bind_some]
  obtain ⟨_, c2, _, _⟩ := cmp_facts a.F h
  cases hc : (IOK a && (a.Kind != (0 : Int))) with
  | false => rfl
  | true =>
    rw [if_pos rfl, c2, spec_FloatBits a.F h]
    generalize a.F = q
    by_cases h0 : q = 0
    · subst h0; rfl
    · by_cases h1 : q = 9223372036854775808
      · subst h1; rfl
      · rw [decide_eq_false (by omega), decide_eq_true h1]; rfl
theorem iok_T {a : Item} (h : IOK a = true) : a.T.length ≤ 40 := by have := (iok_iff a).1 h; omega
theorem kok_iok {a : Item} (h : KOK a = true) : IOK a = true := by
  simp only [KOK, Bool.and_eq_true] at h; exact h.1.1
end Go.Proofs.Ytcagjdngannneaa
