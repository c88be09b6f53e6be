/- Plain laws: a status set. -/
import Derived.Test.YtndhbfkahbbkaaaPp
set_option linter.unusedVariables false
set_option linter.unusedSimpArgs false
namespace Go.Proofs.Ytndhbfkahbbkaaa
open Go V
theorem statusSet_eq (a : List Int) (x v : Int) : impl_StatusSet.f a x v = spec_StatusSet.f a x v := by
  unfold impl_StatusSet.f spec_StatusSet.f impl_isXid.f slices_Clone_int_int.f
  simp only [within_rin, in_rin, Option.bind_some]
  have hb : impl_StatusSet.b0 x v = spec_StatusSet.b0 x v := rfl
  rw [hb]
  congr 1
  funext y2
  congr 1
  funext y7
  split
  · rfl
  · split <;> rfl
theorem indexFunc (a : List Record) (f : Record → Option Bool) (g : Record → Bool) (hl : a.length ≤ 1000000000000) (hf : ∀ x ∈ a, f x = some (g x)) : ∃ r, slices_IndexFunc_impl_Record_impl_Record.f a f = some r ∧ (0 ≤ r ↔ a.any g = true) := by
  unfold slices_IndexFunc_impl_Record_impl_Record.f
  have key : ∀ (m i : Nat), i + m = a.length → ∃ r, iter (slices_IndexFunc_impl_Record_impl_Record.b0 a f) (i : Int) = some r ∧ (0 ≤ r ↔ (a.drop i).any g = true) := by
    intro m
    induction m with
    | zero =>
      intro i hi
      have hb : slices_IndexFunc_impl_Record_impl_Record.b0 a f (i : Int) = some (.inr (-1)) := by
        unfold slices_IndexFunc_impl_Record_impl_Record.b0
        rw [if_neg (by simp; omega)]; rfl
      rw [iter_eq, hb]
      refine ⟨-1, rfl, ?_⟩
      rw [List.drop_eq_nil_of_le (by omega)]
      simp
    | succ m ih =>
      intro i hi
      have hk : i < a.length := by omega
      have e : (i : Int) + 1 = ((i + 1 : Nat) : Int) := by omega
      have hb : slices_IndexFunc_impl_Record_impl_Record.b0 a f (i : Int) = if g a[i] = true then some (.inr (i : Int)) else some (.inl ((i + 1 : Nat) : Int)) := by
        unfold slices_IndexFunc_impl_Record_impl_Record.b0
        rw [if_pos (by simp; omega), if_pos ⟨by omega, by omega⟩, at_nat a i hk, hf _ (List.getElem_mem hk), Option.bind_some, w64 (by omega) (by omega), e]
      rw [iter_eq, hb, List.drop_eq_getElem_cons hk, List.any_cons]
      by_cases hg : g a[i] = true
      · rw [if_pos hg]
        exact ⟨(i : Int), rfl, by simp [hg]⟩
      · rw [if_neg hg]
        obtain ⟨r, er, hr⟩ := ih (i + 1) (by omega)
        simp only [Option.bind_some]
        refine ⟨r, er, ?_⟩
        rw [hr]; simp [hg]
  obtain ⟨r, er, hr⟩ := key a.length 0 (by omega)
  exact ⟨r, er, by rw [hr, List.drop_zero]⟩
theorem areAllRecord (a : List Record) (f : Record → Option Bool) (g : Record → Bool) (hl : a.length ≤ 1000000000000) (hf : ∀ x ∈ a, f x = some (g x)) : impl_areAll_impl_Record.f a f = some (a.all g) := by
  unfold impl_areAll_impl_Record.f slices_ContainsFunc_impl_Record_impl_Record.f impl_areAll_impl_Record_1.f
  obtain ⟨r, er, hr⟩ := indexFunc a (fun x0 => (f x0).bind fun r8 => some (!r8)) (fun x => !g x) hl fun x hx => by show (f x).bind _ = _; rw [hf x hx]; rfl
  rw [er]
  simp only [Option.bind_some]
  have hall : a.all g = !(a.any fun x => !g x) := List.all_eq_not_any_not
  rw [hall]
  cases ha : a.any fun x => !g x with
  | true => have := hr.2 ha; simp [this]
  | false =>
    have : ¬ 0 ≤ r := fun h => by rw [hr.1 h] at ha; cases ha
    simp [this]
end Go.Proofs.Ytndhbfkahbbkaaa
