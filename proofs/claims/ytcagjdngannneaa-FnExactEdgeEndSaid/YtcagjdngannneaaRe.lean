
import Derived.Test.YtcagjdngannneaaRd
set_option linter.unusedVariables false
set_option linter.unusedSimpArgs false
set_option linter.unusedSectionVars false
namespace Go.Proofs.Ytcagjdngannneaa
open Go V Ieee
def IXF {α : Type} (g : α → Bool) : List α → Int → Int
  | [], _ => -1
  | x :: xs, i => if g x = true then i else IXF g xs (i + 1)
theorem ixf_out {α : Type} (g : α → Bool) : ∀ (xs : List α) (i : Int), (IXF g xs i = -1 ∧ xs.any g = false) ∨ ∃ (k : Nat) (hk : k < xs.length), IXF g xs i = i + k ∧ g xs[k] = true ∧ xs.any g = true ∧ ∀ j (hj : j < k), g (xs[j]'(by omega)) = false
  | [], i => .inl ⟨rfl, rfl⟩
  | x :: xs, i => by
    unfold IXF
    cases hx : g x with
    | true => exact .inr ⟨0, by simp, by simp, by simpa using hx, by simp [hx], fun j hj => by omega⟩
    | false =>
      rw [if_neg (by decide)]
      rcases ixf_out g xs (i + 1) with ⟨h1, h2⟩ | ⟨k, hk, h1, h2, h3, h4⟩
      · exact .inl ⟨h1, by simp [hx, h2]⟩
      · refine .inr ⟨k + 1, by simpa using hk, by omega, by simpa using h2, by simp [h3], fun j hj => ?_⟩
        cases j with
        | zero => simpa using hx
        | succ j => simpa using h4 j (by omega)
theorem ixf_any {α : Type} (g : α → Bool) (xs : List α) : decide (IXF g xs 0 ≥ 0) = xs.any g := by
  rcases ixf_out g xs 0 with ⟨h1, h2⟩ | ⟨k, hk, h1, _, h2, _⟩
  · rw [h1, h2]; rfl
  · rw [h2]; exact decide_eq_true (by omega)
theorem iter_ixf {α : Type} {body : Int → Option (Int ⊕ Int)} (xs : List α) (g : α → Bool) (hb : ∀ (k : Nat) (hk : k < xs.length), body (k : Int) = if g xs[k] = true then some (.inr (k : Int)) else some (.inl ((k : Int) + 1))) (hn : body (xs.length : Int) = some (.inr (-1))) : iter body 0 = some (IXF g xs 0) := by
  have key : ∀ (m k : Nat), k + m = xs.length → iter body (k : Int) = some (IXF g (xs.drop k) (k : Int)) := by
    intro m
    induction m with
    | zero =>
      intro k hk
      have : k = xs.length := by omega
      subst this
      rw [List.drop_length, iter_r hn]; rfl
    | succ m ih =>
      intro k hk
      have hlt : k < xs.length := by omega
      have h := hb k hlt
      rw [List.drop_eq_getElem_cons hlt]
      unfold IXF
      cases hg : g xs[k] with
      | true => rw [hg, if_pos rfl] at h; rw [iter_r h, if_pos rfl]
      | false =>
        rw [hg, if_neg (by decide)] at h
        rw [iter_l h, if_neg (by decide)]
        have := ih (k + 1) (by omega)
        rw [show ((k + 1 : Nat) : Int) = (k : Int) + 1 by omega] at this
        exact this
  have := key xs.length 0 (by omega)
  rwa [List.drop_zero] at this
theorem idxItem (l : List Item) (hl : l.length ≤ 1000000000) (f : Item → Option Bool) (g : Item → Bool) (h : ∀ x ∈ l, f x = some (g x)) : slices_IndexFunc_impl_Item_impl_Item.f l f = some (IXF g l 0) := by
  unfold slices_IndexFunc_impl_Item_impl_Item.f
  refine iter_ixf l g (fun k hk => ?_) ?_
  · unfold slices_IndexFunc_impl_Item_impl_Item.b0
    rw [if_pos (by simp; omega), if_pos ⟨by omega, by omega⟩, at_nat _ k hk]
    rw [h _ (List.getElem_mem hk), Option.bind_some, w64 (by omega) (by omega)]
  · unfold slices_IndexFunc_impl_Item_impl_Item.b0
    rw [if_neg (by simp)]; rfl
theorem cntItem (l : List Item) (hl : l.length ≤ 1000000000) (f : Item → Option Bool) (g : Item → Bool) (h : ∀ x ∈ l, f x = some (g x)) : slices_ContainsFunc_impl_Item_impl_Item.f l f = some (l.any g) := by
  unfold slices_ContainsFunc_impl_Item_impl_Item.f
  rw [idxItem l hl f g h, Option.bind_some, ixf_any]
theorem allItem (l : List Item) (hl : l.length ≤ 1000000000) (f : Item → Option Bool) (g : Item → Bool) (h : ∀ x ∈ l, f x = some (g x)) : impl_areAll_impl_Item.f l f = some (l.all g) := by
  unfold impl_areAll_impl_Item.f
  rw [cntItem l hl _ (fun x => !g x) (fun x hx => by unfold impl_areAll_impl_Item_1.f; rw [h x hx]; rfl), Option.bind_some]
  simp [List.any_eq_not_all_not]
theorem idxSpan (l : List Span) (hl : l.length ≤ 1000000000) (f : Span → Option Bool) (g : Span → Bool) (h : ∀ x ∈ l, f x = some (g x)) : slices_IndexFunc_impl_Span_impl_Span.f l f = some (IXF g l 0) := by
  unfold slices_IndexFunc_impl_Span_impl_Span.f
  refine iter_ixf l g (fun k hk => ?_) ?_
  · unfold slices_IndexFunc_impl_Span_impl_Span.b0
    rw [if_pos (by simp; omega), if_pos ⟨by omega, by omega⟩, at_nat _ k hk]
    rw [h _ (List.getElem_mem hk), Option.bind_some, w64 (by omega) (by omega)]
  · unfold slices_IndexFunc_impl_Span_impl_Span.b0
    rw [if_neg (by simp)]; rfl
theorem cntSpan (l : List Span) (hl : l.length ≤ 1000000000) (f : Span → Option Bool) (g : Span → Bool) (h : ∀ x ∈ l, f x = some (g x)) : slices_ContainsFunc_impl_Span_impl_Span.f l f = some (l.any g) := by
  unfold slices_ContainsFunc_impl_Span_impl_Span.f
  rw [idxSpan l hl f g h, Option.bind_some, ixf_any]
theorem allSpan (l : List Span) (hl : l.length ≤ 1000000000) (f : Span → Option Bool) (g : Span → Bool) (h : ∀ x ∈ l, f x = some (g x)) : impl_areAll_impl_Span.f l f = some (l.all g) := by
  unfold impl_areAll_impl_Span.f
  rw [cntSpan l hl _ (fun x => !g x) (fun x hx => by unfold impl_areAll_impl_Span_1.f; rw [h x hx]; rfl), Option.bind_some]
  simp [List.any_eq_not_all_not]
theorem mset_any {m : MD} (h : ∀ p ∈ m, p.2 = true) (k : Int) : mget m k = decide (k ∈ m.map (·.1)) := by
  rw [mget_all h]
  induction m with
  | nil => rfl
  | cons p m ih =>
    rw [List.any_cons, ih fun q hq => h q (by simp [hq])]
    by_cases hk : k = p.1 <;> simp [hk]
theorem runL_diff {α : Type} (key : α → Int) : ∀ (xs : List α) (m : MD), (∀ p ∈ m, p.2 = true) → (m.map (·.1)).Nodup →
    runL (fun (m : MD) x => if mget m (key x) = true then .inr false else .inl (mset m (key x) true)) (fun _ => true) xs m = decide ((m.map (·.1) ++ xs.map key).Nodup)
  | [], m, h, hn => by unfold runL; simpa using hn
  | x :: xs, m, h, hn => by
    unfold runL
    rw [mset_any h]
    by_cases hk : key x ∈ m.map (·.1)
    · rw [if_pos (by simpa using hk)]
      refine (decide_eq_false fun hd => ?_).symm
      rw [List.nodup_append] at hd
      exact hd.2.2 _ hk (key x) (by simp) rfl
    · rw [if_neg (by simpa using hk)]
      have hnew : mset m (key x) true = m ++ [(key x, true)] := by
        refine mset_new ?_ _
        rw [← mget_all h, mset_any h]; exact decide_eq_false hk
      simp only []
      rw [hnew, runL_diff key xs _ (fun p hp => by
        rcases List.mem_append.1 hp with hp | hp
        · exact h p hp
        · simp at hp; rw [hp]) (by
        rw [List.map_append, List.nodup_append]
        exact ⟨hn, by simp, fun a ha b hb hab => by simp at hb; subst hb; subst hab; exact hk ha⟩)]
      congr 1
      simp
end Go.Proofs.Ytcagjdngannneaa
