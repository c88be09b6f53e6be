
import Derived.Test.YtcagjdngannneaaRh
set_option linter.unusedVariables false
set_option linter.unusedSimpArgs false
set_option linter.unusedSectionVars false
namespace Go.Proofs.Ytcagjdngannneaa
open Go V Ieee
section
variable (l : List Deed) (hv : ∀ d ∈ l, VD d) (hl : l.length ≤ 100)
include hv hl
theorem spec_edges_loop : iter (spec_GraphEdges.b0 l) (([] : List A2Int), (0 : Int)) = some (EDs l l.length) := by
  have hin : ∀ a, a < l.length → iter (spec_GraphEdges.b1 l (EDs l a, (a : Int))) (EDs l a, (0 : Int)) = some (.inl (EDs l (a + 1), ((a + 1 : Nat) : Int))) := fun a ha => by
    have hel := eds_len l hl a
    have := iter_for (body := spec_GraphEdges.b1 l (EDs l a, (a : Int))) l.length (fun k => (EDs l a ++ EP l a k, (k : Int))) (.inl (EDs l (a + 1), ((a + 1 : Nat) : Int))) (fun k hk => ?_) ?_
    · have e : EP l a 0 = [] := rfl
      rw [e, List.append_nil] at this
      exact this
    · unfold spec_GraphEdges.b1
      simp only []
      rw [if_pos (show decide ((k : Int) < (l.length : Int)) = true by simp; omega)]
      have hm : ∀ j (hj : j < l.length), at_ l (j : Int) ∈ l := fun j hj => by rw [at_nat _ j hj]; exact List.getElem_mem _
      have hlen := ep_len l a k
      by_cases hkb : a = k
      · subst hkb
        rw [if_neg (by simp), Option.bind_some, if_neg (by decide), Option.bind_some, ep_succ, show AB l a a = false by simp [AB], w64 (by omega) (by omega)]; rfl
      · rw [if_pos (show ((a : Int) != (k : Int)) = true by simp; omega), if_pos (show 0 ≤ (a : Int) ∧ (a : Int) < (l.length : Int) by omega), if_pos (show 0 ≤ (k : Int) ∧ (k : Int) < (l.length : Int) by omega), spec_edge _ _ (hv _ (hm a ha)) (hv _ (hm k hk)), Option.bind_some, Option.bind_some]
        have hab : AB l a k = EDG (at_ l (a : Int)) (at_ l (k : Int)) := by simp [AB, hkb]
        rw [ep_succ, hab]
        cases he : EDG (at_ l (a : Int)) (at_ l (k : Int)) with
        | false => rw [if_neg (by decide), if_neg (by decide), Option.bind_some, w64 (by omega) (by omega)]; rfl
        | true => rw [if_pos rfl, if_pos rfl, if_pos (by simp [Lim]; omega), Option.bind_some, w64 (by omega) (by omega), List.append_assoc]; rfl
    · unfold spec_GraphEdges.b1
      simp only []
      rw [if_neg (by simp), w64 (by omega) (by omega), eds_succ]; rfl
  have := iter_for (body := spec_GraphEdges.b0 l) l.length (fun a => (EDs l a, (a : Int))) (EDs l l.length) (fun a ha => ?_) ?_
  · exact this
  · unfold spec_GraphEdges.b0
    simp only []
    rw [if_pos (show decide ((a : Int) < (l.length : Int)) = true by simp; omega), hin a ha]
  · unfold spec_GraphEdges.b0
    simp only []
    rw [if_neg (by simp)]; rfl
end

section
variable (l : List Deed)
theorem filt_map {b : Nat} : ∀ (k a : Nat), (EP l a k).filter (fun e => e.e1 == (b : Int)) = if b < k ∧ AB l a b = true then [A2Int.mk (a : Int) (b : Int)] else []
  | 0, a => by simp [EP]
  | k + 1, a => by
    have ih := filt_map (b := b) k a
    rw [ep_succ]
    by_cases hb : b = k
    · subst hb
      rw [if_neg (by omega)] at ih
      cases h : AB l a b with
      | true => rw [if_pos rfl, List.filter_append, ih]; simp
      | false => rw [if_neg (by decide), ih]; simp
    · have e : (if b < k + 1 ∧ AB l a b = true then [A2Int.mk (a : Int) (b : Int)] else []) = if b < k ∧ AB l a b = true then [A2Int.mk (a : Int) (b : Int)] else [] := by
        by_cases h1 : b < k ∧ AB l a b = true
        · rw [if_pos h1, if_pos ⟨by omega, h1.2⟩]
        · rw [if_neg h1, if_neg fun h => h1 ⟨by omega, h.2⟩]
      rw [e]
      cases h : AB l a k with
      | true =>
        rw [if_pos rfl, List.filter_append, ih]
        have : ((k : Int) == (b : Int)) = false := by simp; omega
        simp [this]
      | false => rw [if_neg (by decide), ih]
theorem eds_filt {b : Nat} (hb : b < l.length) : ∀ m, ((EDs l m).filter (fun e => e.e1 == (b : Int))).map (·.e0) = AHp l b m
  | 0 => by simp [EDs, AHp]
  | m + 1 => by
    rw [eds_succ, List.filter_append, List.map_append, eds_filt hb m, filt_map, ahp_succ]
    cases h : AB l m b with
    | true => rw [if_pos ⟨hb, rfl⟩, if_pos rfl]; rfl
    | false => rw [if_neg (by simp), if_neg (by decide)]; simp
theorem eds_e0 : ∀ m, m ≤ l.length → ∀ e ∈ EDs l m, 0 ≤ e.e0 ∧ e.e0 < (l.length : Int) ∧ 0 ≤ e.e1 ∧ e.e1 < (l.length : Int)
  | 0, _, e, he => by simp [EDs] at he
  | m + 1, hm, e, he => by
    rw [eds_succ] at he
    rcases List.mem_append.1 he with he | he
    · exact eds_e0 m (by omega) e he
    · unfold EP at he
      obtain ⟨b, hb, rfl⟩ := List.mem_map.1 he
      have := List.mem_range.1 (List.mem_filter.1 hb).1
      simp; omega
theorem ahp_lt {b : Nat} : ∀ k, ∀ a ∈ AHp l b k, 0 ≤ a ∧ a < (k : Int) := fun k a ha => by
  unfold AHp at ha
  obtain ⟨q, hq, rfl⟩ := List.mem_map.1 ha
  have := List.mem_range.1 (List.mem_filter.1 hq).1
  omega
end
def FL1 (left : Int → Bool) (xs : List Int) : Int × Bool := match xs.find? left with
  | some a => (a, true)
  | none => (0, false)
theorem fl1_filt (left : Int → Bool) (b : Int) : ∀ es : List A2Int, FL1 left ((es.filter fun e => e.e1 == b).map (·.e0)) = match es.find? (fun e => e.e1 == b && left e.e0) with
    | some e => (e.e0, true)
    | none => (0, false)
  | [] => rfl
  | e :: es => by
    have ih := fl1_filt left b es
    rw [List.filter_cons, List.find?_cons]
    cases h : e.e1 == b with
    | false => simpa using ih
    | true =>
      simp only [if_true, List.map_cons, Bool.true_and]
      unfold FL1 at ih ⊢
      rw [List.find?_cons]
      cases hl : left e.e0 with
      | true => rfl
      | false => simpa using ih
section
variable (l : List Deed) (hv : ∀ d ∈ l, VD d) (hl : l.length ≤ 100)
include hl
theorem spec_l14ahead (left : List Bool) (hll : left.length = l.length) (b : Nat) (hb : b < l.length) : spec_l14ahead.f (EDs l l.length) left (b : Int) = some (FL1 (at_ left) (AHp l b l.length)) := by
  have hel := eds_len l hl l.length
  rw [← eds_filt l hb, fl1_filt]
  have hbd := eds_e0 l l.length (Nat.le_refl _)
  generalize EDs l l.length = es at hel hbd
  unfold spec_l14ahead.f
  have key : ∀ (m k : Nat), k + m = es.length → iter (spec_l14ahead.b0 es left (b : Int)) (k : Int) = some (match (es.drop k).find? (fun e => e.e1 == (b : Int) && at_ left e.e0) with
      | some e => (e.e0, true)
      | none => (0, false)) := by
    intro m
    induction m with
    | zero =>
      intro k hk
      have : k = es.length := by omega
      subst this
      rw [List.drop_length]
      refine iter_r ?_
      unfold spec_l14ahead.b0
      rw [if_neg (by simp)]; rfl
    | succ m ih =>
      intro k hk
      have hlt : k < es.length := by omega
      have hbk := hbd _ (List.getElem_mem hlt)
      rw [List.drop_eq_getElem_cons hlt, List.find?_cons]
      have hbody : spec_l14ahead.b0 es left (b : Int) (k : Int) = if (es[k].e1 == (b : Int) && at_ left es[k].e0) = true then some (.inr (es[k].e0, true)) else some (.inl ((k : Int) + 1)) := by
        unfold spec_l14ahead.b0
        rw [if_pos (show decide ((k : Int) < (es.length : Int)) = true by simp; omega), if_pos (show 0 ≤ (k : Int) ∧ (k : Int) < (es.length : Int) by omega), if_pos (show 0 ≤ (k : Int) ∧ (k : Int) < (es.length : Int) by omega), if_pos (show 0 ≤ (k : Int) ∧ (k : Int) < (es.length : Int) by omega), at_nat _ k hlt, w64 (by omega) (by omega)]
        cases h : es[k].e1 == (b : Int) with
        | false => rfl
        | true =>
          rw [if_pos rfl, if_pos ⟨hbk.1, by omega⟩, Option.bind_some]
          cases at_ left es[k].e0 <;> rfl
      cases hc : (es[k].e1 == (b : Int) && at_ left es[k].e0) with
      | true => rw [hc, if_pos rfl] at hbody; exact iter_r hbody
      | false =>
        rw [hc, if_neg (by decide)] at hbody
        rw [iter_l hbody]
        exact ih (k + 1) (by omega)
  have := key es.length 0 (by omega)
  rwa [List.drop_zero] at this
end
end Go.Proofs.Ytcagjdngannneaa
