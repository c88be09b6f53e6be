
import Derived.Test.YtcagjdngannneaaRj
set_option linter.unusedVariables false
set_option linter.unusedSimpArgs false
set_option linter.unusedSectionVars false
namespace Go.Proofs.Ytcagjdngannneaa
open Go V Ieee
theorem idxOfInt (l : List Int) (a : Int) (hl : l.length ≤ 1000000000) : slices_Index_int_int.f l a = some (IXF (fun x => a == x) l 0) := by
  unfold slices_Index_int_int.f
  refine iter_ixf l _ (fun k hk => ?_) ?_
  · unfold slices_Index_int_int.b0
    rw [if_pos (by simp; omega), if_pos ⟨by omega, by omega⟩, at_nat _ k hk, w64 (by omega) (by omega)]
  · unfold slices_Index_int_int.b0
    rw [if_neg (by simp)]; rfl
theorem idxOfBool (l : List Bool) (a : Bool) (hl : l.length ≤ 1000000000) : slices_Index_bool_bool.f l a = some (IXF (fun x => a == x) l 0) := by
  unfold slices_Index_bool_bool.f
  refine iter_ixf l _ (fun k hk => ?_) ?_
  · unfold slices_Index_bool_bool.b0
    rw [if_pos (by simp; omega), if_pos ⟨by omega, by omega⟩, at_nat _ k hk, w64 (by omega) (by omega)]
  · unfold slices_Index_bool_bool.b0
    rw [if_neg (by simp)]; rfl
theorem cloneInt (l : List Int) (hl : l.length ≤ 1000000000) : slices_Clone_int_int.f l = some l := by
  unfold slices_Clone_int_int.f
  rw [if_pos (by simp [Lim]; omega)]; rfl
section
variable (l : List Deed)
def NX (is : List Bool) (b : Nat) : Int := ((AHp l b l.length).find? fun a => !at_ is a).getD 0
def RG (is : List Bool) : Nat → Nat × List Int → List Int
  | 0, _ => []
  | n + 1, s => let i := IXF (fun x => ((s.1 : Nat) : Int) == x) s.2 0
    if i ≥ 0 then s.2.drop i.toNat else RG is n ((NX l is s.1).toNat, s.2 ++ [((s.1 : Nat) : Int)])
theorem stuck {is : List Bool} (hlen : is.length = l.length) (hp : PCK l is = none) (b : Nat) (hb : b < l.length) (hi : at_ is (b : Int) = false) : ∃ a, (AHp l b l.length).find? (fun a => !at_ is a) = some a ∧ 0 ≤ a ∧ a < (l.length : Int) ∧ at_ is a = false := by
  have h1 := List.find?_eq_none.1 hp b (List.mem_range.2 hb)
  cases hf : (AHp l b l.length).find? (fun a => !at_ is a) with
  | none =>
    exfalso; apply h1
    unfold RDY
    rw [hi, List.all_eq_true.2 fun a ha => by simpa using List.find?_eq_none.1 hf a ha]; rfl
  | some a =>
    have ha := ahp_lt l (b := b) l.length a (List.mem_of_find?_eq_some hf)
    exact ⟨a, rfl, ha.1, ha.2, by simpa using List.find?_some hf⟩
structure WY (is : List Bool) (s : Nat × List Int) : Prop where
  lt : s.1 < l.length
  no : at_ is (s.1 : Int) = false
  nd : s.2.Nodup
  bd : ∀ x ∈ s.2, 0 ≤ x ∧ x < (l.length : Int)
theorem way_len : ∀ {n : Nat} {w : List Int}, w.Nodup → (∀ x ∈ w, 0 ≤ x ∧ x < (n : Int)) → w.length ≤ n
  | 0, w, hn, hb => by
    cases w with
    | nil => simp
    | cons x w => have := hb x (by simp); omega
  | n + 1, w, hn, hb => by
    have h1 := List.length_eq_countP_add_countP (fun x : Int => x == (n : Int)) (l := w)
    have h2 : w.countP (fun x : Int => x == (n : Int)) ≤ 1 := List.nodup_iff_count.1 hn (n : Int)
    have h3 := way_len (n := n) (w := w.filter fun x => ¬ (x == (n : Int)) = true) (hn.filter _) fun x hx => by
      obtain ⟨h4, h5⟩ := List.mem_filter.1 hx
      have := hb x h4
      simp at h5
      omega
    rw [← List.countP_eq_length_filter] at h3
    omega
theorem wy_next {is : List Bool} (hlen : is.length = l.length) (hp : PCK l is = none) {s : Nat × List Int} (h : WY l is s) (hi : ¬ IXF (fun x => ((s.1 : Nat) : Int) == x) s.2 0 ≥ 0) : WY l is ((NX l is s.1).toNat, s.2 ++ [((s.1 : Nat) : Int)]) ∧ s.2.length < l.length := by
  have hany := ixf_any (fun x => ((s.1 : Nat) : Int) == x) s.2
  rw [decide_eq_false hi] at hany
  have hnm : ((s.1 : Nat) : Int) ∉ s.2 := fun hm => by
    have := List.any_eq_false.1 hany.symm _ hm
    simp at this
  obtain ⟨a, ha, h0, h1, h2⟩ := stuck l hlen hp s.1 h.lt h.no
  have hnx : NX l is s.1 = a := by unfold NX; rw [ha]; rfl
  have hnd : (s.2 ++ [((s.1 : Nat) : Int)]).Nodup := List.nodup_append.2 ⟨h.nd, by simp, fun x hx y hy e => by simp at hy; subst hy; subst e; exact hnm hx⟩
  have hbd : ∀ x ∈ s.2 ++ [((s.1 : Nat) : Int)], 0 ≤ x ∧ x < (l.length : Int) := fun x hx => by
    rcases List.mem_append.1 hx with hx | hx
    · exact h.bd x hx
    · simp at hx; subst hx; have := h.lt; omega
  have hw := way_len hnd hbd
  rw [hnx]
  refine ⟨⟨by simp only []; omega, ?_, hnd, hbd⟩, by simp at hw; omega⟩
  simp only []
  rw [Int.toNat_of_nonneg h0]; exact h2
variable (hl : l.length ≤ 100)
include hl
theorem impl_ring (r : List Int × List Bool) (hlen : r.2.length = l.length) (hp : PCK l r.2 = none) : ∀ (n : Nat) (s : Nat × List Int), WY l r.2 s → l.length < s.2.length + n → iter (impl_GraphRing.b0 (AH l) r) (((s.1 : Nat) : Int), s.2) = some (RG l r.2 n s)
  | 0, s, h, hn => by
    have := way_len h.nd h.bd
    omega
  | n + 1, s, h, hn => by
    have hal : (AH l).length = l.length := by simp [AH]
    have hwl := way_len h.nd h.bd
    have hlt := h.lt
    unfold RG
    simp only []
    by_cases hi : IXF (fun x => ((s.1 : Nat) : Int) == x) s.2 0 ≥ 0
    · rw [if_pos hi]
      refine iter_r ?_
      have hik : IXF (fun x => ((s.1 : Nat) : Int) == x) s.2 0 ≤ (s.2.length : Int) := by
        rcases ixf_out (fun x => ((s.1 : Nat) : Int) == x) s.2 0 with ⟨h1, _⟩ | ⟨k, hk, h1, _⟩ <;> omega
      unfold impl_GraphRing.b0
      simp only []
      rw [idxOfInt _ _ (by omega), Option.bind_some, if_pos (by simpa using hi), if_pos ⟨hi, hik⟩, cloneInt _ (by simp; omega)]; rfl
    · rw [if_neg hi]
      obtain ⟨hy, hwlt⟩ := wy_next l hlen hp h hi
      obtain ⟨a, ha, h0, h1, h2⟩ := stuck l hlen hp s.1 h.lt h.no
      have hnx : NX l r.2 s.1 = a := by unfold NX; rw [ha]; rfl
      rw [← impl_ring r hlen hp n _ hy (by simp; omega)]
      refine iter_l ?_
      have hah : at_ (AH l) ((s.1 : Nat) : Int) = AHp l s.1 l.length := by rw [at_nat _ _ (by omega)]; simp [AH]
      have hin : iter (impl_GraphRing.b1 (AH l) r (((s.1 : Nat) : Int), s.2)) (((s.1 : Nat) : Int), (0 : Int)) = some a := by
        have hb := ahp_lt l (b := s.1) l.length
        have hpl := ahp_len l s.1 l.length
        have key : ∀ (m k : Nat), k + m = (AHp l s.1 l.length).length → ((AHp l s.1 l.length).drop k).find? (fun a => !at_ r.2 a) = some a → iter (impl_GraphRing.b1 (AH l) r (((s.1 : Nat) : Int), s.2)) (((s.1 : Nat) : Int), (k : Int)) = some a := by
          intro m
          induction m with
          | zero => intro k hk hf; rw [List.drop_eq_nil_of_le (by omega)] at hf; cases hf
          | succ m ih =>
            intro k hk hf
            have hkl : k < (AHp l s.1 l.length).length := by omega
            have hbk := hb _ (List.getElem_mem hkl)
            rw [List.drop_eq_getElem_cons hkl, List.find?_cons] at hf
            have hbody : impl_GraphRing.b1 (AH l) r (((s.1 : Nat) : Int), s.2) (((s.1 : Nat) : Int), (k : Int)) = if (!(at_ r.2 (AHp l s.1 l.length)[k])) = true then some (.inr (AHp l s.1 l.length)[k]) else some (.inl (((s.1 : Nat) : Int), ((k + 1 : Nat) : Int))) := by
              unfold impl_GraphRing.b1
              simp only []
              rw [hah, if_pos (by simp; omega), if_pos (by omega), at_nat _ k hkl, if_pos (by omega), w64 (by omega) (by omega)]; rfl
            cases hc : !(at_ r.2 (AHp l s.1 l.length)[k]) with
            | true =>
              rw [hc] at hf hbody
              rw [if_pos rfl] at hbody
              rw [iter_r hbody]; simpa using hf
            | false =>
              rw [hc] at hf hbody
              rw [if_neg (by decide)] at hbody
              rw [iter_l hbody]
              exact ih (k + 1) (by omega) hf
        exact key (AHp l s.1 l.length).length 0 (by omega) (by rw [List.drop_zero]; exact ha)
      unfold impl_GraphRing.b0
      simp only []
      rw [idxOfInt _ _ (by omega), Option.bind_some, if_neg (by simpa using hi), if_pos (by simp [Lim]; omega), if_pos (by omega), hin, hnx, Option.bind_some, Int.toNat_of_nonneg h0]
theorem spec_ring (r : List Int × List Bool) (hlen : r.2.length = l.length) (hp : PCK l r.2 = none) : ∀ (n : Nat) (s : Nat × List Int), WY l r.2 s → s.2.length + n = l.length + 1 → iter (spec_GraphRing.b1 l (EDs l l.length) (r.1, NT r.2)) (((s.1 : Nat) : Int), s.2, (s.2.length : Int)) = some (RG l r.2 n s)
  | 0, s, h, hn => by
    have := way_len h.nd h.bd
    omega
  | n + 1, s, h, hn => by
    have hwl := way_len h.nd h.bd
    have hlt := h.lt
    obtain ⟨a, ha, h0, h1, h2⟩ := stuck l hlen hp s.1 h.lt h.no
    have hnx : NX l r.2 s.1 = a := by unfold NX; rw [ha]; rfl
    have hb := ahp_lt l (b := s.1) l.length
    have hfl : FL1 (at_ (NT r.2)) (AHp l s.1 l.length) = (a, true) := by
      have e : (AHp l s.1 l.length).find? (at_ (NT r.2)) = (AHp l s.1 l.length).find? (fun a => !at_ r.2 a) := by
        have : ∀ xs : List Int, (∀ x ∈ xs, 0 ≤ x ∧ x < (l.length : Int)) → xs.find? (at_ (NT r.2)) = xs.find? (fun a => !at_ r.2 a) := by
          intro xs
          induction xs with
          | nil => intro _; rfl
          | cons x xs ih =>
            intro hx
            rw [List.find?_cons, List.find?_cons, nt_at r.2 x (by have := hx x (by simp); omega), ih fun y hy => hx y (by simp [hy])]
        exact this _ hb
      unfold FL1
      rw [e, ha]
    -- the search of the way
    obtain ⟨F, hF⟩ : ∃ F : Int → (Nat → Int) → (Int × List Int × Int) ⊕ List Int, ∀ i g, F i g = if i ≥ 0 then .inr (s.2.drop i.toNat) else .inl (a, s.2 ++ [((s.1 : Nat) : Int)], (s.2.length : Int) + 1) := ⟨fun i _ => _, fun _ _ => rfl⟩
    have hin : ∀ (m k : Nat), k + m = s.2.length → iter (spec_GraphRing.b2 (EDs l l.length) (r.1, NT r.2) (((s.1 : Nat) : Int), s.2, (s.2.length : Int))) (k : Int) = some (F (IXF (fun x => ((s.1 : Nat) : Int) == x) (s.2.drop k) (k : Int)) (fun _ => 0)) := by
      intro m
      induction m with
      | zero =>
        intro k hk
        have : k = s.2.length := by omega
        subst this
        refine iter_r ?_
        unfold spec_GraphRing.b2
        simp only []
        rw [if_neg (by simp), if_pos (by simp [Lim]; omega), spec_l14ahead l hl (NT r.2) (by rw [nt_len]; exact hlen) s.1 hlt, hfl, w64 (by omega) (by omega), List.drop_length, hF]; rfl
      | succ m ih =>
        intro k hk
        have hkl : k < s.2.length := by omega
        rw [List.drop_eq_getElem_cons hkl]
        unfold IXF
        by_cases he : s.2[k] = ((s.1 : Nat) : Int)
        · rw [if_pos (show ((((s.1 : Nat) : Int) == s.2[k]) = true) by simp [he])]
          refine iter_r ?_
          unfold spec_GraphRing.b2
          simp only []
          rw [if_pos (by simp; omega), if_pos (by omega), at_nat _ k hkl, if_pos (by simpa using he), if_pos (by omega), if_pos (by simp [Lim]; omega), hF, if_pos (by omega)]; rfl
        · rw [if_neg (show ¬ ((((s.1 : Nat) : Int) == s.2[k]) = true) by simp; omega)]
          have := ih (k + 1) (by omega)
          rw [show ((k + 1 : Nat) : Int) = (k : Int) + 1 by omega] at this
          rw [← this]
          refine iter_l ?_
          unfold spec_GraphRing.b2
          simp only []
          rw [if_pos (by simp; omega), if_pos (by omega), at_nat _ k hkl, if_neg (by simpa using he), w64 (by omega) (by omega)]
    have hin0 := hin s.2.length 0 (by omega)
    rw [List.drop_zero, show ((0 : Nat) : Int) = 0 from rfl, hF] at hin0
    have hb1 : spec_GraphRing.b1 l (EDs l l.length) (r.1, NT r.2) (((s.1 : Nat) : Int), s.2, (s.2.length : Int)) = iter (spec_GraphRing.b2 (EDs l l.length) (r.1, NT r.2) (((s.1 : Nat) : Int), s.2, (s.2.length : Int))) (0 : Int) := by
      unfold spec_GraphRing.b1
      simp only []
      rw [if_pos (by simp; omega)]
    rw [hin0] at hb1
    unfold RG
    simp only [] at hb1 ⊢
    by_cases hi : IXF (fun x => ((s.1 : Nat) : Int) == x) s.2 0 ≥ 0
    · rw [if_pos hi] at hb1 ⊢
      exact iter_r hb1
    · rw [if_neg hi] at hb1 ⊢
      obtain ⟨hy, hwlt⟩ := wy_next l hlen hp h hi
      rw [iter_l hb1, ← spec_ring r hlen hp n _ hy (by simp; omega)]
      rw [hnx, Int.toNat_of_nonneg h0]
      simp
noncomputable def GRR : List Int := if DKK l = false then [] else if (RES l).2.all (fun b => b) = true then [] else RG l (RES l).2 (l.length + 1) ((IXF (fun x => false == x) (RES l).2 0).toNat, [])
variable (hd : ∀ d ∈ l, okDd d)
include hd
omit hl in
theorem dkk_v (h : DKK l = true) : (∀ d ∈ l, VD d) ∧ l.length ≤ 100 := by
  simp only [DKK, Bool.and_eq_true, decide_eq_true_eq] at h
  exact ⟨fun d hm => ⟨hd d hm, List.all_eq_true.1 h.1.2 d hm⟩, h.1.1⟩
omit hl in
theorem impl_GraphRing : impl_GraphRing.f l = some (GRR l) := by
  unfold impl_GraphRing.f GRR
  rw [impl_DeedsOk l hd, Option.bind_some]
  cases hk : DKK l with
  | false => rfl
  | true =>
    obtain ⟨hv, hl⟩ := dkk_v l hd hk
    obtain ⟨r1, r2, r3⟩ := res_inv l
    rw [if_neg (show ¬ ((!true) = true) by decide), impl_ahead l hv hl, Option.bind_some, impl_taken l hl, Option.bind_some, idxOfBool _ _ (by omega), Option.bind_some, if_neg (show ¬ ((true : Bool) = false) by decide)]
    rcases ixf_out (fun x => false == x) (RES l).2 0 with ⟨h1, h2⟩ | ⟨k, hkl, h1, h2, h3, _⟩
    · rw [h1, if_pos (by decide), if_pos (List.all_eq_true.2 fun b hb => by
        have := List.any_eq_false.1 h2 b hb
        cases b <;> simp_all)]
    · rw [h1, if_neg (by simp), if_neg (fun hall => by
        have := List.all_eq_true.1 hall _ (List.getElem_mem hkl)
        have h2' : (false == (RES l).2[k]) = true := h2
        rw [this] at h2'; cases h2')]
      have hno : at_ (RES l).2 (k : Int) = false := by
        rw [at_nat _ k hkl]
        have h2' : (false == (RES l).2[k]) = true := h2
        cases hb : (RES l).2[k] with
        | false => rfl
        | true => rw [hb] at h2'; cases h2'
      have hw : WY l (RES l).2 (k, []) := ⟨by simp only []; omega, hno, by simp, fun x hx => by cases hx⟩
      have := impl_ring l hl (RES l) r1 r3 (l.length + 1) (k, []) hw (by simp)
      simpa using this
omit hl in
theorem spec_GraphRing : spec_GraphRing.f l = some (GRR l) := by
  unfold spec_GraphRing.f GRR
  rw [spec_DeedsOk l hd, Option.bind_some]
  cases hk : DKK l with
  | false => rfl
  | true =>
    obtain ⟨hv, hl⟩ := dkk_v l hd hk
    obtain ⟨r1, r2, r3⟩ := res_inv l
    have he : spec_GraphEdges.f l = some (EDs l l.length) := by
      unfold spec_GraphEdges.f
      rw [spec_DeedsOk l hd, hk, Option.bind_some, if_neg (by decide), spec_edges_loop l hv hl]
    rw [if_neg (show ¬ ((!true) = true) by decide), he, Option.bind_some, spec_l14take l hl, Option.bind_some, if_neg (show ¬ ((true : Bool) = false) by decide)]
    rcases ixf_out (fun x => false == x) (RES l).2 0 with ⟨h1, h2⟩ | ⟨k, hkl, h1, h2, h3, h4⟩
    · have hall : (RES l).2.all (fun b => b) = true := List.all_eq_true.2 fun b hb => by
        have := List.any_eq_false.1 h2 b hb
        cases b <;> simp_all
      have hc : (RES l).2.count false = 0 := List.count_eq_zero.2 fun hm => by
        have := List.all_eq_true.1 hall _ hm
        cases this
      rw [if_pos (by simp; omega), if_pos hall]
    · have h2' : (RES l).2[k] = false := by
        have h2' : (false == (RES l).2[k]) = true := h2
        cases hb : (RES l).2[k] with
        | false => rfl
        | true => rw [hb] at h2'; cases h2'
      have hc : 1 ≤ (RES l).2.count false := List.count_pos_iff.2 (by rw [← h2']; exact List.getElem_mem hkl)
      rw [if_neg (by simp; omega), if_neg (fun hall => by
        have := List.all_eq_true.1 hall _ (List.getElem_mem hkl)
        rw [this] at h2'; cases h2'), h1]
      have hw : WY l (RES l).2 (k, []) := ⟨by simp only []; omega, by simp only []; rw [at_nat _ k hkl]; exact h2', by simp, fun x hx => by cases hx⟩
      have hring := spec_ring l hl (RES l) r1 r3 (l.length + 1) (k, []) hw (by simp)
      -- the first that is left
      have key : ∀ (m j : Nat), j + m = k → iter (spec_GraphRing.b0 l (EDs l l.length) ((RES l).1, NT (RES l).2)) (j : Int) = some (RG l (RES l).2 (l.length + 1) (k, [])) := by
        intro m
        induction m with
        | zero =>
          intro j hj
          have : j = k := by omega
          subst this
          have hb : spec_GraphRing.b0 l (EDs l l.length) ((RES l).1, NT (RES l).2) (j : Int) = (iter (spec_GraphRing.b1 l (EDs l l.length) ((RES l).1, NT (RES l).2)) ((j : Int), ([] : List Int), (0 : Int))).bind fun o => some (Sum.inr o) := by
            unfold spec_GraphRing.b0
            simp only []
            rw [w64 (by omega) (by omega)]
            by_cases hjn : (j : Int) < (l.length : Int) - 1
            · rw [if_pos (by simpa using hjn), if_pos (by rw [nt_len]; omega), nt_at _ _ (by simpa using hkl), at_nat _ j hkl, h2', Option.bind_some, if_neg (by decide)]
            · rw [if_neg (by simpa using hjn), Option.bind_some, if_neg (by decide)]
          have hr' : iter (spec_GraphRing.b1 l (EDs l l.length) ((RES l).1, NT (RES l).2)) ((j : Int), ([] : List Int), (0 : Int)) = some (RG l (RES l).2 (l.length + 1) (j, [])) := hring
          rw [hr'] at hb
          exact iter_r hb
        | succ m ih =>
          intro j hj
          have hjl : j < (RES l).2.length := by omega
          have hjt : (RES l).2[j] = true := by
            have h5 : (false == (RES l).2[j]) = false := h4 j (by omega)
            cases hb : (RES l).2[j] with
            | true => rfl
            | false => rw [hb] at h5; cases h5
          rw [← ih (j + 1) (by omega)]
          refine iter_l ?_
          unfold spec_GraphRing.b0
          simp only []
          rw [w64 (by omega) (by omega), if_pos (by simp; omega), if_pos (by rw [nt_len]; omega), nt_at _ _ (by simpa using hjl), at_nat _ j hjl, hjt, Option.bind_some, if_pos (by decide), w64 (by omega) (by omega)]; rfl
      have := key k 0 (by omega)
      simpa using this
end
end Go.Proofs.Ytcagjdngannneaa
