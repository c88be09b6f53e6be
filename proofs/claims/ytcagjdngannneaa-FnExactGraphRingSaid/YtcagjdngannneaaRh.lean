
import Derived.Test.YtcagjdngannneaaRg
set_option linter.unusedVariables false
set_option linter.unusedSimpArgs false
set_option linter.unusedSectionVars false
namespace Go.Proofs.Ytcagjdngannneaa
open Go V Ieee
def HAS (ws : List Item) (k : Item) : Bool := ws.any fun a => ICM a k == 0
def RDS (d : Deed) (k : Item) : Bool := d.Reads.any fun s => INS s.From s.To k
def EDG (a b : Deed) : Bool := (decide (a.Ended < b.Ended) && a.Writes.any (HAS b.Writes)) || (decide (a.Ended < b.Begun) && a.Writes.any (RDS b)) || (decide (b.Ended > a.Begun) && b.Writes.any (RDS a))
structure VD (d : Deed) : Prop where
  ok : okDd d
  v : DO1 d = true
theorem VD.w {d : Deed} (h : VD d) : ∀ x ∈ d.Writes, ok_Item x ∧ KOK x = true := fun x hx => by
  have := h.v
  simp only [DO1, Bool.and_eq_true] at this
  exact ⟨h.ok.1.2.2.2.2.2 x hx, List.all_eq_true.1 this.2 x hx⟩
theorem VD.r {d : Deed} (h : VD d) : ∀ x ∈ d.Reads, ok_Span x := h.ok.1.2.2.2.1.2
theorem VD.wl {d : Deed} (h : VD d) : d.Writes.length ≤ 200 := by
  have := h.v
  simp only [DO1, Bool.and_eq_true, decide_eq_true_eq] at this
  omega
theorem VD.rl {d : Deed} (h : VD d) : d.Reads.length ≤ 200 := by
  have := h.v
  simp only [DO1, Bool.and_eq_true, decide_eq_true_eq] at this
  omega
theorem impl_writes (d : Deed) (k : Item) (h : VD d) (hk : ok_Item k) : impl_Deed_writes.f d k = some (HAS d.Writes k) := by
  unfold impl_Deed_writes.f
  rw [cntItem _ (by have := h.wl; omega) _ (fun a => ICM a k == 0) (fun x hx => by unfold impl_Deed_writes_1.f; rw [impl_compareItems _ _ (h.w x hx).1 hk]; rfl)]; rfl
theorem impl_readsKey (d : Deed) (k : Item) (h : VD d) (hk : ok_Item k) : impl_Deed_readsKey.f d k = some (RDS d k) := by
  unfold impl_Deed_readsKey.f
  rw [cntSpan _ (by have := h.rl; omega) _ (fun s => INS s.From s.To k) (fun x hx => by
    unfold impl_Deed_readsKey_1.f impl_Span_has.f
    rw [impl_InSpan _ _ _ (h.r x hx).1 (h.r x hx).2 hk]; rfl)]; rfl
theorem impl_isAhead (a b : Deed) (ha : VD a) (hb : VD b) : impl_isAhead.f a b = some (EDG a b) := by
  unfold impl_isAhead.f EDG
  rw [cntItem _ (by have := ha.wl; omega) _ (HAS b.Writes) (fun x hx => impl_writes b x hb (ha.w x hx).1), cntItem _ (by have := ha.wl; omega) _ (RDS b) (fun x hx => impl_readsKey b x hb (ha.w x hx).1), cntItem _ (by have := hb.wl; omega) _ (RDS a) (fun x hx => impl_readsKey a x ha (hb.w x hx).1)]
  cases decide (a.Ended < b.Ended) <;> cases decide (a.Ended < b.Begun) <;> cases decide (b.Ended > a.Begun) <;> cases a.Writes.any (HAS b.Writes) <;> cases a.Writes.any (RDS b) <;> cases b.Writes.any (RDS a) <;> rfl
theorem spec_has (ws : List Item) (k : Item) (hl : ws.length ≤ 1048576) (hw : ∀ x ∈ ws, ok_Item x ∧ KOK x = true) (hk : ok_Item k) (vk : KOK k = true) : spec_l13has.f ws k = some (HAS ws k) := by
  unfold spec_l13has.f HAS
  refine (iter_test ws (fun a => ICM a k == 0) true false (fun j hj => ?_) ?_).trans ?_
  · unfold spec_l13has.b0
    rw [if_pos (show decide ((j : Int) < (ws.length : Int)) = true by simp; omega), if_pos (show 0 ≤ (j : Int) ∧ (j : Int) < (ws.length : Int) by omega), at_nat _ j hj, spec_ItemCompare _ _ (hw _ (List.getElem_mem hj)).1 hk (kok_iok (hw _ (List.getElem_mem hj)).2) (kok_iok vk), Option.bind_some, w64 (by omega) (by omega)]
  · unfold spec_l13has.b0
    rw [if_neg (by simp)]; rfl
  · cases ws.any (fun a => ICM a k == 0) <;> rfl
theorem spec_reads (d : Deed) (k : Item) (h : VD d) (hk : ok_Item k) : spec_l14reads.f d k = some (RDS d k) := by
  have hl := h.rl
  unfold spec_l14reads.f RDS
  refine (iter_test d.Reads (fun s => INS s.From s.To k) true false (fun j hj => ?_) ?_).trans ?_
  · unfold spec_l14reads.b0
    rw [if_pos (show decide ((j : Int) < (d.Reads.length : Int)) = true by simp; omega), if_pos (show 0 ≤ (j : Int) ∧ (j : Int) < (d.Reads.length : Int) by omega), if_pos (show 0 ≤ (j : Int) ∧ (j : Int) < (d.Reads.length : Int) by omega), at_nat _ j hj, spec_InSpan _ _ _ (h.r _ (List.getElem_mem hj)).1 (h.r _ (List.getElem_mem hj)).2 hk, Option.bind_some, w64 (by omega) (by omega)]
  · unfold spec_l14reads.b0
    rw [if_neg (by simp)]; rfl
  · cases d.Reads.any (fun s => INS s.From s.To k) <;> rfl
theorem anyOr {α : Type} (f g : α → Bool) (l : List α) : l.any (fun x => f x || g x) = (l.any f || l.any g) := by
  induction l with
  | nil => rfl
  | cons x l ih =>
    simp only [List.any_cons, ih]
    cases f x <;> cases g x <;> cases l.any f <;> rfl
theorem spec_edge (a b : Deed) (ha : VD a) (hb : VD b) : spec_l14edge.f a b = some (EDG a b) := by
  have hal := ha.wl
  have hbl := hb.wl
  unfold spec_l14edge.f
  have h1 : iter (spec_l14edge.b1 a b) (0 : Int) = some (if b.Writes.any (fun x => decide (b.Ended > a.Begun) && RDS a x) = true then true else false) := by
    refine iter_test b.Writes _ _ _ (fun j hj => ?_) ?_
    · unfold spec_l14edge.b1
      rw [if_pos (show decide ((j : Int) < (b.Writes.length : Int)) = true by simp; omega), if_pos (show 0 ≤ (j : Int) ∧ (j : Int) < (b.Writes.length : Int) by omega), at_nat _ j hj, spec_reads a _ ha (hb.w _ (List.getElem_mem hj)).1, w64 (by omega) (by omega)]
      cases decide (b.Ended > a.Begun) <;> cases RDS a b.Writes[j] <;> rfl
    · unfold spec_l14edge.b1
      rw [if_neg (by simp)]; rfl
  have h0 : iter (spec_l14edge.b0 a b) (0 : Int) = some (if a.Writes.any (fun x => (decide (a.Ended < b.Ended) && HAS b.Writes x) || (decide (a.Ended < b.Begun) && RDS b x)) = true then true else if b.Writes.any (fun x => decide (b.Ended > a.Begun) && RDS a x) = true then true else false) := by
    refine iter_test a.Writes _ _ _ (fun j hj => ?_) ?_
    · unfold spec_l14edge.b0
      have hw := ha.w _ (List.getElem_mem hj)
      rw [if_pos (show decide ((j : Int) < (a.Writes.length : Int)) = true by simp; omega), if_pos (show 0 ≤ (j : Int) ∧ (j : Int) < (a.Writes.length : Int) by omega), if_pos (show 0 ≤ (j : Int) ∧ (j : Int) < (a.Writes.length : Int) by omega), at_nat _ j hj, spec_reads b _ hb hw.1, spec_has _ _ (by omega) hb.w hw.1 hw.2, w64 (by omega) (by omega)]
      cases decide (a.Ended < b.Ended) <;> cases decide (a.Ended < b.Begun) <;> cases HAS b.Writes a.Writes[j] <;> cases RDS b a.Writes[j] <;> rfl
    · unfold spec_l14edge.b0
      rw [if_neg (by simp), h1]; rfl
  rw [h0]
  unfold EDG
  have e1 : a.Writes.any (fun x => (decide (a.Ended < b.Ended) && HAS b.Writes x) || (decide (a.Ended < b.Begun) && RDS b x)) = ((decide (a.Ended < b.Ended) && a.Writes.any (HAS b.Writes)) || (decide (a.Ended < b.Begun) && a.Writes.any (RDS b))) := by
    rw [anyOr]
    cases decide (a.Ended < b.Ended) <;> cases decide (a.Ended < b.Begun) <;> simp
  have e2 : b.Writes.any (fun x => decide (b.Ended > a.Begun) && RDS a x) = (decide (b.Ended > a.Begun) && b.Writes.any (RDS a)) := by
    cases decide (b.Ended > a.Begun) <;> simp
  rw [e1, e2]
  cases ((decide (a.Ended < b.Ended) && a.Writes.any (HAS b.Writes)) || (decide (a.Ended < b.Begun) && a.Writes.any (RDS b))) <;> cases (decide (b.Ended > a.Begun) && b.Writes.any (RDS a)) <;> rfl

section
variable (l : List Deed)
def AB (a b : Nat) : Bool := decide (a ≠ b) && EDG (at_ l (a : Int)) (at_ l (b : Int))
def AHp (b k : Nat) : List Int := ((List.range k).filter fun a => AB l a b).map fun a : Nat => (a : Int)
def AH : List (List Int) := (List.range l.length).map fun b => AHp l b l.length
theorem ahp_succ (b k : Nat) : AHp l b (k + 1) = if AB l k b = true then AHp l b k ++ [(k : Int)] else AHp l b k := by
  unfold AHp
  rw [List.range_succ, List.filter_append, List.map_append]
  cases h : AB l k b <;> simp [h]
theorem ahp_len (b k : Nat) : (AHp l b k).length ≤ k := by
  unfold AHp
  rw [List.length_map]
  exact Nat.le_trans (List.length_filter_le _ _) (by simp)
def AHs (b k : Nat) : List (List Int) := (List.range l.length).map fun j => if j < b then AHp l j l.length else if j = b then AHp l j k else []
theorem ahs_len (b k : Nat) : (AHs l b k).length = l.length := by simp [AHs]
theorem ahs_at (b k : Nat) (hb : b < l.length) : at_ (AHs l b k) (b : Int) = AHp l b k := by
  rw [at_nat _ b (by rw [ahs_len]; exact hb)]; simp [AHs]
theorem ahs_set (b k : Nat) (hb : b < l.length) : (AHs l b k).set b (AHp l b (k + 1)) = AHs l b (k + 1) := by
  apply List.ext_getElem?
  intro j
  by_cases hj : j = b
  · subst hj
    rw [List.getElem?_set_self (by rw [ahs_len]; exact hb)]
    simp [AHs, hb]
  · rw [List.getElem?_set_ne (by omega)]
    simp only [AHs, List.getElem?_map]
    by_cases hjl : j < l.length
    · rw [List.getElem?_range hjl]; simp [hj]
    · rw [List.getElem?_eq_none (by simp; omega)]; rfl
theorem ahs_same (b k : Nat) (hb : b < l.length) (h : AB l k b = false) : AHs l b k = AHs l b (k + 1) := by
  rw [← ahs_set l b k hb, ahp_succ, h]
  simp only [Bool.false_eq_true, if_false]
  rw [← ahs_at l b k hb, at_nat _ b (by rw [ahs_len]; exact hb), List.set_getElem_self]
theorem ahs_next (b : Nat) : AHs l b l.length = AHs l (b + 1) 0 := by
  unfold AHs
  refine List.map_congr_left fun j hj => ?_
  by_cases h1 : j < b
  · rw [if_pos h1, if_pos (by omega)]
  · by_cases h2 : j = b
    · subst h2; rw [if_neg h1, if_pos rfl, if_pos (by omega)]
    · rw [if_neg h1, if_neg h2, if_neg (by omega)]
      by_cases h3 : j = b + 1
      · rw [if_pos h3]; rfl
      · rw [if_neg h3]
theorem ahs_start : AHs l 0 0 = List.replicate l.length [] := by
  apply List.ext_getElem?
  intro j
  simp only [AHs, List.getElem?_map]
  by_cases hjl : j < l.length
  · rw [List.getElem?_range hjl, List.getElem?_replicate, if_pos hjl]
    by_cases h : j = 0
    · subst h; rfl
    · simp [h]
  · rw [List.getElem?_eq_none (by simp; omega), List.getElem?_replicate, if_neg hjl]; rfl
theorem ahs_end : AHs l l.length 0 = AH l := by
  unfold AHs AH
  refine List.map_congr_left fun j hj => ?_
  rw [if_pos (List.mem_range.1 hj)]
variable (hv : ∀ d ∈ l, VD d) (hl : l.length ≤ 100)
include hv hl
theorem impl_ahead : impl_ahead.f l = some (AH l) := by
  unfold impl_ahead.f
  rw [if_pos ⟨by omega, by simp only [Lim]; omega⟩]
  have hin : ∀ b, b < l.length → iter (impl_ahead.b1 l (AHs l b 0, (b : Int))) (AHs l b 0, (0 : Int)) = some (.inl (AHs l (b + 1) 0, ((b + 1 : Nat) : Int))) := fun b hb => by
    have := iter_for (body := impl_ahead.b1 l (AHs l b 0, (b : Int))) l.length (fun k => (AHs l b k, (k : Int))) (.inl (AHs l (b + 1) 0, ((b + 1 : Nat) : Int))) (fun k hk => ?_) ?_
    · exact this
    · unfold impl_ahead.b1
      simp only []
      rw [if_pos (show decide ((k : Int) < (l.length : Int)) = true by simp; omega)]
      have hm : ∀ j (hj : j < l.length), at_ l (j : Int) ∈ l := fun j hj => by rw [at_nat _ j hj]; exact List.getElem_mem _
      have hlen := ahp_len l b k
      by_cases hkb : k = b
      · subst hkb
        rw [if_neg (by simp), Option.bind_some, if_neg (by decide), Option.bind_some, ahs_same l k k hk (by simp [AB]), w64 (by omega) (by omega)]; rfl
      · rw [if_pos (show ((k : Int) != (b : Int)) = true by simp; omega), if_pos (show 0 ≤ (k : Int) ∧ (k : Int) < (l.length : Int) by omega), if_pos (show 0 ≤ (b : Int) ∧ (b : Int) < (l.length : Int) by omega), impl_isAhead _ _ (hv _ (hm k hk)) (hv _ (hm b hb)), Option.bind_some, Option.bind_some]
        have hab : AB l k b = EDG (at_ l (k : Int)) (at_ l (b : Int)) := by simp [AB, hkb]
        cases he : EDG (at_ l (k : Int)) (at_ l (b : Int)) with
        | false =>
          rw [he] at hab
          rw [if_neg (by decide), Option.bind_some, ahs_same l b k hb hab, w64 (by omega) (by omega)]; rfl
        | true =>
          rw [he] at hab
          rw [if_pos rfl, if_pos (by rw [ahs_len]; omega), ahs_at l b k hb, if_pos (by simp [Lim]; omega), if_pos (by rw [ahs_len]; omega), Option.bind_some, w64 (by omega) (by omega)]
          have hst : (AHs l b k).set (b : Int).toNat (AHp l b k ++ [(k : Int)]) = AHs l b (k + 1) := by
            rw [← ahs_set l b k hb, ahp_succ, hab, if_pos rfl]; simp
          rw [hst]; rfl
    · unfold impl_ahead.b1
      simp only []
      rw [if_neg (by simp), w64 (by omega) (by omega), ahs_next]; rfl
  have := iter_for (body := impl_ahead.b0 l) l.length (fun b => (AHs l b 0, (b : Int))) (AH l) (fun b hb => ?_) ?_
  · have e : List.replicate ((l.length : Int)).toNat ([] : List Int) = AHs l 0 0 := by rw [ahs_start]; simp
    rw [e]; exact this
  · unfold impl_ahead.b0
    simp only []
    rw [if_pos (show decide ((b : Int) < (l.length : Int)) = true by simp; omega), hin b hb]
  · unfold impl_ahead.b0
    simp only []
    rw [if_neg (by simp), ahs_end]; rfl
def EP (a k : Nat) : List A2Int := ((List.range k).filter fun b => AB l a b).map fun b : Nat => A2Int.mk (a : Int) (b : Int)
def EDs (m : Nat) : List A2Int := (List.range m).flatMap fun a => EP l a l.length
omit hv hl in
theorem ep_succ (a k : Nat) : EP l a (k + 1) = if AB l a k = true then EP l a k ++ [A2Int.mk (a : Int) (k : Int)] else EP l a k := by
  unfold EP
  rw [List.range_succ, List.filter_append, List.map_append]
  cases h : AB l a k <;> simp [h]
omit hv hl in
theorem ep_len (a k : Nat) : (EP l a k).length ≤ k := by
  unfold EP
  rw [List.length_map]
  exact Nat.le_trans (List.length_filter_le _ _) (by simp)
omit hv hl in
theorem eds_succ (m : Nat) : EDs l (m + 1) = EDs l m ++ EP l m l.length := by
  unfold EDs
  rw [List.range_succ, List.flatMap_append]; simp
omit hv in
theorem eds_len (m : Nat) : (EDs l m).length ≤ 100 * m := by
  induction m with
  | zero => simp [EDs]
  | succ m ih =>
    rw [eds_succ, List.length_append]
    have := ep_len l m l.length
    omega
end
end Go.Proofs.Ytcagjdngannneaa
