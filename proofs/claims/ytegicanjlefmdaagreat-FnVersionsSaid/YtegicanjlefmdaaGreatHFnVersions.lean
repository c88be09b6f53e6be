import Derived.Test.YtegicanjlefmdaaGreatP2
/- FnVersions' model is true at every input. -/
set_option linter.unusedVariables false
set_option linter.unusedSimpArgs false
namespace Go.Proofs.YtegicanjlefmdaaGreat
open Go V Ieee
theorem DrawHeapVersions_ok (a : List Int) (h : a.length ≤ 1048576) : Ok (spec_DrawHeapVersions.f a) fun r => okH r.1 ∧ ok_Item r.2 := by
  unfold spec_DrawHeapVersions.f
  refine Ok.bind (l1New_ok a h) fun c hc => Ok.bind (l1Size_ok a 14 h (by omega)) fun m hm => Ok.bind (l10heap_ok c m hc.2 hm.1 (by omega)) fun hp hhp => Ok.bind (l3key_ok (l1Cur.mk c.b hp.2.i hp.2.h) hhp.2) fun k hk => Ok.bind (l1Once_ok (l1Cur.mk c.b k.2.i k.2.h) 12 hk.2 (by omega)) fun o ho => ?_
  exact Ok.bind (P := fun y => ok_Item (Item.mk y.1 y.2.1 y.2.2.1 y.2.2.2)) (Ok.ite (fun _ => Ok.bind (l3any_ok (l1Cur.mk c.b o.2.i o.2.h) ho) fun q hq => Ok.ret hq.1.1) fun _ => Ok.ret hk.1.1) fun u hu => Ok.ret ⟨hhp.1, hu⟩
theorem l8list_ok (c : l1Cur) (m : Int) (h : Ci c.b c.i) (h0 : 0 ≤ m) (hm : m ≤ 1000) : Ok (spec_l8list.f c m) fun r => Ci c.b r.2.i := by
  unfold spec_l8list.f
  rw [w64 (by omega) (by omega)]
  refine Ok.bind (l1Below_ok c _ h (by omega)) fun r hr => ?_
  obtain ⟨r1, r2, r3⟩ := hr
  refine Ok.iter (fun s => 0 ≤ s.2.1 ∧ s.2.1 + (s.1.length : Int) ≤ 1001 ∧ Ci c.b s.2.2.1) (fun s => s.2.1.toNat) (fun s hs => ?_) _ ⟨r1, by show r.1 + ((([] : List Int)).length : Int) ≤ 1001; simp; omega, r3⟩
  obtain ⟨s1, s2, s3⟩ := hs
  unfold spec_l8list.b0
  refine Ok.ite (fun hc => ?_) fun _ => Ok.out (Ok.ret s3)
  have hc' : s.2.1 > 0 := by simpa using hc
  refine Ok.bind (l1Below_ok (l1Cur.mk c.b s.2.2.1 s.2.2.2) 3 s3 (by omega)) fun p hp => Ok.bind (l1Once_ok (l1Cur.mk c.b p.2.i p.2.h) 40 hp.2.2 (by omega)) fun o ho => ?_
  refine Ok.bind (P := fun y => Ci c.b y.2.1) (Ok.ite (fun _ => Ok.bind (l1PickInt_ok (l1Cur.mk c.b o.2.i o.2.h) _ ho (by simp)) fun q hq => Ok.ret hq.2) fun _ => Ok.ret ho) fun y hy => Ok.grd (by simp only [Lim, List.length_singleton]; omega) (Ok.ret ?_)
  show (_ ∧ _ ∧ _) ∧ _
  simp only [List.length_append, List.length_singleton]
  rw [w64 (n := s.2.1 - 1) (by omega) (by omega)]
  exact ⟨⟨by omega, by omega, hy⟩, by omega⟩
theorem DrawHeapDead_ok (a : List Int) (h : a.length ≤ 1048576) : Ok (spec_DrawHeapDead.f a) fun r => True := by
  unfold spec_DrawHeapDead.f
  exact Ok.bind (l1New_ok a h) fun c hc => Ok.bind (l1Size_ok a 14 h (by omega)) fun m hm => Ok.bind (l10heap_ok c m hc.2 hm.1 (by omega)) fun hp hhp => Ok.bind (l8list_ok (l1Cur.mk c.b hp.2.i hp.2.h) 12 hhp.2 (by omega) (by omega)) fun l hl => Ok.bind (l1Below_ok (l1Cur.mk c.b l.2.i l.2.h) 13 hl (by omega)) fun z _ => Ok.ret trivial
theorem DrawTupleBytes_ok (a : List Int) (h : a.length ≤ 1048576) : Ok (spec_DrawTupleBytes.f a) ok_Tuple := by
  unfold spec_DrawTupleBytes.f
  refine Ok.bind (l1New_ok a h) fun c hc => Ok.bind (l6tuple_ok c hc.2) fun t ht => Ok.bind (l1Once_ok (l1Cur.mk c.b t.2.i t.2.h) 8 ht.2 (by omega)) fun o ho => ?_
  exact Ok.bind (P := fun y => ok_Item (Item.mk y.1 y.2.1 y.2.2.1 y.2.2.2)) (Ok.ite (fun _ => Ok.bind (l3any_ok (l1Cur.mk c.b o.2.i o.2.h) ho) fun q hq => Ok.ret hq.1.1) fun _ => Ok.ret ht.1.2.2.1) fun u hu => Ok.ret ⟨ht.1.1, ht.1.2.1, hu, ht.1.2.2.2⟩
theorem sameItem_self (a : Item) (h : okF a.F) : laws_sameItem.f a a = some true := by
  unfold laws_sameItem.f
  rw [spec_FloatBits a.F h]
  simp
theorem sameTuple_self (t : Tuple) (h : ok_Tuple t) : laws_sameTuple.f t t = some true := by
  unfold laws_sameTuple.f
  rw [sameItem_self _ h.2.2.1.2.2.1, sameItem_self _ h.2.2.2.2.2.1]
  simp
theorem filter_at {α : Type} (p : α → Bool) : ∀ (l : List α) (i : Nat) (h : i < l.length), p l[i] = true → (l.filter p)[((l.take i).filter p).length]? = some l[i]
  | [], i, h, _ => absurd h (by simp)
  | x :: l, 0, h, hp => by
    simp only [List.getElem_cons_zero] at hp
    simp [List.filter_cons, hp]
  | x :: l, i + 1, h, hp => by
    simp only [List.getElem_cons_succ, List.take_succ_cons] at hp ⊢
    have := filter_at p l i (by simpa using h) hp
    rw [List.filter_cons, List.filter_cons]
    split
    · rw [List.length_cons, List.getElem?_cons_succ]; exact this
    · exact this
theorem filter_take_succ {α : Type} (p : α → Bool) (l : List α) (i : Nat) (h : i < l.length) : (((l.take (i + 1)).filter p).length : Int) = ((l.take i).filter p).length + (if p l[i] = true then 1 else 0) := by
  rw [List.take_succ_eq_append_getElem h, List.filter_append, List.length_append, List.filter_cons]
  split <;> simp
theorem filter_take_le {α : Type} (p : α → Bool) (l : List α) (i : Nat) : ((l.take i).filter p).length ≤ l.length := Nat.le_trans (List.length_filter_le _ _) (by simp; omega)
theorem laws_FnVersions_true (a0 : (List Int)) (h0 : (a0.length ≤ maxLen ∧ ∀ y ∈ a0, InK .u8 y)) : laws_FnVersions.f a0 = some true := by
  unfold laws_FnVersions.f laws_big.f
  rw [Option.bind_some]
  by_cases hbig : a0.length ≤ 1048576
  · rw [if_neg (by simp; omega)]
    obtain ⟨D, eD, hD1, hD2⟩ := DrawHeapVersions_ok a0 hbig
    obtain ⟨E, eE, _⟩ := DrawHeapDead_ok a0 hbig
    obtain ⟨t, et, ht⟩ := DrawTupleBytes_ok a0 hbig
    rw [eD, Option.bind_some, eE, Option.bind_some, spec_HeapRows _ hD1, Option.bind_some, impl_HeapVersions _ _ hD1 hD2, Option.bind_some, impl_HeapDead _ _ _ hD1, Option.bind_some]
    obtain ⟨h, key⟩ := D
    obtain ⟨h', l, z⟩ := E
    simp only [] at hD1 hD2 ⊢
    have hro := rows_g h hD1
    have hlen := rows_256 h
    have hst : ((0 : Int), (0 : Int), (0 : Int)) = (((((ROWS h).take 0).filter fun r => KOK key && decide (r.Tuple.Key = key)).length : Int), ((((ROWS h).take 0).filter fun r => DD l r.Tuple.Xmin r.Tuple.Xmax z).length : Int), ((0 : Nat) : Int)) := rfl
    have hv : (if KOK key = true then (ROWS h).filter (fun r => decide (r.Tuple.Key = key)) else []) = (ROWS h).filter (fun r => KOK key && decide (r.Tuple.Key = key)) := by
      cases KOK key <;> simp
    rw [hv, hst]
    generalize hrs : ROWS h = rs at hro hlen
    refine iter_for rs.length (fun i => (((((rs.take i).filter fun r => KOK key && decide (r.Tuple.Key = key)).length : Int), (((rs.take i).filter fun r => DD l r.Tuple.Xmin r.Tuple.Xmax z).length : Int), (i : Int)))) _ (fun i hi => ?_) ?_
    · have hr := hro _ (List.getElem_mem hi)
      have g : (0 : Int) ≤ (i : Int) ∧ (i : Int) < (rs.length : Int) := ⟨by omega, by omega⟩
      have e2 : ∀ x : Tuple, Tuple.mk x.Xmin x.Xmax x.Key x.Value = x := fun _ => rfl
      have s1 := filter_take_succ (fun r : Row => KOK key && decide (r.Tuple.Key = key)) rs i hi
      have s2 := filter_take_succ (fun r : Row => DD l r.Tuple.Xmin r.Tuple.Xmax z) rs i hi
      have a1 := filter_at (fun r : Row => KOK key && decide (r.Tuple.Key = key)) rs i hi
      have a2 := filter_at (fun r : Row => DD l r.Tuple.Xmin r.Tuple.Xmax z) rs i hi
      have l1 := filter_take_le (fun r : Row => KOK key && decide (r.Tuple.Key = key)) rs i
      have l2 := filter_take_le (fun r : Row => DD l r.Tuple.Xmin r.Tuple.Xmax z) rs i
      rw [s1, s2]
      generalize (rs.take i).filter (fun r : Row => KOK key && decide (r.Tuple.Key = key)) = V1 at *
      generalize (rs.take i).filter (fun r : Row => DD l r.Tuple.Xmin r.Tuple.Xmax z) = W1 at *
      generalize rs.filter (fun r : Row => KOK key && decide (r.Tuple.Key = key)) = V2 at *
      generalize rs.filter (fun r : Row => DD l r.Tuple.Xmin r.Tuple.Xmax z) = W2 at *
      unfold laws_FnVersions.b0
      simp only []
      rw [if_pos (by simp; omega), if_pos g, spec_KeyOk _ hD2.2.2.1, Option.bind_some, at_nat _ i hi, sameItem_eq _ _ hr.1.2.2.1 hD2, Option.bind_some, spec_Dead]
      have eb : (if KOK key = true then (some (decide (rs[i].Tuple.Key = key))) else some false) = some (KOK key && decide (rs[i].Tuple.Key = key)) := by cases KOK key <;> rfl
      rw [eb, Option.bind_some]
      cases hb1 : (KOK key && decide (rs[i].Tuple.Key = key)) with
      | false =>
        rw [if_neg (by decide), Option.bind_some, sel_inl, Option.bind_some]
        cases hb2 : DD l rs[i].Tuple.Xmin rs[i].Tuple.Xmax z with
        | false => rw [if_neg (by decide), Option.bind_some, sel_inl, w64 (n := (i : Int) + 1) (by omega) (by omega)]; simp
        | true =>
          obtain ⟨hlt, hget⟩ := List.getElem?_eq_some_iff.1 (a2 hb2)
          rw [if_pos rfl, if_neg (by simp; omega), if_pos ⟨by omega, by omega⟩, if_pos g, at_nat _ _ hlt, hget, if_neg (by simp), if_pos ⟨by omega, by omega⟩, if_pos g, Option.bind_some, Option.bind_some, if_neg (by simp), Option.bind_some, sel_inl, w64 (n := (i : Int) + 1) (by omega) (by omega), w64 (by omega) (by omega)]; simp
      | true =>
        obtain ⟨hlt1, hget1⟩ := List.getElem?_eq_some_iff.1 (a1 hb1)
        rw [if_pos rfl, if_neg (by simp; omega), if_pos ⟨by omega, by omega⟩, at_nat _ _ hlt1, hget1, e2, sameTuple_self _ hr.1, Option.bind_some, Option.bind_some, if_neg (by decide), Option.bind_some, sel_inl, Option.bind_some]
        cases hb2 : DD l rs[i].Tuple.Xmin rs[i].Tuple.Xmax z with
        | false => rw [if_neg (by decide), Option.bind_some, sel_inl, w64 (n := (i : Int) + 1) (by omega) (by omega), w64 (by omega) (by omega)]; simp
        | true =>
          obtain ⟨hlt, hget⟩ := List.getElem?_eq_some_iff.1 (a2 hb2)
          rw [if_pos rfl, if_neg (by simp; omega), if_pos ⟨by omega, by omega⟩, if_pos g, at_nat _ _ hlt, hget, if_neg (by simp), if_pos ⟨by omega, by omega⟩, if_pos g, Option.bind_some, Option.bind_some, if_neg (by simp), Option.bind_some, sel_inl, w64 (n := (i : Int) + 1) (by omega) (by omega), w64 (by omega) (by omega), w64 (by omega) (by omega)]; simp
    · unfold laws_FnVersions.b0
      simp only []
      rw [if_neg (by simp), List.take_length, if_neg (by simp), et, Option.bind_some, spec_TupleOk t ht, Option.bind_some]
      cases hT : TOK t with
      | false => rfl
      | true =>
        rw [if_neg (by decide), spec_HeapOk h hD1, Option.bind_some, Option.bind_some]
        cases hk : HOK h with
        | false => rfl
        | true =>
          rw [if_neg (by decide), spec_TupleBytes t ht, Option.bind_some]
          obtain ⟨pl, epl, hpl⟩ := impl_HeapPlace_ok h t hD1 hk ht hT
          rw [epl, Option.bind_some]
          rcases hpl with ⟨p1, p2⟩ | ⟨p1, p2⟩
          · rw [if_pos (by simpa using p1), p2]; rfl
          · rw [if_neg (by simp; omega), impl_HeapPut h pl.1 pl.2 t 9 hD1 ht (by exact i64_ok (by decide) (by decide)), Option.bind_some, p2]; rfl
  · rw [if_pos (by simp; omega)]
end Go.Proofs.YtegicanjlefmdaaGreat
