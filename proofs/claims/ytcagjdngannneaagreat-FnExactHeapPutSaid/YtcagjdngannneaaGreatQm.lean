
import Derived.Test.YtcagjdngannneaaGreatQl
set_option linter.unusedVariables false
set_option linter.unusedSimpArgs false
set_option linter.unusedSectionVars false
namespace Go.Proofs.YtcagjdngannneaaGreat
open Go V Ieee
def H0 : Heap := Heap.mk []
def hxs (h : Heap) (i : Int) : List Page := if i = (h.Pages.length : Int) then h.Pages ++ [P0] else h.Pages
def HW (h : Heap) (i : Int) (p : Page) : Heap := Heap.mk ((hxs h i).set i.toNat p)
theorem hxs_len (h : Heap) (i : Int) (hi : 0 ≤ i) (hj : i ≤ (h.Pages.length : Int)) : i < ((hxs h i).length : Int) := by
  unfold hxs; split
  · simp; omega
  · omega
theorem impl_with (h : Heap) (i : Int) (p : Page) (hh : okH h) (hi : 0 ≤ i) (hj : i ≤ (h.Pages.length : Int)) : impl_Heap_with.f h i p = some (HW h i p) := by
  unfold impl_Heap_with.f
  have h1 := hh.1
  have hst : ((0 : Int), ([] : List Page)) = (((0 : Nat) : Int), h.Pages.take 0) := rfl
  rw [hst]
  refine iter_for h.Pages.length (fun k => ((k : Int), h.Pages.take k)) _ (fun k hk => ?_) ?_
  · have hb := hh.2 _ (List.getElem_mem hk)
    unfold impl_Heap_with.b0
    simp only []
    rw [if_pos (by simp; omega), if_pos ⟨by omega, by omega⟩, at_nat _ k hk, slots_copy _ hb, Option.bind_some, if_pos (by simp [Lim]; omega), w64 (by omega) (by omega)]
    show some (Sum.inl (((k + 1 : Nat) : Int), h.Pages.take k ++ [h.Pages[k]])) = _
    rw [← List.take_succ_eq_append_getElem hk]
  · unfold impl_Heap_with.b0
    simp only []
    rw [if_neg (by simp), List.take_length]
    have e : (if (i == (h.Pages.length : Int)) = true then (if h.Pages.length + ([(Page.mk (0 : Int) ([] : (List (List Int))))]).length ≤ Lim then (some (h.Pages ++ [(Page.mk (0 : Int) ([] : (List (List Int))))])) else none) else (some h.Pages)) = some (hxs h i) := by
      unfold hxs
      by_cases he : i = (h.Pages.length : Int)
      · rw [if_pos (by simp [he]), if_pos he, if_pos (by simp [Lim]; omega)]; rfl
      · rw [if_neg (by simp [he]), if_neg he]
    rw [e, Option.bind_some, if_pos ⟨hi, hxs_len h i hi hj⟩]; rfl
def pgAt (h : Heap) (i : Int) : Page := if i = (h.Pages.length : Int) then P0 else at_ h.Pages i
theorem okP0 : okP P0 := ⟨i64_ok (by decide) (by decide), by simp [P0], fun b hb => by cases hb⟩
theorem pgAt_ok (h : Heap) (i : Int) (hh : okH h) (hi : 0 ≤ i) (hj : i ≤ (h.Pages.length : Int)) : okP (pgAt h i) := by
  unfold pgAt
  split
  · exact okP0
  · exact hh.2 _ (at_in _ i (rin_iff.2 ⟨hi, by omega⟩)).2.2
def HP (h : Heap) (i j : Int) (b : List Int) (n : Int) : Heap × Bool := if 0 ≤ i ∧ i ≤ (h.Pages.length : Int) ∧ i < 16 ∧ (PP (pgAt h i) j b n).2 = true then (HW h i (PP (pgAt h i) j b n).1, true) else (H0, false)
theorem impl_put (h : Heap) (i j : Int) (b : List Int) (n : Int) (hh : okH h) (h16 : h.Pages.length ≤ 16) (hb : okB b) (hn : InK .i64 n) : impl_Heap_put.f h i j b n = some (HP h i j b n) := by
  unfold impl_Heap_put.f HP
  rw [w64 (by omega) (by omega), within_rin, Option.bind_some]
  cases hr : rin i 0 ((h.Pages.length : Int) - 1) with
  | true =>
    have hi := rin_iff.1 hr
    have hne : ¬ i = (h.Pages.length : Int) := by omega
    have hpa : pgAt h i = at_ h.Pages i := if_neg hne
    have hok := pgAt_ok h i hh (by omega) (by omega)
    rw [if_pos rfl, if_pos ⟨by omega, by omega⟩, Option.bind_some, sel_inl]
    show ((impl_PagePut.f (at_ h.Pages i) j b n).bind _) = _
    rw [← hpa, impl_PagePut _ _ _ _ hok hb hn, Option.bind_some]
    by_cases hq : (PP (pgAt h i) j b n).2 = true
    · rw [hq, if_neg (by decide), impl_with h i _ hh (by omega) (by omega), if_pos ⟨by omega, by omega, by omega, rfl⟩]; rfl
    · rw [eq_false_of_ne_true hq, if_pos (by decide), if_neg (by simp)]; rfl
  | false =>
    rw [if_neg (by decide)]
    by_cases hne : i = (h.Pages.length : Int)
    · by_cases h6 : i < 16
      · rw [if_neg (by simp; omega), Option.bind_some, sel_inl]
        have hpa : pgAt h i = P0 := if_pos hne
        have hok := pgAt_ok h i hh (by omega) (by omega)
        show ((impl_PagePut.f P0 j b n).bind _) = _
        rw [← hpa, impl_PagePut _ _ _ _ hok hb hn, Option.bind_some]
        by_cases hq : (PP (pgAt h i) j b n).2 = true
        · rw [hq, if_neg (by decide), impl_with h i _ hh (by omega) (by omega), if_pos ⟨by omega, by omega, by omega, rfl⟩]; rfl
        · rw [eq_false_of_ne_true hq, if_pos (by decide), if_neg (by simp)]; rfl
      · rw [if_pos (by simp; omega), if_neg (fun hh => h6 hh.2.2.1)]; rfl
    · have hno : ¬ (0 ≤ i ∧ i ≤ (h.Pages.length : Int) - 1) := fun hh => by
        rw [rin_iff.2 hh] at hr; cases hr
      rw [if_pos (by simp; left; exact hne), if_neg (fun hh => hno ⟨hh.1, by omega⟩)]; rfl

noncomputable def HPut (h : Heap) (i j : Int) (t : Tuple) (n : Int) : Heap × Bool := if HOK h = true ∧ TOK t = true ∧ (HT h i j).2 = false then HP h i j (TB t) n else (H0, false)
theorem hok16 {h : Heap} (hk : HOK h = true) : h.Pages.length ≤ 16 := by
  unfold HOK at hk
  simp only [Bool.and_eq_true, decide_eq_true_eq] at hk
  exact hk.1
theorem tb_ok (t : Tuple) (ht : ok_Tuple t) : okB (TB t) := ⟨by have := tb_len t; omega, tb_u8 t ht⟩
theorem impl_HeapPut (h : Heap) (i j : Int) (t : Tuple) (n : Int) (hh : okH h) (ht : ok_Tuple t) (hn : InK .i64 n) : impl_HeapPut.f h i j t n = some (HPut h i j t n) := by
  unfold impl_HeapPut.f HPut
  rw [impl_at h i j hh, Option.bind_some, impl_HeapOk h hh, Option.bind_some, impl_TupleOk t ht, impl_TupleBytes t ht]
  cases hk : HOK h with
  | false => rw [if_neg (c := false = true ∧ _) (by simp)]; rfl
  | true =>
    cases TOK t with
    | false => rw [if_neg (c := true = true ∧ false = true ∧ _) (by simp)]; rfl
    | true =>
      cases (HT h i j).2 with
      | true => rw [if_neg (c := true = true ∧ true = true ∧ true = false) (by simp)]; rfl
      | false =>
        rw [if_neg (by decide), Option.bind_some, Option.bind_some, if_neg (by decide), Option.bind_some, impl_put h i j _ n hh (hok16 hk) (tb_ok t ht) hn, if_pos ⟨rfl, rfl, rfl⟩]; rfl
theorem hx_at (h : Heap) (i : Int) (hi : 0 ≤ i) (hj : i ≤ (h.Pages.length : Int)) : at_ (hxs h i) i = pgAt h i := by
  unfold hxs pgAt
  split
  · rename_i e
    rw [e, at_nat _ _ (by simp)]; simp
  · rfl
theorem spec_HeapPut (h : Heap) (i j : Int) (t : Tuple) (n : Int) (hh : okH h) (ht : ok_Tuple t) (hn : InK .i64 n) : spec_HeapPut.f h i j t n = some (HPut h i j t n) := by
  unfold spec_HeapPut.f HPut HP
  have h1 := hh.1
  rw [spec_HeapAt h i j hh, Option.bind_some, spec_HeapOk h hh, Option.bind_some, spec_TupleOk t ht, spec_TupleBytes t ht]
  unfold HA
  cases hk : HOK h with
  | false => rw [if_neg (c := false = true ∧ _) (by simp)]; rfl
  | true =>
    cases TOK t with
    | false => rw [if_neg (c := true = true ∧ false = true ∧ _) (by simp)]; rfl
    | true =>
      rw [if_pos rfl]
      cases (HT h i j).2 with
      | true => rw [if_neg (c := true = true ∧ true = true ∧ true = false) (by simp)]; rfl
      | false =>
        rw [if_neg (by decide), Option.bind_some, Option.bind_some, in_rin, if_neg (by decide), Option.bind_some, Option.bind_some, if_pos (c := true = true ∧ true = true ∧ false = false) ⟨rfl, rfl, rfl⟩]
        by_cases hr : rin i 0 (h.Pages.length : Int) = true
        · have hi := rin_iff.1 hr
          by_cases h6 : i < 16
          · rw [hr, if_neg (by simp; omega), spec_l10copy h hh, Option.bind_some]
            have e : (if (i == (h.Pages.length : Int)) = true then (if h.Pages.length + ([(Page.mk (0 : Int) ([] : (List (List Int))))]).length ≤ Lim then (some (h.Pages ++ [(Page.mk (0 : Int) ([] : (List (List Int))))])) else none) else (some h.Pages)) = some (hxs h i) := by
              unfold hxs
              by_cases he : i = (h.Pages.length : Int)
              · rw [if_pos (by simp [he]), if_pos he, if_pos (by simp [Lim]; omega)]; rfl
              · rw [if_neg (by simp [he]), if_neg he]
            have hl := hxs_len h i hi.1 hi.2
            rw [e, Option.bind_some, if_pos ⟨hi.1, hl⟩, Option.bind_some, hx_at h i hi.1 hi.2, spec_PagePut _ _ _ _ (pgAt_ok h i hh hi.1 hi.2) (tb_ok t ht) hn, Option.bind_some, Option.bind_some]
            by_cases hq : (PP (pgAt h i) j (TB t) n).2 = true
            · show (if (!(PP (pgAt h i) j (TB t) n).2) = true then _ else _) = _
              rw [hq, if_neg (by decide), if_pos ⟨hi.1, hl⟩, if_pos ⟨hi.1, hi.2, h6, rfl⟩]; rfl
            · show (if (!(PP (pgAt h i) j (TB t) n).2) = true then _ else _) = _
              rw [eq_false_of_ne_true hq, if_pos (by decide), if_neg (by simp)]; rfl
          · rw [if_pos (by simp; omega), if_neg (fun hh => h6 hh.2.2.1)]; rfl
        · rw [eq_false_of_ne_true hr, if_pos (by simp), if_neg (fun hh => hr (rin_iff.2 ⟨hh.1, hh.2.1⟩))]; rfl

noncomputable def TM (h : Heap) (i j x : Int) : Tuple := Tuple.mk (HA h i j).1.Xmin x (HA h i j).1.Key (HA h i j).1.Value
noncomputable def HMk (h : Heap) (i j x n : Int) : Heap × Bool := if (HA h i j).2 = true ∧ rin x 0 400 = true ∧ rin n 1 1000000 = true then (Heap.mk (h.Pages.set i.toNat (Page.mk n ((at_ h.Pages i).Slots.set j.toNat (TB (TM h i j x))))), true) else (H0, false)
theorem ha_yes {h : Heap} {i j : Int} (hy : (HA h i j).2 = true) : HOK h = true ∧ rin i 0 ((h.Pages.length : Int) - 1) = true ∧ rin j 0 (((at_ h.Pages i).Slots.length : Int) - 1) = true ∧ TB (HA h i j).1 = at_ (at_ h.Pages i).Slots j ∧ TOK (HA h i j).1 = true := by
  unfold HA at hy ⊢
  by_cases hk : HOK h = true
  · rw [if_pos hk] at hy ⊢
    unfold HT at hy ⊢
    by_cases hr : rin i 0 ((h.Pages.length : Int) - 1) = true ∧ rin j 0 (((at_ h.Pages i).Slots.length : Int) - 1) = true
    · rw [if_pos hr] at hy ⊢
      unfold TR at hy ⊢
      generalize at_ (at_ h.Pages i).Slots j = b at hy ⊢
      by_cases hc : 10 + x8 b ≤ b.length ∧ (RK b).2 = true ∧ (RV b).2 = true ∧ TB (TT b) = b
      · rw [if_pos hc]
        refine ⟨hk, hr.1, hr.2, hc.2.2.2, ?_⟩
        cases hh : TOK (TT b) with
        | true => rfl
        | false =>
          have he := hc.2.2.2
          unfold TB at he
          rw [if_neg (by rw [hh]; decide)] at he
          have := hc.1
          rw [← he] at this; simp at this
      · rw [if_neg hc] at hy; cases hy
    · rw [if_neg hr] at hy; cases hy
  · rw [if_neg hk] at hy; cases hy
theorem pn4_eq (n : Int) (h : rin n 0 400 = true) : (PN n 4).length = 4 := by
  have := rin_iff.1 h
  unfold PN
  rw [if_pos]
  · exact le_len _ _
  · refine ⟨by decide, by decide, this.1, ?_⟩
    have e : (4 : Int).toNat = 4 := rfl
    rw [e]
    have : n.toNat < 256 ^ 4 := by
      have : (256 : Nat) ^ 4 = 4294967296 := by decide
      omega
    exact Nat.div_eq_of_lt this
theorem tok_parts {t : Tuple} (h : TOK t = true) : rin t.Xmin 1 400 = true ∧ rin t.Xmax 0 400 = true ∧ KOK t.Key = true ∧ IOK t.Value = true ∧ (t.Value.Kind != (0 : Int)) = true := by
  unfold TOK at h
  simp only [Bool.and_eq_true] at h
  exact ⟨h.1.1.1.1, h.1.1.1.2, h.1.1.2, h.1.2, h.2⟩
theorem tb_mark (t : Tuple) (x : Int) (h : TOK t = true) (hx : rin x 0 400 = true) : TOK (Tuple.mk t.Xmin x t.Key t.Value) = true ∧ (TB (Tuple.mk t.Xmin x t.Key t.Value)).length = (TB t).length := by
  have hp := tok_parts h
  have h2 : TOK (Tuple.mk t.Xmin x t.Key t.Value) = true := by
    unfold TOK
    simp only [hp.1, hx, hp.2.2.1, hp.2.2.2.1, hp.2.2.2.2, Bool.and_self]
  refine ⟨h2, ?_⟩
  unfold TB
  rw [if_pos h, if_pos h2]
  simp only [List.length_append, pn4_eq x hx, pn4_eq t.Xmax hp.2.1]
theorem hpad {l : List (List Int)} {j : Int} (h : rin j 0 ((l.length : Int) - 1) = true) : j.toNat < l.length := by
  have := rin_iff.1 h; omega
theorem lsum_set (l : List (List Int)) (i : Nat) (b : List Int) (hi : i < l.length) (h : b.length = l[i].length) : (l.set i b).map List.length = l.map List.length := by
  rw [List.map_set, h]
  apply List.ext_getElem
  · simp
  · intro k h1 h2
    rw [List.getElem_set]
    split
    · rename_i e; subst e; simp
    · rfl
theorem pg_set (p : Page) (i : Nat) (b : List Int) (n : Int) (hi : i < p.Slots.length) (h : b.length = p.Slots[i].length) (hn : rin n 0 1000000 = true) (hp : PG p = true) : PG (PS p i b n) = true := by
  have hm := lsum_set p.Slots i b hi h
  have e1 : lsum (p.Slots.set i b) = lsum p.Slots := by unfold lsum; rw [hm]
  unfold PG at hp ⊢
  unfold PS
  rw [pad_id _ _ hi]
  simp only [Bool.and_eq_true, decide_eq_true_eq, List.length_set, e1, List.all_eq_true] at hp ⊢
  refine ⟨⟨⟨⟨hn, hp.1.1.1.2⟩, ?_⟩, ?_⟩, hp.2⟩
  · intro y hy
    rcases List.mem_or_eq_of_mem_set hy with hy | rfl
    · exact hp.1.1.2 y hy
    · rw [h]; exact hp.1.1.2 _ (List.getElem_mem hi)
  · have hl := hp.1.2
    simp only [Bool.not_eq_true', decide_eq_false_iff_not] at hl ⊢
    intro hc
    apply hl
    have e2 : ((p.Slots.set i b).map List.length).getLast? = (p.Slots.map List.length).getLast? := by rw [hm]
    rw [List.getLast?_map, List.getLast?_map, hc] at e2
    cases hq : p.Slots.getLast? with
    | none => rw [hq] at e2; cases e2
    | some y =>
      rw [hq] at e2
      have : y.length = 0 := (Option.some.inj e2).symm
      cases y with
      | nil => rfl
      | cons a l => cases this
theorem ha_ok (h : Heap) (i j : Int) (hh : okH h) : ok_Tuple (HA h i j).1 := by
  unfold HA
  split
  · unfold HT
    split
    · rename_i hr
      exact tr_ok _ ((hh.2 _ (at_in _ _ hr.1).2.2).2.2 _ (at_in _ _ hr.2).2.2).2
    · exact ok_T0
  · exact ok_T0
theorem tm_ok (h : Heap) (i j x : Int) (hh : okH h) (hx : InK .i64 x) : ok_Tuple (TM h i j x) := by
  have := ha_ok h i j hh
  exact ⟨this.1, hx, this.2.2.1, this.2.2.2⟩
theorem pok_pg {h : Heap} (hk : HOK h = true) (p : Page) (hp : p ∈ h.Pages) : PG p = true := by
  unfold HOK at hk
  simp only [Bool.and_eq_true, List.all_eq_true] at hk
  have := hk.2 p hp
  unfold POK at this
  simp only [Bool.and_eq_true] at this
  exact this.1
theorem mark_put (h : Heap) (i j x n : Int) (hh : okH h) (hy : (HA h i j).2 = true) (hx : rin x 0 400 = true) (hn : rin n 1 1000000 = true) :
    PP (at_ h.Pages i) j (TB (TM h i j x)) n = (Page.mk n ((at_ h.Pages i).Slots.set j.toNat (TB (TM h i j x))), true) := by
  obtain ⟨hk, hi, hj, hb, ht⟩ := ha_yes hy
  have hm := (at_in _ _ hi).2.2
  have hpg := pok_pg hk _ hm
  have hjn := hpad hj
  have hjr := rin_iff.1 hj
  have hlen := (tb_mark (HA h i j).1 x ht hx).2
  have hnr := rin_iff.1 hn
  have hjj : j = ((j.toNat : Nat) : Int) := by omega
  have e : (TB (TM h i j x)).length = ((at_ h.Pages i).Slots[j.toNat]).length := by
    show (TB (Tuple.mk _ x _ _)).length = _
    rw [hlen, hb]
    have := at_nat _ _ hjn
    rw [← hjj] at this
    rw [this]
  have hpos : (TB (TM h i j x)).length ≠ 0 := by
    show (TB (Tuple.mk _ x _ _)).length ≠ 0
    rw [hlen]
    unfold TB
    rw [if_pos ht]
    simp
  have h16 : (at_ h.Pages i).Slots.length ≤ 16 := by
    unfold PG at hpg
    simp only [Bool.and_eq_true, decide_eq_true_eq] at hpg
    exact hpg.1.1.1.2
  have hps := pg_set (at_ h.Pages i) j.toNat (TB (TM h i j x)) n hjn e (rin_iff.2 ⟨by omega, by omega⟩) hpg
  unfold PP
  rw [if_pos ⟨hpg, rin_iff.2 ⟨by omega, by omega⟩, hpos, hn, hps⟩]
  unfold PS
  rw [pad_id _ _ hjn]
theorem spec_HeapMark (h : Heap) (i j x n : Int) (hh : okH h) (hx : InK .i64 x) (hn : InK .i64 n) : spec_HeapMark.f h i j x n = some (HMk h i j x n) := by
  unfold spec_HeapMark.f HMk
  rw [spec_HeapAt h i j hh, Option.bind_some, in_rin, in_rin]
  cases hy : (HA h i j).2 with
  | false => rw [if_neg (c := false = true ∧ _) (by simp)]; rfl
  | true =>
    cases hxr : rin x 0 400 with
    | false => rw [if_neg (c := true = true ∧ false = true ∧ _) (by simp)]; rfl
    | true =>
      cases hnr : rin n 1 1000000 with
      | false => rfl
      | true =>
        obtain ⟨hk, hi, hj, hb, ht⟩ := ha_yes hy
        obtain ⟨a, b, m⟩ := at_in _ _ hi
        rw [if_neg (by decide), Option.bind_some, Option.bind_some, if_neg (by decide), Option.bind_some, if_neg (by decide), spec_l10copy h hh, Option.bind_some, if_pos ⟨a, b⟩]
        have e := spec_TupleBytes _ (tm_ok h i j x hh hx)
        have hpp := mark_put h i j x n hh hy hxr hnr
        show (((spec_TupleBytes.f (TM h i j x)).bind _).bind _) = _
        rw [e, Option.bind_some, spec_PagePut _ _ _ _ (hh.2 _ m) (tb_ok _ (tm_ok h i j x hh hx)) hn, Option.bind_some, Option.bind_some, hpp, if_pos ⟨a, b⟩, if_pos ⟨rfl, rfl, rfl⟩]
theorem impl_HeapMark (h : Heap) (i j x n : Int) (hh : okH h) (hx : InK .i64 x) (hn : InK .i64 n) : impl_HeapMark.f h i j x n = some (HMk h i j x n) := by
  unfold impl_HeapMark.f HMk
  rw [impl_HeapAt h i j hh, Option.bind_some, within_rin]
  cases hy : (HA h i j).2 with
  | false => rw [if_neg (c := false = true ∧ _) (by simp)]; rfl
  | true =>
    cases hxr : rin x 0 400 with
    | false => rw [if_neg (c := true = true ∧ false = true ∧ _) (by simp)]; rfl
    | true =>
      obtain ⟨hk, hi, hj, hb, ht⟩ := ha_yes hy
      obtain ⟨a, b, m⟩ := at_in _ _ hi
      have h16 := hok16 hk
      rw [if_neg (by decide), Option.bind_some, Option.bind_some, if_neg (by decide)]
      have e := impl_TupleBytes _ (tm_ok h i j x hh hx)
      show ((impl_TupleBytes.f (TM h i j x)).bind _) = _
      rw [e, Option.bind_some, impl_put h i j _ n hh h16 (tb_ok _ (tm_ok h i j x hh hx)) hn, Option.bind_some]
      have hne : ¬ i = (h.Pages.length : Int) := by omega
      have hpa : pgAt h i = at_ h.Pages i := if_neg hne
      unfold HP
      rw [hpa]
      cases hnr : rin n 1 1000000 with
      | false =>
        have hno : (PP (at_ h.Pages i) j (TB (TM h i j x)) n).2 = false := by
          unfold PP
          rw [if_neg (fun hc => by rw [hnr] at hc; exact absurd hc.2.2.2.1 (by decide))]
        rw [hno, if_neg (by simp), if_neg (by simp)]
      | true =>
        have hpp := mark_put h i j x n hh hy hxr hnr
        rw [hpp, if_pos ⟨a, by omega, by omega, rfl⟩, if_pos ⟨rfl, rfl, rfl⟩]
        unfold HW hxs
        rw [if_neg hne]
end Go.Proofs.YtcagjdngannneaaGreat
