import Derived.Test.YtegicanjlefmdaaGreatP1
/- FnHeaps' model is true at every input. -/
set_option linter.unusedVariables false
set_option linter.unusedSimpArgs false
namespace Go.Proofs.YtegicanjlefmdaaGreat
open Go V Ieee
theorem DrawHeapPut_ok (a : List Int) (h : a.length ≤ 1048576) : Ok (spec_DrawHeapPut.f a) fun r => okH r.1 ∧ ok_Tuple r.2.2.2.1 ∧ InK .i64 r.2.2.2.2 := by
  unfold spec_DrawHeapPut.f
  refine Ok.bind (l1New_ok a h) fun c hc => Ok.bind (l1Size_ok a 10 h (by omega)) fun m hm => Ok.bind (l10heap_ok c m hc.2 hm.1 (by omega)) fun hp hhp => Ok.bind (l6tuple_ok (l1Cur.mk c.b hp.2.i hp.2.h) hhp.2) fun t ht => ?_
  have htl := tb_len t.1
  refine Ok.bind (Ok.eq (spec_TupleBytes t.1 ht.1) (P := fun b => b = TB t.1) rfl) fun b hb => ?_
  subst hb
  refine Ok.bind (spec_HeapPlace_ok _ _ hhp.1 (i64_ok (by omega) (by omega))) fun pl _ => Ok.bind (l1Once_ok (l1Cur.mk c.b t.2.i t.2.h) 4 ht.2 (by omega)) fun o ho => ?_
  refine Ok.bind (P := fun y => Ci c.b y.2.2.1) (Ok.ite (fun _ => Ok.bind (l10spot_ok (l1Cur.mk c.b o.2.i o.2.h) _ ho hhp.1) fun q hq => Ok.ret hq) fun _ => Ok.ret ho) fun y hy => ?_
  refine Ok.bind (l1Below_ok (l1Cur.mk c.b y.2.2.1 y.2.2.2) 60 hy (by omega)) fun v hv => Ok.bind (l1Once_ok (l1Cur.mk c.b v.2.i v.2.h) 12 hv.2.2 (by omega)) fun o2 ho2 => ?_
  refine Ok.bind (P := fun y => InK .i64 y.1 ∧ Ci c.b y.2.1) (Ok.ite (fun _ => Ok.bind (l1PickInt_ok (l1Cur.mk c.b o2.2.i o2.2.h) _ ho2 (by simp)) fun q hq => Ok.ret ⟨?_, hq.2⟩) fun _ => Ok.ret ⟨i64w _, ho2⟩) fun z hz => ?_
  · have := hq.1
    simp only [List.mem_cons, List.not_mem_nil, or_false] at this
    exact i64_ok (by show _ ≤ q.1; omega) (by show q.1 ≤ _; omega)
  refine Ok.bind (l1Once_ok (l1Cur.mk c.b z.2.1 z.2.2) 12 hz.2 (by omega)) fun o3 ho3 => ?_
  exact Ok.bind (P := fun y => ok_Item (Item.mk y.1 y.2.1 y.2.2.1 y.2.2.2)) (Ok.ite (fun _ => Ok.bind (l3any_ok (l1Cur.mk c.b o3.2.i o3.2.h) ho3) fun q hq => Ok.ret hq.1.1) fun _ => Ok.ret ht.1.2.2.1) fun u hu => Ok.ret ⟨hhp.1, ⟨ht.1.1, ht.1.2.1, hu, ht.1.2.2.2⟩, hz.1⟩
theorem sameItem_self (a : Item) (h : okF a.F) : laws_sameItem.f a a = some true := by
  unfold laws_sameItem.f
  rw [spec_FloatBits a.F h]
  simp
theorem sameTuple_self (t : Tuple) (h : ok_Tuple t) : laws_sameTuple.f t t = some true := by
  unfold laws_sameTuple.f
  rw [sameItem_self _ h.2.2.1.2.2.1, sameItem_self _ h.2.2.2.2.2.1]
  simp
theorem one_row (i k : Nat) (b : List Int) (hb : okB b) : ∀ r ∈ one i k b, ok_Tuple r.Tuple := by
  unfold one
  intro r hr
  split at hr
  · rw [List.mem_singleton.1 hr]; exact tr_ok b hb.2
  · cases hr
theorem RS_row (i : Nat) : ∀ (l : List (List Int)) (k : Nat), (∀ b ∈ l, okB b) → ∀ r ∈ RS i k l, ok_Tuple r.Tuple
  | [], _, _ => fun r hr => by cases hr
  | b :: l, k, h => fun r hr => by
    rcases List.mem_append.1 (show r ∈ one i k b ++ RS i (k + 1) l from hr) with hr | hr
    · exact one_row i k b (h b (by simp)) r hr
    · exact RS_row i l (k + 1) (fun b hb => h b (by simp [hb])) r hr
theorem RP_row : ∀ (l : List Page) (k : Nat), (∀ p ∈ l, okP p) → ∀ r ∈ RP k l, ok_Tuple r.Tuple
  | [], _, _ => fun r hr => by cases hr
  | p :: l, k, h => fun r hr => by
    rcases List.mem_append.1 (show r ∈ RS k 0 p.Slots ++ RP (k + 1) l from hr) with hr | hr
    · exact RS_row k _ 0 (h p (by simp)).2.2 r hr
    · exact RP_row l (k + 1) (fun b hb => h b (by simp [hb])) r hr
theorem rows_ok (h : Heap) (hh : okH h) : ∀ r ∈ ROWS h, ok_Tuple r.Tuple := by
  unfold ROWS
  split
  · exact RP_row _ _ hh.2
  · intro r hr; cases hr
theorem laws_FnHeaps_true (a0 : (List Int)) (h0 : (a0.length ≤ maxLen ∧ ∀ y ∈ a0, InK .u8 y)) : laws_FnHeaps.f a0 = some true := by
  unfold laws_FnHeaps.f laws_big.f
  rw [Option.bind_some]
  by_cases hbig : a0.length ≤ 1048576
  · rw [if_neg (by simp; omega)]
    obtain ⟨D, eD, hD1, hD2, hD3⟩ := DrawHeapPut_ok a0 hbig
    rw [eD, Option.bind_some, spec_HeapRows _ hD1, Option.bind_some, impl_HeapPut _ _ _ _ _ hD1 hD2 hD3, Option.bind_some, spec_HeapPut _ _ _ _ _ hD1 hD2 hD3, Option.bind_some, if_neg (by simp)]
    obtain ⟨h, i, j, t, n⟩ := D
    simp only [] at hD1 hD2 hD3 ⊢
    by_cases hy : (HPut h i j t n).2 = true
    · obtain ⟨xr, ex, x0, x255⟩ := lawAt a0 0 hbig h0.2 (by omega) (by omega)
      have hxt := tmod_lt (a := xr) (n := 9) x0 (by omega)
      have hw : IntKind.wrap .i64 (1 + xr.tmod 9) = 1 + xr.tmod 9 := w64 (by omega) (by omega)
      have hx : rin (1 + xr.tmod 9) 0 400 = true := rin_iff.2 (by omega)
      have hxI : InK .i64 (1 + xr.tmod 9) := i64_ok (by omega) (by omega)
      obtain ⟨s1, s2, s3, s4, s5, s6, s7, s8⟩ := heap_story hD1 hD2 hD3 hx hy
      have hg := okH_hput h i j t n hD1 hD2 hD3
      have hmk := impl_HeapMark (HPut h i j t n).1 i j (1 + xr.tmod 9) n hg hxI hD3
      have hat := impl_HeapAt (HPut h i j t n).1 i j hg
      have hrw := impl_HeapRows (HPut h i j t n).1 hg
      have hok := impl_HeapOk (HPut h i j t n).1 hg
      have hm : okH (HMk (HPut h i j t n).1 i j (1 + xr.tmod 9) n).1 := by
        obtain ⟨hy1, hxr, hnr⟩ : (HA (HPut h i j t n).1 i j).2 = true ∧ rin (1 + xr.tmod 9) 0 400 = true ∧ rin n 1 1000000 = true := by
          unfold HMk at s5
          split at s5
          · rename_i hc; exact hc
          · cases s5
        have hTM : ok_Tuple (TM (HPut h i j t n).1 i j (1 + xr.tmod 9)) := tm_ok _ i j _ hg hxI
        obtain ⟨_, hi, hj, _, _⟩ := ha_yes hy1
        have him := at_in _ _ hi
        unfold HMk
        rw [if_pos ⟨hy1, hxr, hnr⟩]
        refine ⟨by show (List.set _ _ _).length ≤ _; rw [List.length_set]; exact hg.1, fun q hq => ?_⟩
        rcases List.mem_or_eq_of_mem_set hq with hq | rfl
        · exact hg.2 q hq
        · have hpo := hg.2 _ him.2.2
          refine ⟨hD3, by show (List.set _ _ _).length ≤ _; rw [List.length_set]; exact hpo.2.1, fun b hb => ?_⟩
          rcases List.mem_or_eq_of_mem_set hb with hb | rfl
          · exact hpo.2.2 b hb
          · exact tb_ok _ hTM
      have hat2 := impl_HeapAt (HMk (HPut h i j t n).1 i j (1 + xr.tmod 9) n).1 i j hm
      have hmok : HOK (HMk (HPut h i j t n).1 i j (1 + xr.tmod 9) n).1 = true := by
        cases hh : HOK (HMk (HPut h i j t n).1 i j (1 + xr.tmod 9) n).1 with
        | true => rfl
        | false => unfold HA at s6; rw [hh] at s6; exact absurd (congrArg Prod.snd s6) (by simp)
      have hcl := impl_HeapClear (HMk (HPut h i j t n).1 i j (1 + xr.tmod 9) n).1 i j n hm
      have hk := (hcl_ok (HMk (HPut h i j t n).1 i j (1 + xr.tmod 9) n).1 i j n hm hmok).1
      have hrw2 := impl_HeapRows _ hk
      rw [if_neg (by rw [hy]; decide), hat, Option.bind_some, s2, if_neg (by simp), sameTuple_self t hD2, Option.bind_some, Option.bind_some, if_neg (by decide), hrw, Option.bind_some, Option.bind_some, w64 (n := ((ROWS h).length : Int) + 1) (by omega) (by omega)]
      rw [show ((((ROWS (HPut h i j t n).1).length : Int) != ((ROWS h).length : Int) + 1)) = false by rw [s3]; simp]
      rw [if_neg (by decide), hok, Option.bind_some, Option.bind_some, s1, if_neg (by decide), ex, Option.bind_some, hw, hmk, Option.bind_some, hat2, Option.bind_some, s6, s5]
      have e1 : (((!true) || ((Tuple.mk t.Xmin (1 + xr.tmod 9) t.Key t.Value).Xmax != 1 + xr.tmod 9)) || ((Tuple.mk t.Xmin (1 + xr.tmod 9) t.Key t.Value).Xmin != t.Xmin)) = false := by simp
      rw [e1, if_neg (by decide)]
      show (((laws_sameItem.f t.Key t.Key).bind fun r170 => some (!r170)).bind fun y157 => _) = _
      rw [sameItem_self _ hD2.2.2.1.2.2.1, Option.bind_some, Option.bind_some, if_neg (by decide)]
      show (((laws_sameItem.f t.Value t.Value).bind fun r187 => some (!r187)).bind fun y186 => _) = _
      rw [sameItem_self _ hD2.2.2.2.2.2.1, Option.bind_some, Option.bind_some, if_neg (by decide), hcl, Option.bind_some, hrw2, Option.bind_some, s8, s7, if_neg (by simp)]
      have hro := rows_ok h hD1
      generalize ROWS h = rs at hro s4
      refine iter_for rs.length (fun k => (k : Int)) _ (fun k hk => ?_) ?_
      · unfold laws_FnHeaps.b0
        have g : (0 : Int) ≤ (k : Int) ∧ (k : Int) < (rs.length : Int) := ⟨by omega, by omega⟩
        have e2 : ∀ x : Tuple, Tuple.mk x.Xmin x.Xmax x.Key x.Value = x := fun _ => rfl
        simp only [if_pos g, at_nat _ k hk]
        rw [if_pos (by simp; omega), e2, sameTuple_self _ (hro _ (List.getElem_mem hk)), w64 (by omega) (by omega)]
        simp
      · unfold laws_FnHeaps.b0
        rw [if_neg (by simp)]; rfl
    · have hf := eq_false_of_ne_true hy
      have e : (HPut h i j t n).1 = H0 := by
        unfold HPut at hf ⊢
        split
        · rename_i hc
          rw [if_pos hc] at hf
          unfold HP at hf ⊢
          split
          · rename_i hd; rw [if_pos hd] at hf; cases hf
          · rfl
        · rfl
      rw [hf, if_pos (by decide), e]; rfl
  · rw [if_pos (by simp; omega)]
end Go.Proofs.YtegicanjlefmdaaGreat
