/- The functions as models, and that the calls come to what the models tell. -/
import Derived.Test.YtcagjdngannneaaGreatXsc
set_option linter.unusedVariables false
set_option linter.unusedSimpArgs false
namespace Go.Proofs.YtcagjdngannneaaGreat
open Go V
noncomputable def laws_FnExactHeapMark.f (a0 : Heap) (a1 : Int) (a2 : Int) (a3 : Int) (a4 : Int) : Option (Bool) :=
 ((laws_szHeap.f a0 (1048576 : Int)).bind fun r6 => (if (decide (r6 < (0 : Int))) = true then (some true) else ((laws_toHeap.f a0).bind fun r13 => ((spec_HeapMark.f r13 a1 a2 a3 a4).bind fun r16 => ((laws_toHeap.f a0).bind fun r27 => ((impl_HeapMark.f r27 a1 a2 a3 a4).bind fun r36 => ((laws_eqHeap.f r36.1 r16.1).bind fun r47 => (if ((!r47) || (!(r36.2 == r16.2))) = true then (some false) else ((laws_toHeap.f a0).bind fun r62 => ((laws_eqHeap.f r27 r62).bind fun r68 => (if (!r68) = true then (some false) else ((laws_markHeap.f r27 (1 : Int)).bind fun r73 => ((if (decide (r73.1 < (0 : Int))) = true then (some true) else ((laws_eqHeap.f r36.1 r16.1).bind fun r88 => (some (!r88)))).bind fun y77 => (if (y77 || (!(r36.2 == r16.2))) = true then (some false) else ((laws_markHeap.f r36.1 (1 : Int)).bind fun r102 => ((laws_heldHeap.f (Heap.mk r102.2) (1 : Int)).bind fun r106 => (if (decide (r106 < (0 : Int))) = true then (some false) else (if (r106 != r102.1) = true then (some false) else ((laws_toHeap.f a0).bind fun r115 => ((impl_HeapMark.f r115 a1 a2 a3 a4).bind fun r118 => ((laws_eqHeap.f r118.1 r16.1).bind fun r129 => (if ((!r129) || (!(r118.2 == r16.2))) = true then (some false) else ((laws_heldHeap.f (Heap.mk r102.2) (1 : Int)).bind fun r136 => (if (decide (r136 < (0 : Int))) = true then (some false) else (if (r136 != r102.1) = true then (some false) else (some true))))))))))))))))))))))))))
def laws_FnExactHeapMark.Q (w : World) (F : Nat → Prop) (r : Bool) (v : Value) (w' : World) : Prop :=
 v = (.bool r) ∧ Ky [] w w'
set_option maxHeartbeats 4000000 in
set_option maxRecDepth 100000 in
theorem laws_FnExactHeapMark.calls (a0 : Heap) (a1 : Int) (a2 : Int) (a3 : Int) (a4 : Int) (w : World) (F : Nat → Prop) (w0_0 : Value) (h0_0 : (Kd.sl 222 kd222).rd w [w0_0] a0.Pages F) (r : Bool) (m : laws_FnExactHeapMark.f a0 a1 a2 a3 a4 = some r) :
  Calls Tryz.prog 4 #[(.agg #[w0_0]), (.int .i64 a1), (.int .i64 a2), (.int .i64 a3), (.int .i64 a4)] w fun en w' => ∃ v, en = .returned v ∧ laws_FnExactHeapMark.Q w F r v w' := by
 obtain ⟨s0, rfl, kp0, z⟩ := start0 w F
 have A0_0 := z.rd h0_0
 refine calls_of_TM (args := [(.agg #[w0_0]), (.int .i64 a1), (.int .i64 a2), (.int .i64 a3), (.int .i64 a4)]) (R := fun r en w' => ∃ v, en = .returned v ∧ laws_FnExactHeapMark.Q s0.w F r v w') Tryz.func4 Tryz.ntmps4 rfl rfl m ?_
 unfold laws_FnExactHeapMark.f
 refine sr ?_
 refine bx (cs := [w0_0]) 40 rfl rfl rfl rfl rfl rfl (fun b2 s2 p2 B2 => ?_)
 refine pu rfl rfl rfl rfl rfl ?_
 refine dn ?_
 refine sr ?_
 refine pu rfl rfl rfl rfl rfl ?_
 refine dn ?_
 refine sr ?_
 refine lda (es := [w0_0]) B2 Tryz.underlying42 z42 rfl rfl rfl rfl rfl rfl rfl rfl ?_
 refine pu rfl rfl rfl rfl rfl ?_
 have K4 := (kp0.st p2 rfl)
 have A5 := (A0_0.kp K4)
 refine cl rfl rfl rfl rfl rfl Tryz.func21 rfl rfl rfl (fun r6 m6 => laws_szHeap.calls a0 (1048576 : Int) s2.w (fun b => memb [0] (s2.g b) = true) w0_0 A5 r6 m6) ?_
 rintro r6 _ w6 m6 ⟨rfl, ky6⟩
 obtain ⟨s7, rfl, p7, n7⟩ := nwx s2 w6 41 ky6
 refine pu rfl rfl rfl rfl rfl ?_
 refine dn ?_
 refine sq ?_
 refine sr ?_
 refine pu rfl rfl rfl rfl rfl ?_
 refine pu rfl rfl rfl rfl rfl ?_
 refine dn ?_
 refine cd rfl (fun h8 => ?_) (fun h8 => ?_)
 ·
  refine sr ?_
  refine pu rfl rfl rfl rfl rfl ?_
  refine dn ?_
  have K9 := (K4.st p7 rfl)
  exact re rfl Tryz.func4 rfl (r_t rfl r_nil) rfl ⟨_, rfl, rfl, z.ky K9⟩
 ·
  refine sk ?_
  refine sr ?_
  have A10 := (BlF.st B2 p7 rfl)
  refine lda (es := [w0_0]) A10 Tryz.underlying42 z42 rfl rfl rfl rfl rfl rfl rfl rfl ?_
  have K11 := (K4.st p7 rfl)
  have A12 := (A0_0.kp K11)
  refine cl rfl rfl rfl rfl rfl Tryz.func23 rfl rfl rfl (fun r13 m13 => laws_toHeap.calls a0 s7.w (fun b => memb [0] (s7.g b) = true) w0_0 A12 r13 m13) ?_
  rintro r13 _ w13 m13 ⟨v13_0, rfl, f13_0, ky13⟩
  obtain ⟨s14, rfl, p14, n14⟩ := nwx s7 w13 42 ky13
  have A13_0 := f13_0.c n14
  obtain ⟨os13_0, ho13_0, hn13_0, hc13_0⟩ := A13_0
  obtain ⟨u13_0_0, qu13_0_0, e13_0, eo13_0, hu13_0_0⟩ := po46 ho13_0
  have yu13_0_0 : v13_0 = u13_0_0 := congrArg (fun l => (List.drop 0 l).headD undef) e13_0
  subst yu13_0_0
  subst eo13_0
  have Au13_0_0 : OwF (Kd.sl 142 kd142) s14 [v13_0] r13.Pages 42 := sp1 hu13_0_0 hn13_0 hc13_0
  refine pu rfl rfl rfl rfl rfl ?_
  refine pu rfl rfl rfl rfl rfl ?_
  refine pu rfl rfl rfl rfl rfl ?_
  refine pu rfl rfl rfl rfl rfl ?_
  refine cl rfl rfl rfl rfl rfl Tryz.func22 rfl rfl rfl (fun r16 m16 => spec_HeapMark.calls r13 a1 a2 a3 a4 s14.w (fun b => memb [42] (s14.g b) = true) v13_0 Au13_0_0.rd r16 m16) ?_
  rintro r16 _ w16 m16 ⟨v16_0, rfl, f16_0, ky16⟩
  obtain ⟨s17, rfl, p17, n17⟩ := nwx s14 w16 43 ky16
  have A16_0 := f16_0.c n17
  obtain ⟨os16_0, ho16_0, hn16_0, hc16_0⟩ := A16_0
  obtain ⟨u16_0_0, qu16_0_0, e16_0, eo16_0, hu16_0_0⟩ := po46 ho16_0
  have yu16_0_0 : v16_0 = u16_0_0 := congrArg (fun l => (List.drop 0 l).headD undef) e16_0
  subst yu16_0_0
  subst eo16_0
  have Au16_0_0 : OwF (Kd.sl 142 kd142) s17 [v16_0] r16.1.Pages 43 := sp1 hu16_0_0 hn16_0 hc16_0
  refine pu rfl rfl rfl rfl rfl ?_
  refine pu (v := (.agg #[v16_0])) rfl rfl rfl rfl rfl ?_
  refine pu (v := (.bool r16.2)) rfl rfl rfl rfl rfl ?_
  refine al (cs := [(.slice none 0 0)]) 44 rfl rfl rfl rfl rfl o46 rfl (fun b19 s19 p19 B19 => ?_)
  have A21 := (Au16_0_0.st p19 rfl)
  refine sva (vs := [v16_0]) B19 z46 rfl rfl rfl rfl rfl rfl (on_cons A21.rd.one on_nil) rfl (fun s22 p22 B22 => ?_)
  refine pu rfl rfl rfl rfl rfl ?_
  refine dn ?_
  refine sr ?_
  have A24 := (BlF.st (BlF.st (BlF.st (BlF.st A10 p14 rfl) p17 rfl) p19 rfl) p22 rfl)
  refine lda (es := [w0_0]) A24 Tryz.underlying42 z42 rfl rfl rfl rfl rfl rfl rfl rfl ?_
  have K25 := ((((K11.st p14 rfl).st p17 rfl).st p19 rfl).st p22 rfl)
  have A26 := (A0_0.kp K25)
  refine cl rfl rfl rfl rfl rfl Tryz.func23 rfl rfl rfl (fun r27 m27 => laws_toHeap.calls a0 s22.w (fun b => memb [0] (s22.g b) = true) w0_0 A26 r27 m27) ?_
  rintro r27 _ w27 m27 ⟨v27_0, rfl, f27_0, ky27⟩
  obtain ⟨s28, rfl, p28, n28⟩ := nwx s22 w27 45 ky27
  have A27_0 := f27_0.c n28
  obtain ⟨os27_0, ho27_0, hn27_0, hc27_0⟩ := A27_0
  obtain ⟨u27_0_0, qu27_0_0, e27_0, eo27_0, hu27_0_0⟩ := po46 ho27_0
  have yu27_0_0 : v27_0 = u27_0_0 := congrArg (fun l => (List.drop 0 l).headD undef) e27_0
  subst yu27_0_0
  subst eo27_0
  have Au27_0_0 : OwF (Kd.sl 142 kd142) s28 [v27_0] r27.Pages 45 := sp1 hu27_0_0 hn27_0 hc27_0
  refine al (cs := [(.slice none 0 0)]) 46 rfl rfl rfl rfl rfl o46 rfl (fun b30 s30 p30 B30 => ?_)
  have A32 := (Au27_0_0.st p30 rfl)
  refine sva (vs := [v27_0]) B30 z46 rfl rfl rfl rfl rfl rfl (on_cons A32.rd.one on_nil) rfl (fun s33 p33 B33 => ?_)
  refine dn ?_
  refine sr ?_
  refine lda (es := [v27_0]) B33 Tryz.underlying46 z46 rfl rfl rfl rfl rfl rfl rfl rfl ?_
  refine pu rfl rfl rfl rfl rfl ?_
  refine pu rfl rfl rfl rfl rfl ?_
  refine pu rfl rfl rfl rfl rfl ?_
  refine pu rfl rfl rfl rfl rfl ?_
  have A35 := (A32.st p33 rfl)
  refine cl rfl rfl rfl rfl rfl Tryz.func24 rfl rfl rfl (fun r36 m36 => impl_HeapMark.calls r27 a1 a2 a3 a4 s33.w (fun b => memb [45] (s33.g b) = true) v27_0 A35.rd r36 m36) ?_
  rintro r36 _ w36 m36 ⟨v36_0, rfl, f36_0, ky36⟩
  obtain ⟨s37, rfl, p37, n37⟩ := nwx s33 w36 47 ky36
  have A36_0 := f36_0.c n37
  obtain ⟨os36_0, ho36_0, hn36_0, hc36_0⟩ := A36_0
  obtain ⟨u36_0_0, qu36_0_0, e36_0, eo36_0, hu36_0_0⟩ := po46 ho36_0
  have yu36_0_0 : v36_0 = u36_0_0 := congrArg (fun l => (List.drop 0 l).headD undef) e36_0
  subst yu36_0_0
  subst eo36_0
  have Au36_0_0 : OwF (Kd.sl 142 kd142) s37 [v36_0] r36.1.Pages 47 := sp1 hu36_0_0 hn36_0 hc36_0
  refine pu rfl rfl rfl rfl rfl ?_
  refine pu (v := (.agg #[v36_0])) rfl rfl rfl rfl rfl ?_
  refine pu (v := (.bool r36.2)) rfl rfl rfl rfl rfl ?_
  refine al (cs := [(.slice none 0 0)]) 48 rfl rfl rfl rfl rfl o46 rfl (fun b39 s39 p39 B39 => ?_)
  have A41 := (Au36_0_0.st p39 rfl)
  refine sva (vs := [v36_0]) B39 z46 rfl rfl rfl rfl rfl rfl (on_cons A41.rd.one on_nil) rfl (fun s42 p42 B42 => ?_)
  refine pu rfl rfl rfl rfl rfl ?_
  refine dn ?_
  refine sq ?_
  refine sr ?_
  refine lda (es := [v36_0]) B42 Tryz.underlying46 z46 rfl rfl rfl rfl rfl rfl rfl rfl ?_
  have A44 := (BlF.st (BlF.st (BlF.st (BlF.st (BlF.st (BlF.st B22 p28 rfl) p30 rfl) p33 rfl) p37 rfl) p39 rfl) p42 rfl)
  refine lda (es := [v16_0]) A44 Tryz.underlying46 z46 rfl rfl rfl rfl rfl rfl rfl rfl ?_
  have A45 := (A41.st p42 rfl)
  have A46 := (((((((A21.st p22 rfl).st p28 rfl).st p30 rfl).st p33 rfl).st p37 rfl).st p39 rfl).st p42 rfl)
  refine cl rfl rfl rfl rfl rfl Tryz.func25 rfl rfl rfl (fun r47 m47 => laws_eqHeap.calls r36.1 r16.1 s42.w (fun b => memb [47, 43] (s42.g b) = true) v36_0 v16_0 (A45.rd.sub (D := [47, 43]) rfl) (A46.rd.sub (D := [47, 43]) rfl) r47 m47) ?_
  rintro r47 _ w47 m47 ⟨rfl, ky47⟩
  obtain ⟨s48, rfl, p48, n48⟩ := nwx s42 w47 49 ky47
  refine pu rfl rfl rfl rfl rfl ?_
  refine pu rfl rfl rfl rfl rfl ?_
  refine jy [52, 53, 54, 55, 56] [] 56 (.bool ((!r47) || (!(r36.2 == r16.2)))) rfl (fun Kg49 => ?_) (fun j49 => ?_)
  ·
   rcases Bool.eq_false_or_eq_true (!r47) with hb49 | hb49
   ·
    refine sbT hb49 ?_
    refine uw rfl rfl rfl rfl ?_
    refine uw rfl rfl rfl rfl ?_
    refine uw rfl rfl rfl rfl ?_
    refine pu rfl rfl rfl rfl rfl ?_
    exact Kg49 _ (Ag.put ((Ag.put ((Ag.put ((Ag.put (Ag.base rfl) rfl)) rfl)) rfl)) rfl) (by rw [hb49]; rfl)
   ·
    refine sbT hb49 ?_
    refine pu rfl rfl rfl rfl rfl ?_
    refine pu rfl rfl rfl rfl rfl ?_
    refine bne_ Tryz.underlying4 rfl rfl rfl rfl rfl rfl rfl ?_
    refine pu rfl rfl rfl rfl rfl ?_
    exact Kg49 _ (Ag.put ((Ag.put ((Ag.put ((Ag.put (Ag.base rfl) rfl)) rfl)) rfl)) rfl) (by rw [hb49]; rfl)
  refine dn ?_
  refine cd rfl (fun h50 => ?_) (fun h50 => ?_)
  ·
   refine sr ?_
   refine pu rfl rfl rfl rfl rfl ?_
   refine dn ?_
   have K51 := (((((((K25.st p28 rfl).st p30 rfl).st p33 rfl).st p37 rfl).st p39 rfl).st p42 rfl).st p48 rfl)
   exact re rfl Tryz.func4 rfl (r_t rfl r_nil) rfl ⟨_, rfl, rfl, z.ky K51⟩
  ·
   refine sk ?_
   refine sq ?_
   refine sq ?_
   refine zdraw [[], [], [1], [0, 2, 2], [3]] [some 57, some 58, some 59, some 60, some 61] [[14], [5], [58], [57, 59], [60]] [0, 1, 2, 3, 4] ⟨by kernel_rfl, by kernel_rfl, by kernel_rfl⟩ (by kernel_rfl) (fun s52 p52 l52 tb52 zd52 => ?_)
   have A53 := (BlF.st (BlF.st (BlF.st (BlF.st (BlF.st B33 p37 rfl) p39 rfl) p42 rfl) p48 rfl) p52 rfl)
   have zd54 := zd52.add 0 57 (.agg #[v27_0]) rfl
   have A55 := (BlF.st (BlF.st (BlF.st (BlF.st (BlF.st (BlF.st (BlF.st (BlF.st A24 p28 rfl) p30 rfl) p33 rfl) p37 rfl) p39 rfl) p42 rfl) p48 rfl) p52 rfl)
   have zd56 := zd54.add 1 58 (.agg #[w0_0]) rfl
   have A58 := (BlF.st (BlF.st (BlF.st (BlF.st (BlF.st B33 p37 rfl) p39 rfl) p42 rfl) p48 rfl) p52 rfl)
   have A59 := (BlF.st (BlF.st (BlF.st (BlF.st (BlF.st (BlF.st (BlF.st (BlF.st A24 p28 rfl) p30 rfl) p33 rfl) p37 rfl) p39 rfl) p42 rfl) p48 rfl) p52 rfl)
   refine zstep 2 [some 57] tb52 zd56 (pq_cons (lda_q (es := [w0_0]) A59 Tryz.underlying42 z42 rfl rfl rfl rfl rfl rfl rfl rfl) rfl (pq_cons (lda_q (es := [v27_0]) A58 Tryz.underlying46 z46 rfl rfl rfl rfl rfl rfl rfl rfl) rfl pq_nil)) (by kernel_rfl) rfl (fun l57 e57 zd57 => ?_)
   have K60 := ((((((((K25.st p28 rfl).st p30 rfl).st p33 rfl).st p37 rfl).st p39 rfl).st p42 rfl).st p48 rfl).st p52 rfl)
   have A61 := (A0_0.kp K60)
   refine cl rfl rfl rfl rfl rfl Tryz.func23 rfl rfl rfl (fun r62 m62 => laws_toHeap.calls a0 s52.w (fun b => memb [0] (s52.g b) = true) w0_0 A61 r62 m62) ?_
   rintro r62 _ w62 m62 ⟨v62_0, rfl, f62_0, ky62⟩
   obtain ⟨s63, rfl, p63, n63⟩ := nwx s52 w62 50 ky62
   have A62_0 := f62_0.c n63
   obtain ⟨os62_0, ho62_0, hn62_0, hc62_0⟩ := A62_0
   obtain ⟨u62_0_0, qu62_0_0, e62_0, eo62_0, hu62_0_0⟩ := po46 ho62_0
   have yu62_0_0 : v62_0 = u62_0_0 := congrArg (fun l => (List.drop 0 l).headD undef) e62_0
   subst yu62_0_0
   subst eo62_0
   have Au62_0_0 : OwF (Kd.sl 142 kd142) s63 [v62_0] r62.Pages 50 := sp1 hu62_0_0 hn62_0 hc62_0
   refine zdone (L' := [0]) (D' := [1, 2]) zd57 rfl rfl rfl (fun zd65 => ?_)
   have A66 := (BlF.st (BlF.st (BlF.st (BlF.st (BlF.st (BlF.st B33 p37 rfl) p39 rfl) p42 rfl) p48 rfl) p52 rfl) p63 rfl)
   refine zfin [3, 4] tb52 zd65 (pq_cons (lda_q (es := [v27_0]) A66 Tryz.underlying46 z46 rfl rfl rfl rfl rfl rfl rfl rfl) rfl pq_nil) (by kernel_rfl) (by decide) ?_
   have A67 := ((((((A35.st p37 rfl).st p39 rfl).st p42 rfl).st p48 rfl).st p52 rfl).st p63 rfl)
   refine cl rfl rfl rfl rfl rfl Tryz.func25 rfl rfl rfl (fun r68 m68 => laws_eqHeap.calls r27 r62 s63.w (fun b => memb [45, 50] (s63.g b) = true) v27_0 v62_0 (A67.rd.sub (D := [45, 50]) rfl) (Au62_0_0.rd.sub (D := [45, 50]) rfl) r68 m68) ?_
   rintro r68 _ w68 m68 ⟨rfl, ky68⟩
   obtain ⟨s69, rfl, p69, n69⟩ := nwx s63 w68 51 ky68
   refine pu rfl rfl rfl rfl rfl ?_
   refine dn ?_
   refine cd rfl (fun h70 => ?_) (fun h70 => ?_)
   ·
    refine sr ?_
    refine pu rfl rfl rfl rfl rfl ?_
    refine dn ?_
    have K71 := ((K60.st p63 rfl).st p69 rfl)
    exact re rfl Tryz.func4 rfl (r_t rfl r_nil) rfl ⟨_, rfl, rfl, z.ky K71⟩
   ·
    refine sk ?_
    refine sr ?_
    refine pu rfl rfl rfl rfl rfl ?_
    refine dn ?_
    refine sr ?_
    have A72 := (BlF.st (BlF.st (BlF.st (BlF.st (BlF.st (BlF.st (BlF.st B33 p37 rfl) p39 rfl) p42 rfl) p48 rfl) p52 rfl) p63 rfl) p69 rfl)
    refine lda (es := [v27_0]) A72 Tryz.underlying46 z46 rfl rfl rfl rfl rfl rfl rfl rfl ?_
    refine pu rfl rfl rfl rfl rfl ?_
    have A74 := (A67.st p69 rfl)
    obtain ⟨os73, ho73, hn73, hc73⟩ := A74
    refine cl rfl rfl rfl rfl rfl Tryz.func26 rfl rfl rfl (fun r73 m73 => laws_markHeap.calls r27 (1 : Int) s69.w (fun b => memb [] (s69.g b) = true) v27_0 os73 ho73 hn73 (apart_of hc73 rfl) r73 m73) ?_
    rintro r73 _ w73 m73 ⟨rfl, w73_, ky73⟩
    obtain ⟨s75, rfl, p75, A75⟩ := nwo 52 hc73 ky73 w73_
    refine pu rfl rfl rfl rfl rfl ?_
    refine dn ?_
    refine sq ?_
    refine sr ?_
    refine pu rfl rfl rfl rfl rfl ?_
    refine pu rfl rfl rfl rfl rfl ?_
    refine pu rfl rfl rfl rfl rfl ?_
    refine ji [8, 9, 10, 11, 12] (fun (y77 : Bool) (e : Env) (w : World) => ∃ (s : St) (e0 : Env), w = s.w ∧ e = upd (upd (upd (upd (upd (upd (upd (upd (upd (upd e0 1 (.int .i64 a1)) 2 (.int .i64 a2)) 3 (.int .i64 a3)) 4 (.int .i64 a4)) 5 (.pointer (some ⟨b2, 0, none⟩))) 12 (.pointer (some ⟨b19, 0, none⟩))) 13 (.bool r16.2)) 15 (.pointer (some ⟨b39, 0, none⟩))) 16 (.bool r36.2)) 72 (.bool y77) ∧ Kp s0 s ∧ BlF s b39 46 [v36_0] 48 ∧ BlF s b19 46 [v16_0] 44 ∧ BlF s b2 42 [w0_0] 40 ∧ OwF (Kd.sl 142 kd142) s [v36_0] r36.1.Pages 47 ∧ OwF (Kd.sl 142 kd142) s [v16_0] r16.1.Pages 43) (fun Gj77 Kj77 => ?_) ?_
    ·
     rcases Bool.eq_false_or_eq_true (decide (r73.1 < (0 : Int))) with hb77 | hb77
     ·
      refine sbT hb77 ?_
      rw [if_pos hb77]
      refine uw rfl rfl rfl rfl ?_
      refine uw rfl rfl rfl rfl ?_
      refine uw rfl rfl rfl rfl ?_
      refine uw rfl rfl rfl rfl ?_
      refine pu rfl rfl rfl rfl rfl ?_
      have A78 := (BlF.st (BlF.st (BlF.st (BlF.st (BlF.st B42 p48 rfl) p52 rfl) p63 rfl) p69 rfl) p75 rfl)
      have A79 := (BlF.st (BlF.st (BlF.st (BlF.st (BlF.st A44 p48 rfl) p52 rfl) p63 rfl) p69 rfl) p75 rfl)
      have A80 := (BlF.st (BlF.st (BlF.st (BlF.st (BlF.st (BlF.st (BlF.st (BlF.st (BlF.st (BlF.st (BlF.st A24 p28 rfl) p30 rfl) p33 rfl) p37 rfl) p39 rfl) p42 rfl) p48 rfl) p52 rfl) p63 rfl) p69 rfl) p75 rfl)
      have A81 := (((((A45.st p48 rfl).st p52 rfl).st p63 rfl).st p69 rfl).st p75 rfl)
      have A82 := (((((A46.st p48 rfl).st p52 rfl).st p63 rfl).st p69 rfl).st p75 rfl)
      have K83 := (((K60.st p63 rfl).st p69 rfl).st p75 rfl)
      exact Kj77 _ _ _ ⟨s75, _, rfl, (ue (ue (ue (ue (ue (ue (ue (ue (ue (ue rfl rfl) rfl) rfl) rfl) rfl) rfl) rfl) rfl) rfl) rfl), K83, A78, A79, A80, A81, A82⟩
     ·
      refine sbT hb77 ?_
      rw [if_neg (by rw [hb77]; decide)]
      have A84 := (BlF.st (BlF.st (BlF.st (BlF.st (BlF.st B42 p48 rfl) p52 rfl) p63 rfl) p69 rfl) p75 rfl)
      refine lda (es := [v36_0]) A84 Tryz.underlying46 z46 rfl rfl rfl rfl rfl rfl rfl rfl ?_
      have A85 := (BlF.st (BlF.st (BlF.st (BlF.st (BlF.st A44 p48 rfl) p52 rfl) p63 rfl) p69 rfl) p75 rfl)
      refine lda (es := [v16_0]) A85 Tryz.underlying46 z46 rfl rfl rfl rfl rfl rfl rfl rfl ?_
      have A86 := (((((A45.st p48 rfl).st p52 rfl).st p63 rfl).st p69 rfl).st p75 rfl)
      have A87 := (((((A46.st p48 rfl).st p52 rfl).st p63 rfl).st p69 rfl).st p75 rfl)
      refine cl rfl rfl rfl rfl rfl Tryz.func25 rfl rfl rfl (fun r88 m88 => laws_eqHeap.calls r36.1 r16.1 s75.w (fun b => memb [47, 43] (s75.g b) = true) v36_0 v16_0 (A86.rd.sub (D := [47, 43]) rfl) (A87.rd.sub (D := [47, 43]) rfl) r88 m88) ?_
      rintro r88 _ w88 m88 ⟨rfl, ky88⟩
      obtain ⟨s89, rfl, p89, n89⟩ := nwx s75 w88 53 ky88
      refine pu rfl rfl rfl rfl rfl ?_
      refine pu rfl rfl rfl rfl rfl ?_
      have A90 := (BlF.st A84 p89 rfl)
      have A91 := (BlF.st A85 p89 rfl)
      have A92 := (BlF.st (BlF.st (BlF.st (BlF.st (BlF.st (BlF.st (BlF.st (BlF.st (BlF.st (BlF.st (BlF.st (BlF.st A24 p28 rfl) p30 rfl) p33 rfl) p37 rfl) p39 rfl) p42 rfl) p48 rfl) p52 rfl) p63 rfl) p69 rfl) p75 rfl) p89 rfl)
      have A93 := (A86.st p89 rfl)
      have A94 := (A87.st p89 rfl)
      have K95 := ((((K60.st p63 rfl).st p69 rfl).st p75 rfl).st p89 rfl)
      exact Kj77 _ _ _ ⟨s89, _, rfl, (ue (ue (ue (ue (ue (ue (ue (ue (ue (ue rfl rfl) rfl) rfl) rfl) rfl) rfl) rfl) rfl) rfl) rfl), K95, A90, A91, A92, A93, A94⟩
    rintro y77 _ _ ⟨s96, _, rfl, rfl, Ky77, By77_b39, By77_b19, By77_b2, Cy77_38, Cy77_18⟩
    refine pu rfl rfl rfl rfl rfl ?_
    refine jy [73, 74, 75, 76, 77] [] 77 (.bool (y77 || (!(r36.2 == r16.2)))) rfl (fun Kg100 => ?_) (fun j100 => ?_)
    ·
     rcases Bool.eq_false_or_eq_true y77 with hb100 | hb100
     ·
      refine sbT hb100 ?_
      refine uw rfl rfl rfl rfl ?_
      refine uw rfl rfl rfl rfl ?_
      refine uw rfl rfl rfl rfl ?_
      refine pu rfl rfl rfl rfl rfl ?_
      exact Kg100 _ (Ag.put ((Ag.put ((Ag.put ((Ag.put (Ag.base rfl) rfl)) rfl)) rfl)) rfl) (by rw [hb100]; rfl)
     ·
      refine sbT hb100 ?_
      refine pu rfl rfl rfl rfl rfl ?_
      refine pu rfl rfl rfl rfl rfl ?_
      refine bne_ Tryz.underlying4 rfl rfl rfl rfl rfl rfl rfl ?_
      refine pu rfl rfl rfl rfl rfl ?_
      exact Kg100 _ (Ag.put ((Ag.put ((Ag.put ((Ag.put (Ag.base rfl) rfl)) rfl)) rfl)) rfl) (by rw [hb100]; rfl)
    refine dn ?_
    refine cd rfl (fun h101 => ?_) (fun h101 => ?_)
    ·
     refine sr ?_
     refine pu rfl rfl rfl rfl rfl ?_
     refine dn ?_
     exact re rfl Tryz.func4 rfl (r_t rfl r_nil) rfl ⟨_, rfl, rfl, z.ky Ky77⟩
    ·
     refine sk ?_
     refine sr ?_
     refine pu rfl rfl rfl rfl rfl ?_
     refine dn ?_
     refine sr ?_
     refine lda (es := [v36_0]) By77_b39 Tryz.underlying46 z46 rfl rfl rfl rfl rfl rfl rfl rfl ?_
     refine pu rfl rfl rfl rfl rfl ?_
     obtain ⟨os102, ho102, hn102, hc102⟩ := Cy77_38
     refine cl rfl rfl rfl rfl rfl Tryz.func26 rfl rfl rfl (fun r102 m102 => laws_markHeap.calls r36.1 (1 : Int) s96.w (fun b => memb [] (s96.g b) = true) v36_0 os102 ho102 hn102 (apart_of hc102 rfl) r102 m102) ?_
     rintro r102 _ w102 m102 ⟨rfl, w102_, ky102⟩
     obtain ⟨s103, rfl, p103, A103⟩ := nwo 54 hc102 ky102 w102_
     refine pu rfl rfl rfl rfl rfl ?_
     refine dn ?_
     refine sr ?_
     refine pu rfl rfl rfl rfl rfl ?_
     refine dn ?_
     refine sr ?_
     have A105 := (BlF.st By77_b39 p103 rfl)
     refine lda (es := [v36_0]) A105 Tryz.underlying46 z46 rfl rfl rfl rfl rfl rfl rfl rfl ?_
     refine pu rfl rfl rfl rfl rfl ?_
     refine cl rfl rfl rfl rfl rfl Tryz.func27 rfl rfl rfl (fun r106 m106 => laws_heldHeap.calls (Heap.mk r102.2) (1 : Int) s103.w (fun b => memb [47] (s103.g b) = true) v36_0 A103.rd r106 m106) ?_
     rintro r106 _ w106 m106 ⟨rfl, ky106⟩
     obtain ⟨s107, rfl, p107, n107⟩ := nwx s103 w106 55 ky106
     refine pu rfl rfl rfl rfl rfl ?_
     refine dn ?_
     refine sq ?_
     refine sr ?_
     refine pu rfl rfl rfl rfl rfl ?_
     refine pu rfl rfl rfl rfl rfl ?_
     refine dn ?_
     refine cd rfl (fun h108 => ?_) (fun h108 => ?_)
     ·
      refine sr ?_
      refine pu rfl rfl rfl rfl rfl ?_
      refine dn ?_
      have K109 := ((Ky77.st p103 rfl).st p107 rfl)
      exact re rfl Tryz.func4 rfl (r_t rfl r_nil) rfl ⟨_, rfl, rfl, z.ky K109⟩
     ·
      refine sk ?_
      refine sq ?_
      refine sr ?_
      refine pu rfl rfl rfl rfl rfl ?_
      refine pu rfl rfl rfl rfl rfl ?_
      refine pu rfl rfl rfl rfl rfl ?_
      refine dn ?_
      refine cd rfl (fun h110 => ?_) (fun h110 => ?_)
      ·
       refine sr ?_
       refine pu rfl rfl rfl rfl rfl ?_
       refine dn ?_
       have K111 := ((Ky77.st p103 rfl).st p107 rfl)
       exact re rfl Tryz.func4 rfl (r_t rfl r_nil) rfl ⟨_, rfl, rfl, z.ky K111⟩
      ·
       refine sk ?_
       refine sr ?_
       have A112 := (BlF.st (BlF.st By77_b2 p103 rfl) p107 rfl)
       refine lda (es := [w0_0]) A112 Tryz.underlying42 z42 rfl rfl rfl rfl rfl rfl rfl rfl ?_
       have K113 := ((Ky77.st p103 rfl).st p107 rfl)
       have A114 := (A0_0.kp K113)
       refine cl rfl rfl rfl rfl rfl Tryz.func23 rfl rfl rfl (fun r115 m115 => laws_toHeap.calls a0 s107.w (fun b => memb [0] (s107.g b) = true) w0_0 A114 r115 m115) ?_
       rintro r115 _ w115 m115 ⟨v115_0, rfl, f115_0, ky115⟩
       obtain ⟨s116, rfl, p116, n116⟩ := nwx s107 w115 56 ky115
       have A115_0 := f115_0.c n116
       obtain ⟨os115_0, ho115_0, hn115_0, hc115_0⟩ := A115_0
       obtain ⟨u115_0_0, qu115_0_0, e115_0, eo115_0, hu115_0_0⟩ := po46 ho115_0
       have yu115_0_0 : v115_0 = u115_0_0 := congrArg (fun l => (List.drop 0 l).headD undef) e115_0
       subst yu115_0_0
       subst eo115_0
       have Au115_0_0 : OwF (Kd.sl 142 kd142) s116 [v115_0] r115.Pages 56 := sp1 hu115_0_0 hn115_0 hc115_0
       refine pu rfl rfl rfl rfl rfl ?_
       refine pu rfl rfl rfl rfl rfl ?_
       refine pu rfl rfl rfl rfl rfl ?_
       refine pu rfl rfl rfl rfl rfl ?_
       refine cl rfl rfl rfl rfl rfl Tryz.func24 rfl rfl rfl (fun r118 m118 => impl_HeapMark.calls r115 a1 a2 a3 a4 s116.w (fun b => memb [56] (s116.g b) = true) v115_0 Au115_0_0.rd r118 m118) ?_
       rintro r118 _ w118 m118 ⟨v118_0, rfl, f118_0, ky118⟩
       obtain ⟨s119, rfl, p119, n119⟩ := nwx s116 w118 57 ky118
       have A118_0 := f118_0.c n119
       obtain ⟨os118_0, ho118_0, hn118_0, hc118_0⟩ := A118_0
       obtain ⟨u118_0_0, qu118_0_0, e118_0, eo118_0, hu118_0_0⟩ := po46 ho118_0
       have yu118_0_0 : v118_0 = u118_0_0 := congrArg (fun l => (List.drop 0 l).headD undef) e118_0
       subst yu118_0_0
       subst eo118_0
       have Au118_0_0 : OwF (Kd.sl 142 kd142) s119 [v118_0] r118.1.Pages 57 := sp1 hu118_0_0 hn118_0 hc118_0
       refine pu rfl rfl rfl rfl rfl ?_
       refine pu (v := (.agg #[v118_0])) rfl rfl rfl rfl rfl ?_
       refine pu (v := (.bool r118.2)) rfl rfl rfl rfl rfl ?_
       refine al (cs := [(.slice none 0 0)]) 58 rfl rfl rfl rfl rfl o46 rfl (fun b121 s121 p121 B121 => ?_)
       have A123 := (Au118_0_0.st p121 rfl)
       refine sva (vs := [v118_0]) B121 z46 rfl rfl rfl rfl rfl rfl (on_cons A123.rd.one on_nil) rfl (fun s124 p124 B124 => ?_)
       refine pu rfl rfl rfl rfl rfl ?_
       refine dn ?_
       refine sq ?_
       refine sr ?_
       refine lda (es := [v118_0]) B124 Tryz.underlying46 z46 rfl rfl rfl rfl rfl rfl rfl rfl ?_
       have A126 := (BlF.st (BlF.st (BlF.st (BlF.st (BlF.st (BlF.st By77_b19 p103 rfl) p107 rfl) p116 rfl) p119 rfl) p121 rfl) p124 rfl)
       refine lda (es := [v16_0]) A126 Tryz.underlying46 z46 rfl rfl rfl rfl rfl rfl rfl rfl ?_
       have A127 := (A123.st p124 rfl)
       have A128 := ((((((Cy77_18.st p103 rfl).st p107 rfl).st p116 rfl).st p119 rfl).st p121 rfl).st p124 rfl)
       refine cl rfl rfl rfl rfl rfl Tryz.func25 rfl rfl rfl (fun r129 m129 => laws_eqHeap.calls r118.1 r16.1 s124.w (fun b => memb [57, 43] (s124.g b) = true) v118_0 v16_0 (A127.rd.sub (D := [57, 43]) rfl) (A128.rd.sub (D := [57, 43]) rfl) r129 m129) ?_
       rintro r129 _ w129 m129 ⟨rfl, ky129⟩
       obtain ⟨s130, rfl, p130, n130⟩ := nwx s124 w129 59 ky129
       refine pu rfl rfl rfl rfl rfl ?_
       refine pu rfl rfl rfl rfl rfl ?_
       refine jy [103, 104, 105, 106, 107] [] 107 (.bool ((!r129) || (!(r118.2 == r16.2)))) rfl (fun Kg131 => ?_) (fun j131 => ?_)
       ·
        rcases Bool.eq_false_or_eq_true (!r129) with hb131 | hb131
        ·
         refine sbT hb131 ?_
         refine uw rfl rfl rfl rfl ?_
         refine uw rfl rfl rfl rfl ?_
         refine uw rfl rfl rfl rfl ?_
         refine pu rfl rfl rfl rfl rfl ?_
         exact Kg131 _ (Ag.put ((Ag.put ((Ag.put ((Ag.put (Ag.base rfl) rfl)) rfl)) rfl)) rfl) (by rw [hb131]; rfl)
        ·
         refine sbT hb131 ?_
         refine pu rfl rfl rfl rfl rfl ?_
         refine pu rfl rfl rfl rfl rfl ?_
         refine bne_ Tryz.underlying4 rfl rfl rfl rfl rfl rfl rfl ?_
         refine pu rfl rfl rfl rfl rfl ?_
         exact Kg131 _ (Ag.put ((Ag.put ((Ag.put ((Ag.put (Ag.base rfl) rfl)) rfl)) rfl)) rfl) (by rw [hb131]; rfl)
       refine dn ?_
       refine cd rfl (fun h132 => ?_) (fun h132 => ?_)
       ·
        refine sr ?_
        refine pu rfl rfl rfl rfl rfl ?_
        refine dn ?_
        have K133 := (((((K113.st p116 rfl).st p119 rfl).st p121 rfl).st p124 rfl).st p130 rfl)
        exact re rfl Tryz.func4 rfl (r_t rfl r_nil) rfl ⟨_, rfl, rfl, z.ky K133⟩
       ·
        refine sk ?_
        refine sr ?_
        refine pu rfl rfl rfl rfl rfl ?_
        refine dn ?_
        refine sr ?_
        have A134 := (BlF.st (BlF.st (BlF.st (BlF.st (BlF.st (BlF.st A105 p107 rfl) p116 rfl) p119 rfl) p121 rfl) p124 rfl) p130 rfl)
        refine lda (es := [v36_0]) A134 Tryz.underlying46 z46 rfl rfl rfl rfl rfl rfl rfl rfl ?_
        refine pu rfl rfl rfl rfl rfl ?_
        have A135 := ((((((A103.st p107 rfl).st p116 rfl).st p119 rfl).st p121 rfl).st p124 rfl).st p130 rfl)
        refine cl rfl rfl rfl rfl rfl Tryz.func27 rfl rfl rfl (fun r136 m136 => laws_heldHeap.calls (Heap.mk r102.2) (1 : Int) s130.w (fun b => memb [47] (s130.g b) = true) v36_0 A135.rd r136 m136) ?_
        rintro r136 _ w136 m136 ⟨rfl, ky136⟩
        obtain ⟨s137, rfl, p137, n137⟩ := nwx s130 w136 60 ky136
        refine pu rfl rfl rfl rfl rfl ?_
        refine dn ?_
        refine sq ?_
        refine sr ?_
        refine pu rfl rfl rfl rfl rfl ?_
        refine pu rfl rfl rfl rfl rfl ?_
        refine dn ?_
        refine cd rfl (fun h138 => ?_) (fun h138 => ?_)
        ·
         refine sr ?_
         refine pu rfl rfl rfl rfl rfl ?_
         refine dn ?_
         have K139 := ((((((K113.st p116 rfl).st p119 rfl).st p121 rfl).st p124 rfl).st p130 rfl).st p137 rfl)
         exact re rfl Tryz.func4 rfl (r_t rfl r_nil) rfl ⟨_, rfl, rfl, z.ky K139⟩
        ·
         refine sk ?_
         refine sq ?_
         refine sr ?_
         refine pu rfl rfl rfl rfl rfl ?_
         refine pu rfl rfl rfl rfl rfl ?_
         refine pu rfl rfl rfl rfl rfl ?_
         refine dn ?_
         refine cd rfl (fun h140 => ?_) (fun h140 => ?_)
         ·
          refine sr ?_
          refine pu rfl rfl rfl rfl rfl ?_
          refine dn ?_
          have K141 := ((((((K113.st p116 rfl).st p119 rfl).st p121 rfl).st p124 rfl).st p130 rfl).st p137 rfl)
          exact re rfl Tryz.func4 rfl (r_t rfl r_nil) rfl ⟨_, rfl, rfl, z.ky K141⟩
         ·
          refine sk ?_
          refine sr ?_
          refine pu rfl rfl rfl rfl rfl ?_
          refine dn ?_
          have K142 := ((((((K113.st p116 rfl).st p119 rfl).st p121 rfl).st p124 rfl).st p130 rfl).st p137 rfl)
          exact re rfl Tryz.func4 rfl (r_t rfl r_nil) rfl ⟨_, rfl, rfl, z.ky K142⟩
noncomputable def laws_szTuple.f (a0 : Tuple) (a1 : Int) : Option (Int) :=
 ((laws_szItem.f a0.Key a1).bind fun r7 => (if (decide (r7 < (0 : Int))) = true then (some (-1 : Int)) else ((laws_szItem.f a0.Value r7).bind fun r14 => (if (decide (r14 < (0 : Int))) = true then (some (-1 : Int)) else (some r14)))))
def laws_szTuple.Q (w : World) (F : Nat → Prop) (r : Int) (v : Value) (w' : World) : Prop :=
 v = (.int .i64 r) ∧ Ky [] w w'
set_option maxHeartbeats 4000000 in
set_option maxRecDepth 100000 in
theorem laws_szTuple.calls (a0 : Tuple) (a1 : Int) (w : World) (F : Nat → Prop) (w0_0 : Value) (w0_1 : Value) (w0_2 : Value) (w0_3 : Value) (h0_0 : Kd.flt.rd w [w0_0] a0.Key.F F) (h0_1 : (Kd.sl 5 (Kd.int .u8)).rd w [w0_1] a0.Key.T F) (h0_2 : Kd.flt.rd w [w0_2] a0.Value.F F) (h0_3 : (Kd.sl 5 (Kd.int .u8)).rd w [w0_3] a0.Value.T F) (r : Int) (m : laws_szTuple.f a0 a1 = some r) :
  Calls Tryz.prog 28 #[(.agg #[(.int .i64 a0.Xmin), (.int .i64 a0.Xmax), (.int .i64 a0.Key.Kind), (.int .i64 a0.Key.N), w0_0, w0_1, (.int .i64 a0.Value.Kind), (.int .i64 a0.Value.N), w0_2, w0_3]), (.int .i64 a1)] w fun en w' => ∃ v, en = .returned v ∧ laws_szTuple.Q w F r v w' := by
 obtain ⟨s0, rfl, kp0, z⟩ := start0 w F
 have A0_0 := fl_of h0_0
 have A0_1 := z.rd h0_1
 have A0_2 := fl_of h0_2
 have A0_3 := z.rd h0_3
 refine calls_of_TM (args := [(.agg #[(.int .i64 a0.Xmin), (.int .i64 a0.Xmax), (.int .i64 a0.Key.Kind), (.int .i64 a0.Key.N), w0_0, w0_1, (.int .i64 a0.Value.Kind), (.int .i64 a0.Value.N), w0_2, w0_3]), (.int .i64 a1)]) (R := fun r en w' => ∃ v, en = .returned v ∧ laws_szTuple.Q s0.w F r v w') Tryz.func28 Tryz.ntmps28 rfl rfl m ?_
 unfold laws_szTuple.f
 refine sr ?_
 refine bx (cs := [(.int .i64 a0.Xmin), (.int .i64 a0.Xmax), (.int .i64 a0.Key.Kind), (.int .i64 a0.Key.N), w0_0, w0_1, (.int .i64 a0.Value.Kind), (.int .i64 a0.Value.N), w0_2, w0_3]) 40 rfl rfl rfl rfl rfl rfl (fun b3 s3 p3 B3 => ?_)
 refine pu rfl rfl rfl rfl rfl ?_
 refine dn ?_
 refine sr ?_
 refine fa fa54_2 rfl rfl rfl rfl rfl rfl ?_
 refine lda (es := [(.int .i64 a0.Key.Kind), (.int .i64 a0.Key.N), w0_0, w0_1]) B3 Tryz.underlying26 z26 rfl rfl rfl rfl rfl rfl rfl rfl ?_
 refine pu rfl rfl rfl rfl rfl ?_
 have K5 := (kp0.st p3 rfl)
 have A6 := (A0_1.kp K5)
 refine cl rfl rfl rfl rfl rfl Tryz.func11 rfl rfl rfl (fun r7 m7 => laws_szItem.calls a0.Key a1 s3.w (fun b => memb [0] (s3.g b) = true) w0_0 w0_1 ((fl_rdf (s := s3) A0_0).sub (D := [0]) rfl) A6 r7 m7) ?_
 rintro r7 _ w7 m7 ⟨rfl, ky7⟩
 obtain ⟨s8, rfl, p8, n8⟩ := nwx s3 w7 41 ky7
 refine pu rfl rfl rfl rfl rfl ?_
 refine dn ?_
 refine sq ?_
 refine sr ?_
 refine pu rfl rfl rfl rfl rfl ?_
 refine pu rfl rfl rfl rfl rfl ?_
 refine dn ?_
 refine cd rfl (fun h9 => ?_) (fun h9 => ?_)
 ·
  refine sr ?_
  refine pu rfl rfl rfl rfl rfl ?_
  refine dn ?_
  have K10 := (K5.st p8 rfl)
  exact re rfl Tryz.func28 rfl (r_t rfl r_nil) rfl ⟨_, rfl, rfl, z.ky K10⟩
 ·
  refine sk ?_
  refine sr ?_
  refine fa fa54_3 rfl rfl rfl rfl rfl rfl ?_
  have A11 := (BlF.st B3 p8 rfl)
  refine lda (es := [(.int .i64 a0.Value.Kind), (.int .i64 a0.Value.N), w0_2, w0_3]) A11 Tryz.underlying26 z26 rfl rfl rfl rfl rfl rfl rfl rfl ?_
  refine pu rfl rfl rfl rfl rfl ?_
  have K12 := (K5.st p8 rfl)
  have A13 := (A0_3.kp K12)
  refine cl rfl rfl rfl rfl rfl Tryz.func11 rfl rfl rfl (fun r14 m14 => laws_szItem.calls a0.Value r7 s8.w (fun b => memb [0] (s8.g b) = true) w0_2 w0_3 ((fl_rdf (s := s8) A0_2).sub (D := [0]) rfl) A13 r14 m14) ?_
  rintro r14 _ w14 m14 ⟨rfl, ky14⟩
  obtain ⟨s15, rfl, p15, n15⟩ := nwx s8 w14 42 ky14
  refine pu rfl rfl rfl rfl rfl ?_
  refine dn ?_
  refine sq ?_
  refine sr ?_
  refine pu rfl rfl rfl rfl rfl ?_
  refine pu rfl rfl rfl rfl rfl ?_
  refine dn ?_
  refine cd rfl (fun h16 => ?_) (fun h16 => ?_)
  ·
   refine sr ?_
   refine pu rfl rfl rfl rfl rfl ?_
   refine dn ?_
   have K17 := (K12.st p15 rfl)
   exact re rfl Tryz.func28 rfl (r_t rfl r_nil) rfl ⟨_, rfl, rfl, z.ky K17⟩
  ·
   refine sk ?_
   refine sr ?_
   refine pu rfl rfl rfl rfl rfl ?_
   refine pu rfl rfl rfl rfl rfl ?_
   refine dn ?_
   have K18 := (K12.st p15 rfl)
   exact re rfl Tryz.func28 rfl (r_t rfl r_nil) rfl ⟨_, rfl, rfl, z.ky K18⟩
noncomputable def laws_toTuple.f (a0 : Tuple) : Option (Tuple) :=
 ((laws_toItem.f a0.Key).bind fun r18 => ((laws_toItem.f a0.Value).bind fun r27 => (some (Tuple.mk a0.Xmin a0.Xmax r18 r27))))
def laws_toTuple.Q (w : World) (F : Nat → Prop) (r : Tuple) (v : Value) (w' : World) : Prop :=
 ∃ (v0 : Value) (v1 : Value) (v2 : Value) (v3 : Value), v = (.agg #[(.int .i64 r.Xmin), (.int .i64 r.Xmax), (.int .i64 r.Key.Kind), (.int .i64 r.Key.N), v0, v1, (.int .i64 r.Value.Kind), (.int .i64 r.Value.N), v2, v3]) ∧ FO kd58 w w' [(.int .i64 r.Xmin), (.int .i64 r.Xmax), (.int .i64 r.Key.Kind), (.int .i64 r.Key.N), v0, v1, (.int .i64 r.Value.Kind), (.int .i64 r.Value.N), v2, v3] r ∧ Ky [] w w'
set_option maxHeartbeats 4000000 in
set_option maxRecDepth 100000 in
theorem laws_toTuple.calls (a0 : Tuple) (w : World) (F : Nat → Prop) (w0_0 : Value) (w0_1 : Value) (w0_2 : Value) (w0_3 : Value) (h0_0 : Kd.flt.rd w [w0_0] a0.Key.F F) (h0_1 : (Kd.sl 5 (Kd.int .u8)).rd w [w0_1] a0.Key.T F) (h0_2 : Kd.flt.rd w [w0_2] a0.Value.F F) (h0_3 : (Kd.sl 5 (Kd.int .u8)).rd w [w0_3] a0.Value.T F) (r : Tuple) (m : laws_toTuple.f a0 = some r) :
  Calls Tryz.prog 30 #[(.agg #[(.int .i64 a0.Xmin), (.int .i64 a0.Xmax), (.int .i64 a0.Key.Kind), (.int .i64 a0.Key.N), w0_0, w0_1, (.int .i64 a0.Value.Kind), (.int .i64 a0.Value.N), w0_2, w0_3])] w fun en w' => ∃ v, en = .returned v ∧ laws_toTuple.Q w F r v w' := by
 obtain ⟨s0, rfl, kp0, z⟩ := start0 w F
 have A0_0 := fl_of h0_0
 have A0_1 := z.rd h0_1
 have A0_2 := fl_of h0_2
 have A0_3 := z.rd h0_3
 refine calls_of_TM (args := [(.agg #[(.int .i64 a0.Xmin), (.int .i64 a0.Xmax), (.int .i64 a0.Key.Kind), (.int .i64 a0.Key.N), w0_0, w0_1, (.int .i64 a0.Value.Kind), (.int .i64 a0.Value.N), w0_2, w0_3])]) (R := fun r en w' => ∃ v, en = .returned v ∧ laws_toTuple.Q s0.w F r v w') Tryz.func30 Tryz.ntmps30 rfl rfl m ?_
 unfold laws_toTuple.f
 refine sr ?_
 refine bx (cs := [(.int .i64 a0.Xmin), (.int .i64 a0.Xmax), (.int .i64 a0.Key.Kind), (.int .i64 a0.Key.N), w0_0, w0_1, (.int .i64 a0.Value.Kind), (.int .i64 a0.Value.N), w0_2, w0_3]) 40 rfl rfl rfl rfl rfl rfl (fun b3 s3 p3 B3 => ?_)
 refine al (cs := [(.int .i64 (0 : Int)), (.int .i64 (0 : Int)), (.int .i64 (0 : Int)), (.int .i64 (0 : Int)), (.float .f64 0), (.slice none 0 0), (.int .i64 (0 : Int)), (.int .i64 (0 : Int)), (.float .f64 0), (.slice none 0 0)]) 41 rfl rfl rfl rfl rfl o58 rfl (fun b5 s5 p5 B5 => ?_)
 refine dn ?_
 refine sr ?_
 refine al (cs := [(.int .i64 (0 : Int)), (.int .i64 (0 : Int)), (.int .i64 (0 : Int)), (.int .i64 (0 : Int)), (.float .f64 0), (.slice none 0 0), (.int .i64 (0 : Int)), (.int .i64 (0 : Int)), (.float .f64 0), (.slice none 0 0)]) 42 rfl rfl rfl rfl rfl o58 rfl (fun b7 s7 p7 B7 => ?_)
 refine dn ?_
 refine sr ?_
 refine fa fa54_0 rfl rfl rfl rfl rfl rfl ?_
 have A9 := (BlF.st (BlF.st B3 p5 rfl) p7 rfl)
 refine ld A9 Tryz.underlying3 rfl rfl rfl rfl rfl rfl rfl rfl ?_
 refine fa fa58_0 rfl rfl rfl rfl rfl rfl ?_
 refine sv B7 z3 rfl rfl rfl rfl rfl rfl rfl rfl (fun s10 p10 B10 => ?_)
 refine dn ?_
 refine sr ?_
 refine fa fa54_1 rfl rfl rfl rfl rfl rfl ?_
 have A12 := (BlF.st A9 p10 rfl)
 refine ld A12 Tryz.underlying3 rfl rfl rfl rfl rfl rfl rfl rfl ?_
 refine fa fa58_1 rfl rfl rfl rfl rfl rfl ?_
 refine sv B10 z3 rfl rfl rfl rfl rfl rfl rfl rfl (fun s13 p13 B13 => ?_)
 refine dn ?_
 refine sr ?_
 refine fa fa54_2 rfl rfl rfl rfl rfl rfl ?_
 have A15 := (BlF.st A12 p13 rfl)
 refine lda (es := [(.int .i64 a0.Key.Kind), (.int .i64 a0.Key.N), w0_0, w0_1]) A15 Tryz.underlying26 z26 rfl rfl rfl rfl rfl rfl rfl rfl ?_
 have K16 := (((((kp0.st p3 rfl).st p5 rfl).st p7 rfl).st p10 rfl).st p13 rfl)
 have A17 := (A0_1.kp K16)
 refine cl rfl rfl rfl rfl rfl Tryz.func14 rfl rfl rfl (fun r18 m18 => laws_toItem.calls a0.Key s13.w (fun b => memb [0] (s13.g b) = true) w0_0 w0_1 ((fl_rdf (s := s13) A0_0).sub (D := [0]) rfl) A17 r18 m18) ?_
 rintro r18 _ w18 m18 ⟨v18_0, v18_1, rfl, f18_0, ky18⟩
 obtain ⟨s19, rfl, p19, n19⟩ := nwx s13 w18 43 ky18
 have A18_0 := f18_0.c n19
 obtain ⟨os18_0, ho18_0, hn18_0, hc18_0⟩ := A18_0
 obtain ⟨u18_0_0, u18_0_1, qu18_0_1, e18_0, eo18_0, hu18_0_0, hu18_0_1⟩ := po33 ho18_0
 have yu18_0_0 : v18_0 = u18_0_0 := congrArg (fun l => (List.drop 2 l).headD undef) e18_0
 have yu18_0_1 : v18_1 = u18_0_1 := congrArg (fun l => (List.drop 3 l).headD undef) e18_0
 subst yu18_0_0
 subst yu18_0_1
 subst eo18_0
 have Au18_0_1 : OwF (Kd.sl 5 (Kd.int .u8)) s19 [v18_1] r18.T 43 := sp1 hu18_0_1 hn18_0 hc18_0
 refine fa fa58_2 rfl rfl rfl rfl rfl rfl ?_
 have A21 := (BlF.st B13 p19 rfl)
 refine sva (vs := [(.int .i64 r18.Kind), (.int .i64 r18.N), v18_0, v18_1]) A21 z33 rfl rfl rfl rfl rfl rfl (on_cons rfl (on_cons rfl (on_cons (FL.one hu18_0_0) (on_cons Au18_0_1.rd.one on_nil)))) rfl (fun s22 p22 B22 => ?_)
 refine dn ?_
 refine sr ?_
 refine fa fa54_3 rfl rfl rfl rfl rfl rfl ?_
 have A24 := (BlF.st (BlF.st A15 p19 rfl) p22 rfl)
 refine lda (es := [(.int .i64 a0.Value.Kind), (.int .i64 a0.Value.N), w0_2, w0_3]) A24 Tryz.underlying26 z26 rfl rfl rfl rfl rfl rfl rfl rfl ?_
 have K25 := ((K16.st p19 rfl).st p22 rfl)
 have A26 := (A0_3.kp K25)
 refine cl rfl rfl rfl rfl rfl Tryz.func14 rfl rfl rfl (fun r27 m27 => laws_toItem.calls a0.Value s22.w (fun b => memb [0] (s22.g b) = true) w0_2 w0_3 ((fl_rdf (s := s22) A0_2).sub (D := [0]) rfl) A26 r27 m27) ?_
 rintro r27 _ w27 m27 ⟨v27_0, v27_1, rfl, f27_0, ky27⟩
 obtain ⟨s28, rfl, p28, n28⟩ := nwx s22 w27 44 ky27
 have A27_0 := f27_0.c n28
 obtain ⟨os27_0, ho27_0, hn27_0, hc27_0⟩ := A27_0
 obtain ⟨u27_0_0, u27_0_1, qu27_0_1, e27_0, eo27_0, hu27_0_0, hu27_0_1⟩ := po33 ho27_0
 have yu27_0_0 : v27_0 = u27_0_0 := congrArg (fun l => (List.drop 2 l).headD undef) e27_0
 have yu27_0_1 : v27_1 = u27_0_1 := congrArg (fun l => (List.drop 3 l).headD undef) e27_0
 subst yu27_0_0
 subst yu27_0_1
 subst eo27_0
 have Au27_0_1 : OwF (Kd.sl 5 (Kd.int .u8)) s28 [v27_1] r27.T 44 := sp1 hu27_0_1 hn27_0 hc27_0
 refine fa fa58_3 rfl rfl rfl rfl rfl rfl ?_
 have A30 := (BlF.st B22 p28 rfl)
 refine sva (vs := [(.int .i64 r27.Kind), (.int .i64 r27.N), v27_0, v27_1]) A30 z33 rfl rfl rfl rfl rfl rfl (on_cons rfl (on_cons rfl (on_cons (FL.one hu27_0_0) (on_cons Au27_0_1.rd.one on_nil)))) rfl (fun s31 p31 B31 => ?_)
 refine dn ?_
 refine sr ?_
 refine lda (es := [(.int .i64 a0.Xmin), (.int .i64 a0.Xmax), (.int .i64 r18.Kind), (.int .i64 r18.N), v18_0, v18_1, (.int .i64 r27.Kind), (.int .i64 r27.N), v27_0, v27_1]) B31 Tryz.underlying58 z58 rfl rfl rfl rfl rfl rfl rfl rfl ?_
 have A33 := (BlF.st (BlF.st (BlF.st (BlF.st (BlF.st (BlF.st (BlF.st B5 p7 rfl) p10 rfl) p13 rfl) p19 rfl) p22 rfl) p28 rfl) p31 rfl)
 have A34 := (Au27_0_1.st p31 rfl)
 have A35 := (((Au18_0_1.st p22 rfl).st p28 rfl).st p31 rfl)
 refine sva (vs := [(.int .i64 a0.Xmin), (.int .i64 a0.Xmax), (.int .i64 r18.Kind), (.int .i64 r18.N), v18_0, v18_1, (.int .i64 r27.Kind), (.int .i64 r27.N), v27_0, v27_1]) A33 z58 rfl rfl rfl rfl rfl rfl (on_cons rfl (on_cons rfl (on_cons rfl (on_cons rfl (on_cons (FL.one hu18_0_0) (on_cons A35.rd.one (on_cons rfl (on_cons rfl (on_cons (FL.one hu27_0_0) (on_cons A34.rd.one on_nil)))))))))) rfl (fun s36 p36 B36 => ?_)
 refine dn ?_
 have A38 := (A35.st p36 rfl)
 have A39 := (A34.st p36 rfl)
 obtain ⟨s40, hw40, p40, A40⟩ := ow_2 (ow_isoz (fun x : Item => (x.Kind, x.N, x.F, x.T)) r18 (ow_l (fz_int .i64 r18.Kind) (ow_l (fz_int .i64 r18.N) (ow_l (fz_flt hu18_0_0) A38)))) (ow_isoz (fun x : Item => (x.Kind, x.N, x.F, x.T)) r27 (ow_l (fz_int .i64 r27.Kind) (ow_l (fz_int .i64 r27.N) (ow_l (fz_flt hu27_0_0) A39)))) rfl rfl
 rw [hw40]
 have A42 : OwF kd58 s40 [(.int .i64 a0.Xmin), (.int .i64 a0.Xmax), (.int .i64 r18.Kind), (.int .i64 r18.N), v18_0, v18_1, (.int .i64 r27.Kind), (.int .i64 r27.N), v27_0, v27_1] (Tuple.mk a0.Xmin a0.Xmax r18 r27) 43 := (ow_isoz (fun x : Tuple => (x.Xmin, x.Xmax, x.Key, x.Value)) (Tuple.mk a0.Xmin a0.Xmax r18 r27) (ow_l (fz_int .i64 a0.Xmin) (ow_l (fz_int .i64 a0.Xmax) A40)))
 have A44 := (BlF.st B36 p40 rfl)
 have K45 := ((((K25.st p28 rfl).st p31 rfl).st p36 rfl).st p40 rfl)
 exact re rfl Tryz.func30 rfl (r_b A44 Tryz.underlying58 rfl z58 rfl r_nil) rfl ⟨_, rfl, v18_0, v18_1, v27_0, v27_1, rfl, A42.fo K45 rfl z.l, z.ky K45⟩
noncomputable def spec_HeapPut.f (a0 : Heap) (a1 : Int) (a2 : Int) (a3 : Tuple) (a4 : Int) : Option (Heap × Bool) :=
 ((spec_HeapAt.f a0 a1 a2).bind fun r13 => ((spec_HeapOk.f a0).bind fun r27 => ((if (!r27) = true then (some true) else ((spec_TupleOk.f a3).bind fun r38 => (some (!r38)))).bind fun y29 => ((if (y29 || r13.2) = true then (some true) else ((spec_l5in.f a1 (0 : Int) (a0.Pages.length : Int)).bind fun r51 => (some (!r51)))).bind fun y49 => (if (y49 || (decide (a1 ≥ (16 : Int)))) = true then (some ((Heap.mk ([] : (List Page))), false)) else ((spec_l10copy.f a0).bind fun r69 => ((if (a1 == (r69.Pages.length : Int)) = true then (if r69.Pages.length + ([(Page.mk (0 : Int) ([] : (List (List Int))))]).length ≤ Lim then (some (r69.Pages ++ [(Page.mk (0 : Int) ([] : (List (List Int))))])) else none) else (some r69.Pages)).bind fun y78 => (if 0 ≤ a1 ∧ a1 < (y78.length : Int) then (((spec_TupleBytes.f a3).bind fun r126 => ((spec_PagePut.f (at_ y78 a1) a2 r126 a4).bind fun r136 => (some (r136.1.Lsn, r136.1.Slots, r136.2)))).bind fun y118 => (if (!y118.2.2) = true then (some ((Heap.mk ([] : (List Page))), false)) else (if 0 ≤ a1 ∧ a1 < (y78.length : Int) then (some ((Heap.mk (y78.set (a1).toNat (Page.mk y118.1 y118.2.1))), true)) else none))) else none))))))))
def spec_HeapPut.Q (w : World) (F : Nat → Prop) (r : Heap × Bool) (v : Value) (w' : World) : Prop :=
 ∃ (v0 : Value), v = .tuple #[(.agg #[v0]), (.bool r.2)] ∧ FO kd46 w w' [v0] r.1 ∧ Ky [] w w'
set_option maxHeartbeats 4000000 in
set_option maxRecDepth 100000 in
theorem spec_HeapPut.calls (a0 : Heap) (a1 : Int) (a2 : Int) (a3 : Tuple) (a4 : Int) (w : World) (F : Nat → Prop) (w0_0 : Value) (w3_0 : Value) (w3_1 : Value) (w3_2 : Value) (w3_3 : Value) (h0_0 : (Kd.sl 142 kd142).rd w [w0_0] a0.Pages F) (h3_0 : Kd.flt.rd w [w3_0] a3.Key.F F) (h3_1 : (Kd.sl 5 (Kd.int .u8)).rd w [w3_1] a3.Key.T F) (h3_2 : Kd.flt.rd w [w3_2] a3.Value.F F) (h3_3 : (Kd.sl 5 (Kd.int .u8)).rd w [w3_3] a3.Value.T F) (r : Heap × Bool) (m : spec_HeapPut.f a0 a1 a2 a3 a4 = some r) :
  Calls Tryz.prog 29 #[(.agg #[w0_0]), (.int .i64 a1), (.int .i64 a2), (.agg #[(.int .i64 a3.Xmin), (.int .i64 a3.Xmax), (.int .i64 a3.Key.Kind), (.int .i64 a3.Key.N), w3_0, w3_1, (.int .i64 a3.Value.Kind), (.int .i64 a3.Value.N), w3_2, w3_3]), (.int .i64 a4)] w fun en w' => ∃ v, en = .returned v ∧ spec_HeapPut.Q w F r v w' := by
 obtain ⟨s0, rfl, kp0, z⟩ := start0 w F
 have A0_0 := z.rd h0_0
 have A3_0 := fl_of h3_0
 have A3_1 := z.rd h3_1
 have A3_2 := fl_of h3_2
 have A3_3 := z.rd h3_3
 refine calls_of_TM (args := [(.agg #[w0_0]), (.int .i64 a1), (.int .i64 a2), (.agg #[(.int .i64 a3.Xmin), (.int .i64 a3.Xmax), (.int .i64 a3.Key.Kind), (.int .i64 a3.Key.N), w3_0, w3_1, (.int .i64 a3.Value.Kind), (.int .i64 a3.Value.N), w3_2, w3_3]), (.int .i64 a4)]) (R := fun r en w' => ∃ v, en = .returned v ∧ spec_HeapPut.Q s0.w F r v w') Tryz.func29 Tryz.ntmps29 rfl rfl m ?_
 unfold spec_HeapPut.f
 refine sr ?_
 refine bx (cs := [w0_0]) 40 rfl rfl rfl rfl rfl rfl (fun b4 s4 p4 B4 => ?_)
 refine bx (cs := [(.int .i64 a3.Xmin), (.int .i64 a3.Xmax), (.int .i64 a3.Key.Kind), (.int .i64 a3.Key.N), w3_0, w3_1, (.int .i64 a3.Value.Kind), (.int .i64 a3.Value.N), w3_2, w3_3]) 41 rfl rfl rfl rfl rfl rfl (fun b6 s6 p6 B6 => ?_)
 refine al (cs := [(.slice none 0 0)]) 42 rfl rfl rfl rfl rfl o46 rfl (fun b8 s8 p8 B8 => ?_)
 refine pu rfl rfl rfl rfl rfl ?_
 refine dn ?_
 refine sr ?_
 have A10 := (BlF.st (BlF.st B4 p6 rfl) p8 rfl)
 refine lda (es := [w0_0]) A10 Tryz.underlying46 z46 rfl rfl rfl rfl rfl rfl rfl rfl ?_
 refine pu rfl rfl rfl rfl rfl ?_
 refine pu rfl rfl rfl rfl rfl ?_
 have K11 := (((kp0.st p4 rfl).st p6 rfl).st p8 rfl)
 have A12 := (A0_0.kp K11)
 refine cl rfl rfl rfl rfl rfl Tryz.func95 rfl rfl rfl (fun r13 m13 => spec_HeapAt.calls a0 a1 a2 s8.w (fun b => memb [0] (s8.g b) = true) w0_0 A12 r13 m13) ?_
 rintro r13 _ w13 m13 ⟨v13_0, v13_1, v13_2, v13_3, rfl, f13_0, ky13⟩
 obtain ⟨s14, rfl, p14, n14⟩ := nwx s8 w13 43 ky13
 have A13_0 := f13_0.c n14
 obtain ⟨os13_0, ho13_0, hn13_0, hc13_0⟩ := A13_0
 obtain ⟨u13_0_0, u13_0_1, u13_0_2, u13_0_3, qu13_0_1, qu13_0_3, e13_0, eo13_0, hu13_0_0, hu13_0_1, hu13_0_2, hu13_0_3⟩ := po58 ho13_0
 have yu13_0_0 : v13_0 = u13_0_0 := congrArg (fun l => (List.drop 4 l).headD undef) e13_0
 have yu13_0_1 : v13_1 = u13_0_1 := congrArg (fun l => (List.drop 5 l).headD undef) e13_0
 have yu13_0_2 : v13_2 = u13_0_2 := congrArg (fun l => (List.drop 8 l).headD undef) e13_0
 have yu13_0_3 : v13_3 = u13_0_3 := congrArg (fun l => (List.drop 9 l).headD undef) e13_0
 subst yu13_0_0
 subst yu13_0_1
 subst yu13_0_2
 subst yu13_0_3
 subst eo13_0
 obtain ⟨s15, hw15, p15, Au13_0_1, hn15, hc15⟩ := sp2 44 hu13_0_1 hn13_0 hc13_0 rfl
 rw [hw15]
 have Au13_0_3 : OwF (Kd.sl 5 (Kd.int .u8)) s15 [v13_3] r13.1.Value.T 44 := sp1 (hw15 ▸ hu13_0_3) hn15 hc15
 refine pu rfl rfl rfl rfl rfl ?_
 refine pu (v := (.agg #[(.int .i64 r13.1.Xmin), (.int .i64 r13.1.Xmax), (.int .i64 r13.1.Key.Kind), (.int .i64 r13.1.Key.N), v13_0, v13_1, (.int .i64 r13.1.Value.Kind), (.int .i64 r13.1.Value.N), v13_2, v13_3])) rfl rfl rfl rfl rfl ?_
 refine pu (v := (.bool r13.2)) rfl rfl rfl rfl rfl ?_
 refine al (cs := [(.int .i64 (0 : Int)), (.int .i64 (0 : Int)), (.int .i64 (0 : Int)), (.int .i64 (0 : Int)), (.float .f64 0), (.slice none 0 0), (.int .i64 (0 : Int)), (.int .i64 (0 : Int)), (.float .f64 0), (.slice none 0 0)]) 45 rfl rfl rfl rfl rfl o58 rfl (fun b18 s18 p18 B18 => ?_)
 have A20 := (Au13_0_3.st p18 rfl)
 have A21 := (Au13_0_1.st p18 rfl)
 refine sva (vs := [(.int .i64 r13.1.Xmin), (.int .i64 r13.1.Xmax), (.int .i64 r13.1.Key.Kind), (.int .i64 r13.1.Key.N), v13_0, v13_1, (.int .i64 r13.1.Value.Kind), (.int .i64 r13.1.Value.N), v13_2, v13_3]) B18 z58 rfl rfl rfl rfl rfl rfl (on_cons rfl (on_cons rfl (on_cons rfl (on_cons rfl (on_cons (FL.one hu13_0_0) (on_cons A21.rd.one (on_cons rfl (on_cons rfl (on_cons (FL.one hu13_0_2) (on_cons A20.rd.one on_nil)))))))))) rfl (fun s22 p22 B22 => ?_)
 refine pu rfl rfl rfl rfl rfl ?_
 refine dn ?_
 refine sq ?_
 refine sr ?_
 have A24 := (BlF.st (BlF.st (BlF.st (BlF.st A10 p14 rfl) p15 rfl) p18 rfl) p22 rfl)
 refine lda (es := [w0_0]) A24 Tryz.underlying46 z46 rfl rfl rfl rfl rfl rfl rfl rfl ?_
 have K25 := ((((K11.st p14 rfl).st p15 rfl).st p18 rfl).st p22 rfl)
 have A26 := (A0_0.kp K25)
 refine cl rfl rfl rfl rfl rfl Tryz.func108 rfl rfl rfl (fun r27 m27 => spec_HeapOk.calls a0 s22.w (fun b => memb [0] (s22.g b) = true) w0_0 A26 r27 m27) ?_
 rintro r27 _ w27 m27 ⟨rfl, ky27⟩
 obtain ⟨s28, rfl, p28, n28⟩ := nwx s22 w27 46 ky27
 refine pu rfl rfl rfl rfl rfl ?_
 refine pu rfl rfl rfl rfl rfl ?_
 refine ji [8, 9, 10, 11, 12, 13, 14, 15, 16, 17, 18, 19, 20, 21, 22] (fun (y29 : Bool) (e : Env) (w : World) => ∃ (s : St) (e0 : Env), w = s.w ∧ e = upd (upd (upd (upd (upd (upd (upd (upd e0 1 (.int .i64 a1)) 2 (.int .i64 a2)) 4 (.int .i64 a4)) 5 (.pointer (some ⟨b4, 0, none⟩))) 8 (.pointer (some ⟨b6, 0, none⟩))) 10 (.pointer (some ⟨b8, 0, none⟩))) 13 (.bool r13.2)) 31 (.bool y29) ∧ Kp s0 s ∧ BlF s b8 46 [(.slice none 0 0)] 42 ∧ BlF s b6 58 [(.int .i64 a3.Xmin), (.int .i64 a3.Xmax), (.int .i64 a3.Key.Kind), (.int .i64 a3.Key.N), w3_0, w3_1, (.int .i64 a3.Value.Kind), (.int .i64 a3.Value.N), w3_2, w3_3] 41 ∧ BlF s b4 46 [w0_0] 40) (fun Gj29 Kj29 => ?_) ?_
 ·
  rcases Bool.eq_false_or_eq_true (!r27) with hb29 | hb29
  ·
   refine sbT hb29 ?_
   rw [if_pos hb29]
   refine uw rfl rfl rfl rfl ?_
   refine uw rfl rfl rfl rfl ?_
   refine uw rfl rfl rfl rfl ?_
   refine pu rfl rfl rfl rfl rfl ?_
   have A30 := (BlF.st (BlF.st (BlF.st (BlF.st (BlF.st B8 p14 rfl) p15 rfl) p18 rfl) p22 rfl) p28 rfl)
   have A31 := (BlF.st (BlF.st (BlF.st (BlF.st (BlF.st (BlF.st B6 p8 rfl) p14 rfl) p15 rfl) p18 rfl) p22 rfl) p28 rfl)
   have A32 := (BlF.st A24 p28 rfl)
   have K33 := (K25.st p28 rfl)
   exact Kj29 _ _ _ ⟨s28, _, rfl, (ue (ue (ue (ue (ue (ue (ue (ue rfl rfl) rfl) rfl) rfl) rfl) rfl) rfl) rfl), K33, A30, A31, A32⟩
  ·
   refine sbT hb29 ?_
   rw [if_neg (by rw [hb29]; decide)]
   have A34 := (BlF.st (BlF.st (BlF.st (BlF.st (BlF.st (BlF.st B6 p8 rfl) p14 rfl) p15 rfl) p18 rfl) p22 rfl) p28 rfl)
   refine lda (es := [(.int .i64 a3.Xmin), (.int .i64 a3.Xmax), (.int .i64 a3.Key.Kind), (.int .i64 a3.Key.N), w3_0, w3_1, (.int .i64 a3.Value.Kind), (.int .i64 a3.Value.N), w3_2, w3_3]) A34 Tryz.underlying58 z58 rfl rfl rfl rfl rfl rfl rfl rfl ?_
   have K35 := (K25.st p28 rfl)
   have A36 := (A3_1.kp K35)
   have A37 := (A3_3.kp K35)
   refine cl rfl rfl rfl rfl rfl Tryz.func109 rfl rfl rfl (fun r38 m38 => spec_TupleOk.calls a3 s28.w (fun b => memb [0] (s28.g b) = true) w3_0 w3_1 w3_2 w3_3 ((fl_rdf (s := s28) A3_0).sub (D := [0]) rfl) A36 ((fl_rdf (s := s28) A3_2).sub (D := [0]) rfl) A37 r38 m38) ?_
   rintro r38 _ w38 m38 ⟨rfl, ky38⟩
   obtain ⟨s39, rfl, p39, n39⟩ := nwx s28 w38 47 ky38
   refine pu rfl rfl rfl rfl rfl ?_
   refine pu rfl rfl rfl rfl rfl ?_
   have A40 := (BlF.st (BlF.st (BlF.st (BlF.st (BlF.st (BlF.st B8 p14 rfl) p15 rfl) p18 rfl) p22 rfl) p28 rfl) p39 rfl)
   have A41 := (BlF.st A34 p39 rfl)
   have A42 := (BlF.st (BlF.st A24 p28 rfl) p39 rfl)
   have K43 := (K35.st p39 rfl)
   exact Kj29 _ _ _ ⟨s39, _, rfl, (ue (ue (ue (ue (ue (ue (ue (ue rfl rfl) rfl) rfl) rfl) rfl) rfl) rfl) rfl), K43, A40, A41, A42⟩
 rintro y29 _ _ ⟨s44, _, rfl, rfl, Ky29, By29_b8, By29_b6, By29_b4⟩
 refine pu rfl rfl rfl rfl rfl ?_
 refine jy [32, 33, 34] [11, 12, 13, 14, 15, 16, 17, 18, 19, 20, 21, 22] 34 (.bool (y29 || r13.2)) rfl (fun Kg48 => ?_) (fun j48 => ?_)
 ·
  rcases Bool.eq_false_or_eq_true y29 with hb48 | hb48
  ·
   refine sbT hb48 ?_
   refine uw rfl rfl rfl rfl ?_
   refine pu rfl rfl rfl rfl rfl ?_
   exact Kg48 _ (Ag.put ((Ag.put (Ag.base rfl) rfl)) rfl) (by rw [hb48]; rfl)
  ·
   refine sbT hb48 ?_
   refine pu rfl rfl rfl rfl rfl ?_
   refine pu rfl rfl rfl rfl rfl ?_
   exact Kg48 _ (Ag.put ((Ag.put (Ag.base rfl) rfl)) rfl) (by rw [hb48]; rfl)
 refine pu rfl rfl rfl rfl rfl ?_
 refine ji [19, 20, 21, 22] (fun (y49 : Bool) (e : Env) (w : World) => ∃ (s : St) (e0 : Env), w = s.w ∧ e = upd (upd (upd (upd (upd (upd (upd e0 1 (.int .i64 a1)) 2 (.int .i64 a2)) 4 (.int .i64 a4)) 5 (.pointer (some ⟨b4, 0, none⟩))) 8 (.pointer (some ⟨b6, 0, none⟩))) 10 (.pointer (some ⟨b8, 0, none⟩))) 42 (.bool y49) ∧ Kp s0 s ∧ BlF s b8 46 [(.slice none 0 0)] 42 ∧ BlF s b6 58 [(.int .i64 a3.Xmin), (.int .i64 a3.Xmax), (.int .i64 a3.Key.Kind), (.int .i64 a3.Key.N), w3_0, w3_1, (.int .i64 a3.Value.Kind), (.int .i64 a3.Value.N), w3_2, w3_3] 41 ∧ BlF s b4 46 [w0_0] 40) (fun Gj49 Kj49 => ?_) ?_
 ·
  rcases Bool.eq_false_or_eq_true (y29 || r13.2) with hb49 | hb49
  ·
   refine sbT hb49 ?_
   rw [if_pos hb49]
   refine uw rfl rfl rfl rfl ?_
   refine uw rfl rfl rfl rfl ?_
   refine uw rfl rfl rfl rfl ?_
   refine uw rfl rfl rfl rfl ?_
   refine uw rfl rfl rfl rfl ?_
   refine uw rfl rfl rfl rfl ?_
   refine pu rfl rfl rfl rfl rfl ?_
   exact Kj49 _ _ _ ⟨s44, _, rfl, (ue (ue (ue (ue (ue (ue (ue rfl rfl) rfl) rfl) rfl) rfl) rfl) rfl), Ky29, By29_b8, By29_b6, By29_b4⟩
  ·
   refine sbT hb49 ?_
   rw [if_neg (by rw [hb49]; decide)]
   refine pu rfl rfl rfl rfl rfl ?_
   refine fa fa46_0 rfl rfl rfl rfl rfl rfl ?_
   refine ld By29_b4 Tryz.underlying44 rfl rfl rfl rfl rfl rfl rfl rfl ?_
   have A50 := (A0_0.kp Ky29)
   refine ln A50 Tryz.underlying44 rfl rfl rfl rfl rfl rfl ?_
   refine cl rfl rfl rfl rfl rfl Tryz.func96 rfl rfl rfl (fun r51 m51 => spec_l5in.calls a1 (0 : Int) (a0.Pages.length : Int) s44.w (fun b => memb [] (s44.g b) = true)  r51 m51) ?_
   rintro r51 _ w51 m51 ⟨rfl, ky51⟩
   obtain ⟨s52, rfl, p52, n52⟩ := nwx s44 w51 48 ky51
   refine pu rfl rfl rfl rfl rfl ?_
   refine pu rfl rfl rfl rfl rfl ?_
   have A53 := (BlF.st By29_b8 p52 rfl)
   have A54 := (BlF.st By29_b6 p52 rfl)
   have A55 := (BlF.st By29_b4 p52 rfl)
   have K56 := (Ky29.st p52 rfl)
   exact Kj49 _ _ _ ⟨s52, _, rfl, (ue (ue (ue (ue (ue (ue (ue rfl rfl) rfl) rfl) rfl) rfl) rfl) rfl), K56, A53, A54, A55⟩
 rintro y49 _ _ ⟨s57, _, rfl, rfl, Ky49, By49_b8, By49_b6, By49_b4⟩
 refine pu rfl rfl rfl rfl rfl ?_
 refine jy [43, 44, 45, 46] [] 46 (.bool (y49 || (decide (a1 ≥ (16 : Int))))) rfl (fun Kg61 => ?_) (fun j61 => ?_)
 ·
  rcases Bool.eq_false_or_eq_true y49 with hb61 | hb61
  ·
   refine sbT hb61 ?_
   refine uw rfl rfl rfl rfl ?_
   refine uw rfl rfl rfl rfl ?_
   refine pu rfl rfl rfl rfl rfl ?_
   exact Kg61 _ (Ag.put ((Ag.put ((Ag.put (Ag.base rfl) rfl)) rfl)) rfl) (by rw [hb61]; rfl)
  ·
   refine sbT hb61 ?_
   refine pu rfl rfl rfl rfl rfl ?_
   refine pu rfl rfl rfl rfl rfl ?_
   refine pu rfl rfl rfl rfl rfl ?_
   exact Kg61 _ (Ag.put ((Ag.put ((Ag.put (Ag.base rfl) rfl)) rfl)) rfl) (by rw [hb61]; rfl)
 refine dn ?_
 refine cd rfl (fun h62 => ?_) (fun h62 => ?_)
 ·
  refine sr ?_
  refine bd (cells := [(.slice none 0 0)]) pl46 o46 rfl rfl rfl rfl rfl rfl ?_
  refine sva (vs := [(.slice none 0 0)]) By49_b8 z46 rfl rfl rfl rfl rfl rfl (on_cons rfl on_nil) rfl (fun s63 p63 B63 => ?_)
  refine pu rfl rfl rfl rfl rfl ?_
  refine dn ?_
  have A65 : OwF kd46 s63 [(.slice none 0 0)] (Heap.mk ([] : (List Page))) 49 := ow_z _ _ (fz_iso (fun x : Heap => (x.Pages)) (Heap.mk ([] : (List Page))) (fz_nil 142 kd142))
  have K67 := (Ky49.st p63 rfl)
  exact re rfl Tryz.func29 rfl (r_b B63 Tryz.underlying46 rfl z46 rfl (r_t rfl r_nil)) rfl ⟨_, rfl, (.slice none 0 0), rfl, A65.fo K67 rfl z.l, z.ky K67⟩
 ·
  refine sk ?_
  refine sr ?_
  refine lda (es := [w0_0]) By49_b4 Tryz.underlying46 z46 rfl rfl rfl rfl rfl rfl rfl rfl ?_
  have A68 := (A0_0.kp Ky49)
  refine cl rfl rfl rfl rfl rfl Tryz.func97 rfl rfl rfl (fun r69 m69 => spec_l10copy.calls a0 s57.w (fun b => memb [0] (s57.g b) = true) w0_0 A68 r69 m69) ?_
  rintro r69 _ w69 m69 ⟨v69_0, rfl, f69_0, ky69⟩
  obtain ⟨s70, rfl, p70, n70⟩ := nwx s57 w69 50 ky69
  have A69_0 := f69_0.c n70
  obtain ⟨os69_0, ho69_0, hn69_0, hc69_0⟩ := A69_0
  obtain ⟨u69_0_0, qu69_0_0, e69_0, eo69_0, hu69_0_0⟩ := po46 ho69_0
  have yu69_0_0 : v69_0 = u69_0_0 := congrArg (fun l => (List.drop 0 l).headD undef) e69_0
  subst yu69_0_0
  subst eo69_0
  have Au69_0_0 : OwF (Kd.sl 142 kd142) s70 [v69_0] r69.Pages 50 := sp1 hu69_0_0 hn69_0 hc69_0
  refine al (cs := [(.slice none 0 0)]) 51 rfl rfl rfl rfl rfl o46 rfl (fun b72 s72 p72 B72 => ?_)
  have A74 := (Au69_0_0.st p72 rfl)
  refine sva (vs := [v69_0]) B72 z46 rfl rfl rfl rfl rfl rfl (on_cons A74.rd.one on_nil) rfl (fun s75 p75 B75 => ?_)
  refine dn ?_
  refine sq ?_
  refine sr ?_
  refine pu rfl rfl rfl rfl rfl ?_
  refine fa fa46_0 rfl rfl rfl rfl rfl rfl ?_
  refine ld B75 Tryz.underlying44 rfl rfl rfl rfl rfl rfl rfl rfl ?_
  have A77 := (A74.st p75 rfl)
  refine ln A77.rd Tryz.underlying44 rfl rfl rfl rfl rfl rfl ?_
  refine pu rfl rfl rfl rfl rfl ?_
  refine dn ?_
  refine jc (fun (y78 : (List Page)) (e : Env) (w : World) => ∃ (s : St) (e0 : Env) (vy78_0 : Value), w = s.w ∧ e = upd (upd (upd (upd (upd (upd e0 1 (.int .i64 a1)) 2 (.int .i64 a2)) 4 (.int .i64 a4)) 8 (.pointer (some ⟨b6, 0, none⟩))) 10 (.pointer (some ⟨b8, 0, none⟩))) 14 (.pointer (some ⟨b72, 0, none⟩)) ∧ Kp s0 s ∧ OwF (Kd.sl 142 kd142) s [vy78_0] y78 50 ∧ BlF s b72 46 [vy78_0] 51 ∧ BlF s b8 46 [(.slice none 0 0)] 42 ∧ BlF s b6 58 [(.int .i64 a3.Xmin), (.int .i64 a3.Xmax), (.int .i64 a3.Key.Kind), (.int .i64 a3.Key.N), w3_0, w3_1, (.int .i64 a3.Value.Kind), (.int .i64 a3.Value.N), w3_2, w3_3] 41) (fun Gj78 Kj78 => ?_) ?_
  ·
   refine cd rfl (fun h79 => ?_) (fun h79 => ?_)
   ·
    refine rg ?_
    refine fa fa46_0 rfl rfl rfl rfl rfl rfl ?_
    refine ld B75 Tryz.underlying44 rfl rfl rfl rfl rfl rfl rfl rfl ?_
    refine bd (cells := [(.int .i64 (0 : Int)), (.slice none 0 0)]) pl142 o142 rfl rfl rfl rfl rfl rfl ?_
    have A80 : OwF kd142 s75 [(.int .i64 (0 : Int)), (.slice none 0 0)] (Page.mk (0 : Int) ([] : (List (List Int)))) 53 := ow_z _ _ (fz_iso (fun x : Page => (x.Lsn, x.Slots)) (Page.mk (0 : Int) ([] : (List (List Int)))) (fz_pair (fz_int .i64 (0 : Int)) (fz_nil 24 (Kd.sl 5 (Kd.int .u8)))))
    have L82 := lo_one A80
    refine ltO (K := kd142) (cells := [(.int .i64 (0 : Int)), (.slice none 0 0)]) [(Page.mk (0 : Int) ([] : (List (List Int))))] 53 Tryz.underlying44 z142 o142 L82 rfl rfl rfl rfl rfl rfl rfl rfl rfl rfl (fun v83 s83 p83 A83 => ?_)
    have A85 := (A77.st p83 rfl)
    refine apO sl44 A85 A83 rfl rfl rfl rfl rfl rfl rfl rfl rfl (fun v86 s86 p86 A86 => ?_)
    refine fa fa46_0 rfl rfl rfl rfl rfl rfl ?_
    have A88 := (BlF.st (BlF.st B75 p83 rfl) p86 rfl)
    refine sv A88 z44 rfl rfl rfl rfl rfl rfl A86.rd.one rfl (fun s89 p89 B89 => ?_)
    refine dn ?_
    have A91 := (A86.st p89 rfl)
    have A92 := (BlF.st (BlF.st (BlF.st (BlF.st (BlF.st (BlF.st By49_b8 p70 rfl) p72 rfl) p75 rfl) p83 rfl) p86 rfl) p89 rfl)
    have A93 := (BlF.st (BlF.st (BlF.st (BlF.st (BlF.st (BlF.st By49_b6 p70 rfl) p72 rfl) p75 rfl) p83 rfl) p86 rfl) p89 rfl)
    have K94 := ((((((Ky49.st p70 rfl).st p72 rfl).st p75 rfl).st p83 rfl).st p86 rfl).st p89 rfl)
    exact Kj78 _ _ _ ⟨s89, _, v86, rfl, (ue (ue (ue (ue (ue (ue rfl rfl) rfl) rfl) rfl) rfl) rfl), K94, A91, B89, A92, A93⟩
   ·
    refine sk ?_
    have A95 := (BlF.st (BlF.st (BlF.st By49_b8 p70 rfl) p72 rfl) p75 rfl)
    have A96 := (BlF.st (BlF.st (BlF.st By49_b6 p70 rfl) p72 rfl) p75 rfl)
    have K97 := (((Ky49.st p70 rfl).st p72 rfl).st p75 rfl)
    exact Kj78 _ _ _ ⟨s75, _, v69_0, rfl, (ue (ue (ue (ue (ue (ue rfl rfl) rfl) rfl) rfl) rfl) rfl), K97, A77, B75, A95, A96⟩
  rintro y78 _ _ ⟨s98, _, vy78_0, rfl, rfl, Ky78, Ay78_0, By78_b72, By78_b8, By78_b6⟩
  refine sq ?_
  refine zdraw [[], [0], [], [1, 2], [3], [], [], [6], [], [4, 5, 7, 8, 7], [9], [10], [10], [], [13, 11, 9, 0, 1, 2, 3, 4, 5, 6, 7, 8, 9, 10, 11, 13], [12, 14, 0, 1, 2, 3, 4, 5, 6, 7, 8, 9, 10, 11, 12, 13, 14]] [some 62, some 63, some 64, some 65, some 66, some 67, some 68, some 69, some 70, some 71, some 61, some 72, some 73, some 15, none, some 16] [[14], [62], [1], [63, 64], [65], [2], [8], [68], [4], [66, 67, 69, 70], [71], [61], [61], [], [15, 72], [73]] [0, 1, 2, 3, 4, 5, 6, 7, 8, 9, 10, 11, 14, 12, 13, 15] ⟨by kernel_rfl, by kernel_rfl, by kernel_rfl⟩ (by kernel_rfl) (fun s103 p103 l103 tb103 zd103 => ?_)
  have zd104 := zd103.add 0 62 (.pointer (some ⟨b72, 0, none⟩)) rfl
  have A105 := (BlF.st By78_b72 p103 rfl)
  have zd106 := zd104.add 1 63 vy78_0 rfl
  have zd107 := zd106.add 2 64 (.int .i64 a1) rfl
  have A108 := (Ay78_0.st p103 rfl)
  refine mg fun hg109 => ?_
  obtain ⟨ad109, es109, he109, ce109, ia109⟩ := ix_e A108.rd rfl hg109.1 hg109.2
  have h0_109 := hg109.1
  have h1_109 := hg109.2
  obtain ⟨v109_0, rfl, A109_0⟩ := op142 he109
  have zd112 := zd107.add 3 65 (.pointer (some ad109)) rfl
  have zd113 := zd112.add 4 66 (.agg #[(.int .i64 ((at_ y78 a1).Lsn)), v109_0]) rfl
  have zd114 := zd113.add 5 67 (.int .i64 a2) rfl
  have A115 := (BlF.st By78_b6 p103 rfl)
  have zd116 := zd114.add 6 68 (.agg #[(.int .i64 a3.Xmin), (.int .i64 a3.Xmax), (.int .i64 a3.Key.Kind), (.int .i64 a3.Key.N), w3_0, w3_1, (.int .i64 a3.Value.Kind), (.int .i64 a3.Value.N), w3_2, w3_3]) rfl
  have zd117 := zd116.add 8 70 (.int .i64 a4) rfl
  refine ji [15] (fun (y118 : Int × (List (List Int)) × Bool) (e : Env) (w : World) => ∃ (s : St) (e0 : Env) (vy118_0 : Value) (by118_0 : Nat), w = s.w ∧ e = upd (upd (upd (upd (upd e0 1 (.int .i64 a1)) 10 (.pointer (some ⟨b8, 0, none⟩))) 14 (.pointer (some ⟨b72, 0, none⟩))) 15 (.pointer (some ⟨by118_0, 0, none⟩))) 73 (.bool y118.2.2) ∧ Kp s0 s ∧ OwF (Kd.sl 24 (Kd.sl 5 (Kd.int .u8))) s [vy118_0] y118.2.1 54 ∧ BlF s b72 46 [vy78_0] 51 ∧ BlF s b8 46 [(.slice none 0 0)] 42 ∧ BlF s by118_0 142 [(.int .i64 y118.1), vy118_0] 55 ∧ OwF (Kd.sl 142 kd142) s [vy78_0] y78 50) (fun Gj118 Kj118 => ?_) ?_
  ·
   have A121 := (BlF.st By78_b72 p103 rfl)
   have A122 := (BlF.st By78_b6 p103 rfl)
   refine zstep2 7 13 [some 70, some 67, some 66, some 65, some 64, some 63, some 62] [some 70, some 68, some 67, some 66, some 65, some 64, some 63, some 62] tb103 zd117 (pq_cons (pu_q rfl rfl rfl rfl rfl rfl) rfl (pq_cons (lda_q (es := [(.int .i64 a3.Xmin), (.int .i64 a3.Xmax), (.int .i64 a3.Key.Kind), (.int .i64 a3.Key.N), w3_0, w3_1, (.int .i64 a3.Value.Kind), (.int .i64 a3.Value.N), w3_2, w3_3]) A122 Tryz.underlying58 z58 rfl rfl rfl rfl rfl rfl rfl rfl) rfl (pq_cons (pu_q rfl rfl rfl rfl rfl rfl) rfl (pq_cons (lca_q ce109 Tryz.underlying142 z142 rfl rfl rfl rfl rfl rfl rfl) rfl (pq_cons (ix_q A108.rd Tryz.underlying44 z142 hg109.1 hg109.2 ia109 rfl rfl rfl rfl rfl rfl rfl) rfl (pq_cons (pu_q rfl rfl rfl rfl rfl rfl) rfl (pq_cons (ld_q A121 Tryz.underlying44 rfl rfl rfl rfl rfl rfl rfl rfl) rfl (pq_cons (fa_q fa46_0 rfl rfl rfl rfl rfl rfl) rfl pq_nil)))))))) (by kernel_rfl) (by kernel_rfl) (fun l119 e119 zd119 => ?_) (fun l120 e120 zd120 => ?_)
   ·
    have K123 := (Ky78.st p103 rfl)
    have A124 := (A3_1.kp K123)
    have A125 := (A3_3.kp K123)
    refine cl rfl rfl rfl rfl rfl Tryz.func99 rfl rfl rfl (fun r126 m126 => spec_TupleBytes.calls a3 s103.w (fun b => memb [0] (s103.g b) = true) w3_0 w3_1 w3_2 w3_3 ((fl_rdf (s := s103) A3_0).sub (D := [0]) rfl) A124 ((fl_rdf (s := s103) A3_2).sub (D := [0]) rfl) A125 r126 m126) ?_
    rintro r126 v126_0 w126 m126 ⟨f126_0, ky126⟩
    obtain ⟨s127, rfl, p127, n127⟩ := nwx s103 w126 56 ky126
    have A126_0 := f126_0.c n127
    refine zdone (L' := [8, 5, 4, 3, 2, 1, 0]) (D' := [6, 7]) zd119 rfl rfl rfl (fun zd129 => ?_)
    have A132 := (BlF.st (BlF.st By78_b72 p103 rfl) p127 rfl)
    have A133 := (A108.st p127 rfl)
    have ce134 := (ce109.st p127 rfl rfl)
    refine zstep2 9 13 [] [some 70, some 67, some 66, some 65, some 64, some 63, some 62] tb103 zd129 (pq_cons (pu_q rfl rfl rfl rfl rfl rfl) rfl (pq_cons (pu_q rfl rfl rfl rfl rfl rfl) rfl (pq_cons (lca_q ce134 Tryz.underlying142 z142 rfl rfl rfl rfl rfl rfl rfl) rfl (pq_cons (ix_q A133.rd Tryz.underlying44 z142 hg109.1 hg109.2 ia109 rfl rfl rfl rfl rfl rfl rfl) rfl (pq_cons (pu_q rfl rfl rfl rfl rfl rfl) rfl (pq_cons (ld_q A132 Tryz.underlying44 rfl rfl rfl rfl rfl rfl rfl rfl) rfl (pq_cons (fa_q fa46_0 rfl rfl rfl rfl rfl rfl) rfl pq_nil))))))) (by kernel_rfl) (by kernel_rfl) (fun l130 e130 zd130 => ?_) (fun l131 e131 zd131 => ?_)
    ·
     have A135 := (A109_0.st p127 rfl)
     refine cl rfl rfl rfl rfl rfl Tryz.func98 rfl rfl rfl (fun r136 m136 => spec_PagePut.calls (at_ y78 a1) a2 r126 a4 s127.w (fun b => memb [50, 56] (s127.g b) = true) v109_0 v126_0 (A135.sub (D := [50, 56]) rfl) (A126_0.rd.sub (D := [50, 56]) rfl) r136 m136) ?_
     rintro r136 _ w136 m136 ⟨v136_0, rfl, f136_0, ky136⟩
     obtain ⟨s137, rfl, p137, n137⟩ := nwx s127 w136 57 ky136
     have A136_0 := f136_0.c n137
     obtain ⟨os136_0, ho136_0, hn136_0, hc136_0⟩ := A136_0
     obtain ⟨u136_0_0, qu136_0_0, e136_0, eo136_0, hu136_0_0⟩ := po142 ho136_0
     have yu136_0_0 : v136_0 = u136_0_0 := congrArg (fun l => (List.drop 1 l).headD undef) e136_0
     subst yu136_0_0
     subst eo136_0
     have Au136_0_0 : OwF (Kd.sl 24 (Kd.sl 5 (Kd.int .u8))) s137 [v136_0] r136.1.Slots 57 := sp1 hu136_0_0 hn136_0 hc136_0
     refine zdone (L' := []) (D' := [0, 1, 2, 3, 4, 5, 8, 9, 6, 7]) zd130 rfl rfl rfl (fun zd139 => ?_)
     have zd140 := zd139.add 10 61 (.tuple #[(.agg #[(.int .i64 r136.1.Lsn), v136_0]), (.bool r136.2)]) rfl
     have zd141 := zd140.add 11 72 (.agg #[(.int .i64 r136.1.Lsn), v136_0]) rfl
     have zd142 := zd141.add 12 73 (.bool r136.2) rfl
     refine zstep 13 [some 73, some 72, some 61] tb103 zd142 (pq_cons (pu_q (v := (.bool r136.2)) rfl rfl rfl rfl rfl rfl) rfl (pq_cons (pu_q (v := (.agg #[(.int .i64 r136.1.Lsn), v136_0])) rfl rfl rfl rfl rfl rfl) rfl (pq_cons (pu_q rfl rfl rfl rfl rfl rfl) rfl pq_nil))) (by kernel_rfl) rfl (fun l143 e143 zd143 => ?_)
     refine al (cs := [(.int .i64 (0 : Int)), (.slice none 0 0)]) 58 rfl rfl rfl rfl rfl o142 rfl (fun b144 s144 p144 B144 => ?_)
     refine zdone (L' := [12, 11, 10]) (D' := [13, 0, 1, 2, 3, 4, 5, 8, 9, 6, 7]) zd143 rfl rfl rfl (fun zd146 => ?_)
     refine zstep 14 [some 73] tb103 zd146 (pq_cons (pu_q (v := (.bool r136.2)) rfl rfl rfl rfl rfl rfl) rfl (pq_cons (pu_q (v := (.agg #[(.int .i64 r136.1.Lsn), v136_0])) rfl rfl rfl rfl rfl rfl) rfl (pq_cons (pu_q rfl rfl rfl rfl rfl rfl) rfl pq_nil))) (by kernel_rfl) rfl (fun l147 e147 zd147 => ?_)
     have A148 := (Au136_0_0.st p144 rfl)
     refine sva (vs := [(.int .i64 r136.1.Lsn), v136_0]) B144 z142 rfl rfl rfl rfl rfl rfl (on_cons rfl (on_cons A148.rd.one on_nil)) rfl (fun s149 p149 B149 => ?_)
     refine zdone0 (L' := [12]) (D' := [11, 10, 11, 14, 13, 0, 1, 2, 3, 4, 5, 8, 9, 6, 7]) zd147 rfl rfl rfl (fun zd151 => ?_)
     refine zfin [15] tb103 zd151 (pq_cons (pu_q (v := (.bool r136.2)) rfl rfl rfl rfl rfl rfl) rfl pq_nil) (by kernel_rfl) (by decide) ?_
     obtain ⟨s152, hw152, p152, D152⟩ := BlF.rc B149 55 rfl
     rw [hw152]
     have A154 := ((A148.st p149 rfl).st p152 rfl)
     obtain ⟨s155, hw155, p155, A155⟩ := A154.rc 54 rfl
     rw [hw155]
     have A156 := (BlF.st (BlF.st (BlF.st (BlF.st (BlF.st (BlF.st (BlF.st By78_b72 p103 rfl) p127 rfl) p137 rfl) p144 rfl) p149 rfl) p152 rfl) p155 rfl)
     have A157 := (BlF.st (BlF.st (BlF.st (BlF.st (BlF.st (BlF.st (BlF.st By78_b8 p103 rfl) p127 rfl) p137 rfl) p144 rfl) p149 rfl) p152 rfl) p155 rfl)
     have A158 := (BlF.st D152 p155 rfl)
     have A159 := (((((A133.st p137 rfl).st p144 rfl).st p149 rfl).st p152 rfl).st p155 rfl)
     have K160 := ((((((K123.st p127 rfl).st p137 rfl).st p144 rfl).st p149 rfl).st p152 rfl).st p155 rfl)
     exact Kj118 _ _ _ ⟨s155, _, v136_0, b144, rfl, (ue (ue (ue (ue (ue rfl rfl) rfl) rfl) rfl) rfl), K160, A155, A156, A157, A158, A159⟩
    ·
     refine al (cs := [(.int .i64 (0 : Int)), (.slice none 0 0)]) 59 rfl rfl rfl rfl rfl o142 rfl (fun b161 s161 p161 B161 => ?_)
     refine zdone (L' := [8, 5, 4, 3, 2, 1, 0]) (D' := [13, 6, 7]) zd131 rfl rfl rfl (fun zd163 => ?_)
     have A165 := (BlF.st (BlF.st (BlF.st By78_b72 p103 rfl) p127 rfl) p161 rfl)
     have A166 := (A133.st p161 rfl)
     have ce167 := ((ce109.st p127 rfl rfl).st p161 rfl rfl)
     refine zstep 9 [] tb103 zd163 (pq_cons (pu_q rfl rfl rfl rfl rfl rfl) rfl (pq_cons (pu_q rfl rfl rfl rfl rfl rfl) rfl (pq_cons (lca_q ce167 Tryz.underlying142 z142 rfl rfl rfl rfl rfl rfl rfl) rfl (pq_cons (ix_q A166.rd Tryz.underlying44 z142 hg109.1 hg109.2 ia109 rfl rfl rfl rfl rfl rfl rfl) rfl (pq_cons (pu_q rfl rfl rfl rfl rfl rfl) rfl (pq_cons (ld_q A165 Tryz.underlying44 rfl rfl rfl rfl rfl rfl rfl rfl) rfl (pq_cons (fa_q fa46_0 rfl rfl rfl rfl rfl rfl) rfl pq_nil))))))) (by kernel_rfl) rfl (fun l164 e164 zd164 => ?_)
     have A168 := ((A109_0.st p127 rfl).st p161 rfl)
     have A169 := (A126_0.st p161 rfl)
     refine cl rfl rfl rfl rfl rfl Tryz.func98 rfl rfl rfl (fun r170 m170 => spec_PagePut.calls (at_ y78 a1) a2 r126 a4 s161.w (fun b => memb [50, 56] (s161.g b) = true) v109_0 v126_0 (A168.sub (D := [50, 56]) rfl) (A169.rd.sub (D := [50, 56]) rfl) r170 m170) ?_
     rintro r170 _ w170 m170 ⟨v170_0, rfl, f170_0, ky170⟩
     obtain ⟨s171, rfl, p171, n171⟩ := nwx s161 w170 60 ky170
     have A170_0 := f170_0.c n171
     obtain ⟨os170_0, ho170_0, hn170_0, hc170_0⟩ := A170_0
     obtain ⟨u170_0_0, qu170_0_0, e170_0, eo170_0, hu170_0_0⟩ := po142 ho170_0
     have yu170_0_0 : v170_0 = u170_0_0 := congrArg (fun l => (List.drop 1 l).headD undef) e170_0
     subst yu170_0_0
     subst eo170_0
     have Au170_0_0 : OwF (Kd.sl 24 (Kd.sl 5 (Kd.int .u8))) s171 [v170_0] r170.1.Slots 60 := sp1 hu170_0_0 hn170_0 hc170_0
     refine zdone (L' := []) (D' := [0, 1, 2, 3, 4, 5, 8, 9, 13, 6, 7]) zd164 rfl rfl rfl (fun zd173 => ?_)
     have zd174 := zd173.add 10 61 (.tuple #[(.agg #[(.int .i64 r170.1.Lsn), v170_0]), (.bool r170.2)]) rfl
     have zd175 := zd174.add 11 72 (.agg #[(.int .i64 r170.1.Lsn), v170_0]) rfl
     have zd176 := zd175.add 12 73 (.bool r170.2) rfl
     refine zstep 14 [some 73] tb103 zd176 (pq_cons (pu_q (v := (.bool r170.2)) rfl rfl rfl rfl rfl rfl) rfl (pq_cons (pu_q (v := (.agg #[(.int .i64 r170.1.Lsn), v170_0])) rfl rfl rfl rfl rfl rfl) rfl (pq_cons (pu_q rfl rfl rfl rfl rfl rfl) rfl pq_nil))) (by kernel_rfl) rfl (fun l177 e177 zd177 => ?_)
     have A178 := (BlF.st B161 p171 rfl)
     refine sva (vs := [(.int .i64 r170.1.Lsn), v170_0]) A178 z142 rfl rfl rfl rfl rfl rfl (on_cons rfl (on_cons Au170_0_0.rd.one on_nil)) rfl (fun s179 p179 B179 => ?_)
     refine zdone0 (L' := [12]) (D' := [11, 10, 11, 14, 0, 1, 2, 3, 4, 5, 8, 9, 13, 6, 7]) zd177 rfl rfl rfl (fun zd181 => ?_)
     refine zfin [15] tb103 zd181 (pq_cons (pu_q (v := (.bool r170.2)) rfl rfl rfl rfl rfl rfl) rfl pq_nil) (by kernel_rfl) (by decide) ?_
     obtain ⟨s182, hw182, p182, D182⟩ := BlF.rc B179 55 rfl
     rw [hw182]
     have A184 := ((Au170_0_0.st p179 rfl).st p182 rfl)
     obtain ⟨s185, hw185, p185, A185⟩ := A184.rc 54 rfl
     rw [hw185]
     have A186 := (BlF.st (BlF.st (BlF.st (BlF.st (BlF.st (BlF.st (BlF.st By78_b72 p103 rfl) p127 rfl) p161 rfl) p171 rfl) p179 rfl) p182 rfl) p185 rfl)
     have A187 := (BlF.st (BlF.st (BlF.st (BlF.st (BlF.st (BlF.st (BlF.st By78_b8 p103 rfl) p127 rfl) p161 rfl) p171 rfl) p179 rfl) p182 rfl) p185 rfl)
     have A188 := (BlF.st D182 p185 rfl)
     have A189 := ((((A166.st p171 rfl).st p179 rfl).st p182 rfl).st p185 rfl)
     have K190 := ((((((K123.st p127 rfl).st p161 rfl).st p171 rfl).st p179 rfl).st p182 rfl).st p185 rfl)
     exact Kj118 _ _ _ ⟨s185, _, v170_0, b161, rfl, (ue (ue (ue (ue (ue rfl rfl) rfl) rfl) rfl) rfl), K190, A185, A186, A187, A188, A189⟩
   ·
    refine al (cs := [(.int .i64 (0 : Int)), (.slice none 0 0)]) 61 rfl rfl rfl rfl rfl o142 rfl (fun b191 s191 p191 B191 => ?_)
    refine zdone (L' := [8, 6, 5, 4, 3, 2, 1, 0]) (D' := [13]) zd120 rfl rfl rfl (fun zd193 => ?_)
    have A195 := (BlF.st (BlF.st By78_b72 p103 rfl) p191 rfl)
    have A196 := (A108.st p191 rfl)
    have ce197 := (ce109.st p191 rfl rfl)
    have A198 := (BlF.st (BlF.st By78_b6 p103 rfl) p191 rfl)
    refine zstep 7 [some 70, some 67, some 66, some 65, some 64, some 63, some 62] tb103 zd193 (pq_cons (pu_q rfl rfl rfl rfl rfl rfl) rfl (pq_cons (lda_q (es := [(.int .i64 a3.Xmin), (.int .i64 a3.Xmax), (.int .i64 a3.Key.Kind), (.int .i64 a3.Key.N), w3_0, w3_1, (.int .i64 a3.Value.Kind), (.int .i64 a3.Value.N), w3_2, w3_3]) A198 Tryz.underlying58 z58 rfl rfl rfl rfl rfl rfl rfl rfl) rfl (pq_cons (pu_q rfl rfl rfl rfl rfl rfl) rfl (pq_cons (lca_q ce197 Tryz.underlying142 z142 rfl rfl rfl rfl rfl rfl rfl) rfl (pq_cons (ix_q A196.rd Tryz.underlying44 z142 hg109.1 hg109.2 ia109 rfl rfl rfl rfl rfl rfl rfl) rfl (pq_cons (pu_q rfl rfl rfl rfl rfl rfl) rfl (pq_cons (ld_q A195 Tryz.underlying44 rfl rfl rfl rfl rfl rfl rfl rfl) rfl (pq_cons (fa_q fa46_0 rfl rfl rfl rfl rfl rfl) rfl pq_nil)))))))) (by kernel_rfl) rfl (fun l194 e194 zd194 => ?_)
    have K199 := ((Ky78.st p103 rfl).st p191 rfl)
    have A200 := (A3_1.kp K199)
    have A201 := (A3_3.kp K199)
    refine cl rfl rfl rfl rfl rfl Tryz.func99 rfl rfl rfl (fun r202 m202 => spec_TupleBytes.calls a3 s191.w (fun b => memb [0] (s191.g b) = true) w3_0 w3_1 w3_2 w3_3 ((fl_rdf (s := s191) A3_0).sub (D := [0]) rfl) A200 ((fl_rdf (s := s191) A3_2).sub (D := [0]) rfl) A201 r202 m202) ?_
    rintro r202 v202_0 w202 m202 ⟨f202_0, ky202⟩
    obtain ⟨s203, rfl, p203, n203⟩ := nwx s191 w202 62 ky202
    have A202_0 := f202_0.c n203
    refine zdone (L' := [8, 5, 4, 3, 2, 1, 0]) (D' := [6, 7, 13]) zd194 rfl rfl rfl (fun zd205 => ?_)
    have A207 := (BlF.st (BlF.st (BlF.st By78_b72 p103 rfl) p191 rfl) p203 rfl)
    have A208 := (A196.st p203 rfl)
    have ce209 := ((ce109.st p191 rfl rfl).st p203 rfl rfl)
    refine zstep 9 [] tb103 zd205 (pq_cons (pu_q rfl rfl rfl rfl rfl rfl) rfl (pq_cons (pu_q rfl rfl rfl rfl rfl rfl) rfl (pq_cons (lca_q ce209 Tryz.underlying142 z142 rfl rfl rfl rfl rfl rfl rfl) rfl (pq_cons (ix_q A208.rd Tryz.underlying44 z142 hg109.1 hg109.2 ia109 rfl rfl rfl rfl rfl rfl rfl) rfl (pq_cons (pu_q rfl rfl rfl rfl rfl rfl) rfl (pq_cons (ld_q A207 Tryz.underlying44 rfl rfl rfl rfl rfl rfl rfl rfl) rfl (pq_cons (fa_q fa46_0 rfl rfl rfl rfl rfl rfl) rfl pq_nil))))))) (by kernel_rfl) rfl (fun l206 e206 zd206 => ?_)
    have A210 := ((A109_0.st p191 rfl).st p203 rfl)
    refine cl rfl rfl rfl rfl rfl Tryz.func98 rfl rfl rfl (fun r211 m211 => spec_PagePut.calls (at_ y78 a1) a2 r202 a4 s203.w (fun b => memb [50, 62] (s203.g b) = true) v109_0 v202_0 (A210.sub (D := [50, 62]) rfl) (A202_0.rd.sub (D := [50, 62]) rfl) r211 m211) ?_
    rintro r211 _ w211 m211 ⟨v211_0, rfl, f211_0, ky211⟩
    obtain ⟨s212, rfl, p212, n212⟩ := nwx s203 w211 63 ky211
    have A211_0 := f211_0.c n212
    obtain ⟨os211_0, ho211_0, hn211_0, hc211_0⟩ := A211_0
    obtain ⟨u211_0_0, qu211_0_0, e211_0, eo211_0, hu211_0_0⟩ := po142 ho211_0
    have yu211_0_0 : v211_0 = u211_0_0 := congrArg (fun l => (List.drop 1 l).headD undef) e211_0
    subst yu211_0_0
    subst eo211_0
    have Au211_0_0 : OwF (Kd.sl 24 (Kd.sl 5 (Kd.int .u8))) s212 [v211_0] r211.1.Slots 63 := sp1 hu211_0_0 hn211_0 hc211_0
    refine zdone (L' := []) (D' := [0, 1, 2, 3, 4, 5, 8, 9, 6, 7, 13]) zd206 rfl rfl rfl (fun zd214 => ?_)
    have zd215 := zd214.add 10 61 (.tuple #[(.agg #[(.int .i64 r211.1.Lsn), v211_0]), (.bool r211.2)]) rfl
    have zd216 := zd215.add 11 72 (.agg #[(.int .i64 r211.1.Lsn), v211_0]) rfl
    have zd217 := zd216.add 12 73 (.bool r211.2) rfl
    refine zstep 14 [some 73] tb103 zd217 (pq_cons (pu_q (v := (.bool r211.2)) rfl rfl rfl rfl rfl rfl) rfl (pq_cons (pu_q (v := (.agg #[(.int .i64 r211.1.Lsn), v211_0])) rfl rfl rfl rfl rfl rfl) rfl (pq_cons (pu_q rfl rfl rfl rfl rfl rfl) rfl pq_nil))) (by kernel_rfl) rfl (fun l218 e218 zd218 => ?_)
    have A219 := (BlF.st (BlF.st B191 p203 rfl) p212 rfl)
    refine sva (vs := [(.int .i64 r211.1.Lsn), v211_0]) A219 z142 rfl rfl rfl rfl rfl rfl (on_cons rfl (on_cons Au211_0_0.rd.one on_nil)) rfl (fun s220 p220 B220 => ?_)
    refine zdone0 (L' := [12]) (D' := [11, 10, 11, 14, 0, 1, 2, 3, 4, 5, 8, 9, 6, 7, 13]) zd218 rfl rfl rfl (fun zd222 => ?_)
    refine zfin [15] tb103 zd222 (pq_cons (pu_q (v := (.bool r211.2)) rfl rfl rfl rfl rfl rfl) rfl pq_nil) (by kernel_rfl) (by decide) ?_
    obtain ⟨s223, hw223, p223, D223⟩ := BlF.rc B220 55 rfl
    rw [hw223]
    have A225 := ((Au211_0_0.st p220 rfl).st p223 rfl)
    obtain ⟨s226, hw226, p226, A226⟩ := A225.rc 54 rfl
    rw [hw226]
    have A227 := (BlF.st (BlF.st (BlF.st (BlF.st (BlF.st (BlF.st (BlF.st By78_b72 p103 rfl) p191 rfl) p203 rfl) p212 rfl) p220 rfl) p223 rfl) p226 rfl)
    have A228 := (BlF.st (BlF.st (BlF.st (BlF.st (BlF.st (BlF.st (BlF.st By78_b8 p103 rfl) p191 rfl) p203 rfl) p212 rfl) p220 rfl) p223 rfl) p226 rfl)
    have A229 := (BlF.st D223 p226 rfl)
    have A230 := ((((A208.st p212 rfl).st p220 rfl).st p223 rfl).st p226 rfl)
    have K231 := (((((K199.st p203 rfl).st p212 rfl).st p220 rfl).st p223 rfl).st p226 rfl)
    exact Kj118 _ _ _ ⟨s226, _, v211_0, b191, rfl, (ue (ue (ue (ue (ue rfl rfl) rfl) rfl) rfl) rfl), K231, A226, A227, A228, A229, A230⟩
  rintro y118 _ _ ⟨s232, _, vy118_0, by118_0, rfl, rfl, Ky118, Ay118_0, By118_b72, By118_b8, Dy118_0, Cy118_99⟩
  refine pu rfl rfl rfl rfl rfl ?_
  refine dn ?_
  refine sq ?_
  refine sr ?_
  refine pu rfl rfl rfl rfl rfl ?_
  refine pu rfl rfl rfl rfl rfl ?_
  refine dn ?_
  refine cd rfl (fun h237 => ?_) (fun h237 => ?_)
  ·
   refine sr ?_
   refine bd (cells := [(.slice none 0 0)]) pl46 o46 rfl rfl rfl rfl rfl rfl ?_
   refine sva (vs := [(.slice none 0 0)]) By118_b8 z46 rfl rfl rfl rfl rfl rfl (on_cons rfl on_nil) rfl (fun s238 p238 B238 => ?_)
   refine pu rfl rfl rfl rfl rfl ?_
   refine dn ?_
   have A240 : OwF kd46 s238 [(.slice none 0 0)] (Heap.mk ([] : (List Page))) 64 := ow_z _ _ (fz_iso (fun x : Heap => (x.Pages)) (Heap.mk ([] : (List Page))) (fz_nil 142 kd142))
   have K242 := (Ky118.st p238 rfl)
   exact re rfl Tryz.func29 rfl (r_b B238 Tryz.underlying46 rfl z46 rfl (r_t rfl r_nil)) rfl ⟨_, rfl, (.slice none 0 0), rfl, A240.fo K242 rfl z.l, z.ky K242⟩
  ·
   refine sk ?_
   refine sr ?_
   refine fa fa46_0 rfl rfl rfl rfl rfl rfl ?_
   refine ld By118_b72 Tryz.underlying44 rfl rfl rfl rfl rfl rfl rfl rfl ?_
   refine pu rfl rfl rfl rfl rfl ?_
   refine lda (es := [(.int .i64 y118.1), vy118_0]) Dy118_0 Tryz.underlying142 z142 rfl rfl rfl rfl rfl rfl rfl rfl ?_
   refine ix Cy118_99.rd Tryz.underlying44 z142 rfl rfl rfl rfl rfl rfl rfl rfl (fun ad243 es243 h0_243 h1_243 he243 ce243 ia243 => ?_)
   obtain ⟨v243_0, rfl, A243_0⟩ := op142 he243
   have A246 : OwF kd142 s232 [(.int .i64 y118.1), vy118_0] (Page.mk y118.1 y118.2.1) 54 := (ow_isoz (fun x : Page => (x.Lsn, x.Slots)) (Page.mk y118.1 y118.2.1) (ow_l (fz_int .i64 y118.1) Ay118_0))
   refine som (x' := (Page.mk y118.1 y118.2.1)) Cy118_99 ia243 h0_243 h1_243 A246 rfl rfl z142 rfl rfl rfl rfl rfl rfl (fun s248 p248 A248 => ?_)
   refine dn ?_
   refine sr ?_
   have A250 := (BlF.st By118_b72 p248 rfl)
   refine lda (es := [vy78_0]) A250 Tryz.underlying46 z46 rfl rfl rfl rfl rfl rfl rfl rfl ?_
   have A251 := (BlF.st By118_b8 p248 rfl)
   refine sva (vs := [vy78_0]) A251 z46 rfl rfl rfl rfl rfl rfl (on_cons A248.rd.one on_nil) rfl (fun s252 p252 B252 => ?_)
   refine pu rfl rfl rfl rfl rfl ?_
   refine dn ?_
   have A255 := (A248.st p252 rfl)
   have A254 : OwF kd46 s252 [vy78_0] (Heap.mk (y78.set (a1).toNat (Page.mk y118.1 y118.2.1))) 50 := (ow_isoz (fun x : Heap => (x.Pages)) (Heap.mk (y78.set (a1).toNat (Page.mk y118.1 y118.2.1))) A255)
   have K257 := ((Ky118.st p248 rfl).st p252 rfl)
   exact re rfl Tryz.func29 rfl (r_b B252 Tryz.underlying46 rfl z46 rfl (r_t rfl r_nil)) rfl ⟨_, rfl, vy78_0, rfl, A254.fo K257 rfl z.l, z.ky K257⟩
noncomputable def impl_HeapPut.f (a0 : Heap) (a1 : Int) (a2 : Int) (a3 : Tuple) (a4 : Int) : Option (Heap × Bool) :=
 ((impl_Heap_at.f a0 a1 a2).bind fun r13 => ((impl_HeapOk.f a0).bind fun r27 => ((if (!r27) = true then (some true) else ((impl_TupleOk.f a3).bind fun r38 => (some (!r38)))).bind fun y29 => (if (y29 || r13.2) = true then (some ((Heap.mk ([] : (List Page))), false)) else ((impl_TupleBytes.f a3).bind fun r69 => ((impl_Heap_put.f a0 a1 a2 r69 a4).bind fun r77 => (some (r77.1, r77.2))))))))
def impl_HeapPut.Q (w : World) (F : Nat → Prop) (r : Heap × Bool) (v : Value) (w' : World) : Prop :=
 ∃ (v0 : Value), v = .tuple #[(.agg #[v0]), (.bool r.2)] ∧ FO kd46 w w' [v0] r.1 ∧ Ky [] w w'
set_option maxHeartbeats 4000000 in
set_option maxRecDepth 100000 in
theorem impl_HeapPut.calls (a0 : Heap) (a1 : Int) (a2 : Int) (a3 : Tuple) (a4 : Int) (w : World) (F : Nat → Prop) (w0_0 : Value) (w3_0 : Value) (w3_1 : Value) (w3_2 : Value) (w3_3 : Value) (h0_0 : (Kd.sl 142 kd142).rd w [w0_0] a0.Pages F) (h3_0 : Kd.flt.rd w [w3_0] a3.Key.F F) (h3_1 : (Kd.sl 5 (Kd.int .u8)).rd w [w3_1] a3.Key.T F) (h3_2 : Kd.flt.rd w [w3_2] a3.Value.F F) (h3_3 : (Kd.sl 5 (Kd.int .u8)).rd w [w3_3] a3.Value.T F) (r : Heap × Bool) (m : impl_HeapPut.f a0 a1 a2 a3 a4 = some r) :
  Calls Tryz.prog 31 #[(.agg #[w0_0]), (.int .i64 a1), (.int .i64 a2), (.agg #[(.int .i64 a3.Xmin), (.int .i64 a3.Xmax), (.int .i64 a3.Key.Kind), (.int .i64 a3.Key.N), w3_0, w3_1, (.int .i64 a3.Value.Kind), (.int .i64 a3.Value.N), w3_2, w3_3]), (.int .i64 a4)] w fun en w' => ∃ v, en = .returned v ∧ impl_HeapPut.Q w F r v w' := by
 obtain ⟨s0, rfl, kp0, z⟩ := start0 w F
 have A0_0 := z.rd h0_0
 have A3_0 := fl_of h3_0
 have A3_1 := z.rd h3_1
 have A3_2 := fl_of h3_2
 have A3_3 := z.rd h3_3
 refine calls_of_TM (args := [(.agg #[w0_0]), (.int .i64 a1), (.int .i64 a2), (.agg #[(.int .i64 a3.Xmin), (.int .i64 a3.Xmax), (.int .i64 a3.Key.Kind), (.int .i64 a3.Key.N), w3_0, w3_1, (.int .i64 a3.Value.Kind), (.int .i64 a3.Value.N), w3_2, w3_3]), (.int .i64 a4)]) (R := fun r en w' => ∃ v, en = .returned v ∧ impl_HeapPut.Q s0.w F r v w') Tryz.func31 Tryz.ntmps31 rfl rfl m ?_
 unfold impl_HeapPut.f
 refine sr ?_
 refine bx (cs := [w0_0]) 40 rfl rfl rfl rfl rfl rfl (fun b4 s4 p4 B4 => ?_)
 refine bx (cs := [(.int .i64 a3.Xmin), (.int .i64 a3.Xmax), (.int .i64 a3.Key.Kind), (.int .i64 a3.Key.N), w3_0, w3_1, (.int .i64 a3.Value.Kind), (.int .i64 a3.Value.N), w3_2, w3_3]) 41 rfl rfl rfl rfl rfl rfl (fun b6 s6 p6 B6 => ?_)
 refine al (cs := [(.slice none 0 0)]) 42 rfl rfl rfl rfl rfl o46 rfl (fun b8 s8 p8 B8 => ?_)
 refine pu rfl rfl rfl rfl rfl ?_
 refine dn ?_
 refine sq ?_
 refine sr ?_
 have A10 := (BlF.st (BlF.st B4 p6 rfl) p8 rfl)
 refine lda (es := [w0_0]) A10 Tryz.underlying46 z46 rfl rfl rfl rfl rfl rfl rfl rfl ?_
 refine pu rfl rfl rfl rfl rfl ?_
 refine pu rfl rfl rfl rfl rfl ?_
 have K11 := (((kp0.st p4 rfl).st p6 rfl).st p8 rfl)
 have A12 := (A0_0.kp K11)
 refine cl rfl rfl rfl rfl rfl Tryz.func110 rfl rfl rfl (fun r13 m13 => impl_Heap_at.calls a0 a1 a2 s8.w (fun b => memb [0] (s8.g b) = true) w0_0 A12 r13 m13) ?_
 rintro r13 _ w13 m13 ⟨v13_0, v13_1, v13_2, v13_3, rfl, f13_0, ky13⟩
 obtain ⟨s14, rfl, p14, n14⟩ := nwx s8 w13 43 ky13
 have A13_0 := f13_0.c n14
 obtain ⟨os13_0, ho13_0, hn13_0, hc13_0⟩ := A13_0
 obtain ⟨u13_0_0, u13_0_1, u13_0_2, u13_0_3, qu13_0_1, qu13_0_3, e13_0, eo13_0, hu13_0_0, hu13_0_1, hu13_0_2, hu13_0_3⟩ := po58 ho13_0
 have yu13_0_0 : v13_0 = u13_0_0 := congrArg (fun l => (List.drop 4 l).headD undef) e13_0
 have yu13_0_1 : v13_1 = u13_0_1 := congrArg (fun l => (List.drop 5 l).headD undef) e13_0
 have yu13_0_2 : v13_2 = u13_0_2 := congrArg (fun l => (List.drop 8 l).headD undef) e13_0
 have yu13_0_3 : v13_3 = u13_0_3 := congrArg (fun l => (List.drop 9 l).headD undef) e13_0
 subst yu13_0_0
 subst yu13_0_1
 subst yu13_0_2
 subst yu13_0_3
 subst eo13_0
 obtain ⟨s15, hw15, p15, Au13_0_1, hn15, hc15⟩ := sp2 44 hu13_0_1 hn13_0 hc13_0 rfl
 rw [hw15]
 have Au13_0_3 : OwF (Kd.sl 5 (Kd.int .u8)) s15 [v13_3] r13.1.Value.T 44 := sp1 (hw15 ▸ hu13_0_3) hn15 hc15
 refine pu rfl rfl rfl rfl rfl ?_
 refine pu (v := (.agg #[(.int .i64 r13.1.Xmin), (.int .i64 r13.1.Xmax), (.int .i64 r13.1.Key.Kind), (.int .i64 r13.1.Key.N), v13_0, v13_1, (.int .i64 r13.1.Value.Kind), (.int .i64 r13.1.Value.N), v13_2, v13_3])) rfl rfl rfl rfl rfl ?_
 refine pu (v := (.bool r13.2)) rfl rfl rfl rfl rfl ?_
 refine al (cs := [(.int .i64 (0 : Int)), (.int .i64 (0 : Int)), (.int .i64 (0 : Int)), (.int .i64 (0 : Int)), (.float .f64 0), (.slice none 0 0), (.int .i64 (0 : Int)), (.int .i64 (0 : Int)), (.float .f64 0), (.slice none 0 0)]) 45 rfl rfl rfl rfl rfl o58 rfl (fun b18 s18 p18 B18 => ?_)
 have A20 := (Au13_0_3.st p18 rfl)
 have A21 := (Au13_0_1.st p18 rfl)
 refine sva (vs := [(.int .i64 r13.1.Xmin), (.int .i64 r13.1.Xmax), (.int .i64 r13.1.Key.Kind), (.int .i64 r13.1.Key.N), v13_0, v13_1, (.int .i64 r13.1.Value.Kind), (.int .i64 r13.1.Value.N), v13_2, v13_3]) B18 z58 rfl rfl rfl rfl rfl rfl (on_cons rfl (on_cons rfl (on_cons rfl (on_cons rfl (on_cons (FL.one hu13_0_0) (on_cons A21.rd.one (on_cons rfl (on_cons rfl (on_cons (FL.one hu13_0_2) (on_cons A20.rd.one on_nil)))))))))) rfl (fun s22 p22 B22 => ?_)
 refine pu rfl rfl rfl rfl rfl ?_
 refine dn ?_
 refine sr ?_
 have A24 := (BlF.st (BlF.st (BlF.st (BlF.st A10 p14 rfl) p15 rfl) p18 rfl) p22 rfl)
 refine lda (es := [w0_0]) A24 Tryz.underlying46 z46 rfl rfl rfl rfl rfl rfl rfl rfl ?_
 have K25 := ((((K11.st p14 rfl).st p15 rfl).st p18 rfl).st p22 rfl)
 have A26 := (A0_0.kp K25)
 refine cl rfl rfl rfl rfl rfl Tryz.func111 rfl rfl rfl (fun r27 m27 => impl_HeapOk.calls a0 s22.w (fun b => memb [0] (s22.g b) = true) w0_0 A26 r27 m27) ?_
 rintro r27 _ w27 m27 ⟨rfl, ky27⟩
 obtain ⟨s28, rfl, p28, n28⟩ := nwx s22 w27 46 ky27
 refine pu rfl rfl rfl rfl rfl ?_
 refine pu rfl rfl rfl rfl rfl ?_
 refine ji [8, 9, 10] (fun (y29 : Bool) (e : Env) (w : World) => ∃ (s : St) (e0 : Env), w = s.w ∧ e = upd (upd (upd (upd (upd (upd (upd (upd e0 1 (.int .i64 a1)) 2 (.int .i64 a2)) 4 (.int .i64 a4)) 5 (.pointer (some ⟨b4, 0, none⟩))) 8 (.pointer (some ⟨b6, 0, none⟩))) 10 (.pointer (some ⟨b8, 0, none⟩))) 13 (.bool r13.2)) 28 (.bool y29) ∧ Kp s0 s ∧ BlF s b8 46 [(.slice none 0 0)] 42 ∧ BlF s b6 58 [(.int .i64 a3.Xmin), (.int .i64 a3.Xmax), (.int .i64 a3.Key.Kind), (.int .i64 a3.Key.N), w3_0, w3_1, (.int .i64 a3.Value.Kind), (.int .i64 a3.Value.N), w3_2, w3_3] 41 ∧ BlF s b4 46 [w0_0] 40) (fun Gj29 Kj29 => ?_) ?_
 ·
  rcases Bool.eq_false_or_eq_true (!r27) with hb29 | hb29
  ·
   refine sbT hb29 ?_
   rw [if_pos hb29]
   refine uw rfl rfl rfl rfl ?_
   refine uw rfl rfl rfl rfl ?_
   refine uw rfl rfl rfl rfl ?_
   refine pu rfl rfl rfl rfl rfl ?_
   have A30 := (BlF.st (BlF.st (BlF.st (BlF.st (BlF.st B8 p14 rfl) p15 rfl) p18 rfl) p22 rfl) p28 rfl)
   have A31 := (BlF.st (BlF.st (BlF.st (BlF.st (BlF.st (BlF.st B6 p8 rfl) p14 rfl) p15 rfl) p18 rfl) p22 rfl) p28 rfl)
   have A32 := (BlF.st A24 p28 rfl)
   have K33 := (K25.st p28 rfl)
   exact Kj29 _ _ _ ⟨s28, _, rfl, (ue (ue (ue (ue (ue (ue (ue (ue rfl rfl) rfl) rfl) rfl) rfl) rfl) rfl) rfl), K33, A30, A31, A32⟩
  ·
   refine sbT hb29 ?_
   rw [if_neg (by rw [hb29]; decide)]
   have A34 := (BlF.st (BlF.st (BlF.st (BlF.st (BlF.st (BlF.st B6 p8 rfl) p14 rfl) p15 rfl) p18 rfl) p22 rfl) p28 rfl)
   refine lda (es := [(.int .i64 a3.Xmin), (.int .i64 a3.Xmax), (.int .i64 a3.Key.Kind), (.int .i64 a3.Key.N), w3_0, w3_1, (.int .i64 a3.Value.Kind), (.int .i64 a3.Value.N), w3_2, w3_3]) A34 Tryz.underlying58 z58 rfl rfl rfl rfl rfl rfl rfl rfl ?_
   have K35 := (K25.st p28 rfl)
   have A36 := (A3_1.kp K35)
   have A37 := (A3_3.kp K35)
   refine cl rfl rfl rfl rfl rfl Tryz.func112 rfl rfl rfl (fun r38 m38 => impl_TupleOk.calls a3 s28.w (fun b => memb [0] (s28.g b) = true) w3_0 w3_1 w3_2 w3_3 ((fl_rdf (s := s28) A3_0).sub (D := [0]) rfl) A36 ((fl_rdf (s := s28) A3_2).sub (D := [0]) rfl) A37 r38 m38) ?_
   rintro r38 _ w38 m38 ⟨rfl, ky38⟩
   obtain ⟨s39, rfl, p39, n39⟩ := nwx s28 w38 47 ky38
   refine pu rfl rfl rfl rfl rfl ?_
   refine pu rfl rfl rfl rfl rfl ?_
   have A40 := (BlF.st (BlF.st (BlF.st (BlF.st (BlF.st (BlF.st B8 p14 rfl) p15 rfl) p18 rfl) p22 rfl) p28 rfl) p39 rfl)
   have A41 := (BlF.st A34 p39 rfl)
   have A42 := (BlF.st (BlF.st A24 p28 rfl) p39 rfl)
   have K43 := (K35.st p39 rfl)
   exact Kj29 _ _ _ ⟨s39, _, rfl, (ue (ue (ue (ue (ue (ue (ue (ue rfl rfl) rfl) rfl) rfl) rfl) rfl) rfl) rfl), K43, A40, A41, A42⟩
 rintro y29 _ _ ⟨s44, _, rfl, rfl, Ky29, By29_b8, By29_b6, By29_b4⟩
 refine pu rfl rfl rfl rfl rfl ?_
 refine jy [29, 30, 31] [] 31 (.bool (y29 || r13.2)) rfl (fun Kg48 => ?_) (fun j48 => ?_)
 ·
  rcases Bool.eq_false_or_eq_true y29 with hb48 | hb48
  ·
   refine sbT hb48 ?_
   refine uw rfl rfl rfl rfl ?_
   refine pu rfl rfl rfl rfl rfl ?_
   exact Kg48 _ (Ag.put ((Ag.put (Ag.base rfl) rfl)) rfl) (by rw [hb48]; rfl)
  ·
   refine sbT hb48 ?_
   refine pu rfl rfl rfl rfl rfl ?_
   refine pu rfl rfl rfl rfl rfl ?_
   exact Kg48 _ (Ag.put ((Ag.put (Ag.base rfl) rfl)) rfl) (by rw [hb48]; rfl)
 refine dn ?_
 refine cd rfl (fun h49 => ?_) (fun h49 => ?_)
 ·
  refine sr ?_
  refine bd (cells := [(.slice none 0 0)]) pl46 o46 rfl rfl rfl rfl rfl rfl ?_
  refine sva (vs := [(.slice none 0 0)]) By29_b8 z46 rfl rfl rfl rfl rfl rfl (on_cons rfl on_nil) rfl (fun s50 p50 B50 => ?_)
  refine pu rfl rfl rfl rfl rfl ?_
  refine dn ?_
  have A52 : OwF kd46 s50 [(.slice none 0 0)] (Heap.mk ([] : (List Page))) 48 := ow_z _ _ (fz_iso (fun x : Heap => (x.Pages)) (Heap.mk ([] : (List Page))) (fz_nil 142 kd142))
  have K54 := (Ky29.st p50 rfl)
  exact re rfl Tryz.func31 rfl (r_b B50 Tryz.underlying46 rfl z46 rfl (r_t rfl r_nil)) rfl ⟨_, rfl, (.slice none 0 0), rfl, A52.fo K54 rfl z.l, z.ky K54⟩
 ·
  refine sk ?_
  refine sq ?_
  refine zdraw [[], [], [], [], [3], [], [0, 1, 2, 4, 5, 4], [6], [6], [7, 6, 0, 1, 2, 3, 4, 5, 6, 7, 8], [8, 9, 0, 1, 2, 3, 4, 5, 6, 7, 8, 9]] [some 33, some 34, some 35, some 36, some 37, some 38, some 39, some 40, some 41, none, some 11] [[5], [1], [2], [8], [36], [4], [33, 34, 35, 37, 38], [39], [39], [10, 40], [41]] [0, 1, 2, 3, 4, 5, 6, 7, 8, 9, 10] ⟨by kernel_rfl, by kernel_rfl, by kernel_rfl⟩ (by kernel_rfl) (fun s55 p55 l55 tb55 zd55 => ?_)
  have A56 := (BlF.st By29_b4 p55 rfl)
  have zd57 := zd55.add 0 33 (.agg #[w0_0]) rfl
  have zd58 := zd57.add 1 34 (.int .i64 a1) rfl
  have zd59 := zd58.add 2 35 (.int .i64 a2) rfl
  have A60 := (BlF.st By29_b6 p55 rfl)
  have zd61 := zd59.add 3 36 (.agg #[(.int .i64 a3.Xmin), (.int .i64 a3.Xmax), (.int .i64 a3.Key.Kind), (.int .i64 a3.Key.N), w3_0, w3_1, (.int .i64 a3.Value.Kind), (.int .i64 a3.Value.N), w3_2, w3_3]) rfl
  have zd62 := zd61.add 5 38 (.int .i64 a4) rfl
  have A64 := (BlF.st By29_b4 p55 rfl)
  have A65 := (BlF.st By29_b6 p55 rfl)
  refine zstep 4 [some 38, some 35, some 34, some 33] tb55 zd62 (pq_cons (pu_q rfl rfl rfl rfl rfl rfl) rfl (pq_cons (lda_q (es := [(.int .i64 a3.Xmin), (.int .i64 a3.Xmax), (.int .i64 a3.Key.Kind), (.int .i64 a3.Key.N), w3_0, w3_1, (.int .i64 a3.Value.Kind), (.int .i64 a3.Value.N), w3_2, w3_3]) A65 Tryz.underlying58 z58 rfl rfl rfl rfl rfl rfl rfl rfl) rfl (pq_cons (pu_q rfl rfl rfl rfl rfl rfl) rfl (pq_cons (pu_q rfl rfl rfl rfl rfl rfl) rfl (pq_cons (lda_q (es := [w0_0]) A64 Tryz.underlying46 z46 rfl rfl rfl rfl rfl rfl rfl rfl) rfl pq_nil))))) (by kernel_rfl) rfl (fun l63 e63 zd63 => ?_)
  have K66 := (Ky29.st p55 rfl)
  have A67 := (A3_1.kp K66)
  have A68 := (A3_3.kp K66)
  refine cl rfl rfl rfl rfl rfl Tryz.func104 rfl rfl rfl (fun r69 m69 => impl_TupleBytes.calls a3 s55.w (fun b => memb [0] (s55.g b) = true) w3_0 w3_1 w3_2 w3_3 ((fl_rdf (s := s55) A3_0).sub (D := [0]) rfl) A67 ((fl_rdf (s := s55) A3_2).sub (D := [0]) rfl) A68 r69 m69) ?_
  rintro r69 v69_0 w69 m69 ⟨f69_0, ky69⟩
  obtain ⟨s70, rfl, p70, n70⟩ := nwx s55 w69 49 ky69
  have A69_0 := f69_0.c n70
  refine zdone (L' := [5, 2, 1, 0]) (D' := [3, 4]) zd63 rfl rfl rfl (fun zd72 => ?_)
  have A74 := (BlF.st (BlF.st By29_b4 p55 rfl) p70 rfl)
  refine zstep 6 [] tb55 zd72 (pq_cons (pu_q rfl rfl rfl rfl rfl rfl) rfl (pq_cons (pu_q rfl rfl rfl rfl rfl rfl) rfl (pq_cons (pu_q rfl rfl rfl rfl rfl rfl) rfl (pq_cons (lda_q (es := [w0_0]) A74 Tryz.underlying46 z46 rfl rfl rfl rfl rfl rfl rfl rfl) rfl pq_nil)))) (by kernel_rfl) rfl (fun l73 e73 zd73 => ?_)
  have K75 := (K66.st p70 rfl)
  have A76 := (A0_0.kp K75)
  refine cl rfl rfl rfl rfl rfl Tryz.func103 rfl rfl rfl (fun r77 m77 => impl_Heap_put.calls a0 a1 a2 r69 a4 s70.w (fun b => memb [0, 49] (s70.g b) = true) w0_0 v69_0 (A76.sub (D := [0, 49]) rfl) (A69_0.rd.sub (D := [0, 49]) rfl) r77 m77) ?_
  rintro r77 _ w77 m77 ⟨v77_0, rfl, f77_0, ky77⟩
  obtain ⟨s78, rfl, p78, n78⟩ := nwx s70 w77 50 ky77
  have A77_0 := f77_0.c n78
  obtain ⟨os77_0, ho77_0, hn77_0, hc77_0⟩ := A77_0
  obtain ⟨u77_0_0, qu77_0_0, e77_0, eo77_0, hu77_0_0⟩ := po46 ho77_0
  have yu77_0_0 : v77_0 = u77_0_0 := congrArg (fun l => (List.drop 0 l).headD undef) e77_0
  subst yu77_0_0
  subst eo77_0
  have Au77_0_0 : OwF (Kd.sl 142 kd142) s78 [v77_0] r77.1.Pages 50 := sp1 hu77_0_0 hn77_0 hc77_0
  refine zdone (L' := []) (D' := [0, 1, 2, 5, 6, 3, 4]) zd73 rfl rfl rfl (fun zd80 => ?_)
  have zd81 := zd80.add 7 40 (.agg #[v77_0]) rfl
  have zd82 := zd81.add 8 41 (.bool r77.2) rfl
  refine zfin [9, 10] tb55 zd82 (pq_cons (pu_q (v := (.bool r77.2)) rfl rfl rfl rfl rfl rfl) rfl (pq_cons (pu_q (v := (.agg #[v77_0])) rfl rfl rfl rfl rfl rfl) rfl pq_nil)) (by kernel_rfl) (by decide) ?_
  have A83 := (BlF.st (BlF.st (BlF.st By29_b8 p55 rfl) p70 rfl) p78 rfl)
  refine sva (vs := [v77_0]) A83 z46 rfl rfl rfl rfl rfl rfl (on_cons Au77_0_0.rd.one on_nil) rfl (fun s84 p84 B84 => ?_)
  refine pu rfl rfl rfl rfl rfl ?_
  refine dn ?_
  have A87 := (Au77_0_0.st p84 rfl)
  have A86 : OwF kd46 s84 [v77_0] r77.1 50 := (ow_isoz (fun x : Heap => (x.Pages)) r77.1 A87)
  have K89 := ((K75.st p78 rfl).st p84 rfl)
  exact re rfl Tryz.func31 rfl (r_b B84 Tryz.underlying46 rfl z46 rfl (r_t rfl r_nil)) rfl ⟨_, rfl, v77_0, rfl, A86.fo K89 rfl z.l, z.ky K89⟩
noncomputable def laws_eqTuple.f (a0 : Tuple) (a1 : Tuple) : Option (Bool) :=
 (if (a0.Xmin != a1.Xmin) = true then (some false) else (if (a0.Xmax != a1.Xmax) = true then (some false) else ((laws_eqItem.f a0.Key a1.Key).bind fun r17 => (if (!r17) = true then (some false) else ((laws_eqItem.f a0.Value a1.Value).bind fun r26 => (if (!r26) = true then (some false) else (some true)))))))
def laws_eqTuple.Q (w : World) (F : Nat → Prop) (r : Bool) (v : Value) (w' : World) : Prop :=
 v = (.bool r) ∧ Ky [] w w'
set_option maxHeartbeats 4000000 in
set_option maxRecDepth 100000 in
theorem laws_eqTuple.calls (a0 : Tuple) (a1 : Tuple) (w : World) (F : Nat → Prop) (w0_0 : Value) (w0_1 : Value) (w0_2 : Value) (w0_3 : Value) (w1_0 : Value) (w1_1 : Value) (w1_2 : Value) (w1_3 : Value) (h0_0 : Kd.flt.rd w [w0_0] a0.Key.F F) (h0_1 : (Kd.sl 5 (Kd.int .u8)).rd w [w0_1] a0.Key.T F) (h0_2 : Kd.flt.rd w [w0_2] a0.Value.F F) (h0_3 : (Kd.sl 5 (Kd.int .u8)).rd w [w0_3] a0.Value.T F) (h1_0 : Kd.flt.rd w [w1_0] a1.Key.F F) (h1_1 : (Kd.sl 5 (Kd.int .u8)).rd w [w1_1] a1.Key.T F) (h1_2 : Kd.flt.rd w [w1_2] a1.Value.F F) (h1_3 : (Kd.sl 5 (Kd.int .u8)).rd w [w1_3] a1.Value.T F) (r : Bool) (m : laws_eqTuple.f a0 a1 = some r) :
  Calls Tryz.prog 32 #[(.agg #[(.int .i64 a0.Xmin), (.int .i64 a0.Xmax), (.int .i64 a0.Key.Kind), (.int .i64 a0.Key.N), w0_0, w0_1, (.int .i64 a0.Value.Kind), (.int .i64 a0.Value.N), w0_2, w0_3]), (.agg #[(.int .i64 a1.Xmin), (.int .i64 a1.Xmax), (.int .i64 a1.Key.Kind), (.int .i64 a1.Key.N), w1_0, w1_1, (.int .i64 a1.Value.Kind), (.int .i64 a1.Value.N), w1_2, w1_3])] w fun en w' => ∃ v, en = .returned v ∧ laws_eqTuple.Q w F r v w' := by
 obtain ⟨s0, rfl, kp0, z⟩ := start0 w F
 have A0_0 := fl_of h0_0
 have A0_1 := z.rd h0_1
 have A0_2 := fl_of h0_2
 have A0_3 := z.rd h0_3
 have A1_0 := fl_of h1_0
 have A1_1 := z.rd h1_1
 have A1_2 := fl_of h1_2
 have A1_3 := z.rd h1_3
 refine calls_of_TM (args := [(.agg #[(.int .i64 a0.Xmin), (.int .i64 a0.Xmax), (.int .i64 a0.Key.Kind), (.int .i64 a0.Key.N), w0_0, w0_1, (.int .i64 a0.Value.Kind), (.int .i64 a0.Value.N), w0_2, w0_3]), (.agg #[(.int .i64 a1.Xmin), (.int .i64 a1.Xmax), (.int .i64 a1.Key.Kind), (.int .i64 a1.Key.N), w1_0, w1_1, (.int .i64 a1.Value.Kind), (.int .i64 a1.Value.N), w1_2, w1_3])]) (R := fun r en w' => ∃ v, en = .returned v ∧ laws_eqTuple.Q s0.w F r v w') Tryz.func32 Tryz.ntmps32 rfl rfl m ?_
 unfold laws_eqTuple.f
 refine sr ?_
 refine bx (cs := [(.int .i64 a0.Xmin), (.int .i64 a0.Xmax), (.int .i64 a0.Key.Kind), (.int .i64 a0.Key.N), w0_0, w0_1, (.int .i64 a0.Value.Kind), (.int .i64 a0.Value.N), w0_2, w0_3]) 40 rfl rfl rfl rfl rfl rfl (fun b5 s5 p5 B5 => ?_)
 refine bx (cs := [(.int .i64 a1.Xmin), (.int .i64 a1.Xmax), (.int .i64 a1.Key.Kind), (.int .i64 a1.Key.N), w1_0, w1_1, (.int .i64 a1.Value.Kind), (.int .i64 a1.Value.N), w1_2, w1_3]) 41 rfl rfl rfl rfl rfl rfl (fun b7 s7 p7 B7 => ?_)
 refine pu rfl rfl rfl rfl rfl ?_
 refine dn ?_
 refine sq ?_
 refine sr ?_
 refine fa fa58_0 rfl rfl rfl rfl rfl rfl ?_
 have A9 := (BlF.st B5 p7 rfl)
 refine ld A9 Tryz.underlying3 rfl rfl rfl rfl rfl rfl rfl rfl ?_
 refine fa fa58_0 rfl rfl rfl rfl rfl rfl ?_
 refine ld B7 Tryz.underlying3 rfl rfl rfl rfl rfl rfl rfl rfl ?_
 refine pu rfl rfl rfl rfl rfl ?_
 refine dn ?_
 refine cd rfl (fun h10 => ?_) (fun h10 => ?_)
 ·
  refine sr ?_
  refine pu rfl rfl rfl rfl rfl ?_
  refine dn ?_
  have K11 := ((kp0.st p5 rfl).st p7 rfl)
  exact re rfl Tryz.func32 rfl (r_t rfl r_nil) rfl ⟨_, rfl, rfl, z.ky K11⟩
 ·
  refine sk ?_
  refine sq ?_
  refine sr ?_
  refine fa fa58_1 rfl rfl rfl rfl rfl rfl ?_
  refine ld A9 Tryz.underlying3 rfl rfl rfl rfl rfl rfl rfl rfl ?_
  refine fa fa58_1 rfl rfl rfl rfl rfl rfl ?_
  refine ld B7 Tryz.underlying3 rfl rfl rfl rfl rfl rfl rfl rfl ?_
  refine pu rfl rfl rfl rfl rfl ?_
  refine dn ?_
  refine cd rfl (fun h12 => ?_) (fun h12 => ?_)
  ·
   refine sr ?_
   refine pu rfl rfl rfl rfl rfl ?_
   refine dn ?_
   have K13 := ((kp0.st p5 rfl).st p7 rfl)
   exact re rfl Tryz.func32 rfl (r_t rfl r_nil) rfl ⟨_, rfl, rfl, z.ky K13⟩
  ·
   refine sk ?_
   refine sq ?_
   refine sr ?_
   refine fa fa58_2 rfl rfl rfl rfl rfl rfl ?_
   refine lda (es := [(.int .i64 a0.Key.Kind), (.int .i64 a0.Key.N), w0_0, w0_1]) A9 Tryz.underlying33 z33 rfl rfl rfl rfl rfl rfl rfl rfl ?_
   refine fa fa58_2 rfl rfl rfl rfl rfl rfl ?_
   refine lda (es := [(.int .i64 a1.Key.Kind), (.int .i64 a1.Key.N), w1_0, w1_1]) B7 Tryz.underlying33 z33 rfl rfl rfl rfl rfl rfl rfl rfl ?_
   have K14 := ((kp0.st p5 rfl).st p7 rfl)
   have A15 := (A0_1.kp K14)
   have A16 := (A1_1.kp K14)
   refine cl rfl rfl rfl rfl rfl Tryz.func17 rfl rfl rfl (fun r17 m17 => laws_eqItem.calls a0.Key a1.Key s7.w (fun b => memb [0] (s7.g b) = true) w0_0 w0_1 w1_0 w1_1 ((fl_rdf (s := s7) A0_0).sub (D := [0]) rfl) A15 ((fl_rdf (s := s7) A1_0).sub (D := [0]) rfl) A16 r17 m17) ?_
   rintro r17 _ w17 m17 ⟨rfl, ky17⟩
   obtain ⟨s18, rfl, p18, n18⟩ := nwx s7 w17 42 ky17
   refine pu rfl rfl rfl rfl rfl ?_
   refine dn ?_
   refine cd rfl (fun h19 => ?_) (fun h19 => ?_)
   ·
    refine sr ?_
    refine pu rfl rfl rfl rfl rfl ?_
    refine dn ?_
    have K20 := (K14.st p18 rfl)
    exact re rfl Tryz.func32 rfl (r_t rfl r_nil) rfl ⟨_, rfl, rfl, z.ky K20⟩
   ·
    refine sk ?_
    refine sq ?_
    refine sr ?_
    refine fa fa58_3 rfl rfl rfl rfl rfl rfl ?_
    have A21 := (BlF.st A9 p18 rfl)
    refine lda (es := [(.int .i64 a0.Value.Kind), (.int .i64 a0.Value.N), w0_2, w0_3]) A21 Tryz.underlying33 z33 rfl rfl rfl rfl rfl rfl rfl rfl ?_
    refine fa fa58_3 rfl rfl rfl rfl rfl rfl ?_
    have A22 := (BlF.st B7 p18 rfl)
    refine lda (es := [(.int .i64 a1.Value.Kind), (.int .i64 a1.Value.N), w1_2, w1_3]) A22 Tryz.underlying33 z33 rfl rfl rfl rfl rfl rfl rfl rfl ?_
    have K23 := (K14.st p18 rfl)
    have A24 := (A0_3.kp K23)
    have A25 := (A1_3.kp K23)
    refine cl rfl rfl rfl rfl rfl Tryz.func17 rfl rfl rfl (fun r26 m26 => laws_eqItem.calls a0.Value a1.Value s18.w (fun b => memb [0] (s18.g b) = true) w0_2 w0_3 w1_2 w1_3 ((fl_rdf (s := s18) A0_2).sub (D := [0]) rfl) A24 ((fl_rdf (s := s18) A1_2).sub (D := [0]) rfl) A25 r26 m26) ?_
    rintro r26 _ w26 m26 ⟨rfl, ky26⟩
    obtain ⟨s27, rfl, p27, n27⟩ := nwx s18 w26 43 ky26
    refine pu rfl rfl rfl rfl rfl ?_
    refine dn ?_
    refine cd rfl (fun h28 => ?_) (fun h28 => ?_)
    ·
     refine sr ?_
     refine pu rfl rfl rfl rfl rfl ?_
     refine dn ?_
     have K29 := (K23.st p27 rfl)
     exact re rfl Tryz.func32 rfl (r_t rfl r_nil) rfl ⟨_, rfl, rfl, z.ky K29⟩
    ·
     refine sk ?_
     refine sr ?_
     refine pu rfl rfl rfl rfl rfl ?_
     refine dn ?_
     have K30 := (K23.st p27 rfl)
     exact re rfl Tryz.func32 rfl (r_t rfl r_nil) rfl ⟨_, rfl, rfl, z.ky K30⟩
noncomputable def laws_markTuple.f (a0 : Tuple) (a1 : Int) : Option (Int × Tuple) :=
 ((laws_markItem.f a0.Key a1).bind fun r5 => ((laws_markItem.f a0.Value r5.1).bind fun r10 => (some (r10.1, (Tuple.mk a0.Xmin a0.Xmax (Item.mk a0.Key.Kind a0.Key.N a0.Key.F r5.2) (Item.mk a0.Value.Kind a0.Value.N a0.Value.F r10.2))))))
def laws_markTuple.Q (w : World) (F : Nat → Prop) (os : List Nat) (a0 : Tuple) (w0_0 : Value) (w0_1 : Value) (w0_2 : Value) (w0_3 : Value) (r : Int × Tuple) (v : Value) (w' : World) : Prop :=
 v = (.int .i64 r.1) ∧ FW kd58 os w w' [(.int .i64 a0.Xmin), (.int .i64 a0.Xmax), (.int .i64 a0.Key.Kind), (.int .i64 a0.Key.N), w0_0, w0_1, (.int .i64 a0.Value.Kind), (.int .i64 a0.Value.N), w0_2, w0_3] r.2 ∧ Ky os w w'
set_option maxHeartbeats 4000000 in
set_option maxRecDepth 100000 in
theorem laws_markTuple.calls (a0 : Tuple) (a1 : Int) (w : World) (F : Nat → Prop) (w0_0 : Value) (w0_1 : Value) (w0_2 : Value) (w0_3 : Value) (os : List Nat) (h0 : kd58.ow w [(.int .i64 a0.Xmin), (.int .i64 a0.Xmax), (.int .i64 a0.Key.Kind), (.int .i64 a0.Key.N), w0_0, w0_1, (.int .i64 a0.Value.Kind), (.int .i64 a0.Value.N), w0_2, w0_3] a0 os) (hn : os.Nodup) (hF : ∀ b, F b → b ∉ os) (r : Int × Tuple) (m : laws_markTuple.f a0 a1 = some r) :
  Calls Tryz.prog 33 #[(.agg #[(.int .i64 a0.Xmin), (.int .i64 a0.Xmax), (.int .i64 a0.Key.Kind), (.int .i64 a0.Key.N), w0_0, w0_1, (.int .i64 a0.Value.Kind), (.int .i64 a0.Value.N), w0_2, w0_3]), (.int .i64 a1)] w fun en w' => ∃ v, en = .returned v ∧ laws_markTuple.Q w F os a0 w0_0 w0_1 w0_2 w0_3 r v w' := by
 obtain ⟨u0_0, u0_1, u0_2, u0_3, q0_1, q0_3, e0, eo0, h0_0, h0_1, h0_2, h0_3⟩ := po58 h0
 obtain ⟨y0_0, y0_1, y0_2, y0_3⟩ : w0_0 = u0_0 ∧ w0_1 = u0_1 ∧ w0_2 = u0_2 ∧ w0_3 = u0_3 := by simpa using e0
 subst y0_0
 subst y0_1
 subst y0_2
 subst y0_3
 subst eo0
 obtain ⟨s0, rfl, kp0, z⟩ := startN w F [(q0_1, 2), (q0_3, 3)] (by simpa [fl_] using hn) (fun b hb => by simpa [fl_] using hF b hb) rfl
 have ez : fl_ [(q0_1, 2), (q0_3, 3)] = q0_1 ++ (q0_3) := by simp [fl_]
 have hn0_1 : q0_1.Nodup := by simp only [List.nodup_append] at hn; simp [hn]
 have A0_1 := z.ow (c := 2) (by simp) hn0_1 h0_1
 have hn0_3 : q0_3.Nodup := by simp only [List.nodup_append] at hn; simp [hn]
 have A0_3 := z.ow (c := 3) (by simp) hn0_3 h0_3
 have A0_0 := h0_0
 have A0_2 := h0_2
 refine calls_of_TM (args := [(.agg #[(.int .i64 a0.Xmin), (.int .i64 a0.Xmax), (.int .i64 a0.Key.Kind), (.int .i64 a0.Key.N), w0_0, w0_1, (.int .i64 a0.Value.Kind), (.int .i64 a0.Value.N), w0_2, w0_3]), (.int .i64 a1)]) (R := fun r en w' => ∃ v, en = .returned v ∧ laws_markTuple.Q s0.w F (q0_1 ++ (q0_3)) a0 w0_0 w0_1 w0_2 w0_3 r v w') Tryz.func33 Tryz.ntmps33 rfl rfl m ?_
 unfold laws_markTuple.f
 refine sr ?_
 refine bx (cs := [(.int .i64 a0.Xmin), (.int .i64 a0.Xmax), (.int .i64 a0.Key.Kind), (.int .i64 a0.Key.N), w0_0, w0_1, (.int .i64 a0.Value.Kind), (.int .i64 a0.Value.N), w0_2, w0_3]) 40 rfl rfl rfl rfl rfl rfl (fun b3 s3 p3 B3 => ?_)
 refine pu rfl rfl rfl rfl rfl ?_
 refine dn ?_
 refine sr ?_
 refine fa fa58_2 rfl rfl rfl rfl rfl rfl ?_
 refine lda (es := [(.int .i64 a0.Key.Kind), (.int .i64 a0.Key.N), w0_0, w0_1]) B3 Tryz.underlying33 z33 rfl rfl rfl rfl rfl rfl rfl rfl ?_
 refine pu rfl rfl rfl rfl rfl ?_
 have A6 := (A0_1.st p3 rfl)
 obtain ⟨os5, ho5, hn5, hc5⟩ := A6
 refine cl rfl rfl rfl rfl rfl Tryz.func19 rfl rfl rfl (fun r5 m5 => laws_markItem.calls a0.Key a1 s3.w (fun b => memb [] (s3.g b) = true) w0_0 w0_1 (fl_rdf (s := s3) A0_0) os5 ho5 hn5 (apart_of hc5 rfl) r5 m5) ?_
 rintro r5 _ w5 m5 ⟨rfl, w5_, ky5⟩
 obtain ⟨s7, rfl, p7, A7⟩ := nwo 41 hc5 ky5 w5_
 refine pu rfl rfl rfl rfl rfl ?_
 refine dn ?_
 refine sr ?_
 refine fa fa58_3 rfl rfl rfl rfl rfl rfl ?_
 have A9 := (BlF.st B3 p7 rfl)
 refine lda (es := [(.int .i64 a0.Value.Kind), (.int .i64 a0.Value.N), w0_2, w0_3]) A9 Tryz.underlying33 z33 rfl rfl rfl rfl rfl rfl rfl rfl ?_
 refine pu rfl rfl rfl rfl rfl ?_
 have A11 := ((A0_3.st p3 rfl).st p7 rfl)
 obtain ⟨os10, ho10, hn10, hc10⟩ := A11
 refine cl rfl rfl rfl rfl rfl Tryz.func19 rfl rfl rfl (fun r10 m10 => laws_markItem.calls a0.Value r5.1 s7.w (fun b => memb [] (s7.g b) = true) w0_2 w0_3 (fl_rdf (s := s7) A0_2) os10 ho10 hn10 (apart_of hc10 rfl) r10 m10) ?_
 rintro r10 _ w10 m10 ⟨rfl, w10_, ky10⟩
 obtain ⟨s12, rfl, p12, A12⟩ := nwo 42 hc10 ky10 w10_
 refine pu rfl rfl rfl rfl rfl ?_
 refine dn ?_
 refine sr ?_
 refine pu rfl rfl rfl rfl rfl ?_
 refine pu rfl rfl rfl rfl rfl ?_
 refine dn ?_
 have A14 := (A7.st p12 rfl)
 have K15 := (((kp0.st p3 rfl).st p7 rfl).st p12 rfl)
 exact re rfl Tryz.func33 rfl (r_t rfl r_nil) rfl ⟨_, rfl, rfl, z.fw' ez K15 (oc_iso (fun x : Tuple => (x.Xmin, x.Xmax, x.Key, x.Value)) (Tuple.mk a0.Xmin a0.Xmax (Item.mk a0.Key.Kind a0.Key.N a0.Key.F r5.2) (Item.mk a0.Value.Kind a0.Value.N a0.Value.F r10.2)) (oc_pair (oc_z (fz_int .i64 a0.Xmin)) (oc_pair (oc_z (fz_int .i64 a0.Xmax)) (oc_pair (oc_iso (fun x : Item => (x.Kind, x.N, x.F, x.T)) (Item.mk a0.Key.Kind a0.Key.N a0.Key.F r5.2) (oc_pair (oc_z (fz_int .i64 a0.Key.Kind)) (oc_pair (oc_z (fz_int .i64 a0.Key.N)) (oc_pair (oc_z (fz_flt A0_0)) (oc_ow A14) rfl) rfl) rfl)) (oc_iso (fun x : Item => (x.Kind, x.N, x.F, x.T)) (Item.mk a0.Value.Kind a0.Value.N a0.Value.F r10.2) (oc_pair (oc_z (fz_int .i64 a0.Value.Kind)) (oc_pair (oc_z (fz_int .i64 a0.Value.N)) (oc_pair (oc_z (fz_flt A0_2)) (oc_ow A12) rfl) rfl) rfl)) rfl) rfl) rfl)) rfl, z.ky' ez K15⟩
end Go.Proofs.YtcagjdngannneaaGreat
