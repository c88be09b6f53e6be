/- The functions as models, and that the calls come to what the models tell. -/
import Derived.Test.YtcagjdngannneaaGreatXsc
set_option linter.unusedVariables false
set_option linter.unusedSimpArgs false
namespace Go.Proofs.YtcagjdngannneaaGreat
open Go V
noncomputable def spec_HeapPut.f (a0 : Heap) (a1 : Int) (a2 : Int) (a3 : Tuple) (a4 : Int) : Option (Heap × Bool) :=
 ((spec_HeapAt.f a0 a1 a2).bind fun r13 => ((spec_HeapOk.f a0).bind fun r27 => ((if (!r27) = true then (some true) else ((spec_TupleOk.f a3).bind fun r38 => (some (!r38)))).bind fun y29 => ((if (y29 || r13.2) = true then (some true) else ((spec_l5in.f a1 (0 : Int) (a0.Pages.length : Int)).bind fun r51 => (some (!r51)))).bind fun y49 => (if (y49 || (decide (a1 ≥ (16 : Int)))) = true then (some ((Heap.mk ([] : (List Page))), false)) else ((spec_l10copy.f a0).bind fun r69 => ((if (a1 == (r69.Pages.length : Int)) = true then (if r69.Pages.length + ([(Page.mk (0 : Int) ([] : (List (List Int))))]).length ≤ Lim then (some (r69.Pages ++ [(Page.mk (0 : Int) ([] : (List (List Int))))])) else none) else (some r69.Pages)).bind fun y78 => (if 0 ≤ a1 ∧ a1 < (y78.length : Int) then (((spec_TupleBytes.f a3).bind fun r126 => ((spec_PagePut.f (at_ y78 a1) a2 r126 a4).bind fun r136 => (some (r136.1.Lsn, r136.1.Slots, r136.2)))).bind fun y118 => (if (!y118.2.2) = true then (some ((Heap.mk ([] : (List Page))), false)) else (if 0 ≤ a1 ∧ a1 < (y78.length : Int) then (some ((Heap.mk (y78.set (a1).toNat (Page.mk y118.1 y118.2.1))), true)) else none))) else none))))))))
def spec_HeapPut.Q (w : World) (F : Nat → Prop) (r : Heap × Bool) (v : Value) (w' : World) : Prop :=
 ∃ (v0 : Value), v = .tuple #[(.agg #[v0]), (.bool r.2)] ∧ FO kd46 w w' [v0] r.1 ∧ Ky [] w w'
set_option maxHeartbeats 4000000 in
set_option maxRecDepth 100000 in
theorem spec_HeapPut.calls (a0 : Heap) (a1 : Int) (a2 : Int) (a3 : Tuple) (a4 : Int) (w : World) (F : Nat → Prop) (w0_0 : Value) (w3_0 : Value) (w3_1 : Value) (w3_2 : Value) (w3_3 : Value) (h0_0 : (Kd.sl 142 kd142).rd w [w0_0] a0.Pages F) (h3_0 : Kd.flt.rd w [w3_0] a3.Key.F F) (h3_1 : (Kd.sl 5 (Kd.int .u8)).rd w [w3_1] a3.Key.T F) (h3_2 : Kd.flt.rd w [w3_2] a3.Value.F F) (h3_3 : (Kd.sl 5 (Kd.int .u8)).rd w [w3_3] a3.Value.T F) (r : Heap × Bool) (m : spec_HeapPut.f a0 a1 a2 a3 a4 = some r) :
  Calls Tryz.prog 29 #[(.agg #[w0_0]), (.int .i64 a1), (.int .i64 a2), (.agg #[(.int .i64 a3.Xmin), (.int .i64 a3.Xmax), (.int .i64 a3.Key.Kind), (.int .i64 a3.Key.N), w3_0, w3_1, (.int .i64 a3.Value.Kind), (.int .i64 a3.Value.N), w3_2, w3_3]), (.int .i64 a4)] w fun en w' => ∃ v, en = .returned v ∧ spec_HeapPut.Q w F r v w' := by
 obtain ⟨s0, rfl, kp0, z⟩ := start0 w F
 have A0_0 := z.rd h0_0
 have A3_0 := fl_of h3_0
 have A3_1 := z.rd h3_1
 have A3_2 := fl_of h3_2
 have A3_3 := z.rd h3_3
 refine calls_of_TM (args := [(.agg #[w0_0]), (.int .i64 a1), (.int .i64 a2), (.agg #[(.int .i64 a3.Xmin), (.int .i64 a3.Xmax), (.int .i64 a3.Key.Kind), (.int .i64 a3.Key.N), w3_0, w3_1, (.int .i64 a3.Value.Kind), (.int .i64 a3.Value.N), w3_2, w3_3]), (.int .i64 a4)]) (R := fun r en w' => ∃ v, en = .returned v ∧ spec_HeapPut.Q s0.w F r v w') Tryz.func29 Tryz.ntmps29 rfl rfl m ?_
 unfold spec_HeapPut.f
 refine sr ?_
 refine bx (cs := [w0_0]) 40 rfl rfl rfl rfl rfl rfl (fun b4 s4 p4 B4 => ?_)
 refine bx (cs := [(.int .i64 a3.Xmin), (.int .i64 a3.Xmax), (.int .i64 a3.Key.Kind), (.int .i64 a3.Key.N), w3_0, w3_1, (.int .i64 a3.Value.Kind), (.int .i64 a3.Value.N), w3_2, w3_3]) 41 rfl rfl rfl rfl rfl rfl (fun b6 s6 p6 B6 => ?_)
 refine al (cs := [(.slice none 0 0)]) 42 rfl rfl rfl rfl rfl o46 rfl (fun b8 s8 p8 B8 => ?_)
 refine pu rfl rfl rfl rfl rfl ?_
 refine dn ?_
 refine sr ?_
 have A10 := (BlF.st (BlF.st B4 p6 rfl) p8 rfl)
 refine lda (es := [w0_0]) A10 Tryz.underlying46 z46 rfl rfl rfl rfl rfl rfl rfl rfl ?_
 refine pu rfl rfl rfl rfl rfl ?_
 refine pu rfl rfl rfl rfl rfl ?_
 have K11 := (((kp0.st p4 rfl).st p6 rfl).st p8 rfl)
 have A12 := (A0_0.kp K11)
 refine cl rfl rfl rfl rfl rfl Tryz.func95 rfl rfl rfl (fun r13 m13 => spec_HeapAt.calls a0 a1 a2 s8.w (fun b => memb [0] (s8.g b) = true) w0_0 A12 r13 m13) ?_
 rintro r13 _ w13 m13 ⟨v13_0, v13_1, v13_2, v13_3, rfl, f13_0, ky13⟩
 obtain ⟨s14, rfl, p14, n14⟩ := nwx s8 w13 43 ky13
 have A13_0 := f13_0.c n14
 obtain ⟨os13_0, ho13_0, hn13_0, hc13_0⟩ := A13_0
 obtain ⟨u13_0_0, u13_0_1, u13_0_2, u13_0_3, qu13_0_1, qu13_0_3, e13_0, eo13_0, hu13_0_0, hu13_0_1, hu13_0_2, hu13_0_3⟩ := po58 ho13_0
 have yu13_0_0 : v13_0 = u13_0_0 := congrArg (fun l => (List.drop 4 l).headD undef) e13_0
 have yu13_0_1 : v13_1 = u13_0_1 := congrArg (fun l => (List.drop 5 l).headD undef) e13_0
 have yu13_0_2 : v13_2 = u13_0_2 := congrArg (fun l => (List.drop 8 l).headD undef) e13_0
 have yu13_0_3 : v13_3 = u13_0_3 := congrArg (fun l => (List.drop 9 l).headD undef) e13_0
 subst yu13_0_0
 subst yu13_0_1
 subst yu13_0_2
 subst yu13_0_3
 subst eo13_0
 obtain ⟨s15, hw15, p15, Au13_0_1, hn15, hc15⟩ := sp2 44 hu13_0_1 hn13_0 hc13_0 rfl
 rw [hw15]
 have Au13_0_3 : OwF (Kd.sl 5 (Kd.int .u8)) s15 [v13_3] r13.1.Value.T 44 := sp1 (hw15 ▸ hu13_0_3) hn15 hc15
 refine pu rfl rfl rfl rfl rfl ?_
 refine pu (v := (.agg #[(.int .i64 r13.1.Xmin), (.int .i64 r13.1.Xmax), (.int .i64 r13.1.Key.Kind), (.int .i64 r13.1.Key.N), v13_0, v13_1, (.int .i64 r13.1.Value.Kind), (.int .i64 r13.1.Value.N), v13_2, v13_3])) rfl rfl rfl rfl rfl ?_
 refine pu (v := (.bool r13.2)) rfl rfl rfl rfl rfl ?_
 refine al (cs := [(.int .i64 (0 : Int)), (.int .i64 (0 : Int)), (.int .i64 (0 : Int)), (.int .i64 (0 : Int)), (.float .f64 0), (.slice none 0 0), (.int .i64 (0 : Int)), (.int .i64 (0 : Int)), (.float .f64 0), (.slice none 0 0)]) 45 rfl rfl rfl rfl rfl o58 rfl (fun b18 s18 p18 B18 => ?_)
 have A20 := (Au13_0_3.st p18 rfl)
 have A21 := (Au13_0_1.st p18 rfl)
 refine sva (vs := [(.int .i64 r13.1.Xmin), (.int .i64 r13.1.Xmax), (.int .i64 r13.1.Key.Kind), (.int .i64 r13.1.Key.N), v13_0, v13_1, (.int .i64 r13.1.Value.Kind), (.int .i64 r13.1.Value.N), v13_2, v13_3]) B18 z58 rfl rfl rfl rfl rfl rfl (on_cons rfl (on_cons rfl (on_cons rfl (on_cons rfl (on_cons (FL.one hu13_0_0) (on_cons A21.rd.one (on_cons rfl (on_cons rfl (on_cons (FL.one hu13_0_2) (on_cons A20.rd.one on_nil)))))))))) rfl (fun s22 p22 B22 => ?_)
 refine pu rfl rfl rfl rfl rfl ?_
 refine dn ?_
 refine sq ?_
 refine sr ?_
 have A24 := (BlF.st (BlF.st (BlF.st (BlF.st A10 p14 rfl) p15 rfl) p18 rfl) p22 rfl)
 refine lda (es := [w0_0]) A24 Tryz.underlying46 z46 rfl rfl rfl rfl rfl rfl rfl rfl ?_
 have K25 := ((((K11.st p14 rfl).st p15 rfl).st p18 rfl).st p22 rfl)
 have A26 := (A0_0.kp K25)
 refine cl rfl rfl rfl rfl rfl Tryz.func108 rfl rfl rfl (fun r27 m27 => spec_HeapOk.calls a0 s22.w (fun b => memb [0] (s22.g b) = true) w0_0 A26 r27 m27) ?_
 rintro r27 _ w27 m27 ⟨rfl, ky27⟩
 obtain ⟨s28, rfl, p28, n28⟩ := nwx s22 w27 46 ky27
 refine pu rfl rfl rfl rfl rfl ?_
 refine pu rfl rfl rfl rfl rfl ?_
 refine ji [8, 9, 10, 11, 12, 13, 14, 15, 16, 17, 18, 19, 20, 21, 22] (fun (y29 : Bool) (e : Env) (w : World) => ∃ (s : St) (e0 : Env), w = s.w ∧ e = upd (upd (upd (upd (upd (upd (upd (upd e0 1 (.int .i64 a1)) 2 (.int .i64 a2)) 4 (.int .i64 a4)) 5 (.pointer (some ⟨b4, 0, none⟩))) 8 (.pointer (some ⟨b6, 0, none⟩))) 10 (.pointer (some ⟨b8, 0, none⟩))) 13 (.bool r13.2)) 31 (.bool y29) ∧ Kp s0 s ∧ BlF s b8 46 [(.slice none 0 0)] 42 ∧ BlF s b6 58 [(.int .i64 a3.Xmin), (.int .i64 a3.Xmax), (.int .i64 a3.Key.Kind), (.int .i64 a3.Key.N), w3_0, w3_1, (.int .i64 a3.Value.Kind), (.int .i64 a3.Value.N), w3_2, w3_3] 41 ∧ BlF s b4 46 [w0_0] 40) (fun Gj29 Kj29 => ?_) ?_
 ·
  rcases Bool.eq_false_or_eq_true (!r27) with hb29 | hb29
  ·
   refine sbT hb29 ?_
   rw [if_pos hb29]
   refine uw rfl rfl rfl rfl ?_
   refine uw rfl rfl rfl rfl ?_
   refine uw rfl rfl rfl rfl ?_
   refine pu rfl rfl rfl rfl rfl ?_
   have A30 := (BlF.st (BlF.st (BlF.st (BlF.st (BlF.st B8 p14 rfl) p15 rfl) p18 rfl) p22 rfl) p28 rfl)
   have A31 := (BlF.st (BlF.st (BlF.st (BlF.st (BlF.st (BlF.st B6 p8 rfl) p14 rfl) p15 rfl) p18 rfl) p22 rfl) p28 rfl)
   have A32 := (BlF.st A24 p28 rfl)
   have K33 := (K25.st p28 rfl)
   exact Kj29 _ _ _ ⟨s28, _, rfl, (ue (ue (ue (ue (ue (ue (ue (ue rfl rfl) rfl) rfl) rfl) rfl) rfl) rfl) rfl), K33, A30, A31, A32⟩
  ·
   refine sbT hb29 ?_
   rw [if_neg (by rw [hb29]; decide)]
   have A34 := (BlF.st (BlF.st (BlF.st (BlF.st (BlF.st (BlF.st B6 p8 rfl) p14 rfl) p15 rfl) p18 rfl) p22 rfl) p28 rfl)
   refine lda (es := [(.int .i64 a3.Xmin), (.int .i64 a3.Xmax), (.int .i64 a3.Key.Kind), (.int .i64 a3.Key.N), w3_0, w3_1, (.int .i64 a3.Value.Kind), (.int .i64 a3.Value.N), w3_2, w3_3]) A34 Tryz.underlying58 z58 rfl rfl rfl rfl rfl rfl rfl rfl ?_
   have K35 := (K25.st p28 rfl)
   have A36 := (A3_1.kp K35)
   have A37 := (A3_3.kp K35)
   refine cl rfl rfl rfl rfl rfl Tryz.func109 rfl rfl rfl (fun r38 m38 => spec_TupleOk.calls a3 s28.w (fun b => memb [0] (s28.g b) = true) w3_0 w3_1 w3_2 w3_3 ((fl_rdf (s := s28) A3_0).sub (D := [0]) rfl) A36 ((fl_rdf (s := s28) A3_2).sub (D := [0]) rfl) A37 r38 m38) ?_
   rintro r38 _ w38 m38 ⟨rfl, ky38⟩
   obtain ⟨s39, rfl, p39, n39⟩ := nwx s28 w38 47 ky38
   refine pu rfl rfl rfl rfl rfl ?_
   refine pu rfl rfl rfl rfl rfl ?_
   have A40 := (BlF.st (BlF.st (BlF.st (BlF.st (BlF.st (BlF.st B8 p14 rfl) p15 rfl) p18 rfl) p22 rfl) p28 rfl) p39 rfl)
   have A41 := (BlF.st A34 p39 rfl)
   have A42 := (BlF.st (BlF.st A24 p28 rfl) p39 rfl)
   have K43 := (K35.st p39 rfl)
   exact Kj29 _ _ _ ⟨s39, _, rfl, (ue (ue (ue (ue (ue (ue (ue (ue rfl rfl) rfl) rfl) rfl) rfl) rfl) rfl) rfl), K43, A40, A41, A42⟩
 rintro y29 _ _ ⟨s44, _, rfl, rfl, Ky29, By29_b8, By29_b6, By29_b4⟩
 refine pu rfl rfl rfl rfl rfl ?_
 refine jy [32, 33, 34] [11, 12, 13, 14, 15, 16, 17, 18, 19, 20, 21, 22] 34 (.bool (y29 || r13.2)) rfl (fun Kg48 => ?_) (fun j48 => ?_)
 ·
  rcases Bool.eq_false_or_eq_true y29 with hb48 | hb48
  ·
   refine sbT hb48 ?_
   refine uw rfl rfl rfl rfl ?_
   refine pu rfl rfl rfl rfl rfl ?_
   exact Kg48 _ (Ag.put ((Ag.put (Ag.base rfl) rfl)) rfl) (by rw [hb48]; rfl)
  ·
   refine sbT hb48 ?_
   refine pu rfl rfl rfl rfl rfl ?_
   refine pu rfl rfl rfl rfl rfl ?_
   exact Kg48 _ (Ag.put ((Ag.put (Ag.base rfl) rfl)) rfl) (by rw [hb48]; rfl)
 refine pu rfl rfl rfl rfl rfl ?_
 refine ji [19, 20, 21, 22] (fun (y49 : Bool) (e : Env) (w : World) => ∃ (s : St) (e0 : Env), w = s.w ∧ e = upd (upd (upd (upd (upd (upd (upd e0 1 (.int .i64 a1)) 2 (.int .i64 a2)) 4 (.int .i64 a4)) 5 (.pointer (some ⟨b4, 0, none⟩))) 8 (.pointer (some ⟨b6, 0, none⟩))) 10 (.pointer (some ⟨b8, 0, none⟩))) 42 (.bool y49) ∧ Kp s0 s ∧ BlF s b8 46 [(.slice none 0 0)] 42 ∧ BlF s b6 58 [(.int .i64 a3.Xmin), (.int .i64 a3.Xmax), (.int .i64 a3.Key.Kind), (.int .i64 a3.Key.N), w3_0, w3_1, (.int .i64 a3.Value.Kind), (.int .i64 a3.Value.N), w3_2, w3_3] 41 ∧ BlF s b4 46 [w0_0] 40) (fun Gj49 Kj49 => ?_) ?_
 ·
  rcases Bool.eq_false_or_eq_true (y29 || r13.2) with hb49 | hb49
  ·
   refine sbT hb49 ?_
   rw [if_pos hb49]
   refine uw rfl rfl rfl rfl ?_
   refine uw rfl rfl rfl rfl ?_
   refine uw rfl rfl rfl rfl ?_
   refine uw rfl rfl rfl rfl ?_
   refine uw rfl rfl rfl rfl ?_
   refine uw rfl rfl rfl rfl ?_
   refine pu rfl rfl rfl rfl rfl ?_
   exact Kj49 _ _ _ ⟨s44, _, rfl, (ue (ue (ue (ue (ue (ue (ue rfl rfl) rfl) rfl) rfl) rfl) rfl) rfl), Ky29, By29_b8, By29_b6, By29_b4⟩
  ·
   refine sbT hb49 ?_
   rw [if_neg (by rw [hb49]; decide)]
   refine pu rfl rfl rfl rfl rfl ?_
   refine fa fa46_0 rfl rfl rfl rfl rfl rfl ?_
   refine ld By29_b4 Tryz.underlying44 rfl rfl rfl rfl rfl rfl rfl rfl ?_
   have A50 := (A0_0.kp Ky29)
   refine ln A50 Tryz.underlying44 rfl rfl rfl rfl rfl rfl ?_
   refine cl rfl rfl rfl rfl rfl Tryz.func96 rfl rfl rfl (fun r51 m51 => spec_l5in.calls a1 (0 : Int) (a0.Pages.length : Int) s44.w (fun b => memb [] (s44.g b) = true)  r51 m51) ?_
   rintro r51 _ w51 m51 ⟨rfl, ky51⟩
   obtain ⟨s52, rfl, p52, n52⟩ := nwx s44 w51 48 ky51
   refine pu rfl rfl rfl rfl rfl ?_
   refine pu rfl rfl rfl rfl rfl ?_
   have A53 := (BlF.st By29_b8 p52 rfl)
   have A54 := (BlF.st By29_b6 p52 rfl)
   have A55 := (BlF.st By29_b4 p52 rfl)
   have K56 := (Ky29.st p52 rfl)
   exact Kj49 _ _ _ ⟨s52, _, rfl, (ue (ue (ue (ue (ue (ue (ue rfl rfl) rfl) rfl) rfl) rfl) rfl) rfl), K56, A53, A54, A55⟩
 rintro y49 _ _ ⟨s57, _, rfl, rfl, Ky49, By49_b8, By49_b6, By49_b4⟩
 refine pu rfl rfl rfl rfl rfl ?_
 refine jy [43, 44, 45, 46] [] 46 (.bool (y49 || (decide (a1 ≥ (16 : Int))))) rfl (fun Kg61 => ?_) (fun j61 => ?_)
 ·
  rcases Bool.eq_false_or_eq_true y49 with hb61 | hb61
  ·
   refine sbT hb61 ?_
   refine uw rfl rfl rfl rfl ?_
   refine uw rfl rfl rfl rfl ?_
   refine pu rfl rfl rfl rfl rfl ?_
   exact Kg61 _ (Ag.put ((Ag.put ((Ag.put (Ag.base rfl) rfl)) rfl)) rfl) (by rw [hb61]; rfl)
  ·
   refine sbT hb61 ?_
   refine pu rfl rfl rfl rfl rfl ?_
   refine pu rfl rfl rfl rfl rfl ?_
   refine pu rfl rfl rfl rfl rfl ?_
   exact Kg61 _ (Ag.put ((Ag.put ((Ag.put (Ag.base rfl) rfl)) rfl)) rfl) (by rw [hb61]; rfl)
 refine dn ?_
 refine cd rfl (fun h62 => ?_) (fun h62 => ?_)
 ·
  refine sr ?_
  refine bd (cells := [(.slice none 0 0)]) pl46 o46 rfl rfl rfl rfl rfl rfl ?_
  refine sva (vs := [(.slice none 0 0)]) By49_b8 z46 rfl rfl rfl rfl rfl rfl (on_cons rfl on_nil) rfl (fun s63 p63 B63 => ?_)
  refine pu rfl rfl rfl rfl rfl ?_
  refine dn ?_
  have A65 : OwF kd46 s63 [(.slice none 0 0)] (Heap.mk ([] : (List Page))) 49 := ow_z _ _ (fz_iso (fun x : Heap => (x.Pages)) (Heap.mk ([] : (List Page))) (fz_nil 142 kd142))
  have K67 := (Ky49.st p63 rfl)
  exact re rfl Tryz.func29 rfl (r_b B63 Tryz.underlying46 rfl z46 rfl (r_t rfl r_nil)) rfl ⟨_, rfl, (.slice none 0 0), rfl, A65.fo K67 rfl z.l, z.ky K67⟩
 ·
  refine sk ?_
  refine sr ?_
  refine lda (es := [w0_0]) By49_b4 Tryz.underlying46 z46 rfl rfl rfl rfl rfl rfl rfl rfl ?_
  have A68 := (A0_0.kp Ky49)
  refine cl rfl rfl rfl rfl rfl Tryz.func97 rfl rfl rfl (fun r69 m69 => spec_l10copy.calls a0 s57.w (fun b => memb [0] (s57.g b) = true) w0_0 A68 r69 m69) ?_
  rintro r69 _ w69 m69 ⟨v69_0, rfl, f69_0, ky69⟩
  obtain ⟨s70, rfl, p70, n70⟩ := nwx s57 w69 50 ky69
  have A69_0 := f69_0.c n70
  obtain ⟨os69_0, ho69_0, hn69_0, hc69_0⟩ := A69_0
  obtain ⟨u69_0_0, qu69_0_0, e69_0, eo69_0, hu69_0_0⟩ := po46 ho69_0
  have yu69_0_0 : v69_0 = u69_0_0 := congrArg (fun l => (List.drop 0 l).headD undef) e69_0
  subst yu69_0_0
  subst eo69_0
  have Au69_0_0 : OwF (Kd.sl 142 kd142) s70 [v69_0] r69.Pages 50 := sp1 hu69_0_0 hn69_0 hc69_0
  refine al (cs := [(.slice none 0 0)]) 51 rfl rfl rfl rfl rfl o46 rfl (fun b72 s72 p72 B72 => ?_)
  have A74 := (Au69_0_0.st p72 rfl)
  refine sva (vs := [v69_0]) B72 z46 rfl rfl rfl rfl rfl rfl (on_cons A74.rd.one on_nil) rfl (fun s75 p75 B75 => ?_)
  refine dn ?_
  refine sq ?_
  refine sr ?_
  refine pu rfl rfl rfl rfl rfl ?_
  refine fa fa46_0 rfl rfl rfl rfl rfl rfl ?_
  refine ld B75 Tryz.underlying44 rfl rfl rfl rfl rfl rfl rfl rfl ?_
  have A77 := (A74.st p75 rfl)
  refine ln A77.rd Tryz.underlying44 rfl rfl rfl rfl rfl rfl ?_
  refine pu rfl rfl rfl rfl rfl ?_
  refine dn ?_
  refine jc (fun (y78 : (List Page)) (e : Env) (w : World) => ∃ (s : St) (e0 : Env) (vy78_0 : Value), w = s.w ∧ e = upd (upd (upd (upd (upd (upd e0 1 (.int .i64 a1)) 2 (.int .i64 a2)) 4 (.int .i64 a4)) 8 (.pointer (some ⟨b6, 0, none⟩))) 10 (.pointer (some ⟨b8, 0, none⟩))) 14 (.pointer (some ⟨b72, 0, none⟩)) ∧ Kp s0 s ∧ OwF (Kd.sl 142 kd142) s [vy78_0] y78 50 ∧ BlF s b72 46 [vy78_0] 51 ∧ BlF s b8 46 [(.slice none 0 0)] 42 ∧ BlF s b6 58 [(.int .i64 a3.Xmin), (.int .i64 a3.Xmax), (.int .i64 a3.Key.Kind), (.int .i64 a3.Key.N), w3_0, w3_1, (.int .i64 a3.Value.Kind), (.int .i64 a3.Value.N), w3_2, w3_3] 41) (fun Gj78 Kj78 => ?_) ?_
  ·
   refine cd rfl (fun h79 => ?_) (fun h79 => ?_)
   ·
    refine rg ?_
    refine fa fa46_0 rfl rfl rfl rfl rfl rfl ?_
    refine ld B75 Tryz.underlying44 rfl rfl rfl rfl rfl rfl rfl rfl ?_
    refine bd (cells := [(.int .i64 (0 : Int)), (.slice none 0 0)]) pl142 o142 rfl rfl rfl rfl rfl rfl ?_
    have A80 : OwF kd142 s75 [(.int .i64 (0 : Int)), (.slice none 0 0)] (Page.mk (0 : Int) ([] : (List (List Int)))) 53 := ow_z _ _ (fz_iso (fun x : Page => (x.Lsn, x.Slots)) (Page.mk (0 : Int) ([] : (List (List Int)))) (fz_pair (fz_int .i64 (0 : Int)) (fz_nil 24 (Kd.sl 5 (Kd.int .u8)))))
    have L82 := lo_one A80
    refine ltO (K := kd142) (cells := [(.int .i64 (0 : Int)), (.slice none 0 0)]) [(Page.mk (0 : Int) ([] : (List (List Int))))] 53 Tryz.underlying44 z142 o142 L82 rfl rfl rfl rfl rfl rfl rfl rfl rfl rfl (fun v83 s83 p83 A83 => ?_)
    have A85 := (A77.st p83 rfl)
    refine apO sl44 A85 A83 rfl rfl rfl rfl rfl rfl rfl rfl rfl (fun v86 s86 p86 A86 => ?_)
    refine fa fa46_0 rfl rfl rfl rfl rfl rfl ?_
    have A88 := (BlF.st (BlF.st B75 p83 rfl) p86 rfl)
    refine sv A88 z44 rfl rfl rfl rfl rfl rfl A86.rd.one rfl (fun s89 p89 B89 => ?_)
    refine dn ?_
    have A91 := (A86.st p89 rfl)
    have A92 := (BlF.st (BlF.st (BlF.st (BlF.st (BlF.st (BlF.st By49_b8 p70 rfl) p72 rfl) p75 rfl) p83 rfl) p86 rfl) p89 rfl)
    have A93 := (BlF.st (BlF.st (BlF.st (BlF.st (BlF.st (BlF.st By49_b6 p70 rfl) p72 rfl) p75 rfl) p83 rfl) p86 rfl) p89 rfl)
    have K94 := ((((((Ky49.st p70 rfl).st p72 rfl).st p75 rfl).st p83 rfl).st p86 rfl).st p89 rfl)
    exact Kj78 _ _ _ ⟨s89, _, v86, rfl, (ue (ue (ue (ue (ue (ue rfl rfl) rfl) rfl) rfl) rfl) rfl), K94, A91, B89, A92, A93⟩
   ·
    refine sk ?_
    have A95 := (BlF.st (BlF.st (BlF.st By49_b8 p70 rfl) p72 rfl) p75 rfl)
    have A96 := (BlF.st (BlF.st (BlF.st By49_b6 p70 rfl) p72 rfl) p75 rfl)
    have K97 := (((Ky49.st p70 rfl).st p72 rfl).st p75 rfl)
    exact Kj78 _ _ _ ⟨s75, _, v69_0, rfl, (ue (ue (ue (ue (ue (ue rfl rfl) rfl) rfl) rfl) rfl) rfl), K97, A77, B75, A95, A96⟩
  rintro y78 _ _ ⟨s98, _, vy78_0, rfl, rfl, Ky78, Ay78_0, By78_b72, By78_b8, By78_b6⟩
  refine sq ?_
  refine zdraw [[], [0], [], [1, 2], [3], [], [], [6], [], [4, 5, 7, 8, 7], [9], [10], [10], [], [13, 11, 9, 0, 1, 2, 3, 4, 5, 6, 7, 8, 9, 10, 11, 13], [12, 14, 0, 1, 2, 3, 4, 5, 6, 7, 8, 9, 10, 11, 12, 13, 14]] [some 62, some 63, some 64, some 65, some 66, some 67, some 68, some 69, some 70, some 71, some 61, some 72, some 73, some 15, none, some 16] [[14], [62], [1], [63, 64], [65], [2], [8], [68], [4], [66, 67, 69, 70], [71], [61], [61], [], [15, 72], [73]] [0, 1, 2, 3, 4, 5, 6, 7, 8, 9, 10, 11, 14, 12, 13, 15] ⟨by kernel_rfl, by kernel_rfl, by kernel_rfl⟩ (by kernel_rfl) (fun s103 p103 l103 tb103 zd103 => ?_)
  have zd104 := zd103.add 0 62 (.pointer (some ⟨b72, 0, none⟩)) rfl
  have A105 := (BlF.st By78_b72 p103 rfl)
  have zd106 := zd104.add 1 63 vy78_0 rfl
  have zd107 := zd106.add 2 64 (.int .i64 a1) rfl
  have A108 := (Ay78_0.st p103 rfl)
  refine mg fun hg109 => ?_
  obtain ⟨ad109, es109, he109, ce109, ia109⟩ := ix_e A108.rd rfl hg109.1 hg109.2
  have h0_109 := hg109.1
  have h1_109 := hg109.2
  obtain ⟨v109_0, rfl, A109_0⟩ := op142 he109
  have zd112 := zd107.add 3 65 (.pointer (some ad109)) rfl
  have zd113 := zd112.add 4 66 (.agg #[(.int .i64 ((at_ y78 a1).Lsn)), v109_0]) rfl
  have zd114 := zd113.add 5 67 (.int .i64 a2) rfl
  have A115 := (BlF.st By78_b6 p103 rfl)
  have zd116 := zd114.add 6 68 (.agg #[(.int .i64 a3.Xmin), (.int .i64 a3.Xmax), (.int .i64 a3.Key.Kind), (.int .i64 a3.Key.N), w3_0, w3_1, (.int .i64 a3.Value.Kind), (.int .i64 a3.Value.N), w3_2, w3_3]) rfl
  have zd117 := zd116.add 8 70 (.int .i64 a4) rfl
  refine ji [15] (fun (y118 : Int × (List (List Int)) × Bool) (e : Env) (w : World) => ∃ (s : St) (e0 : Env) (vy118_0 : Value) (by118_0 : Nat), w = s.w ∧ e = upd (upd (upd (upd (upd e0 1 (.int .i64 a1)) 10 (.pointer (some ⟨b8, 0, none⟩))) 14 (.pointer (some ⟨b72, 0, none⟩))) 15 (.pointer (some ⟨by118_0, 0, none⟩))) 73 (.bool y118.2.2) ∧ Kp s0 s ∧ OwF (Kd.sl 24 (Kd.sl 5 (Kd.int .u8))) s [vy118_0] y118.2.1 54 ∧ BlF s b72 46 [vy78_0] 51 ∧ BlF s b8 46 [(.slice none 0 0)] 42 ∧ BlF s by118_0 142 [(.int .i64 y118.1), vy118_0] 55 ∧ OwF (Kd.sl 142 kd142) s [vy78_0] y78 50) (fun Gj118 Kj118 => ?_) ?_
  ·
   have A121 := (BlF.st By78_b72 p103 rfl)
   have A122 := (BlF.st By78_b6 p103 rfl)
   refine zstep2 7 13 [some 70, some 67, some 66, some 65, some 64, some 63, some 62] [some 70, some 68, some 67, some 66, some 65, some 64, some 63, some 62] tb103 zd117 (pq_cons (pu_q rfl rfl rfl rfl rfl rfl) rfl (pq_cons (lda_q (es := [(.int .i64 a3.Xmin), (.int .i64 a3.Xmax), (.int .i64 a3.Key.Kind), (.int .i64 a3.Key.N), w3_0, w3_1, (.int .i64 a3.Value.Kind), (.int .i64 a3.Value.N), w3_2, w3_3]) A122 Tryz.underlying58 z58 rfl rfl rfl rfl rfl rfl rfl rfl) rfl (pq_cons (pu_q rfl rfl rfl rfl rfl rfl) rfl (pq_cons (lca_q ce109 Tryz.underlying142 z142 rfl rfl rfl rfl rfl rfl rfl) rfl (pq_cons (ix_q A108.rd Tryz.underlying44 z142 hg109.1 hg109.2 ia109 rfl rfl rfl rfl rfl rfl rfl) rfl (pq_cons (pu_q rfl rfl rfl rfl rfl rfl) rfl (pq_cons (ld_q A121 Tryz.underlying44 rfl rfl rfl rfl rfl rfl rfl rfl) rfl (pq_cons (fa_q fa46_0 rfl rfl rfl rfl rfl rfl) rfl pq_nil)))))))) (by kernel_rfl) (by kernel_rfl) (fun l119 e119 zd119 => ?_) (fun l120 e120 zd120 => ?_)
   ·
    have K123 := (Ky78.st p103 rfl)
    have A124 := (A3_1.kp K123)
    have A125 := (A3_3.kp K123)
    refine cl rfl rfl rfl rfl rfl Tryz.func99 rfl rfl rfl (fun r126 m126 => spec_TupleBytes.calls a3 s103.w (fun b => memb [0] (s103.g b) = true) w3_0 w3_1 w3_2 w3_3 ((fl_rdf (s := s103) A3_0).sub (D := [0]) rfl) A124 ((fl_rdf (s := s103) A3_2).sub (D := [0]) rfl) A125 r126 m126) ?_
    rintro r126 v126_0 w126 m126 ⟨f126_0, ky126⟩
    obtain ⟨s127, rfl, p127, n127⟩ := nwx s103 w126 56 ky126
    have A126_0 := f126_0.c n127
    refine zdone (L' := [8, 5, 4, 3, 2, 1, 0]) (D' := [6, 7]) zd119 rfl rfl rfl (fun zd129 => ?_)
    have A132 := (BlF.st (BlF.st By78_b72 p103 rfl) p127 rfl)
    have A133 := (A108.st p127 rfl)
    have ce134 := (ce109.st p127 rfl rfl)
    refine zstep2 9 13 [] [some 70, some 67, some 66, some 65, some 64, some 63, some 62] tb103 zd129 (pq_cons (pu_q rfl rfl rfl rfl rfl rfl) rfl (pq_cons (pu_q rfl rfl rfl rfl rfl rfl) rfl (pq_cons (lca_q ce134 Tryz.underlying142 z142 rfl rfl rfl rfl rfl rfl rfl) rfl (pq_cons (ix_q A133.rd Tryz.underlying44 z142 hg109.1 hg109.2 ia109 rfl rfl rfl rfl rfl rfl rfl) rfl (pq_cons (pu_q rfl rfl rfl rfl rfl rfl) rfl (pq_cons (ld_q A132 Tryz.underlying44 rfl rfl rfl rfl rfl rfl rfl rfl) rfl (pq_cons (fa_q fa46_0 rfl rfl rfl rfl rfl rfl) rfl pq_nil))))))) (by kernel_rfl) (by kernel_rfl) (fun l130 e130 zd130 => ?_) (fun l131 e131 zd131 => ?_)
    ·
     have A135 := (A109_0.st p127 rfl)
     refine cl rfl rfl rfl rfl rfl Tryz.func98 rfl rfl rfl (fun r136 m136 => spec_PagePut.calls (at_ y78 a1) a2 r126 a4 s127.w (fun b => memb [50, 56] (s127.g b) = true) v109_0 v126_0 (A135.sub (D := [50, 56]) rfl) (A126_0.rd.sub (D := [50, 56]) rfl) r136 m136) ?_
     rintro r136 _ w136 m136 ⟨v136_0, rfl, f136_0, ky136⟩
     obtain ⟨s137, rfl, p137, n137⟩ := nwx s127 w136 57 ky136
     have A136_0 := f136_0.c n137
     obtain ⟨os136_0, ho136_0, hn136_0, hc136_0⟩ := A136_0
     obtain ⟨u136_0_0, qu136_0_0, e136_0, eo136_0, hu136_0_0⟩ := po142 ho136_0
     have yu136_0_0 : v136_0 = u136_0_0 := congrArg (fun l => (List.drop 1 l).headD undef) e136_0
     subst yu136_0_0
     subst eo136_0
     have Au136_0_0 : OwF (Kd.sl 24 (Kd.sl 5 (Kd.int .u8))) s137 [v136_0] r136.1.Slots 57 := sp1 hu136_0_0 hn136_0 hc136_0
     refine zdone (L' := []) (D' := [0, 1, 2, 3, 4, 5, 8, 9, 6, 7]) zd130 rfl rfl rfl (fun zd139 => ?_)
     have zd140 := zd139.add 10 61 (.tuple #[(.agg #[(.int .i64 r136.1.Lsn), v136_0]), (.bool r136.2)]) rfl
     have zd141 := zd140.add 11 72 (.agg #[(.int .i64 r136.1.Lsn), v136_0]) rfl
     have zd142 := zd141.add 12 73 (.bool r136.2) rfl
     refine zstep 13 [some 73, some 72, some 61] tb103 zd142 (pq_cons (pu_q (v := (.bool r136.2)) rfl rfl rfl rfl rfl rfl) rfl (pq_cons (pu_q (v := (.agg #[(.int .i64 r136.1.Lsn), v136_0])) rfl rfl rfl rfl rfl rfl) rfl (pq_cons (pu_q rfl rfl rfl rfl rfl rfl) rfl pq_nil))) (by kernel_rfl) rfl (fun l143 e143 zd143 => ?_)
     refine al (cs := [(.int .i64 (0 : Int)), (.slice none 0 0)]) 58 rfl rfl rfl rfl rfl o142 rfl (fun b144 s144 p144 B144 => ?_)
     refine zdone (L' := [12, 11, 10]) (D' := [13, 0, 1, 2, 3, 4, 5, 8, 9, 6, 7]) zd143 rfl rfl rfl (fun zd146 => ?_)
     refine zstep 14 [some 73] tb103 zd146 (pq_cons (pu_q (v := (.bool r136.2)) rfl rfl rfl rfl rfl rfl) rfl (pq_cons (pu_q (v := (.agg #[(.int .i64 r136.1.Lsn), v136_0])) rfl rfl rfl rfl rfl rfl) rfl (pq_cons (pu_q rfl rfl rfl rfl rfl rfl) rfl pq_nil))) (by kernel_rfl) rfl (fun l147 e147 zd147 => ?_)
     have A148 := (Au136_0_0.st p144 rfl)
     refine sva (vs := [(.int .i64 r136.1.Lsn), v136_0]) B144 z142 rfl rfl rfl rfl rfl rfl (on_cons rfl (on_cons A148.rd.one on_nil)) rfl (fun s149 p149 B149 => ?_)
     refine zdone0 (L' := [12]) (D' := [11, 10, 11, 14, 13, 0, 1, 2, 3, 4, 5, 8, 9, 6, 7]) zd147 rfl rfl rfl (fun zd151 => ?_)
     refine zfin [15] tb103 zd151 (pq_cons (pu_q (v := (.bool r136.2)) rfl rfl rfl rfl rfl rfl) rfl pq_nil) (by kernel_rfl) (by decide) ?_
     obtain ⟨s152, hw152, p152, D152⟩ := BlF.rc B149 55 rfl
     rw [hw152]
     have A154 := ((A148.st p149 rfl).st p152 rfl)
     obtain ⟨s155, hw155, p155, A155⟩ := A154.rc 54 rfl
     rw [hw155]
     have A156 := (BlF.st (BlF.st (BlF.st (BlF.st (BlF.st (BlF.st (BlF.st By78_b72 p103 rfl) p127 rfl) p137 rfl) p144 rfl) p149 rfl) p152 rfl) p155 rfl)
     have A157 := (BlF.st (BlF.st (BlF.st (BlF.st (BlF.st (BlF.st (BlF.st By78_b8 p103 rfl) p127 rfl) p137 rfl) p144 rfl) p149 rfl) p152 rfl) p155 rfl)
     have A158 := (BlF.st D152 p155 rfl)
     have A159 := (((((A133.st p137 rfl).st p144 rfl).st p149 rfl).st p152 rfl).st p155 rfl)
     have K160 := ((((((K123.st p127 rfl).st p137 rfl).st p144 rfl).st p149 rfl).st p152 rfl).st p155 rfl)
     exact Kj118 _ _ _ ⟨s155, _, v136_0, b144, rfl, (ue (ue (ue (ue (ue rfl rfl) rfl) rfl) rfl) rfl), K160, A155, A156, A157, A158, A159⟩
    ·
     refine al (cs := [(.int .i64 (0 : Int)), (.slice none 0 0)]) 59 rfl rfl rfl rfl rfl o142 rfl (fun b161 s161 p161 B161 => ?_)
     refine zdone (L' := [8, 5, 4, 3, 2, 1, 0]) (D' := [13, 6, 7]) zd131 rfl rfl rfl (fun zd163 => ?_)
     have A165 := (BlF.st (BlF.st (BlF.st By78_b72 p103 rfl) p127 rfl) p161 rfl)
     have A166 := (A133.st p161 rfl)
     have ce167 := ((ce109.st p127 rfl rfl).st p161 rfl rfl)
     refine zstep 9 [] tb103 zd163 (pq_cons (pu_q rfl rfl rfl rfl rfl rfl) rfl (pq_cons (pu_q rfl rfl rfl rfl rfl rfl) rfl (pq_cons (lca_q ce167 Tryz.underlying142 z142 rfl rfl rfl rfl rfl rfl rfl) rfl (pq_cons (ix_q A166.rd Tryz.underlying44 z142 hg109.1 hg109.2 ia109 rfl rfl rfl rfl rfl rfl rfl) rfl (pq_cons (pu_q rfl rfl rfl rfl rfl rfl) rfl (pq_cons (ld_q A165 Tryz.underlying44 rfl rfl rfl rfl rfl rfl rfl rfl) rfl (pq_cons (fa_q fa46_0 rfl rfl rfl rfl rfl rfl) rfl pq_nil))))))) (by kernel_rfl) rfl (fun l164 e164 zd164 => ?_)
     have A168 := ((A109_0.st p127 rfl).st p161 rfl)
     have A169 := (A126_0.st p161 rfl)
     refine cl rfl rfl rfl rfl rfl Tryz.func98 rfl rfl rfl (fun r170 m170 => spec_PagePut.calls (at_ y78 a1) a2 r126 a4 s161.w (fun b => memb [50, 56] (s161.g b) = true) v109_0 v126_0 (A168.sub (D := [50, 56]) rfl) (A169.rd.sub (D := [50, 56]) rfl) r170 m170) ?_
     rintro r170 _ w170 m170 ⟨v170_0, rfl, f170_0, ky170⟩
     obtain ⟨s171, rfl, p171, n171⟩ := nwx s161 w170 60 ky170
     have A170_0 := f170_0.c n171
     obtain ⟨os170_0, ho170_0, hn170_0, hc170_0⟩ := A170_0
     obtain ⟨u170_0_0, qu170_0_0, e170_0, eo170_0, hu170_0_0⟩ := po142 ho170_0
     have yu170_0_0 : v170_0 = u170_0_0 := congrArg (fun l => (List.drop 1 l).headD undef) e170_0
     subst yu170_0_0
     subst eo170_0
     have Au170_0_0 : OwF (Kd.sl 24 (Kd.sl 5 (Kd.int .u8))) s171 [v170_0] r170.1.Slots 60 := sp1 hu170_0_0 hn170_0 hc170_0
     refine zdone (L' := []) (D' := [0, 1, 2, 3, 4, 5, 8, 9, 13, 6, 7]) zd164 rfl rfl rfl (fun zd173 => ?_)
     have zd174 := zd173.add 10 61 (.tuple #[(.agg #[(.int .i64 r170.1.Lsn), v170_0]), (.bool r170.2)]) rfl
     have zd175 := zd174.add 11 72 (.agg #[(.int .i64 r170.1.Lsn), v170_0]) rfl
     have zd176 := zd175.add 12 73 (.bool r170.2) rfl
     refine zstep 14 [some 73] tb103 zd176 (pq_cons (pu_q (v := (.bool r170.2)) rfl rfl rfl rfl rfl rfl) rfl (pq_cons (pu_q (v := (.agg #[(.int .i64 r170.1.Lsn), v170_0])) rfl rfl rfl rfl rfl rfl) rfl (pq_cons (pu_q rfl rfl rfl rfl rfl rfl) rfl pq_nil))) (by kernel_rfl) rfl (fun l177 e177 zd177 => ?_)
     have A178 := (BlF.st B161 p171 rfl)
     refine sva (vs := [(.int .i64 r170.1.Lsn), v170_0]) A178 z142 rfl rfl rfl rfl rfl rfl (on_cons rfl (on_cons Au170_0_0.rd.one on_nil)) rfl (fun s179 p179 B179 => ?_)
     refine zdone0 (L' := [12]) (D' := [11, 10, 11, 14, 0, 1, 2, 3, 4, 5, 8, 9, 13, 6, 7]) zd177 rfl rfl rfl (fun zd181 => ?_)
     refine zfin [15] tb103 zd181 (pq_cons (pu_q (v := (.bool r170.2)) rfl rfl rfl rfl rfl rfl) rfl pq_nil) (by kernel_rfl) (by decide) ?_
     obtain ⟨s182, hw182, p182, D182⟩ := BlF.rc B179 55 rfl
     rw [hw182]
     have A184 := ((Au170_0_0.st p179 rfl).st p182 rfl)
     obtain ⟨s185, hw185, p185, A185⟩ := A184.rc 54 rfl
     rw [hw185]
     have A186 := (BlF.st (BlF.st (BlF.st (BlF.st (BlF.st (BlF.st (BlF.st By78_b72 p103 rfl) p127 rfl) p161 rfl) p171 rfl) p179 rfl) p182 rfl) p185 rfl)
     have A187 := (BlF.st (BlF.st (BlF.st (BlF.st (BlF.st (BlF.st (BlF.st By78_b8 p103 rfl) p127 rfl) p161 rfl) p171 rfl) p179 rfl) p182 rfl) p185 rfl)
     have A188 := (BlF.st D182 p185 rfl)
     have A189 := ((((A166.st p171 rfl).st p179 rfl).st p182 rfl).st p185 rfl)
     have K190 := ((((((K123.st p127 rfl).st p161 rfl).st p171 rfl).st p179 rfl).st p182 rfl).st p185 rfl)
     exact Kj118 _ _ _ ⟨s185, _, v170_0, b161, rfl, (ue (ue (ue (ue (ue rfl rfl) rfl) rfl) rfl) rfl), K190, A185, A186, A187, A188, A189⟩
   ·
    refine al (cs := [(.int .i64 (0 : Int)), (.slice none 0 0)]) 61 rfl rfl rfl rfl rfl o142 rfl (fun b191 s191 p191 B191 => ?_)
    refine zdone (L' := [8, 6, 5, 4, 3, 2, 1, 0]) (D' := [13]) zd120 rfl rfl rfl (fun zd193 => ?_)
    have A195 := (BlF.st (BlF.st By78_b72 p103 rfl) p191 rfl)
    have A196 := (A108.st p191 rfl)
    have ce197 := (ce109.st p191 rfl rfl)
    have A198 := (BlF.st (BlF.st By78_b6 p103 rfl) p191 rfl)
    refine zstep 7 [some 70, some 67, some 66, some 65, some 64, some 63, some 62] tb103 zd193 (pq_cons (pu_q rfl rfl rfl rfl rfl rfl) rfl (pq_cons (lda_q (es := [(.int .i64 a3.Xmin), (.int .i64 a3.Xmax), (.int .i64 a3.Key.Kind), (.int .i64 a3.Key.N), w3_0, w3_1, (.int .i64 a3.Value.Kind), (.int .i64 a3.Value.N), w3_2, w3_3]) A198 Tryz.underlying58 z58 rfl rfl rfl rfl rfl rfl rfl rfl) rfl (pq_cons (pu_q rfl rfl rfl rfl rfl rfl) rfl (pq_cons (lca_q ce197 Tryz.underlying142 z142 rfl rfl rfl rfl rfl rfl rfl) rfl (pq_cons (ix_q A196.rd Tryz.underlying44 z142 hg109.1 hg109.2 ia109 rfl rfl rfl rfl rfl rfl rfl) rfl (pq_cons (pu_q rfl rfl rfl rfl rfl rfl) rfl (pq_cons (ld_q A195 Tryz.underlying44 rfl rfl rfl rfl rfl rfl rfl rfl) rfl (pq_cons (fa_q fa46_0 rfl rfl rfl rfl rfl rfl) rfl pq_nil)))))))) (by kernel_rfl) rfl (fun l194 e194 zd194 => ?_)
    have K199 := ((Ky78.st p103 rfl).st p191 rfl)
    have A200 := (A3_1.kp K199)
    have A201 := (A3_3.kp K199)
    refine cl rfl rfl rfl rfl rfl Tryz.func99 rfl rfl rfl (fun r202 m202 => spec_TupleBytes.calls a3 s191.w (fun b => memb [0] (s191.g b) = true) w3_0 w3_1 w3_2 w3_3 ((fl_rdf (s := s191) A3_0).sub (D := [0]) rfl) A200 ((fl_rdf (s := s191) A3_2).sub (D := [0]) rfl) A201 r202 m202) ?_
    rintro r202 v202_0 w202 m202 ⟨f202_0, ky202⟩
    obtain ⟨s203, rfl, p203, n203⟩ := nwx s191 w202 62 ky202
    have A202_0 := f202_0.c n203
    refine zdone (L' := [8, 5, 4, 3, 2, 1, 0]) (D' := [6, 7, 13]) zd194 rfl rfl rfl (fun zd205 => ?_)
    have A207 := (BlF.st (BlF.st (BlF.st By78_b72 p103 rfl) p191 rfl) p203 rfl)
    have A208 := (A196.st p203 rfl)
    have ce209 := ((ce109.st p191 rfl rfl).st p203 rfl rfl)
    refine zstep 9 [] tb103 zd205 (pq_cons (pu_q rfl rfl rfl rfl rfl rfl) rfl (pq_cons (pu_q rfl rfl rfl rfl rfl rfl) rfl (pq_cons (lca_q ce209 Tryz.underlying142 z142 rfl rfl rfl rfl rfl rfl rfl) rfl (pq_cons (ix_q A208.rd Tryz.underlying44 z142 hg109.1 hg109.2 ia109 rfl rfl rfl rfl rfl rfl rfl) rfl (pq_cons (pu_q rfl rfl rfl rfl rfl rfl) rfl (pq_cons (ld_q A207 Tryz.underlying44 rfl rfl rfl rfl rfl rfl rfl rfl) rfl (pq_cons (fa_q fa46_0 rfl rfl rfl rfl rfl rfl) rfl pq_nil))))))) (by kernel_rfl) rfl (fun l206 e206 zd206 => ?_)
    have A210 := ((A109_0.st p191 rfl).st p203 rfl)
    refine cl rfl rfl rfl rfl rfl Tryz.func98 rfl rfl rfl (fun r211 m211 => spec_PagePut.calls (at_ y78 a1) a2 r202 a4 s203.w (fun b => memb [50, 62] (s203.g b) = true) v109_0 v202_0 (A210.sub (D := [50, 62]) rfl) (A202_0.rd.sub (D := [50, 62]) rfl) r211 m211) ?_
    rintro r211 _ w211 m211 ⟨v211_0, rfl, f211_0, ky211⟩
    obtain ⟨s212, rfl, p212, n212⟩ := nwx s203 w211 63 ky211
    have A211_0 := f211_0.c n212
    obtain ⟨os211_0, ho211_0, hn211_0, hc211_0⟩ := A211_0
    obtain ⟨u211_0_0, qu211_0_0, e211_0, eo211_0, hu211_0_0⟩ := po142 ho211_0
    have yu211_0_0 : v211_0 = u211_0_0 := congrArg (fun l => (List.drop 1 l).headD undef) e211_0
    subst yu211_0_0
    subst eo211_0
    have Au211_0_0 : OwF (Kd.sl 24 (Kd.sl 5 (Kd.int .u8))) s212 [v211_0] r211.1.Slots 63 := sp1 hu211_0_0 hn211_0 hc211_0
    refine zdone (L' := []) (D' := [0, 1, 2, 3, 4, 5, 8, 9, 6, 7, 13]) zd206 rfl rfl rfl (fun zd214 => ?_)
    have zd215 := zd214.add 10 61 (.tuple #[(.agg #[(.int .i64 r211.1.Lsn), v211_0]), (.bool r211.2)]) rfl
    have zd216 := zd215.add 11 72 (.agg #[(.int .i64 r211.1.Lsn), v211_0]) rfl
    have zd217 := zd216.add 12 73 (.bool r211.2) rfl
    refine zstep 14 [some 73] tb103 zd217 (pq_cons (pu_q (v := (.bool r211.2)) rfl rfl rfl rfl rfl rfl) rfl (pq_cons (pu_q (v := (.agg #[(.int .i64 r211.1.Lsn), v211_0])) rfl rfl rfl rfl rfl rfl) rfl (pq_cons (pu_q rfl rfl rfl rfl rfl rfl) rfl pq_nil))) (by kernel_rfl) rfl (fun l218 e218 zd218 => ?_)
    have A219 := (BlF.st (BlF.st B191 p203 rfl) p212 rfl)
    refine sva (vs := [(.int .i64 r211.1.Lsn), v211_0]) A219 z142 rfl rfl rfl rfl rfl rfl (on_cons rfl (on_cons Au211_0_0.rd.one on_nil)) rfl (fun s220 p220 B220 => ?_)
    refine zdone0 (L' := [12]) (D' := [11, 10, 11, 14, 0, 1, 2, 3, 4, 5, 8, 9, 6, 7, 13]) zd218 rfl rfl rfl (fun zd222 => ?_)
    refine zfin [15] tb103 zd222 (pq_cons (pu_q (v := (.bool r211.2)) rfl rfl rfl rfl rfl rfl) rfl pq_nil) (by kernel_rfl) (by decide) ?_
    obtain ⟨s223, hw223, p223, D223⟩ := BlF.rc B220 55 rfl
    rw [hw223]
    have A225 := ((Au211_0_0.st p220 rfl).st p223 rfl)
    obtain ⟨s226, hw226, p226, A226⟩ := A225.rc 54 rfl
    rw [hw226]
    have A227 := (BlF.st (BlF.st (BlF.st (BlF.st (BlF.st (BlF.st (BlF.st By78_b72 p103 rfl) p191 rfl) p203 rfl) p212 rfl) p220 rfl) p223 rfl) p226 rfl)
    have A228 := (BlF.st (BlF.st (BlF.st (BlF.st (BlF.st (BlF.st (BlF.st By78_b8 p103 rfl) p191 rfl) p203 rfl) p212 rfl) p220 rfl) p223 rfl) p226 rfl)
    have A229 := (BlF.st D223 p226 rfl)
    have A230 := ((((A208.st p212 rfl).st p220 rfl).st p223 rfl).st p226 rfl)
    have K231 := (((((K199.st p203 rfl).st p212 rfl).st p220 rfl).st p223 rfl).st p226 rfl)
    exact Kj118 _ _ _ ⟨s226, _, v211_0, b191, rfl, (ue (ue (ue (ue (ue rfl rfl) rfl) rfl) rfl) rfl), K231, A226, A227, A228, A229, A230⟩
  rintro y118 _ _ ⟨s232, _, vy118_0, by118_0, rfl, rfl, Ky118, Ay118_0, By118_b72, By118_b8, Dy118_0, Cy118_99⟩
  refine pu rfl rfl rfl rfl rfl ?_
  refine dn ?_
  refine sq ?_
  refine sr ?_
  refine pu rfl rfl rfl rfl rfl ?_
  refine pu rfl rfl rfl rfl rfl ?_
  refine dn ?_
  refine cd rfl (fun h237 => ?_) (fun h237 => ?_)
  ·
   refine sr ?_
   refine bd (cells := [(.slice none 0 0)]) pl46 o46 rfl rfl rfl rfl rfl rfl ?_
   refine sva (vs := [(.slice none 0 0)]) By118_b8 z46 rfl rfl rfl rfl rfl rfl (on_cons rfl on_nil) rfl (fun s238 p238 B238 => ?_)
   refine pu rfl rfl rfl rfl rfl ?_
   refine dn ?_
   have A240 : OwF kd46 s238 [(.slice none 0 0)] (Heap.mk ([] : (List Page))) 64 := ow_z _ _ (fz_iso (fun x : Heap => (x.Pages)) (Heap.mk ([] : (List Page))) (fz_nil 142 kd142))
   have K242 := (Ky118.st p238 rfl)
   exact re rfl Tryz.func29 rfl (r_b B238 Tryz.underlying46 rfl z46 rfl (r_t rfl r_nil)) rfl ⟨_, rfl, (.slice none 0 0), rfl, A240.fo K242 rfl z.l, z.ky K242⟩
  ·
   refine sk ?_
   refine sr ?_
   refine fa fa46_0 rfl rfl rfl rfl rfl rfl ?_
   refine ld By118_b72 Tryz.underlying44 rfl rfl rfl rfl rfl rfl rfl rfl ?_
   refine pu rfl rfl rfl rfl rfl ?_
   refine lda (es := [(.int .i64 y118.1), vy118_0]) Dy118_0 Tryz.underlying142 z142 rfl rfl rfl rfl rfl rfl rfl rfl ?_
   refine ix Cy118_99.rd Tryz.underlying44 z142 rfl rfl rfl rfl rfl rfl rfl rfl (fun ad243 es243 h0_243 h1_243 he243 ce243 ia243 => ?_)
   obtain ⟨v243_0, rfl, A243_0⟩ := op142 he243
   have A246 : OwF kd142 s232 [(.int .i64 y118.1), vy118_0] (Page.mk y118.1 y118.2.1) 54 := (ow_isoz (fun x : Page => (x.Lsn, x.Slots)) (Page.mk y118.1 y118.2.1) (ow_l (fz_int .i64 y118.1) Ay118_0))
   refine som (x' := (Page.mk y118.1 y118.2.1)) Cy118_99 ia243 h0_243 h1_243 A246 rfl rfl z142 rfl rfl rfl rfl rfl rfl (fun s248 p248 A248 => ?_)
   refine dn ?_
   refine sr ?_
   have A250 := (BlF.st By118_b72 p248 rfl)
   refine lda (es := [vy78_0]) A250 Tryz.underlying46 z46 rfl rfl rfl rfl rfl rfl rfl rfl ?_
   have A251 := (BlF.st By118_b8 p248 rfl)
   refine sva (vs := [vy78_0]) A251 z46 rfl rfl rfl rfl rfl rfl (on_cons A248.rd.one on_nil) rfl (fun s252 p252 B252 => ?_)
   refine pu rfl rfl rfl rfl rfl ?_
   refine dn ?_
   have A255 := (A248.st p252 rfl)
   have A254 : OwF kd46 s252 [vy78_0] (Heap.mk (y78.set (a1).toNat (Page.mk y118.1 y118.2.1))) 50 := (ow_isoz (fun x : Heap => (x.Pages)) (Heap.mk (y78.set (a1).toNat (Page.mk y118.1 y118.2.1))) A255)
   have K257 := ((Ky118.st p248 rfl).st p252 rfl)
   exact re rfl Tryz.func29 rfl (r_b B252 Tryz.underlying46 rfl z46 rfl (r_t rfl r_nil)) rfl ⟨_, rfl, vy78_0, rfl, A254.fo K257 rfl z.l, z.ky K257⟩
noncomputable def impl_HeapPut.f (a0 : Heap) (a1 : Int) (a2 : Int) (a3 : Tuple) (a4 : Int) : Option (Heap × Bool) :=
 ((impl_Heap_at.f a0 a1 a2).bind fun r13 => ((impl_HeapOk.f a0).bind fun r27 => ((if (!r27) = true then (some true) else ((impl_TupleOk.f a3).bind fun r38 => (some (!r38)))).bind fun y29 => (if (y29 || r13.2) = true then (some ((Heap.mk ([] : (List Page))), false)) else ((impl_TupleBytes.f a3).bind fun r69 => ((impl_Heap_put.f a0 a1 a2 r69 a4).bind fun r77 => (some (r77.1, r77.2))))))))
def impl_HeapPut.Q (w : World) (F : Nat → Prop) (r : Heap × Bool) (v : Value) (w' : World) : Prop :=
 ∃ (v0 : Value), v = .tuple #[(.agg #[v0]), (.bool r.2)] ∧ FO kd46 w w' [v0] r.1 ∧ Ky [] w w'
set_option maxHeartbeats 4000000 in
set_option maxRecDepth 100000 in
theorem impl_HeapPut.calls (a0 : Heap) (a1 : Int) (a2 : Int) (a3 : Tuple) (a4 : Int) (w : World) (F : Nat → Prop) (w0_0 : Value) (w3_0 : Value) (w3_1 : Value) (w3_2 : Value) (w3_3 : Value) (h0_0 : (Kd.sl 142 kd142).rd w [w0_0] a0.Pages F) (h3_0 : Kd.flt.rd w [w3_0] a3.Key.F F) (h3_1 : (Kd.sl 5 (Kd.int .u8)).rd w [w3_1] a3.Key.T F) (h3_2 : Kd.flt.rd w [w3_2] a3.Value.F F) (h3_3 : (Kd.sl 5 (Kd.int .u8)).rd w [w3_3] a3.Value.T F) (r : Heap × Bool) (m : impl_HeapPut.f a0 a1 a2 a3 a4 = some r) :
  Calls Tryz.prog 31 #[(.agg #[w0_0]), (.int .i64 a1), (.int .i64 a2), (.agg #[(.int .i64 a3.Xmin), (.int .i64 a3.Xmax), (.int .i64 a3.Key.Kind), (.int .i64 a3.Key.N), w3_0, w3_1, (.int .i64 a3.Value.Kind), (.int .i64 a3.Value.N), w3_2, w3_3]), (.int .i64 a4)] w fun en w' => ∃ v, en = .returned v ∧ impl_HeapPut.Q w F r v w' := by
 obtain ⟨s0, rfl, kp0, z⟩ := start0 w F
 have A0_0 := z.rd h0_0
 have A3_0 := fl_of h3_0
 have A3_1 := z.rd h3_1
 have A3_2 := fl_of h3_2
 have A3_3 := z.rd h3_3
 refine calls_of_TM (args := [(.agg #[w0_0]), (.int .i64 a1), (.int .i64 a2), (.agg #[(.int .i64 a3.Xmin), (.int .i64 a3.Xmax), (.int .i64 a3.Key.Kind), (.int .i64 a3.Key.N), w3_0, w3_1, (.int .i64 a3.Value.Kind), (.int .i64 a3.Value.N), w3_2, w3_3]), (.int .i64 a4)]) (R := fun r en w' => ∃ v, en = .returned v ∧ impl_HeapPut.Q s0.w F r v w') Tryz.func31 Tryz.ntmps31 rfl rfl m ?_
 unfold impl_HeapPut.f
 refine sr ?_
 refine bx (cs := [w0_0]) 40 rfl rfl rfl rfl rfl rfl (fun b4 s4 p4 B4 => ?_)
 refine bx (cs := [(.int .i64 a3.Xmin), (.int .i64 a3.Xmax), (.int .i64 a3.Key.Kind), (.int .i64 a3.Key.N), w3_0, w3_1, (.int .i64 a3.Value.Kind), (.int .i64 a3.Value.N), w3_2, w3_3]) 41 rfl rfl rfl rfl rfl rfl (fun b6 s6 p6 B6 => ?_)
 refine al (cs := [(.slice none 0 0)]) 42 rfl rfl rfl rfl rfl o46 rfl (fun b8 s8 p8 B8 => ?_)
 refine pu rfl rfl rfl rfl rfl ?_
 refine dn ?_
 refine sq ?_
 refine sr ?_
 have A10 := (BlF.st (BlF.st B4 p6 rfl) p8 rfl)
 refine lda (es := [w0_0]) A10 Tryz.underlying46 z46 rfl rfl rfl rfl rfl rfl rfl rfl ?_
 refine pu rfl rfl rfl rfl rfl ?_
 refine pu rfl rfl rfl rfl rfl ?_
 have K11 := (((kp0.st p4 rfl).st p6 rfl).st p8 rfl)
 have A12 := (A0_0.kp K11)
 refine cl rfl rfl rfl rfl rfl Tryz.func110 rfl rfl rfl (fun r13 m13 => impl_Heap_at.calls a0 a1 a2 s8.w (fun b => memb [0] (s8.g b) = true) w0_0 A12 r13 m13) ?_
 rintro r13 _ w13 m13 ⟨v13_0, v13_1, v13_2, v13_3, rfl, f13_0, ky13⟩
 obtain ⟨s14, rfl, p14, n14⟩ := nwx s8 w13 43 ky13
 have A13_0 := f13_0.c n14
 obtain ⟨os13_0, ho13_0, hn13_0, hc13_0⟩ := A13_0
 obtain ⟨u13_0_0, u13_0_1, u13_0_2, u13_0_3, qu13_0_1, qu13_0_3, e13_0, eo13_0, hu13_0_0, hu13_0_1, hu13_0_2, hu13_0_3⟩ := po58 ho13_0
 have yu13_0_0 : v13_0 = u13_0_0 := congrArg (fun l => (List.drop 4 l).headD undef) e13_0
 have yu13_0_1 : v13_1 = u13_0_1 := congrArg (fun l => (List.drop 5 l).headD undef) e13_0
 have yu13_0_2 : v13_2 = u13_0_2 := congrArg (fun l => (List.drop 8 l).headD undef) e13_0
 have yu13_0_3 : v13_3 = u13_0_3 := congrArg (fun l => (List.drop 9 l).headD undef) e13_0
 subst yu13_0_0
 subst yu13_0_1
 subst yu13_0_2
 subst yu13_0_3
 subst eo13_0
 obtain ⟨s15, hw15, p15, Au13_0_1, hn15, hc15⟩ := sp2 44 hu13_0_1 hn13_0 hc13_0 rfl
 rw [hw15]
 have Au13_0_3 : OwF (Kd.sl 5 (Kd.int .u8)) s15 [v13_3] r13.1.Value.T 44 := sp1 (hw15 ▸ hu13_0_3) hn15 hc15
 refine pu rfl rfl rfl rfl rfl ?_
 refine pu (v := (.agg #[(.int .i64 r13.1.Xmin), (.int .i64 r13.1.Xmax), (.int .i64 r13.1.Key.Kind), (.int .i64 r13.1.Key.N), v13_0, v13_1, (.int .i64 r13.1.Value.Kind), (.int .i64 r13.1.Value.N), v13_2, v13_3])) rfl rfl rfl rfl rfl ?_
 refine pu (v := (.bool r13.2)) rfl rfl rfl rfl rfl ?_
 refine al (cs := [(.int .i64 (0 : Int)), (.int .i64 (0 : Int)), (.int .i64 (0 : Int)), (.int .i64 (0 : Int)), (.float .f64 0), (.slice none 0 0), (.int .i64 (0 : Int)), (.int .i64 (0 : Int)), (.float .f64 0), (.slice none 0 0)]) 45 rfl rfl rfl rfl rfl o58 rfl (fun b18 s18 p18 B18 => ?_)
 have A20 := (Au13_0_3.st p18 rfl)
 have A21 := (Au13_0_1.st p18 rfl)
 refine sva (vs := [(.int .i64 r13.1.Xmin), (.int .i64 r13.1.Xmax), (.int .i64 r13.1.Key.Kind), (.int .i64 r13.1.Key.N), v13_0, v13_1, (.int .i64 r13.1.Value.Kind), (.int .i64 r13.1.Value.N), v13_2, v13_3]) B18 z58 rfl rfl rfl rfl rfl rfl (on_cons rfl (on_cons rfl (on_cons rfl (on_cons rfl (on_cons (FL.one hu13_0_0) (on_cons A21.rd.one (on_cons rfl (on_cons rfl (on_cons (FL.one hu13_0_2) (on_cons A20.rd.one on_nil)))))))))) rfl (fun s22 p22 B22 => ?_)
 refine pu rfl rfl rfl rfl rfl ?_
 refine dn ?_
 refine sr ?_
 have A24 := (BlF.st (BlF.st (BlF.st (BlF.st A10 p14 rfl) p15 rfl) p18 rfl) p22 rfl)
 refine lda (es := [w0_0]) A24 Tryz.underlying46 z46 rfl rfl rfl rfl rfl rfl rfl rfl ?_
 have K25 := ((((K11.st p14 rfl).st p15 rfl).st p18 rfl).st p22 rfl)
 have A26 := (A0_0.kp K25)
 refine cl rfl rfl rfl rfl rfl Tryz.func111 rfl rfl rfl (fun r27 m27 => impl_HeapOk.calls a0 s22.w (fun b => memb [0] (s22.g b) = true) w0_0 A26 r27 m27) ?_
 rintro r27 _ w27 m27 ⟨rfl, ky27⟩
 obtain ⟨s28, rfl, p28, n28⟩ := nwx s22 w27 46 ky27
 refine pu rfl rfl rfl rfl rfl ?_
 refine pu rfl rfl rfl rfl rfl ?_
 refine ji [8, 9, 10] (fun (y29 : Bool) (e : Env) (w : World) => ∃ (s : St) (e0 : Env), w = s.w ∧ e = upd (upd (upd (upd (upd (upd (upd (upd e0 1 (.int .i64 a1)) 2 (.int .i64 a2)) 4 (.int .i64 a4)) 5 (.pointer (some ⟨b4, 0, none⟩))) 8 (.pointer (some ⟨b6, 0, none⟩))) 10 (.pointer (some ⟨b8, 0, none⟩))) 13 (.bool r13.2)) 28 (.bool y29) ∧ Kp s0 s ∧ BlF s b8 46 [(.slice none 0 0)] 42 ∧ BlF s b6 58 [(.int .i64 a3.Xmin), (.int .i64 a3.Xmax), (.int .i64 a3.Key.Kind), (.int .i64 a3.Key.N), w3_0, w3_1, (.int .i64 a3.Value.Kind), (.int .i64 a3.Value.N), w3_2, w3_3] 41 ∧ BlF s b4 46 [w0_0] 40) (fun Gj29 Kj29 => ?_) ?_
 ·
  rcases Bool.eq_false_or_eq_true (!r27) with hb29 | hb29
  ·
   refine sbT hb29 ?_
   rw [if_pos hb29]
   refine uw rfl rfl rfl rfl ?_
   refine uw rfl rfl rfl rfl ?_
   refine uw rfl rfl rfl rfl ?_
   refine pu rfl rfl rfl rfl rfl ?_
   have A30 := (BlF.st (BlF.st (BlF.st (BlF.st (BlF.st B8 p14 rfl) p15 rfl) p18 rfl) p22 rfl) p28 rfl)
   have A31 := (BlF.st (BlF.st (BlF.st (BlF.st (BlF.st (BlF.st B6 p8 rfl) p14 rfl) p15 rfl) p18 rfl) p22 rfl) p28 rfl)
   have A32 := (BlF.st A24 p28 rfl)
   have K33 := (K25.st p28 rfl)
   exact Kj29 _ _ _ ⟨s28, _, rfl, (ue (ue (ue (ue (ue (ue (ue (ue rfl rfl) rfl) rfl) rfl) rfl) rfl) rfl) rfl), K33, A30, A31, A32⟩
  ·
   refine sbT hb29 ?_
   rw [if_neg (by rw [hb29]; decide)]
   have A34 := (BlF.st (BlF.st (BlF.st (BlF.st (BlF.st (BlF.st B6 p8 rfl) p14 rfl) p15 rfl) p18 rfl) p22 rfl) p28 rfl)
   refine lda (es := [(.int .i64 a3.Xmin), (.int .i64 a3.Xmax), (.int .i64 a3.Key.Kind), (.int .i64 a3.Key.N), w3_0, w3_1, (.int .i64 a3.Value.Kind), (.int .i64 a3.Value.N), w3_2, w3_3]) A34 Tryz.underlying58 z58 rfl rfl rfl rfl rfl rfl rfl rfl ?_
   have K35 := (K25.st p28 rfl)
   have A36 := (A3_1.kp K35)
   have A37 := (A3_3.kp K35)
   refine cl rfl rfl rfl rfl rfl Tryz.func112 rfl rfl rfl (fun r38 m38 => impl_TupleOk.calls a3 s28.w (fun b => memb [0] (s28.g b) = true) w3_0 w3_1 w3_2 w3_3 ((fl_rdf (s := s28) A3_0).sub (D := [0]) rfl) A36 ((fl_rdf (s := s28) A3_2).sub (D := [0]) rfl) A37 r38 m38) ?_
   rintro r38 _ w38 m38 ⟨rfl, ky38⟩
   obtain ⟨s39, rfl, p39, n39⟩ := nwx s28 w38 47 ky38
   refine pu rfl rfl rfl rfl rfl ?_
   refine pu rfl rfl rfl rfl rfl ?_
   have A40 := (BlF.st (BlF.st (BlF.st (BlF.st (BlF.st (BlF.st B8 p14 rfl) p15 rfl) p18 rfl) p22 rfl) p28 rfl) p39 rfl)
   have A41 := (BlF.st A34 p39 rfl)
   have A42 := (BlF.st (BlF.st A24 p28 rfl) p39 rfl)
   have K43 := (K35.st p39 rfl)
   exact Kj29 _ _ _ ⟨s39, _, rfl, (ue (ue (ue (ue (ue (ue (ue (ue rfl rfl) rfl) rfl) rfl) rfl) rfl) rfl) rfl), K43, A40, A41, A42⟩
 rintro y29 _ _ ⟨s44, _, rfl, rfl, Ky29, By29_b8, By29_b6, By29_b4⟩
 refine pu rfl rfl rfl rfl rfl ?_
 refine jy [29, 30, 31] [] 31 (.bool (y29 || r13.2)) rfl (fun Kg48 => ?_) (fun j48 => ?_)
 ·
  rcases Bool.eq_false_or_eq_true y29 with hb48 | hb48
  ·
   refine sbT hb48 ?_
   refine uw rfl rfl rfl rfl ?_
   refine pu rfl rfl rfl rfl rfl ?_
   exact Kg48 _ (Ag.put ((Ag.put (Ag.base rfl) rfl)) rfl) (by rw [hb48]; rfl)
  ·
   refine sbT hb48 ?_
   refine pu rfl rfl rfl rfl rfl ?_
   refine pu rfl rfl rfl rfl rfl ?_
   exact Kg48 _ (Ag.put ((Ag.put (Ag.base rfl) rfl)) rfl) (by rw [hb48]; rfl)
 refine dn ?_
 refine cd rfl (fun h49 => ?_) (fun h49 => ?_)
 ·
  refine sr ?_
  refine bd (cells := [(.slice none 0 0)]) pl46 o46 rfl rfl rfl rfl rfl rfl ?_
  refine sva (vs := [(.slice none 0 0)]) By29_b8 z46 rfl rfl rfl rfl rfl rfl (on_cons rfl on_nil) rfl (fun s50 p50 B50 => ?_)
  refine pu rfl rfl rfl rfl rfl ?_
  refine dn ?_
  have A52 : OwF kd46 s50 [(.slice none 0 0)] (Heap.mk ([] : (List Page))) 48 := ow_z _ _ (fz_iso (fun x : Heap => (x.Pages)) (Heap.mk ([] : (List Page))) (fz_nil 142 kd142))
  have K54 := (Ky29.st p50 rfl)
  exact re rfl Tryz.func31 rfl (r_b B50 Tryz.underlying46 rfl z46 rfl (r_t rfl r_nil)) rfl ⟨_, rfl, (.slice none 0 0), rfl, A52.fo K54 rfl z.l, z.ky K54⟩
 ·
  refine sk ?_
  refine sq ?_
  refine zdraw [[], [], [], [], [3], [], [0, 1, 2, 4, 5, 4], [6], [6], [7, 6, 0, 1, 2, 3, 4, 5, 6, 7, 8], [8, 9, 0, 1, 2, 3, 4, 5, 6, 7, 8, 9]] [some 33, some 34, some 35, some 36, some 37, some 38, some 39, some 40, some 41, none, some 11] [[5], [1], [2], [8], [36], [4], [33, 34, 35, 37, 38], [39], [39], [10, 40], [41]] [0, 1, 2, 3, 4, 5, 6, 7, 8, 9, 10] ⟨by kernel_rfl, by kernel_rfl, by kernel_rfl⟩ (by kernel_rfl) (fun s55 p55 l55 tb55 zd55 => ?_)
  have A56 := (BlF.st By29_b4 p55 rfl)
  have zd57 := zd55.add 0 33 (.agg #[w0_0]) rfl
  have zd58 := zd57.add 1 34 (.int .i64 a1) rfl
  have zd59 := zd58.add 2 35 (.int .i64 a2) rfl
  have A60 := (BlF.st By29_b6 p55 rfl)
  have zd61 := zd59.add 3 36 (.agg #[(.int .i64 a3.Xmin), (.int .i64 a3.Xmax), (.int .i64 a3.Key.Kind), (.int .i64 a3.Key.N), w3_0, w3_1, (.int .i64 a3.Value.Kind), (.int .i64 a3.Value.N), w3_2, w3_3]) rfl
  have zd62 := zd61.add 5 38 (.int .i64 a4) rfl
  have A64 := (BlF.st By29_b4 p55 rfl)
  have A65 := (BlF.st By29_b6 p55 rfl)
  refine zstep 4 [some 38, some 35, some 34, some 33] tb55 zd62 (pq_cons (pu_q rfl rfl rfl rfl rfl rfl) rfl (pq_cons (lda_q (es := [(.int .i64 a3.Xmin), (.int .i64 a3.Xmax), (.int .i64 a3.Key.Kind), (.int .i64 a3.Key.N), w3_0, w3_1, (.int .i64 a3.Value.Kind), (.int .i64 a3.Value.N), w3_2, w3_3]) A65 Tryz.underlying58 z58 rfl rfl rfl rfl rfl rfl rfl rfl) rfl (pq_cons (pu_q rfl rfl rfl rfl rfl rfl) rfl (pq_cons (pu_q rfl rfl rfl rfl rfl rfl) rfl (pq_cons (lda_q (es := [w0_0]) A64 Tryz.underlying46 z46 rfl rfl rfl rfl rfl rfl rfl rfl) rfl pq_nil))))) (by kernel_rfl) rfl (fun l63 e63 zd63 => ?_)
  have K66 := (Ky29.st p55 rfl)
  have A67 := (A3_1.kp K66)
  have A68 := (A3_3.kp K66)
  refine cl rfl rfl rfl rfl rfl Tryz.func104 rfl rfl rfl (fun r69 m69 => impl_TupleBytes.calls a3 s55.w (fun b => memb [0] (s55.g b) = true) w3_0 w3_1 w3_2 w3_3 ((fl_rdf (s := s55) A3_0).sub (D := [0]) rfl) A67 ((fl_rdf (s := s55) A3_2).sub (D := [0]) rfl) A68 r69 m69) ?_
  rintro r69 v69_0 w69 m69 ⟨f69_0, ky69⟩
  obtain ⟨s70, rfl, p70, n70⟩ := nwx s55 w69 49 ky69
  have A69_0 := f69_0.c n70
  refine zdone (L' := [5, 2, 1, 0]) (D' := [3, 4]) zd63 rfl rfl rfl (fun zd72 => ?_)
  have A74 := (BlF.st (BlF.st By29_b4 p55 rfl) p70 rfl)
  refine zstep 6 [] tb55 zd72 (pq_cons (pu_q rfl rfl rfl rfl rfl rfl) rfl (pq_cons (pu_q rfl rfl rfl rfl rfl rfl) rfl (pq_cons (pu_q rfl rfl rfl rfl rfl rfl) rfl (pq_cons (lda_q (es := [w0_0]) A74 Tryz.underlying46 z46 rfl rfl rfl rfl rfl rfl rfl rfl) rfl pq_nil)))) (by kernel_rfl) rfl (fun l73 e73 zd73 => ?_)
  have K75 := (K66.st p70 rfl)
  have A76 := (A0_0.kp K75)
  refine cl rfl rfl rfl rfl rfl Tryz.func103 rfl rfl rfl (fun r77 m77 => impl_Heap_put.calls a0 a1 a2 r69 a4 s70.w (fun b => memb [0, 49] (s70.g b) = true) w0_0 v69_0 (A76.sub (D := [0, 49]) rfl) (A69_0.rd.sub (D := [0, 49]) rfl) r77 m77) ?_
  rintro r77 _ w77 m77 ⟨v77_0, rfl, f77_0, ky77⟩
  obtain ⟨s78, rfl, p78, n78⟩ := nwx s70 w77 50 ky77
  have A77_0 := f77_0.c n78
  obtain ⟨os77_0, ho77_0, hn77_0, hc77_0⟩ := A77_0
  obtain ⟨u77_0_0, qu77_0_0, e77_0, eo77_0, hu77_0_0⟩ := po46 ho77_0
  have yu77_0_0 : v77_0 = u77_0_0 := congrArg (fun l => (List.drop 0 l).headD undef) e77_0
  subst yu77_0_0
  subst eo77_0
  have Au77_0_0 : OwF (Kd.sl 142 kd142) s78 [v77_0] r77.1.Pages 50 := sp1 hu77_0_0 hn77_0 hc77_0
  refine zdone (L' := []) (D' := [0, 1, 2, 5, 6, 3, 4]) zd73 rfl rfl rfl (fun zd80 => ?_)
  have zd81 := zd80.add 7 40 (.agg #[v77_0]) rfl
  have zd82 := zd81.add 8 41 (.bool r77.2) rfl
  refine zfin [9, 10] tb55 zd82 (pq_cons (pu_q (v := (.bool r77.2)) rfl rfl rfl rfl rfl rfl) rfl (pq_cons (pu_q (v := (.agg #[v77_0])) rfl rfl rfl rfl rfl rfl) rfl pq_nil)) (by kernel_rfl) (by decide) ?_
  have A83 := (BlF.st (BlF.st (BlF.st By29_b8 p55 rfl) p70 rfl) p78 rfl)
  refine sva (vs := [v77_0]) A83 z46 rfl rfl rfl rfl rfl rfl (on_cons Au77_0_0.rd.one on_nil) rfl (fun s84 p84 B84 => ?_)
  refine pu rfl rfl rfl rfl rfl ?_
  refine dn ?_
  have A87 := (Au77_0_0.st p84 rfl)
  have A86 : OwF kd46 s84 [v77_0] r77.1 50 := (ow_isoz (fun x : Heap => (x.Pages)) r77.1 A87)
  have K89 := ((K75.st p78 rfl).st p84 rfl)
  exact re rfl Tryz.func31 rfl (r_b B84 Tryz.underlying46 rfl z46 rfl (r_t rfl r_nil)) rfl ⟨_, rfl, v77_0, rfl, A86.fo K89 rfl z.l, z.ky K89⟩
noncomputable def laws_eqTuple.f (a0 : Tuple) (a1 : Tuple) : Option (Bool) :=
 (if (a0.Xmin != a1.Xmin) = true then (some false) else (if (a0.Xmax != a1.Xmax) = true then (some false) else ((laws_eqItem.f a0.Key a1.Key).bind fun r17 => (if (!r17) = true then (some false) else ((laws_eqItem.f a0.Value a1.Value).bind fun r26 => (if (!r26) = true then (some false) else (some true)))))))
def laws_eqTuple.Q (w : World) (F : Nat → Prop) (r : Bool) (v : Value) (w' : World) : Prop :=
 v = (.bool r) ∧ Ky [] w w'
set_option maxHeartbeats 4000000 in
set_option maxRecDepth 100000 in
theorem laws_eqTuple.calls (a0 : Tuple) (a1 : Tuple) (w : World) (F : Nat → Prop) (w0_0 : Value) (w0_1 : Value) (w0_2 : Value) (w0_3 : Value) (w1_0 : Value) (w1_1 : Value) (w1_2 : Value) (w1_3 : Value) (h0_0 : Kd.flt.rd w [w0_0] a0.Key.F F) (h0_1 : (Kd.sl 5 (Kd.int .u8)).rd w [w0_1] a0.Key.T F) (h0_2 : Kd.flt.rd w [w0_2] a0.Value.F F) (h0_3 : (Kd.sl 5 (Kd.int .u8)).rd w [w0_3] a0.Value.T F) (h1_0 : Kd.flt.rd w [w1_0] a1.Key.F F) (h1_1 : (Kd.sl 5 (Kd.int .u8)).rd w [w1_1] a1.Key.T F) (h1_2 : Kd.flt.rd w [w1_2] a1.Value.F F) (h1_3 : (Kd.sl 5 (Kd.int .u8)).rd w [w1_3] a1.Value.T F) (r : Bool) (m : laws_eqTuple.f a0 a1 = some r) :
  Calls Tryz.prog 32 #[(.agg #[(.int .i64 a0.Xmin), (.int .i64 a0.Xmax), (.int .i64 a0.Key.Kind), (.int .i64 a0.Key.N), w0_0, w0_1, (.int .i64 a0.Value.Kind), (.int .i64 a0.Value.N), w0_2, w0_3]), (.agg #[(.int .i64 a1.Xmin), (.int .i64 a1.Xmax), (.int .i64 a1.Key.Kind), (.int .i64 a1.Key.N), w1_0, w1_1, (.int .i64 a1.Value.Kind), (.int .i64 a1.Value.N), w1_2, w1_3])] w fun en w' => ∃ v, en = .returned v ∧ laws_eqTuple.Q w F r v w' := by
 obtain ⟨s0, rfl, kp0, z⟩ := start0 w F
 have A0_0 := fl_of h0_0
 have A0_1 := z.rd h0_1
 have A0_2 := fl_of h0_2
 have A0_3 := z.rd h0_3
 have A1_0 := fl_of h1_0
 have A1_1 := z.rd h1_1
 have A1_2 := fl_of h1_2
 have A1_3 := z.rd h1_3
 refine calls_of_TM (args := [(.agg #[(.int .i64 a0.Xmin), (.int .i64 a0.Xmax), (.int .i64 a0.Key.Kind), (.int .i64 a0.Key.N), w0_0, w0_1, (.int .i64 a0.Value.Kind), (.int .i64 a0.Value.N), w0_2, w0_3]), (.agg #[(.int .i64 a1.Xmin), (.int .i64 a1.Xmax), (.int .i64 a1.Key.Kind), (.int .i64 a1.Key.N), w1_0, w1_1, (.int .i64 a1.Value.Kind), (.int .i64 a1.Value.N), w1_2, w1_3])]) (R := fun r en w' => ∃ v, en = .returned v ∧ laws_eqTuple.Q s0.w F r v w') Tryz.func32 Tryz.ntmps32 rfl rfl m ?_
 unfold laws_eqTuple.f
 refine sr ?_
 refine bx (cs := [(.int .i64 a0.Xmin), (.int .i64 a0.Xmax), (.int .i64 a0.Key.Kind), (.int .i64 a0.Key.N), w0_0, w0_1, (.int .i64 a0.Value.Kind), (.int .i64 a0.Value.N), w0_2, w0_3]) 40 rfl rfl rfl rfl rfl rfl (fun b5 s5 p5 B5 => ?_)
 refine bx (cs := [(.int .i64 a1.Xmin), (.int .i64 a1.Xmax), (.int .i64 a1.Key.Kind), (.int .i64 a1.Key.N), w1_0, w1_1, (.int .i64 a1.Value.Kind), (.int .i64 a1.Value.N), w1_2, w1_3]) 41 rfl rfl rfl rfl rfl rfl (fun b7 s7 p7 B7 => ?_)
 refine pu rfl rfl rfl rfl rfl ?_
 refine dn ?_
 refine sq ?_
 refine sr ?_
 refine fa fa58_0 rfl rfl rfl rfl rfl rfl ?_
 have A9 := (BlF.st B5 p7 rfl)
 refine ld A9 Tryz.underlying3 rfl rfl rfl rfl rfl rfl rfl rfl ?_
 refine fa fa58_0 rfl rfl rfl rfl rfl rfl ?_
 refine ld B7 Tryz.underlying3 rfl rfl rfl rfl rfl rfl rfl rfl ?_
 refine pu rfl rfl rfl rfl rfl ?_
 refine dn ?_
 refine cd rfl (fun h10 => ?_) (fun h10 => ?_)
 ·
  refine sr ?_
  refine pu rfl rfl rfl rfl rfl ?_
  refine dn ?_
  have K11 := ((kp0.st p5 rfl).st p7 rfl)
  exact re rfl Tryz.func32 rfl (r_t rfl r_nil) rfl ⟨_, rfl, rfl, z.ky K11⟩
 ·
  refine sk ?_
  refine sq ?_
  refine sr ?_
  refine fa fa58_1 rfl rfl rfl rfl rfl rfl ?_
  refine ld A9 Tryz.underlying3 rfl rfl rfl rfl rfl rfl rfl rfl ?_
  refine fa fa58_1 rfl rfl rfl rfl rfl rfl ?_
  refine ld B7 Tryz.underlying3 rfl rfl rfl rfl rfl rfl rfl rfl ?_
  refine pu rfl rfl rfl rfl rfl ?_
  refine dn ?_
  refine cd rfl (fun h12 => ?_) (fun h12 => ?_)
  ·
   refine sr ?_
   refine pu rfl rfl rfl rfl rfl ?_
   refine dn ?_
   have K13 := ((kp0.st p5 rfl).st p7 rfl)
   exact re rfl Tryz.func32 rfl (r_t rfl r_nil) rfl ⟨_, rfl, rfl, z.ky K13⟩
  ·
   refine sk ?_
   refine sq ?_
   refine sr ?_
   refine fa fa58_2 rfl rfl rfl rfl rfl rfl ?_
   refine lda (es := [(.int .i64 a0.Key.Kind), (.int .i64 a0.Key.N), w0_0, w0_1]) A9 Tryz.underlying33 z33 rfl rfl rfl rfl rfl rfl rfl rfl ?_
   refine fa fa58_2 rfl rfl rfl rfl rfl rfl ?_
   refine lda (es := [(.int .i64 a1.Key.Kind), (.int .i64 a1.Key.N), w1_0, w1_1]) B7 Tryz.underlying33 z33 rfl rfl rfl rfl rfl rfl rfl rfl ?_
   have K14 := ((kp0.st p5 rfl).st p7 rfl)
   have A15 := (A0_1.kp K14)
   have A16 := (A1_1.kp K14)
   refine cl rfl rfl rfl rfl rfl Tryz.func17 rfl rfl rfl (fun r17 m17 => laws_eqItem.calls a0.Key a1.Key s7.w (fun b => memb [0] (s7.g b) = true) w0_0 w0_1 w1_0 w1_1 ((fl_rdf (s := s7) A0_0).sub (D := [0]) rfl) A15 ((fl_rdf (s := s7) A1_0).sub (D := [0]) rfl) A16 r17 m17) ?_
   rintro r17 _ w17 m17 ⟨rfl, ky17⟩
   obtain ⟨s18, rfl, p18, n18⟩ := nwx s7 w17 42 ky17
   refine pu rfl rfl rfl rfl rfl ?_
   refine dn ?_
   refine cd rfl (fun h19 => ?_) (fun h19 => ?_)
   ·
    refine sr ?_
    refine pu rfl rfl rfl rfl rfl ?_
    refine dn ?_
    have K20 := (K14.st p18 rfl)
    exact re rfl Tryz.func32 rfl (r_t rfl r_nil) rfl ⟨_, rfl, rfl, z.ky K20⟩
   ·
    refine sk ?_
    refine sq ?_
    refine sr ?_
    refine fa fa58_3 rfl rfl rfl rfl rfl rfl ?_
    have A21 := (BlF.st A9 p18 rfl)
    refine lda (es := [(.int .i64 a0.Value.Kind), (.int .i64 a0.Value.N), w0_2, w0_3]) A21 Tryz.underlying33 z33 rfl rfl rfl rfl rfl rfl rfl rfl ?_
    refine fa fa58_3 rfl rfl rfl rfl rfl rfl ?_
    have A22 := (BlF.st B7 p18 rfl)
    refine lda (es := [(.int .i64 a1.Value.Kind), (.int .i64 a1.Value.N), w1_2, w1_3]) A22 Tryz.underlying33 z33 rfl rfl rfl rfl rfl rfl rfl rfl ?_
    have K23 := (K14.st p18 rfl)
    have A24 := (A0_3.kp K23)
    have A25 := (A1_3.kp K23)
    refine cl rfl rfl rfl rfl rfl Tryz.func17 rfl rfl rfl (fun r26 m26 => laws_eqItem.calls a0.Value a1.Value s18.w (fun b => memb [0] (s18.g b) = true) w0_2 w0_3 w1_2 w1_3 ((fl_rdf (s := s18) A0_2).sub (D := [0]) rfl) A24 ((fl_rdf (s := s18) A1_2).sub (D := [0]) rfl) A25 r26 m26) ?_
    rintro r26 _ w26 m26 ⟨rfl, ky26⟩
    obtain ⟨s27, rfl, p27, n27⟩ := nwx s18 w26 43 ky26
    refine pu rfl rfl rfl rfl rfl ?_
    refine dn ?_
    refine cd rfl (fun h28 => ?_) (fun h28 => ?_)
    ·
     refine sr ?_
     refine pu rfl rfl rfl rfl rfl ?_
     refine dn ?_
     have K29 := (K23.st p27 rfl)
     exact re rfl Tryz.func32 rfl (r_t rfl r_nil) rfl ⟨_, rfl, rfl, z.ky K29⟩
    ·
     refine sk ?_
     refine sr ?_
     refine pu rfl rfl rfl rfl rfl ?_
     refine dn ?_
     have K30 := (K23.st p27 rfl)
     exact re rfl Tryz.func32 rfl (r_t rfl r_nil) rfl ⟨_, rfl, rfl, z.ky K30⟩
noncomputable def laws_markTuple.f (a0 : Tuple) (a1 : Int) : Option (Int × Tuple) :=
 ((laws_markItem.f a0.Key a1).bind fun r5 => ((laws_markItem.f a0.Value r5.1).bind fun r10 => (some (r10.1, (Tuple.mk a0.Xmin a0.Xmax (Item.mk a0.Key.Kind a0.Key.N a0.Key.F r5.2) (Item.mk a0.Value.Kind a0.Value.N a0.Value.F r10.2))))))
def laws_markTuple.Q (w : World) (F : Nat → Prop) (os : List Nat) (a0 : Tuple) (w0_0 : Value) (w0_1 : Value) (w0_2 : Value) (w0_3 : Value) (r : Int × Tuple) (v : Value) (w' : World) : Prop :=
 v = (.int .i64 r.1) ∧ FW kd58 os w w' [(.int .i64 a0.Xmin), (.int .i64 a0.Xmax), (.int .i64 a0.Key.Kind), (.int .i64 a0.Key.N), w0_0, w0_1, (.int .i64 a0.Value.Kind), (.int .i64 a0.Value.N), w0_2, w0_3] r.2 ∧ Ky os w w'
set_option maxHeartbeats 4000000 in
set_option maxRecDepth 100000 in
theorem laws_markTuple.calls (a0 : Tuple) (a1 : Int) (w : World) (F : Nat → Prop) (w0_0 : Value) (w0_1 : Value) (w0_2 : Value) (w0_3 : Value) (os : List Nat) (h0 : kd58.ow w [(.int .i64 a0.Xmin), (.int .i64 a0.Xmax), (.int .i64 a0.Key.Kind), (.int .i64 a0.Key.N), w0_0, w0_1, (.int .i64 a0.Value.Kind), (.int .i64 a0.Value.N), w0_2, w0_3] a0 os) (hn : os.Nodup) (hF : ∀ b, F b → b ∉ os) (r : Int × Tuple) (m : laws_markTuple.f a0 a1 = some r) :
  Calls Tryz.prog 33 #[(.agg #[(.int .i64 a0.Xmin), (.int .i64 a0.Xmax), (.int .i64 a0.Key.Kind), (.int .i64 a0.Key.N), w0_0, w0_1, (.int .i64 a0.Value.Kind), (.int .i64 a0.Value.N), w0_2, w0_3]), (.int .i64 a1)] w fun en w' => ∃ v, en = .returned v ∧ laws_markTuple.Q w F os a0 w0_0 w0_1 w0_2 w0_3 r v w' := by
 obtain ⟨u0_0, u0_1, u0_2, u0_3, q0_1, q0_3, e0, eo0, h0_0, h0_1, h0_2, h0_3⟩ := po58 h0
 obtain ⟨y0_0, y0_1, y0_2, y0_3⟩ : w0_0 = u0_0 ∧ w0_1 = u0_1 ∧ w0_2 = u0_2 ∧ w0_3 = u0_3 := by simpa using e0
 subst y0_0
 subst y0_1
 subst y0_2
 subst y0_3
 subst eo0
 obtain ⟨s0, rfl, kp0, z⟩ := startN w F [(q0_1, 2), (q0_3, 3)] (by simpa [fl_] using hn) (fun b hb => by simpa [fl_] using hF b hb) rfl
 have ez : fl_ [(q0_1, 2), (q0_3, 3)] = q0_1 ++ (q0_3) := by simp [fl_]
 have hn0_1 : q0_1.Nodup := by simp only [List.nodup_append] at hn; simp [hn]
 have A0_1 := z.ow (c := 2) (by simp) hn0_1 h0_1
 have hn0_3 : q0_3.Nodup := by simp only [List.nodup_append] at hn; simp [hn]
 have A0_3 := z.ow (c := 3) (by simp) hn0_3 h0_3
 have A0_0 := h0_0
 have A0_2 := h0_2
 refine calls_of_TM (args := [(.agg #[(.int .i64 a0.Xmin), (.int .i64 a0.Xmax), (.int .i64 a0.Key.Kind), (.int .i64 a0.Key.N), w0_0, w0_1, (.int .i64 a0.Value.Kind), (.int .i64 a0.Value.N), w0_2, w0_3]), (.int .i64 a1)]) (R := fun r en w' => ∃ v, en = .returned v ∧ laws_markTuple.Q s0.w F (q0_1 ++ (q0_3)) a0 w0_0 w0_1 w0_2 w0_3 r v w') Tryz.func33 Tryz.ntmps33 rfl rfl m ?_
 unfold laws_markTuple.f
 refine sr ?_
 refine bx (cs := [(.int .i64 a0.Xmin), (.int .i64 a0.Xmax), (.int .i64 a0.Key.Kind), (.int .i64 a0.Key.N), w0_0, w0_1, (.int .i64 a0.Value.Kind), (.int .i64 a0.Value.N), w0_2, w0_3]) 40 rfl rfl rfl rfl rfl rfl (fun b3 s3 p3 B3 => ?_)
 refine pu rfl rfl rfl rfl rfl ?_
 refine dn ?_
 refine sr ?_
 refine fa fa58_2 rfl rfl rfl rfl rfl rfl ?_
 refine lda (es := [(.int .i64 a0.Key.Kind), (.int .i64 a0.Key.N), w0_0, w0_1]) B3 Tryz.underlying33 z33 rfl rfl rfl rfl rfl rfl rfl rfl ?_
 refine pu rfl rfl rfl rfl rfl ?_
 have A6 := (A0_1.st p3 rfl)
 obtain ⟨os5, ho5, hn5, hc5⟩ := A6
 refine cl rfl rfl rfl rfl rfl Tryz.func19 rfl rfl rfl (fun r5 m5 => laws_markItem.calls a0.Key a1 s3.w (fun b => memb [] (s3.g b) = true) w0_0 w0_1 (fl_rdf (s := s3) A0_0) os5 ho5 hn5 (apart_of hc5 rfl) r5 m5) ?_
 rintro r5 _ w5 m5 ⟨rfl, w5_, ky5⟩
 obtain ⟨s7, rfl, p7, A7⟩ := nwo 41 hc5 ky5 w5_
 refine pu rfl rfl rfl rfl rfl ?_
 refine dn ?_
 refine sr ?_
 refine fa fa58_3 rfl rfl rfl rfl rfl rfl ?_
 have A9 := (BlF.st B3 p7 rfl)
 refine lda (es := [(.int .i64 a0.Value.Kind), (.int .i64 a0.Value.N), w0_2, w0_3]) A9 Tryz.underlying33 z33 rfl rfl rfl rfl rfl rfl rfl rfl ?_
 refine pu rfl rfl rfl rfl rfl ?_
 have A11 := ((A0_3.st p3 rfl).st p7 rfl)
 obtain ⟨os10, ho10, hn10, hc10⟩ := A11
 refine cl rfl rfl rfl rfl rfl Tryz.func19 rfl rfl rfl (fun r10 m10 => laws_markItem.calls a0.Value r5.1 s7.w (fun b => memb [] (s7.g b) = true) w0_2 w0_3 (fl_rdf (s := s7) A0_2) os10 ho10 hn10 (apart_of hc10 rfl) r10 m10) ?_
 rintro r10 _ w10 m10 ⟨rfl, w10_, ky10⟩
 obtain ⟨s12, rfl, p12, A12⟩ := nwo 42 hc10 ky10 w10_
 refine pu rfl rfl rfl rfl rfl ?_
 refine dn ?_
 refine sr ?_
 refine pu rfl rfl rfl rfl rfl ?_
 refine pu rfl rfl rfl rfl rfl ?_
 refine dn ?_
 have A14 := (A7.st p12 rfl)
 have K15 := (((kp0.st p3 rfl).st p7 rfl).st p12 rfl)
 exact re rfl Tryz.func33 rfl (r_t rfl r_nil) rfl ⟨_, rfl, rfl, z.fw' ez K15 (oc_iso (fun x : Tuple => (x.Xmin, x.Xmax, x.Key, x.Value)) (Tuple.mk a0.Xmin a0.Xmax (Item.mk a0.Key.Kind a0.Key.N a0.Key.F r5.2) (Item.mk a0.Value.Kind a0.Value.N a0.Value.F r10.2)) (oc_pair (oc_z (fz_int .i64 a0.Xmin)) (oc_pair (oc_z (fz_int .i64 a0.Xmax)) (oc_pair (oc_iso (fun x : Item => (x.Kind, x.N, x.F, x.T)) (Item.mk a0.Key.Kind a0.Key.N a0.Key.F r5.2) (oc_pair (oc_z (fz_int .i64 a0.Key.Kind)) (oc_pair (oc_z (fz_int .i64 a0.Key.N)) (oc_pair (oc_z (fz_flt A0_0)) (oc_ow A14) rfl) rfl) rfl)) (oc_iso (fun x : Item => (x.Kind, x.N, x.F, x.T)) (Item.mk a0.Value.Kind a0.Value.N a0.Value.F r10.2) (oc_pair (oc_z (fz_int .i64 a0.Value.Kind)) (oc_pair (oc_z (fz_int .i64 a0.Value.N)) (oc_pair (oc_z (fz_flt A0_2)) (oc_ow A12) rfl) rfl) rfl)) rfl) rfl) rfl)) rfl, z.ky' ez K15⟩
noncomputable def laws_FnExactHeapPut.f (a0 : Heap) (a1 : Int) (a2 : Int) (a3 : Tuple) (a4 : Int) : Option (Bool) :=
 ((laws_szHeap.f a0 (1048576 : Int)).bind fun r11 => (if (decide (r11 < (0 : Int))) = true then (some true) else ((laws_szTuple.f a3 r11).bind fun r19 => (if (decide (r19 < (0 : Int))) = true then (some true) else (((laws_toHeap.f a0).bind fun r38 => ((laws_toTuple.f a3).bind fun r48 => ((spec_HeapPut.f r38 a1 a2 r48 a4).bind fun r57 => (some (r57.1.Pages, r57.2))))).bind fun y31 => ((laws_toHeap.f a0).bind fun r195 => ((laws_toTuple.f a3).bind fun r207 => ((impl_HeapPut.f r195 a1 a2 r207 a4).bind fun r222 => ((laws_eqHeap.f r222.1 (Heap.mk y31.1)).bind fun r233 => (if ((!r233) || (!(r222.2 == y31.2))) = true then (some false) else ((laws_toHeap.f a0).bind fun r248 => ((laws_eqHeap.f r195 r248).bind fun r254 => (if (!r254) = true then (some false) else ((laws_toTuple.f a3).bind fun r269 => ((laws_eqTuple.f r207 r269).bind fun r278 => (if (!r278) = true then (some false) else ((laws_markHeap.f r195 (1 : Int)).bind fun r283 => ((laws_markTuple.f r207 r283.1).bind fun r294 => ((if (decide (r294.1 < (0 : Int))) = true then (some true) else ((laws_eqHeap.f r222.1 (Heap.mk y31.1)).bind fun r311 => (some (!r311)))).bind fun y299 => (if (y299 || (!(r222.2 == y31.2))) = true then (some false) else ((laws_markHeap.f r222.1 (1 : Int)).bind fun r327 => ((laws_heldHeap.f (Heap.mk r327.2) (1 : Int)).bind fun r331 => (if (decide (r331 < (0 : Int))) = true then (some false) else (if (r331 != r327.1) = true then (some false) else (((laws_toHeap.f a0).bind fun r352 => ((laws_toTuple.f a3).bind fun r362 => ((impl_HeapPut.f r352 a1 a2 r362 a4).bind fun r371 => (some (r371.1.Pages, r371.2))))).bind fun y345 => ((laws_eqHeap.f (Heap.mk y345.1) (Heap.mk y31.1)).bind fun r516 => (if ((!r516) || (!(y345.2 == y31.2))) = true then (some false) else ((laws_heldHeap.f (Heap.mk r327.2) (1 : Int)).bind fun r523 => (if (decide (r523 < (0 : Int))) = true then (some false) else (if (r523 != r327.1) = true then (some false) else (some true)))))))))))))))))))))))))))))))
def laws_FnExactHeapPut.Q (w : World) (F : Nat → Prop) (r : Bool) (v : Value) (w' : World) : Prop :=
 v = (.bool r) ∧ Ky [] w w'
set_option maxHeartbeats 4000000 in
set_option maxRecDepth 100000 in
theorem laws_FnExactHeapPut.calls (a0 : Heap) (a1 : Int) (a2 : Int) (a3 : Tuple) (a4 : Int) (w : World) (F : Nat → Prop) (w0_0 : Value) (w3_0 : Value) (w3_1 : Value) (w3_2 : Value) (w3_3 : Value) (h0_0 : (Kd.sl 222 kd222).rd w [w0_0] a0.Pages F) (h3_0 : Kd.flt.rd w [w3_0] a3.Key.F F) (h3_1 : (Kd.sl 5 (Kd.int .u8)).rd w [w3_1] a3.Key.T F) (h3_2 : Kd.flt.rd w [w3_2] a3.Value.F F) (h3_3 : (Kd.sl 5 (Kd.int .u8)).rd w [w3_3] a3.Value.T F) (r : Bool) (m : laws_FnExactHeapPut.f a0 a1 a2 a3 a4 = some r) :
  Calls Tryz.prog 5 #[(.agg #[w0_0]), (.int .i64 a1), (.int .i64 a2), (.agg #[(.int .i64 a3.Xmin), (.int .i64 a3.Xmax), (.int .i64 a3.Key.Kind), (.int .i64 a3.Key.N), w3_0, w3_1, (.int .i64 a3.Value.Kind), (.int .i64 a3.Value.N), w3_2, w3_3]), (.int .i64 a4)] w fun en w' => ∃ v, en = .returned v ∧ laws_FnExactHeapPut.Q w F r v w' := by
 obtain ⟨s0, rfl, kp0, z⟩ := start0 w F
 have A0_0 := z.rd h0_0
 have A3_0 := fl_of h3_0
 have A3_1 := z.rd h3_1
 have A3_2 := fl_of h3_2
 have A3_3 := z.rd h3_3
 refine calls_of_TM (args := [(.agg #[w0_0]), (.int .i64 a1), (.int .i64 a2), (.agg #[(.int .i64 a3.Xmin), (.int .i64 a3.Xmax), (.int .i64 a3.Key.Kind), (.int .i64 a3.Key.N), w3_0, w3_1, (.int .i64 a3.Value.Kind), (.int .i64 a3.Value.N), w3_2, w3_3]), (.int .i64 a4)]) (R := fun r en w' => ∃ v, en = .returned v ∧ laws_FnExactHeapPut.Q s0.w F r v w') Tryz.func5 Tryz.ntmps5 rfl rfl m ?_
 unfold laws_FnExactHeapPut.f
 refine sr ?_
 refine bx (cs := [w0_0]) 40 rfl rfl rfl rfl rfl rfl (fun b4 s4 p4 B4 => ?_)
 refine bx (cs := [(.int .i64 a3.Xmin), (.int .i64 a3.Xmax), (.int .i64 a3.Key.Kind), (.int .i64 a3.Key.N), w3_0, w3_1, (.int .i64 a3.Value.Kind), (.int .i64 a3.Value.N), w3_2, w3_3]) 41 rfl rfl rfl rfl rfl rfl (fun b6 s6 p6 B6 => ?_)
 refine pu rfl rfl rfl rfl rfl ?_
 refine dn ?_
 refine sr ?_
 refine pu rfl rfl rfl rfl rfl ?_
 refine dn ?_
 refine sr ?_
 have A8 := (BlF.st B4 p6 rfl)
 refine lda (es := [w0_0]) A8 Tryz.underlying42 z42 rfl rfl rfl rfl rfl rfl rfl rfl ?_
 refine pu rfl rfl rfl rfl rfl ?_
 have K9 := ((kp0.st p4 rfl).st p6 rfl)
 have A10 := (A0_0.kp K9)
 refine cl rfl rfl rfl rfl rfl Tryz.func21 rfl rfl rfl (fun r11 m11 => laws_szHeap.calls a0 (1048576 : Int) s6.w (fun b => memb [0] (s6.g b) = true) w0_0 A10 r11 m11) ?_
 rintro r11 _ w11 m11 ⟨rfl, ky11⟩
 obtain ⟨s12, rfl, p12, n12⟩ := nwx s6 w11 42 ky11
 refine pu rfl rfl rfl rfl rfl ?_
 refine dn ?_
 refine sq ?_
 refine sr ?_
 refine pu rfl rfl rfl rfl rfl ?_
 refine pu rfl rfl rfl rfl rfl ?_
 refine dn ?_
 refine cd rfl (fun h13 => ?_) (fun h13 => ?_)
 ·
  refine sr ?_
  refine pu rfl rfl rfl rfl rfl ?_
  refine dn ?_
  have K14 := (K9.st p12 rfl)
  exact re rfl Tryz.func5 rfl (r_t rfl r_nil) rfl ⟨_, rfl, rfl, z.ky K14⟩
 ·
  refine sk ?_
  refine sr ?_
  have A15 := (BlF.st B6 p12 rfl)
  refine lda (es := [(.int .i64 a3.Xmin), (.int .i64 a3.Xmax), (.int .i64 a3.Key.Kind), (.int .i64 a3.Key.N), w3_0, w3_1, (.int .i64 a3.Value.Kind), (.int .i64 a3.Value.N), w3_2, w3_3]) A15 Tryz.underlying54 z54 rfl rfl rfl rfl rfl rfl rfl rfl ?_
  refine pu rfl rfl rfl rfl rfl ?_
  have K16 := (K9.st p12 rfl)
  have A17 := (A3_1.kp K16)
  have A18 := (A3_3.kp K16)
  refine cl rfl rfl rfl rfl rfl Tryz.func28 rfl rfl rfl (fun r19 m19 => laws_szTuple.calls a3 r11 s12.w (fun b => memb [0] (s12.g b) = true) w3_0 w3_1 w3_2 w3_3 ((fl_rdf (s := s12) A3_0).sub (D := [0]) rfl) A17 ((fl_rdf (s := s12) A3_2).sub (D := [0]) rfl) A18 r19 m19) ?_
  rintro r19 _ w19 m19 ⟨rfl, ky19⟩
  obtain ⟨s20, rfl, p20, n20⟩ := nwx s12 w19 43 ky19
  refine pu rfl rfl rfl rfl rfl ?_
  refine dn ?_
  refine sq ?_
  refine sr ?_
  refine pu rfl rfl rfl rfl rfl ?_
  refine pu rfl rfl rfl rfl rfl ?_
  refine dn ?_
  refine cd rfl (fun h21 => ?_) (fun h21 => ?_)
  ·
   refine sr ?_
   refine pu rfl rfl rfl rfl rfl ?_
   refine dn ?_
   have K22 := (K16.st p20 rfl)
   exact re rfl Tryz.func5 rfl (r_t rfl r_nil) rfl ⟨_, rfl, rfl, z.ky K22⟩
  ·
   refine sk ?_
   refine sq ?_
   refine zdraw [[], [0], [], [], [], [4, 1], [], [1, 2, 3, 5, 6, 5], [7], [8], [8], [], [11, 9, 7, 0, 1, 2, 3, 4, 5, 6, 7, 8, 9, 11], [10, 12, 0, 1, 2, 3, 4, 5, 6, 7, 8, 9, 10, 11, 12]] [some 34, some 35, some 36, some 37, some 38, some 39, some 40, some 41, some 33, some 42, some 43, some 12, none, some 13] [[5], [34], [1], [2], [8], [38], [4], [35, 36, 37, 39, 40], [41], [33], [33], [], [12, 42], [43]] [0, 1, 2, 3, 4, 5, 6, 7, 8, 9, 12, 10, 11, 13] ⟨by kernel_rfl, by kernel_rfl, by kernel_rfl⟩ (by kernel_rfl) (fun s23 p23 l23 tb23 zd23 => ?_)
   have A24 := (BlF.st (BlF.st (BlF.st A8 p12 rfl) p20 rfl) p23 rfl)
   have zd25 := zd23.add 0 34 (.agg #[w0_0]) rfl
   have zd26 := zd25.add 2 36 (.int .i64 a1) rfl
   have zd27 := zd26.add 3 37 (.int .i64 a2) rfl
   have A28 := (BlF.st (BlF.st A15 p20 rfl) p23 rfl)
   have zd29 := zd27.add 4 38 (.agg #[(.int .i64 a3.Xmin), (.int .i64 a3.Xmax), (.int .i64 a3.Key.Kind), (.int .i64 a3.Key.N), w3_0, w3_1, (.int .i64 a3.Value.Kind), (.int .i64 a3.Value.N), w3_2, w3_3]) rfl
   have zd30 := zd29.add 6 40 (.int .i64 a4) rfl
   refine ji [13] (fun (y31 : (List Page) × Bool) (e : Env) (w : World) => ∃ (s : St) (e0 : Env) (vy31_0 : Value) (by31_0 : Nat), w = s.w ∧ e = upd (upd (upd (upd (upd (upd (upd e0 1 (.int .i64 a1)) 2 (.int .i64 a2)) 4 (.int .i64 a4)) 5 (.pointer (some ⟨b4, 0, none⟩))) 8 (.pointer (some ⟨b6, 0, none⟩))) 12 (.pointer (some ⟨by31_0, 0, none⟩))) 43 (.bool y31.2) ∧ Kp s0 s ∧ OwF (Kd.sl 142 kd142) s [vy31_0] y31.1 44 ∧ BlF s b6 54 [(.int .i64 a3.Xmin), (.int .i64 a3.Xmax), (.int .i64 a3.Key.Kind), (.int .i64 a3.Key.N), w3_0, w3_1, (.int .i64 a3.Value.Kind), (.int .i64 a3.Value.N), w3_2, w3_3] 41 ∧ BlF s b4 42 [w0_0] 40 ∧ BlF s by31_0 46 [vy31_0] 45) (fun Gj31 Kj31 => ?_) ?_
   ·
    have A34 := (BlF.st (BlF.st (BlF.st A8 p12 rfl) p20 rfl) p23 rfl)
    have A35 := (BlF.st (BlF.st A15 p20 rfl) p23 rfl)
    refine zstep2 1 11 [some 40, some 38, some 37, some 36] [some 40, some 38, some 37, some 36, some 34] tb23 zd30 (pq_cons (pu_q rfl rfl rfl rfl rfl rfl) rfl (pq_cons (lda_q (es := [(.int .i64 a3.Xmin), (.int .i64 a3.Xmax), (.int .i64 a3.Key.Kind), (.int .i64 a3.Key.N), w3_0, w3_1, (.int .i64 a3.Value.Kind), (.int .i64 a3.Value.N), w3_2, w3_3]) A35 Tryz.underlying54 z54 rfl rfl rfl rfl rfl rfl rfl rfl) rfl (pq_cons (pu_q rfl rfl rfl rfl rfl rfl) rfl (pq_cons (pu_q rfl rfl rfl rfl rfl rfl) rfl (pq_cons (lda_q (es := [w0_0]) A34 Tryz.underlying42 z42 rfl rfl rfl rfl rfl rfl rfl rfl) rfl pq_nil))))) (by kernel_rfl) (by kernel_rfl) (fun l32 e32 zd32 => ?_) (fun l33 e33 zd33 => ?_)
    ·
     have K36 := ((K16.st p20 rfl).st p23 rfl)
     have A37 := (A0_0.kp K36)
     refine cl rfl rfl rfl rfl rfl Tryz.func23 rfl rfl rfl (fun r38 m38 => laws_toHeap.calls a0 s23.w (fun b => memb [0] (s23.g b) = true) w0_0 A37 r38 m38) ?_
     rintro r38 _ w38 m38 ⟨v38_0, rfl, f38_0, ky38⟩
     obtain ⟨s39, rfl, p39, n39⟩ := nwx s23 w38 46 ky38
     have A38_0 := f38_0.c n39
     obtain ⟨os38_0, ho38_0, hn38_0, hc38_0⟩ := A38_0
     obtain ⟨u38_0_0, qu38_0_0, e38_0, eo38_0, hu38_0_0⟩ := po46 ho38_0
     have yu38_0_0 : v38_0 = u38_0_0 := congrArg (fun l => (List.drop 0 l).headD undef) e38_0
     subst yu38_0_0
     subst eo38_0
     have Au38_0_0 : OwF (Kd.sl 142 kd142) s39 [v38_0] r38.Pages 46 := sp1 hu38_0_0 hn38_0 hc38_0
     refine zdone (L' := [6, 4, 3, 2]) (D' := [0, 1]) zd32 rfl rfl rfl (fun zd41 => ?_)
     have A44 := (BlF.st (BlF.st (BlF.st A15 p20 rfl) p23 rfl) p39 rfl)
     refine zstep2 5 11 [some 40, some 37, some 36] [some 40, some 38, some 37, some 36] tb23 zd41 (pq_cons (pu_q rfl rfl rfl rfl rfl rfl) rfl (pq_cons (lda_q (es := [(.int .i64 a3.Xmin), (.int .i64 a3.Xmax), (.int .i64 a3.Key.Kind), (.int .i64 a3.Key.N), w3_0, w3_1, (.int .i64 a3.Value.Kind), (.int .i64 a3.Value.N), w3_2, w3_3]) A44 Tryz.underlying54 z54 rfl rfl rfl rfl rfl rfl rfl rfl) rfl (pq_cons (pu_q rfl rfl rfl rfl rfl rfl) rfl (pq_cons (pu_q rfl rfl rfl rfl rfl rfl) rfl pq_nil)))) (by kernel_rfl) (by kernel_rfl) (fun l42 e42 zd42 => ?_) (fun l43 e43 zd43 => ?_)
     ·
      have K45 := (K36.st p39 rfl)
      have A46 := (A3_1.kp K45)
      have A47 := (A3_3.kp K45)
      refine cl rfl rfl rfl rfl rfl Tryz.func30 rfl rfl rfl (fun r48 m48 => laws_toTuple.calls a3 s39.w (fun b => memb [0] (s39.g b) = true) w3_0 w3_1 w3_2 w3_3 ((fl_rdf (s := s39) A3_0).sub (D := [0]) rfl) A46 ((fl_rdf (s := s39) A3_2).sub (D := [0]) rfl) A47 r48 m48) ?_
      rintro r48 _ w48 m48 ⟨v48_0, v48_1, v48_2, v48_3, rfl, f48_0, ky48⟩
      obtain ⟨s49, rfl, p49, n49⟩ := nwx s39 w48 47 ky48
      have A48_0 := f48_0.c n49
      obtain ⟨os48_0, ho48_0, hn48_0, hc48_0⟩ := A48_0
      obtain ⟨u48_0_0, u48_0_1, u48_0_2, u48_0_3, qu48_0_1, qu48_0_3, e48_0, eo48_0, hu48_0_0, hu48_0_1, hu48_0_2, hu48_0_3⟩ := po58 ho48_0
      have yu48_0_0 : v48_0 = u48_0_0 := congrArg (fun l => (List.drop 4 l).headD undef) e48_0
      have yu48_0_1 : v48_1 = u48_0_1 := congrArg (fun l => (List.drop 5 l).headD undef) e48_0
      have yu48_0_2 : v48_2 = u48_0_2 := congrArg (fun l => (List.drop 8 l).headD undef) e48_0
      have yu48_0_3 : v48_3 = u48_0_3 := congrArg (fun l => (List.drop 9 l).headD undef) e48_0
      subst yu48_0_0
      subst yu48_0_1
      subst yu48_0_2
      subst yu48_0_3
      subst eo48_0
      obtain ⟨s50, hw50, p50, Au48_0_1, hn50, hc50⟩ := sp2 48 hu48_0_1 hn48_0 hc48_0 rfl
      rw [hw50]
      have Au48_0_3 : OwF (Kd.sl 5 (Kd.int .u8)) s50 [v48_3] r48.Value.T 48 := sp1 (hw50 ▸ hu48_0_3) hn50 hc50
      refine zdone (L' := [6, 3, 2]) (D' := [4, 5, 0, 1]) zd42 rfl rfl rfl (fun zd53 => ?_)
      refine zstep2 7 11 [] [some 40, some 37, some 36] tb23 zd53 (pq_cons (pu_q rfl rfl rfl rfl rfl rfl) rfl (pq_cons (pu_q rfl rfl rfl rfl rfl rfl) rfl (pq_cons (pu_q rfl rfl rfl rfl rfl rfl) rfl pq_nil))) (by kernel_rfl) (by kernel_rfl) (fun l54 e54 zd54 => ?_) (fun l55 e55 zd55 => ?_)
      ·
       have A56 := ((Au38_0_0.st p49 rfl).st p50 rfl)
       refine cl rfl rfl rfl rfl rfl Tryz.func29 rfl rfl rfl (fun r57 m57 => spec_HeapPut.calls r38 a1 a2 r48 a4 s50.w (fun b => memb [46, 47, 48] (s50.g b) = true) v38_0 v48_0 v48_1 v48_2 v48_3 (A56.rd.sub (D := [46, 47, 48]) rfl) ((fl_rdf (s := s50) hu48_0_0).sub (D := [46, 47, 48]) rfl) (Au48_0_1.rd.sub (D := [46, 47, 48]) rfl) ((fl_rdf (s := s50) hu48_0_2).sub (D := [46, 47, 48]) rfl) (Au48_0_3.rd.sub (D := [46, 47, 48]) rfl) r57 m57) ?_
       rintro r57 _ w57 m57 ⟨v57_0, rfl, f57_0, ky57⟩
       obtain ⟨s58, rfl, p58, n58⟩ := nwx s50 w57 49 ky57
       have A57_0 := f57_0.c n58
       obtain ⟨os57_0, ho57_0, hn57_0, hc57_0⟩ := A57_0
       obtain ⟨u57_0_0, qu57_0_0, e57_0, eo57_0, hu57_0_0⟩ := po46 ho57_0
       have yu57_0_0 : v57_0 = u57_0_0 := congrArg (fun l => (List.drop 0 l).headD undef) e57_0
       subst yu57_0_0
       subst eo57_0
       have Au57_0_0 : OwF (Kd.sl 142 kd142) s58 [v57_0] r57.1.Pages 49 := sp1 hu57_0_0 hn57_0 hc57_0
       refine zdone (L' := []) (D' := [2, 3, 6, 7, 4, 5, 0, 1]) zd54 rfl rfl rfl (fun zd60 => ?_)
       have zd61 := zd60.add 8 33 (.tuple #[(.agg #[v57_0]), (.bool r57.2)]) rfl
       have zd62 := zd61.add 9 42 (.agg #[v57_0]) rfl
       have zd63 := zd62.add 10 43 (.bool r57.2) rfl
       refine zstep 11 [some 43, some 42, some 33] tb23 zd63 (pq_cons (pu_q (v := (.bool r57.2)) rfl rfl rfl rfl rfl rfl) rfl (pq_cons (pu_q (v := (.agg #[v57_0])) rfl rfl rfl rfl rfl rfl) rfl (pq_cons (pu_q rfl rfl rfl rfl rfl rfl) rfl pq_nil))) (by kernel_rfl) rfl (fun l64 e64 zd64 => ?_)
       refine al (cs := [(.slice none 0 0)]) 50 rfl rfl rfl rfl rfl o46 rfl (fun b65 s65 p65 B65 => ?_)
       refine zdone (L' := [10, 9, 8]) (D' := [11, 2, 3, 6, 7, 4, 5, 0, 1]) zd64 rfl rfl rfl (fun zd67 => ?_)
       refine zstep 12 [some 43] tb23 zd67 (pq_cons (pu_q (v := (.bool r57.2)) rfl rfl rfl rfl rfl rfl) rfl (pq_cons (pu_q (v := (.agg #[v57_0])) rfl rfl rfl rfl rfl rfl) rfl (pq_cons (pu_q rfl rfl rfl rfl rfl rfl) rfl pq_nil))) (by kernel_rfl) rfl (fun l68 e68 zd68 => ?_)
       have A69 := (Au57_0_0.st p65 rfl)
       refine sva (vs := [v57_0]) B65 z46 rfl rfl rfl rfl rfl rfl (on_cons A69.rd.one on_nil) rfl (fun s70 p70 B70 => ?_)
       refine zdone0 (L' := [10]) (D' := [9, 8, 9, 12, 11, 2, 3, 6, 7, 4, 5, 0, 1]) zd68 rfl rfl rfl (fun zd72 => ?_)
       refine zfin [13] tb23 zd72 (pq_cons (pu_q (v := (.bool r57.2)) rfl rfl rfl rfl rfl rfl) rfl pq_nil) (by kernel_rfl) (by decide) ?_
       obtain ⟨s73, hw73, p73, D73⟩ := BlF.rc B70 45 rfl
       rw [hw73]
       have A75 := ((A69.st p70 rfl).st p73 rfl)
       obtain ⟨s76, hw76, p76, A76⟩ := A75.rc 44 rfl
       rw [hw76]
       have A77 := (BlF.st (BlF.st (BlF.st (BlF.st (BlF.st (BlF.st (BlF.st (BlF.st (BlF.st (BlF.st A15 p20 rfl) p23 rfl) p39 rfl) p49 rfl) p50 rfl) p58 rfl) p65 rfl) p70 rfl) p73 rfl) p76 rfl)
       have A78 := (BlF.st (BlF.st (BlF.st (BlF.st (BlF.st (BlF.st (BlF.st (BlF.st (BlF.st (BlF.st (BlF.st A8 p12 rfl) p20 rfl) p23 rfl) p39 rfl) p49 rfl) p50 rfl) p58 rfl) p65 rfl) p70 rfl) p73 rfl) p76 rfl)
       have A79 := (BlF.st D73 p76 rfl)
       have K80 := (((((((K45.st p49 rfl).st p50 rfl).st p58 rfl).st p65 rfl).st p70 rfl).st p73 rfl).st p76 rfl)
       exact Kj31 _ _ _ ⟨s76, _, v57_0, b65, rfl, (ue (ue (ue (ue (ue (ue (ue rfl rfl) rfl) rfl) rfl) rfl) rfl) rfl), K80, A76, A77, A78, A79⟩
      ·
       refine al (cs := [(.slice none 0 0)]) 51 rfl rfl rfl rfl rfl o46 rfl (fun b81 s81 p81 B81 => ?_)
       refine zdone (L' := [6, 3, 2]) (D' := [11, 4, 5, 0, 1]) zd55 rfl rfl rfl (fun zd83 => ?_)
       refine zstep 7 [] tb23 zd83 (pq_cons (pu_q rfl rfl rfl rfl rfl rfl) rfl (pq_cons (pu_q rfl rfl rfl rfl rfl rfl) rfl (pq_cons (pu_q rfl rfl rfl rfl rfl rfl) rfl pq_nil))) (by kernel_rfl) rfl (fun l84 e84 zd84 => ?_)
       have A85 := (((Au38_0_0.st p49 rfl).st p50 rfl).st p81 rfl)
       have A86 := (Au48_0_1.st p81 rfl)
       have A87 := (Au48_0_3.st p81 rfl)
       refine cl rfl rfl rfl rfl rfl Tryz.func29 rfl rfl rfl (fun r88 m88 => spec_HeapPut.calls r38 a1 a2 r48 a4 s81.w (fun b => memb [46, 47, 48] (s81.g b) = true) v38_0 v48_0 v48_1 v48_2 v48_3 (A85.rd.sub (D := [46, 47, 48]) rfl) ((fl_rdf (s := s81) hu48_0_0).sub (D := [46, 47, 48]) rfl) (A86.rd.sub (D := [46, 47, 48]) rfl) ((fl_rdf (s := s81) hu48_0_2).sub (D := [46, 47, 48]) rfl) (A87.rd.sub (D := [46, 47, 48]) rfl) r88 m88) ?_
       rintro r88 _ w88 m88 ⟨v88_0, rfl, f88_0, ky88⟩
       obtain ⟨s89, rfl, p89, n89⟩ := nwx s81 w88 52 ky88
       have A88_0 := f88_0.c n89
       obtain ⟨os88_0, ho88_0, hn88_0, hc88_0⟩ := A88_0
       obtain ⟨u88_0_0, qu88_0_0, e88_0, eo88_0, hu88_0_0⟩ := po46 ho88_0
       have yu88_0_0 : v88_0 = u88_0_0 := congrArg (fun l => (List.drop 0 l).headD undef) e88_0
       subst yu88_0_0
       subst eo88_0
       have Au88_0_0 : OwF (Kd.sl 142 kd142) s89 [v88_0] r88.1.Pages 52 := sp1 hu88_0_0 hn88_0 hc88_0
       refine zdone (L' := []) (D' := [2, 3, 6, 7, 11, 4, 5, 0, 1]) zd84 rfl rfl rfl (fun zd91 => ?_)
       have zd92 := zd91.add 8 33 (.tuple #[(.agg #[v88_0]), (.bool r88.2)]) rfl
       have zd93 := zd92.add 9 42 (.agg #[v88_0]) rfl
       have zd94 := zd93.add 10 43 (.bool r88.2) rfl
       refine zstep 12 [some 43] tb23 zd94 (pq_cons (pu_q (v := (.bool r88.2)) rfl rfl rfl rfl rfl rfl) rfl (pq_cons (pu_q (v := (.agg #[v88_0])) rfl rfl rfl rfl rfl rfl) rfl (pq_cons (pu_q rfl rfl rfl rfl rfl rfl) rfl pq_nil))) (by kernel_rfl) rfl (fun l95 e95 zd95 => ?_)
       have A96 := (BlF.st B81 p89 rfl)
       refine sva (vs := [v88_0]) A96 z46 rfl rfl rfl rfl rfl rfl (on_cons Au88_0_0.rd.one on_nil) rfl (fun s97 p97 B97 => ?_)
       refine zdone0 (L' := [10]) (D' := [9, 8, 9, 12, 2, 3, 6, 7, 11, 4, 5, 0, 1]) zd95 rfl rfl rfl (fun zd99 => ?_)
       refine zfin [13] tb23 zd99 (pq_cons (pu_q (v := (.bool r88.2)) rfl rfl rfl rfl rfl rfl) rfl pq_nil) (by kernel_rfl) (by decide) ?_
       obtain ⟨s100, hw100, p100, D100⟩ := BlF.rc B97 45 rfl
       rw [hw100]
       have A102 := ((Au88_0_0.st p97 rfl).st p100 rfl)
       obtain ⟨s103, hw103, p103, A103⟩ := A102.rc 44 rfl
       rw [hw103]
       have A104 := (BlF.st (BlF.st (BlF.st (BlF.st (BlF.st (BlF.st (BlF.st (BlF.st (BlF.st (BlF.st A15 p20 rfl) p23 rfl) p39 rfl) p49 rfl) p50 rfl) p81 rfl) p89 rfl) p97 rfl) p100 rfl) p103 rfl)
       have A105 := (BlF.st (BlF.st (BlF.st (BlF.st (BlF.st (BlF.st (BlF.st (BlF.st (BlF.st (BlF.st (BlF.st A8 p12 rfl) p20 rfl) p23 rfl) p39 rfl) p49 rfl) p50 rfl) p81 rfl) p89 rfl) p97 rfl) p100 rfl) p103 rfl)
       have A106 := (BlF.st D100 p103 rfl)
       have K107 := (((((((K45.st p49 rfl).st p50 rfl).st p81 rfl).st p89 rfl).st p97 rfl).st p100 rfl).st p103 rfl)
       exact Kj31 _ _ _ ⟨s103, _, v88_0, b81, rfl, (ue (ue (ue (ue (ue (ue (ue rfl rfl) rfl) rfl) rfl) rfl) rfl) rfl), K107, A103, A104, A105, A106⟩
     ·
      refine al (cs := [(.slice none 0 0)]) 53 rfl rfl rfl rfl rfl o46 rfl (fun b108 s108 p108 B108 => ?_)
      refine zdone (L' := [6, 4, 3, 2]) (D' := [11, 0, 1]) zd43 rfl rfl rfl (fun zd110 => ?_)
      have A112 := (BlF.st (BlF.st (BlF.st (BlF.st A15 p20 rfl) p23 rfl) p39 rfl) p108 rfl)
      refine zstep 5 [some 40, some 37, some 36] tb23 zd110 (pq_cons (pu_q rfl rfl rfl rfl rfl rfl) rfl (pq_cons (lda_q (es := [(.int .i64 a3.Xmin), (.int .i64 a3.Xmax), (.int .i64 a3.Key.Kind), (.int .i64 a3.Key.N), w3_0, w3_1, (.int .i64 a3.Value.Kind), (.int .i64 a3.Value.N), w3_2, w3_3]) A112 Tryz.underlying54 z54 rfl rfl rfl rfl rfl rfl rfl rfl) rfl (pq_cons (pu_q rfl rfl rfl rfl rfl rfl) rfl (pq_cons (pu_q rfl rfl rfl rfl rfl rfl) rfl pq_nil)))) (by kernel_rfl) rfl (fun l111 e111 zd111 => ?_)
      have K113 := ((K36.st p39 rfl).st p108 rfl)
      have A114 := (A3_1.kp K113)
      have A115 := (A3_3.kp K113)
      refine cl rfl rfl rfl rfl rfl Tryz.func30 rfl rfl rfl (fun r116 m116 => laws_toTuple.calls a3 s108.w (fun b => memb [0] (s108.g b) = true) w3_0 w3_1 w3_2 w3_3 ((fl_rdf (s := s108) A3_0).sub (D := [0]) rfl) A114 ((fl_rdf (s := s108) A3_2).sub (D := [0]) rfl) A115 r116 m116) ?_
      rintro r116 _ w116 m116 ⟨v116_0, v116_1, v116_2, v116_3, rfl, f116_0, ky116⟩
      obtain ⟨s117, rfl, p117, n117⟩ := nwx s108 w116 54 ky116
      have A116_0 := f116_0.c n117
      obtain ⟨os116_0, ho116_0, hn116_0, hc116_0⟩ := A116_0
      obtain ⟨u116_0_0, u116_0_1, u116_0_2, u116_0_3, qu116_0_1, qu116_0_3, e116_0, eo116_0, hu116_0_0, hu116_0_1, hu116_0_2, hu116_0_3⟩ := po58 ho116_0
      have yu116_0_0 : v116_0 = u116_0_0 := congrArg (fun l => (List.drop 4 l).headD undef) e116_0
      have yu116_0_1 : v116_1 = u116_0_1 := congrArg (fun l => (List.drop 5 l).headD undef) e116_0
      have yu116_0_2 : v116_2 = u116_0_2 := congrArg (fun l => (List.drop 8 l).headD undef) e116_0
      have yu116_0_3 : v116_3 = u116_0_3 := congrArg (fun l => (List.drop 9 l).headD undef) e116_0
      subst yu116_0_0
      subst yu116_0_1
      subst yu116_0_2
      subst yu116_0_3
      subst eo116_0
      obtain ⟨s118, hw118, p118, Au116_0_1, hn118, hc118⟩ := sp2 55 hu116_0_1 hn116_0 hc116_0 rfl
      rw [hw118]
      have Au116_0_3 : OwF (Kd.sl 5 (Kd.int .u8)) s118 [v116_3] r116.Value.T 55 := sp1 (hw118 ▸ hu116_0_3) hn118 hc118
      refine zdone (L' := [6, 3, 2]) (D' := [4, 5, 11, 0, 1]) zd111 rfl rfl rfl (fun zd121 => ?_)
      refine zstep 7 [] tb23 zd121 (pq_cons (pu_q rfl rfl rfl rfl rfl rfl) rfl (pq_cons (pu_q rfl rfl rfl rfl rfl rfl) rfl (pq_cons (pu_q rfl rfl rfl rfl rfl rfl) rfl pq_nil))) (by kernel_rfl) rfl (fun l122 e122 zd122 => ?_)
      have A123 := (((Au38_0_0.st p108 rfl).st p117 rfl).st p118 rfl)
      refine cl rfl rfl rfl rfl rfl Tryz.func29 rfl rfl rfl (fun r124 m124 => spec_HeapPut.calls r38 a1 a2 r116 a4 s118.w (fun b => memb [46, 54, 55] (s118.g b) = true) v38_0 v116_0 v116_1 v116_2 v116_3 (A123.rd.sub (D := [46, 54, 55]) rfl) ((fl_rdf (s := s118) hu116_0_0).sub (D := [46, 54, 55]) rfl) (Au116_0_1.rd.sub (D := [46, 54, 55]) rfl) ((fl_rdf (s := s118) hu116_0_2).sub (D := [46, 54, 55]) rfl) (Au116_0_3.rd.sub (D := [46, 54, 55]) rfl) r124 m124) ?_
      rintro r124 _ w124 m124 ⟨v124_0, rfl, f124_0, ky124⟩
      obtain ⟨s125, rfl, p125, n125⟩ := nwx s118 w124 56 ky124
      have A124_0 := f124_0.c n125
      obtain ⟨os124_0, ho124_0, hn124_0, hc124_0⟩ := A124_0
      obtain ⟨u124_0_0, qu124_0_0, e124_0, eo124_0, hu124_0_0⟩ := po46 ho124_0
      have yu124_0_0 : v124_0 = u124_0_0 := congrArg (fun l => (List.drop 0 l).headD undef) e124_0
      subst yu124_0_0
      subst eo124_0
      have Au124_0_0 : OwF (Kd.sl 142 kd142) s125 [v124_0] r124.1.Pages 56 := sp1 hu124_0_0 hn124_0 hc124_0
      refine zdone (L' := []) (D' := [2, 3, 6, 7, 4, 5, 11, 0, 1]) zd122 rfl rfl rfl (fun zd127 => ?_)
      have zd128 := zd127.add 8 33 (.tuple #[(.agg #[v124_0]), (.bool r124.2)]) rfl
      have zd129 := zd128.add 9 42 (.agg #[v124_0]) rfl
      have zd130 := zd129.add 10 43 (.bool r124.2) rfl
      refine zstep 12 [some 43] tb23 zd130 (pq_cons (pu_q (v := (.bool r124.2)) rfl rfl rfl rfl rfl rfl) rfl (pq_cons (pu_q (v := (.agg #[v124_0])) rfl rfl rfl rfl rfl rfl) rfl (pq_cons (pu_q rfl rfl rfl rfl rfl rfl) rfl pq_nil))) (by kernel_rfl) rfl (fun l131 e131 zd131 => ?_)
      have A132 := (BlF.st (BlF.st (BlF.st B108 p117 rfl) p118 rfl) p125 rfl)
      refine sva (vs := [v124_0]) A132 z46 rfl rfl rfl rfl rfl rfl (on_cons Au124_0_0.rd.one on_nil) rfl (fun s133 p133 B133 => ?_)
      refine zdone0 (L' := [10]) (D' := [9, 8, 9, 12, 2, 3, 6, 7, 4, 5, 11, 0, 1]) zd131 rfl rfl rfl (fun zd135 => ?_)
      refine zfin [13] tb23 zd135 (pq_cons (pu_q (v := (.bool r124.2)) rfl rfl rfl rfl rfl rfl) rfl pq_nil) (by kernel_rfl) (by decide) ?_
      obtain ⟨s136, hw136, p136, D136⟩ := BlF.rc B133 45 rfl
      rw [hw136]
      have A138 := ((Au124_0_0.st p133 rfl).st p136 rfl)
      obtain ⟨s139, hw139, p139, A139⟩ := A138.rc 44 rfl
      rw [hw139]
      have A140 := (BlF.st (BlF.st (BlF.st (BlF.st (BlF.st (BlF.st (BlF.st (BlF.st (BlF.st (BlF.st A15 p20 rfl) p23 rfl) p39 rfl) p108 rfl) p117 rfl) p118 rfl) p125 rfl) p133 rfl) p136 rfl) p139 rfl)
      have A141 := (BlF.st (BlF.st (BlF.st (BlF.st (BlF.st (BlF.st (BlF.st (BlF.st (BlF.st (BlF.st (BlF.st A8 p12 rfl) p20 rfl) p23 rfl) p39 rfl) p108 rfl) p117 rfl) p118 rfl) p125 rfl) p133 rfl) p136 rfl) p139 rfl)
      have A142 := (BlF.st D136 p139 rfl)
      have K143 := ((((((K113.st p117 rfl).st p118 rfl).st p125 rfl).st p133 rfl).st p136 rfl).st p139 rfl)
      exact Kj31 _ _ _ ⟨s139, _, v124_0, b108, rfl, (ue (ue (ue (ue (ue (ue (ue rfl rfl) rfl) rfl) rfl) rfl) rfl) rfl), K143, A139, A140, A141, A142⟩
    ·
     refine al (cs := [(.slice none 0 0)]) 57 rfl rfl rfl rfl rfl o46 rfl (fun b144 s144 p144 B144 => ?_)
     refine zdone (L' := [6, 4, 3, 2, 0]) (D' := [11]) zd33 rfl rfl rfl (fun zd146 => ?_)
     have A148 := (BlF.st (BlF.st (BlF.st (BlF.st A8 p12 rfl) p20 rfl) p23 rfl) p144 rfl)
     have A149 := (BlF.st (BlF.st (BlF.st A15 p20 rfl) p23 rfl) p144 rfl)
     refine zstep 1 [some 40, some 38, some 37, some 36] tb23 zd146 (pq_cons (pu_q rfl rfl rfl rfl rfl rfl) rfl (pq_cons (lda_q (es := [(.int .i64 a3.Xmin), (.int .i64 a3.Xmax), (.int .i64 a3.Key.Kind), (.int .i64 a3.Key.N), w3_0, w3_1, (.int .i64 a3.Value.Kind), (.int .i64 a3.Value.N), w3_2, w3_3]) A149 Tryz.underlying54 z54 rfl rfl rfl rfl rfl rfl rfl rfl) rfl (pq_cons (pu_q rfl rfl rfl rfl rfl rfl) rfl (pq_cons (pu_q rfl rfl rfl rfl rfl rfl) rfl (pq_cons (lda_q (es := [w0_0]) A148 Tryz.underlying42 z42 rfl rfl rfl rfl rfl rfl rfl rfl) rfl pq_nil))))) (by kernel_rfl) rfl (fun l147 e147 zd147 => ?_)
     have K150 := (((K16.st p20 rfl).st p23 rfl).st p144 rfl)
     have A151 := (A0_0.kp K150)
     refine cl rfl rfl rfl rfl rfl Tryz.func23 rfl rfl rfl (fun r152 m152 => laws_toHeap.calls a0 s144.w (fun b => memb [0] (s144.g b) = true) w0_0 A151 r152 m152) ?_
     rintro r152 _ w152 m152 ⟨v152_0, rfl, f152_0, ky152⟩
     obtain ⟨s153, rfl, p153, n153⟩ := nwx s144 w152 58 ky152
     have A152_0 := f152_0.c n153
     obtain ⟨os152_0, ho152_0, hn152_0, hc152_0⟩ := A152_0
     obtain ⟨u152_0_0, qu152_0_0, e152_0, eo152_0, hu152_0_0⟩ := po46 ho152_0
     have yu152_0_0 : v152_0 = u152_0_0 := congrArg (fun l => (List.drop 0 l).headD undef) e152_0
     subst yu152_0_0
     subst eo152_0
     have Au152_0_0 : OwF (Kd.sl 142 kd142) s153 [v152_0] r152.Pages 58 := sp1 hu152_0_0 hn152_0 hc152_0
     refine zdone (L' := [6, 4, 3, 2]) (D' := [0, 1, 11]) zd147 rfl rfl rfl (fun zd155 => ?_)
     have A157 := (BlF.st (BlF.st (BlF.st (BlF.st A15 p20 rfl) p23 rfl) p144 rfl) p153 rfl)
     refine zstep 5 [some 40, some 37, some 36] tb23 zd155 (pq_cons (pu_q rfl rfl rfl rfl rfl rfl) rfl (pq_cons (lda_q (es := [(.int .i64 a3.Xmin), (.int .i64 a3.Xmax), (.int .i64 a3.Key.Kind), (.int .i64 a3.Key.N), w3_0, w3_1, (.int .i64 a3.Value.Kind), (.int .i64 a3.Value.N), w3_2, w3_3]) A157 Tryz.underlying54 z54 rfl rfl rfl rfl rfl rfl rfl rfl) rfl (pq_cons (pu_q rfl rfl rfl rfl rfl rfl) rfl (pq_cons (pu_q rfl rfl rfl rfl rfl rfl) rfl pq_nil)))) (by kernel_rfl) rfl (fun l156 e156 zd156 => ?_)
     have K158 := (K150.st p153 rfl)
     have A159 := (A3_1.kp K158)
     have A160 := (A3_3.kp K158)
     refine cl rfl rfl rfl rfl rfl Tryz.func30 rfl rfl rfl (fun r161 m161 => laws_toTuple.calls a3 s153.w (fun b => memb [0] (s153.g b) = true) w3_0 w3_1 w3_2 w3_3 ((fl_rdf (s := s153) A3_0).sub (D := [0]) rfl) A159 ((fl_rdf (s := s153) A3_2).sub (D := [0]) rfl) A160 r161 m161) ?_
     rintro r161 _ w161 m161 ⟨v161_0, v161_1, v161_2, v161_3, rfl, f161_0, ky161⟩
     obtain ⟨s162, rfl, p162, n162⟩ := nwx s153 w161 59 ky161
     have A161_0 := f161_0.c n162
     obtain ⟨os161_0, ho161_0, hn161_0, hc161_0⟩ := A161_0
     obtain ⟨u161_0_0, u161_0_1, u161_0_2, u161_0_3, qu161_0_1, qu161_0_3, e161_0, eo161_0, hu161_0_0, hu161_0_1, hu161_0_2, hu161_0_3⟩ := po58 ho161_0
     have yu161_0_0 : v161_0 = u161_0_0 := congrArg (fun l => (List.drop 4 l).headD undef) e161_0
     have yu161_0_1 : v161_1 = u161_0_1 := congrArg (fun l => (List.drop 5 l).headD undef) e161_0
     have yu161_0_2 : v161_2 = u161_0_2 := congrArg (fun l => (List.drop 8 l).headD undef) e161_0
     have yu161_0_3 : v161_3 = u161_0_3 := congrArg (fun l => (List.drop 9 l).headD undef) e161_0
     subst yu161_0_0
     subst yu161_0_1
     subst yu161_0_2
     subst yu161_0_3
     subst eo161_0
     obtain ⟨s163, hw163, p163, Au161_0_1, hn163, hc163⟩ := sp2 60 hu161_0_1 hn161_0 hc161_0 rfl
     rw [hw163]
     have Au161_0_3 : OwF (Kd.sl 5 (Kd.int .u8)) s163 [v161_3] r161.Value.T 60 := sp1 (hw163 ▸ hu161_0_3) hn163 hc163
     refine zdone (L' := [6, 3, 2]) (D' := [4, 5, 0, 1, 11]) zd156 rfl rfl rfl (fun zd166 => ?_)
     refine zstep 7 [] tb23 zd166 (pq_cons (pu_q rfl rfl rfl rfl rfl rfl) rfl (pq_cons (pu_q rfl rfl rfl rfl rfl rfl) rfl (pq_cons (pu_q rfl rfl rfl rfl rfl rfl) rfl pq_nil))) (by kernel_rfl) rfl (fun l167 e167 zd167 => ?_)
     have A168 := ((Au152_0_0.st p162 rfl).st p163 rfl)
     refine cl rfl rfl rfl rfl rfl Tryz.func29 rfl rfl rfl (fun r169 m169 => spec_HeapPut.calls r152 a1 a2 r161 a4 s163.w (fun b => memb [58, 59, 60] (s163.g b) = true) v152_0 v161_0 v161_1 v161_2 v161_3 (A168.rd.sub (D := [58, 59, 60]) rfl) ((fl_rdf (s := s163) hu161_0_0).sub (D := [58, 59, 60]) rfl) (Au161_0_1.rd.sub (D := [58, 59, 60]) rfl) ((fl_rdf (s := s163) hu161_0_2).sub (D := [58, 59, 60]) rfl) (Au161_0_3.rd.sub (D := [58, 59, 60]) rfl) r169 m169) ?_
     rintro r169 _ w169 m169 ⟨v169_0, rfl, f169_0, ky169⟩
     obtain ⟨s170, rfl, p170, n170⟩ := nwx s163 w169 61 ky169
     have A169_0 := f169_0.c n170
     obtain ⟨os169_0, ho169_0, hn169_0, hc169_0⟩ := A169_0
     obtain ⟨u169_0_0, qu169_0_0, e169_0, eo169_0, hu169_0_0⟩ := po46 ho169_0
     have yu169_0_0 : v169_0 = u169_0_0 := congrArg (fun l => (List.drop 0 l).headD undef) e169_0
     subst yu169_0_0
     subst eo169_0
     have Au169_0_0 : OwF (Kd.sl 142 kd142) s170 [v169_0] r169.1.Pages 61 := sp1 hu169_0_0 hn169_0 hc169_0
     refine zdone (L' := []) (D' := [2, 3, 6, 7, 4, 5, 0, 1, 11]) zd167 rfl rfl rfl (fun zd172 => ?_)
     have zd173 := zd172.add 8 33 (.tuple #[(.agg #[v169_0]), (.bool r169.2)]) rfl
     have zd174 := zd173.add 9 42 (.agg #[v169_0]) rfl
     have zd175 := zd174.add 10 43 (.bool r169.2) rfl
     refine zstep 12 [some 43] tb23 zd175 (pq_cons (pu_q (v := (.bool r169.2)) rfl rfl rfl rfl rfl rfl) rfl (pq_cons (pu_q (v := (.agg #[v169_0])) rfl rfl rfl rfl rfl rfl) rfl (pq_cons (pu_q rfl rfl rfl rfl rfl rfl) rfl pq_nil))) (by kernel_rfl) rfl (fun l176 e176 zd176 => ?_)
     have A177 := (BlF.st (BlF.st (BlF.st (BlF.st B144 p153 rfl) p162 rfl) p163 rfl) p170 rfl)
     refine sva (vs := [v169_0]) A177 z46 rfl rfl rfl rfl rfl rfl (on_cons Au169_0_0.rd.one on_nil) rfl (fun s178 p178 B178 => ?_)
     refine zdone0 (L' := [10]) (D' := [9, 8, 9, 12, 2, 3, 6, 7, 4, 5, 0, 1, 11]) zd176 rfl rfl rfl (fun zd180 => ?_)
     refine zfin [13] tb23 zd180 (pq_cons (pu_q (v := (.bool r169.2)) rfl rfl rfl rfl rfl rfl) rfl pq_nil) (by kernel_rfl) (by decide) ?_
     obtain ⟨s181, hw181, p181, D181⟩ := BlF.rc B178 45 rfl
     rw [hw181]
     have A183 := ((Au169_0_0.st p178 rfl).st p181 rfl)
     obtain ⟨s184, hw184, p184, A184⟩ := A183.rc 44 rfl
     rw [hw184]
     have A185 := (BlF.st (BlF.st (BlF.st (BlF.st (BlF.st (BlF.st (BlF.st (BlF.st (BlF.st (BlF.st A15 p20 rfl) p23 rfl) p144 rfl) p153 rfl) p162 rfl) p163 rfl) p170 rfl) p178 rfl) p181 rfl) p184 rfl)
     have A186 := (BlF.st (BlF.st (BlF.st (BlF.st (BlF.st (BlF.st (BlF.st (BlF.st (BlF.st (BlF.st (BlF.st A8 p12 rfl) p20 rfl) p23 rfl) p144 rfl) p153 rfl) p162 rfl) p163 rfl) p170 rfl) p178 rfl) p181 rfl) p184 rfl)
     have A187 := (BlF.st D181 p184 rfl)
     have K188 := ((((((K158.st p162 rfl).st p163 rfl).st p170 rfl).st p178 rfl).st p181 rfl).st p184 rfl)
     exact Kj31 _ _ _ ⟨s184, _, v169_0, b144, rfl, (ue (ue (ue (ue (ue (ue (ue rfl rfl) rfl) rfl) rfl) rfl) rfl) rfl), K188, A184, A185, A186, A187⟩
   rintro y31 _ _ ⟨s189, _, vy31_0, by31_0, rfl, rfl, Ky31, Ay31_0, By31_b6, By31_b4, Dy31_0⟩
   refine pu rfl rfl rfl rfl rfl ?_
   refine dn ?_
   refine sr ?_
   refine lda (es := [w0_0]) By31_b4 Tryz.underlying42 z42 rfl rfl rfl rfl rfl rfl rfl rfl ?_
   have A194 := (A0_0.kp Ky31)
   refine cl rfl rfl rfl rfl rfl Tryz.func23 rfl rfl rfl (fun r195 m195 => laws_toHeap.calls a0 s189.w (fun b => memb [0] (s189.g b) = true) w0_0 A194 r195 m195) ?_
   rintro r195 _ w195 m195 ⟨v195_0, rfl, f195_0, ky195⟩
   obtain ⟨s196, rfl, p196, n196⟩ := nwx s189 w195 62 ky195
   have A195_0 := f195_0.c n196
   obtain ⟨os195_0, ho195_0, hn195_0, hc195_0⟩ := A195_0
   obtain ⟨u195_0_0, qu195_0_0, e195_0, eo195_0, hu195_0_0⟩ := po46 ho195_0
   have yu195_0_0 : v195_0 = u195_0_0 := congrArg (fun l => (List.drop 0 l).headD undef) e195_0
   subst yu195_0_0
   subst eo195_0
   have Au195_0_0 : OwF (Kd.sl 142 kd142) s196 [v195_0] r195.Pages 62 := sp1 hu195_0_0 hn195_0 hc195_0
   refine al (cs := [(.slice none 0 0)]) 63 rfl rfl rfl rfl rfl o46 rfl (fun b198 s198 p198 B198 => ?_)
   have A200 := (Au195_0_0.st p198 rfl)
   refine sva (vs := [v195_0]) B198 z46 rfl rfl rfl rfl rfl rfl (on_cons A200.rd.one on_nil) rfl (fun s201 p201 B201 => ?_)
   refine dn ?_
   refine sr ?_
   have A203 := (BlF.st (BlF.st (BlF.st By31_b6 p196 rfl) p198 rfl) p201 rfl)
   refine lda (es := [(.int .i64 a3.Xmin), (.int .i64 a3.Xmax), (.int .i64 a3.Key.Kind), (.int .i64 a3.Key.N), w3_0, w3_1, (.int .i64 a3.Value.Kind), (.int .i64 a3.Value.N), w3_2, w3_3]) A203 Tryz.underlying54 z54 rfl rfl rfl rfl rfl rfl rfl rfl ?_
   have K204 := (((Ky31.st p196 rfl).st p198 rfl).st p201 rfl)
   have A205 := (A3_1.kp K204)
   have A206 := (A3_3.kp K204)
   refine cl rfl rfl rfl rfl rfl Tryz.func30 rfl rfl rfl (fun r207 m207 => laws_toTuple.calls a3 s201.w (fun b => memb [0] (s201.g b) = true) w3_0 w3_1 w3_2 w3_3 ((fl_rdf (s := s201) A3_0).sub (D := [0]) rfl) A205 ((fl_rdf (s := s201) A3_2).sub (D := [0]) rfl) A206 r207 m207) ?_
   rintro r207 _ w207 m207 ⟨v207_0, v207_1, v207_2, v207_3, rfl, f207_0, ky207⟩
   obtain ⟨s208, rfl, p208, n208⟩ := nwx s201 w207 64 ky207
   have A207_0 := f207_0.c n208
   obtain ⟨os207_0, ho207_0, hn207_0, hc207_0⟩ := A207_0
   obtain ⟨u207_0_0, u207_0_1, u207_0_2, u207_0_3, qu207_0_1, qu207_0_3, e207_0, eo207_0, hu207_0_0, hu207_0_1, hu207_0_2, hu207_0_3⟩ := po58 ho207_0
   have yu207_0_0 : v207_0 = u207_0_0 := congrArg (fun l => (List.drop 4 l).headD undef) e207_0
   have yu207_0_1 : v207_1 = u207_0_1 := congrArg (fun l => (List.drop 5 l).headD undef) e207_0
   have yu207_0_2 : v207_2 = u207_0_2 := congrArg (fun l => (List.drop 8 l).headD undef) e207_0
   have yu207_0_3 : v207_3 = u207_0_3 := congrArg (fun l => (List.drop 9 l).headD undef) e207_0
   subst yu207_0_0
   subst yu207_0_1
   subst yu207_0_2
   subst yu207_0_3
   subst eo207_0
   obtain ⟨s209, hw209, p209, Au207_0_1, hn209, hc209⟩ := sp2 65 hu207_0_1 hn207_0 hc207_0 rfl
   rw [hw209]
   have Au207_0_3 : OwF (Kd.sl 5 (Kd.int .u8)) s209 [v207_3] r207.Value.T 65 := sp1 (hw209 ▸ hu207_0_3) hn209 hc209
   refine al (cs := [(.int .i64 (0 : Int)), (.int .i64 (0 : Int)), (.int .i64 (0 : Int)), (.int .i64 (0 : Int)), (.float .f64 0), (.slice none 0 0), (.int .i64 (0 : Int)), (.int .i64 (0 : Int)), (.float .f64 0), (.slice none 0 0)]) 66 rfl rfl rfl rfl rfl o58 rfl (fun b212 s212 p212 B212 => ?_)
   have A214 := (Au207_0_3.st p212 rfl)
   have A215 := (Au207_0_1.st p212 rfl)
   refine sva (vs := [(.int .i64 r207.Xmin), (.int .i64 r207.Xmax), (.int .i64 r207.Key.Kind), (.int .i64 r207.Key.N), v207_0, v207_1, (.int .i64 r207.Value.Kind), (.int .i64 r207.Value.N), v207_2, v207_3]) B212 z58 rfl rfl rfl rfl rfl rfl (on_cons rfl (on_cons rfl (on_cons rfl (on_cons rfl (on_cons (FL.one hu207_0_0) (on_cons A215.rd.one (on_cons rfl (on_cons rfl (on_cons (FL.one hu207_0_2) (on_cons A214.rd.one on_nil)))))))))) rfl (fun s216 p216 B216 => ?_)
   refine dn ?_
   refine sr ?_
   have A218 := (BlF.st (BlF.st (BlF.st (BlF.st B201 p208 rfl) p209 rfl) p212 rfl) p216 rfl)
   refine lda (es := [v195_0]) A218 Tryz.underlying46 z46 rfl rfl rfl rfl rfl rfl rfl rfl ?_
   refine pu rfl rfl rfl rfl rfl ?_
   refine pu rfl rfl rfl rfl rfl ?_
   refine lda (es := [(.int .i64 r207.Xmin), (.int .i64 r207.Xmax), (.int .i64 r207.Key.Kind), (.int .i64 r207.Key.N), v207_0, v207_1, (.int .i64 r207.Value.Kind), (.int .i64 r207.Value.N), v207_2, v207_3]) B216 Tryz.underlying58 z58 rfl rfl rfl rfl rfl rfl rfl rfl ?_
   refine pu rfl rfl rfl rfl rfl ?_
   have A219 := (((((A200.st p201 rfl).st p208 rfl).st p209 rfl).st p212 rfl).st p216 rfl)
   have A220 := (A215.st p216 rfl)
   have A221 := (A214.st p216 rfl)
   refine cl rfl rfl rfl rfl rfl Tryz.func31 rfl rfl rfl (fun r222 m222 => impl_HeapPut.calls r195 a1 a2 r207 a4 s216.w (fun b => memb [62, 64, 65] (s216.g b) = true) v195_0 v207_0 v207_1 v207_2 v207_3 (A219.rd.sub (D := [62, 64, 65]) rfl) ((fl_rdf (s := s216) hu207_0_0).sub (D := [62, 64, 65]) rfl) (A220.rd.sub (D := [62, 64, 65]) rfl) ((fl_rdf (s := s216) hu207_0_2).sub (D := [62, 64, 65]) rfl) (A221.rd.sub (D := [62, 64, 65]) rfl) r222 m222) ?_
   rintro r222 _ w222 m222 ⟨v222_0, rfl, f222_0, ky222⟩
   obtain ⟨s223, rfl, p223, n223⟩ := nwx s216 w222 67 ky222
   have A222_0 := f222_0.c n223
   obtain ⟨os222_0, ho222_0, hn222_0, hc222_0⟩ := A222_0
   obtain ⟨u222_0_0, qu222_0_0, e222_0, eo222_0, hu222_0_0⟩ := po46 ho222_0
   have yu222_0_0 : v222_0 = u222_0_0 := congrArg (fun l => (List.drop 0 l).headD undef) e222_0
   subst yu222_0_0
   subst eo222_0
   have Au222_0_0 : OwF (Kd.sl 142 kd142) s223 [v222_0] r222.1.Pages 67 := sp1 hu222_0_0 hn222_0 hc222_0
   refine pu rfl rfl rfl rfl rfl ?_
   refine pu (v := (.agg #[v222_0])) rfl rfl rfl rfl rfl ?_
   refine pu (v := (.bool r222.2)) rfl rfl rfl rfl rfl ?_
   refine al (cs := [(.slice none 0 0)]) 68 rfl rfl rfl rfl rfl o46 rfl (fun b225 s225 p225 B225 => ?_)
   have A227 := (Au222_0_0.st p225 rfl)
   refine sva (vs := [v222_0]) B225 z46 rfl rfl rfl rfl rfl rfl (on_cons A227.rd.one on_nil) rfl (fun s228 p228 B228 => ?_)
   refine pu rfl rfl rfl rfl rfl ?_
   refine dn ?_
   refine sq ?_
   refine sr ?_
   refine lda (es := [v222_0]) B228 Tryz.underlying46 z46 rfl rfl rfl rfl rfl rfl rfl rfl ?_
   have A230 := (BlF.st (BlF.st (BlF.st (BlF.st (BlF.st (BlF.st (BlF.st (BlF.st (BlF.st (BlF.st Dy31_0 p196 rfl) p198 rfl) p201 rfl) p208 rfl) p209 rfl) p212 rfl) p216 rfl) p223 rfl) p225 rfl) p228 rfl)
   refine lda (es := [vy31_0]) A230 Tryz.underlying46 z46 rfl rfl rfl rfl rfl rfl rfl rfl ?_
   have A231 := (A227.st p228 rfl)
   have A232 := ((((((((((Ay31_0.st p196 rfl).st p198 rfl).st p201 rfl).st p208 rfl).st p209 rfl).st p212 rfl).st p216 rfl).st p223 rfl).st p225 rfl).st p228 rfl)
   refine cl rfl rfl rfl rfl rfl Tryz.func25 rfl rfl rfl (fun r233 m233 => laws_eqHeap.calls r222.1 (Heap.mk y31.1) s228.w (fun b => memb [67, 44] (s228.g b) = true) v222_0 vy31_0 (A231.rd.sub (D := [67, 44]) rfl) (A232.rd.sub (D := [67, 44]) rfl) r233 m233) ?_
   rintro r233 _ w233 m233 ⟨rfl, ky233⟩
   obtain ⟨s234, rfl, p234, n234⟩ := nwx s228 w233 69 ky233
   refine pu rfl rfl rfl rfl rfl ?_
   refine pu rfl rfl rfl rfl rfl ?_
   refine jy [61, 62, 63, 64, 65] [] 65 (.bool ((!r233) || (!(r222.2 == y31.2)))) rfl (fun Kg235 => ?_) (fun j235 => ?_)
   ·
    rcases Bool.eq_false_or_eq_true (!r233) with hb235 | hb235
    ·
     refine sbT hb235 ?_
     refine uw rfl rfl rfl rfl ?_
     refine uw rfl rfl rfl rfl ?_
     refine uw rfl rfl rfl rfl ?_
     refine pu rfl rfl rfl rfl rfl ?_
     exact Kg235 _ (Ag.put ((Ag.put ((Ag.put ((Ag.put (Ag.base rfl) rfl)) rfl)) rfl)) rfl) (by rw [hb235]; rfl)
    ·
     refine sbT hb235 ?_
     refine pu rfl rfl rfl rfl rfl ?_
     refine pu rfl rfl rfl rfl rfl ?_
     refine bne_ Tryz.underlying4 rfl rfl rfl rfl rfl rfl rfl ?_
     refine pu rfl rfl rfl rfl rfl ?_
     exact Kg235 _ (Ag.put ((Ag.put ((Ag.put ((Ag.put (Ag.base rfl) rfl)) rfl)) rfl)) rfl) (by rw [hb235]; rfl)
   refine dn ?_
   refine cd rfl (fun h236 => ?_) (fun h236 => ?_)
   ·
    refine sr ?_
    refine pu rfl rfl rfl rfl rfl ?_
    refine dn ?_
    have K237 := ((((((((K204.st p208 rfl).st p209 rfl).st p212 rfl).st p216 rfl).st p223 rfl).st p225 rfl).st p228 rfl).st p234 rfl)
    exact re rfl Tryz.func5 rfl (r_t rfl r_nil) rfl ⟨_, rfl, rfl, z.ky K237⟩
   ·
    refine sk ?_
    refine sq ?_
    refine sq ?_
    refine zdraw [[], [], [1], [0, 2, 2], [3]] [some 66, some 67, some 68, some 69, some 70] [[14], [5], [67], [66, 68], [69]] [0, 1, 2, 3, 4] ⟨by kernel_rfl, by kernel_rfl, by kernel_rfl⟩ (by kernel_rfl) (fun s238 p238 l238 tb238 zd238 => ?_)
    have A239 := (BlF.st (BlF.st (BlF.st (BlF.st (BlF.st A218 p223 rfl) p225 rfl) p228 rfl) p234 rfl) p238 rfl)
    have zd240 := zd238.add 0 66 (.agg #[v195_0]) rfl
    have A241 := (BlF.st (BlF.st (BlF.st (BlF.st (BlF.st (BlF.st (BlF.st (BlF.st (BlF.st (BlF.st (BlF.st (BlF.st By31_b4 p196 rfl) p198 rfl) p201 rfl) p208 rfl) p209 rfl) p212 rfl) p216 rfl) p223 rfl) p225 rfl) p228 rfl) p234 rfl) p238 rfl)
    have zd242 := zd240.add 1 67 (.agg #[w0_0]) rfl
    have A244 := (BlF.st (BlF.st (BlF.st (BlF.st (BlF.st A218 p223 rfl) p225 rfl) p228 rfl) p234 rfl) p238 rfl)
    have A245 := (BlF.st (BlF.st (BlF.st (BlF.st (BlF.st (BlF.st (BlF.st (BlF.st (BlF.st (BlF.st (BlF.st (BlF.st By31_b4 p196 rfl) p198 rfl) p201 rfl) p208 rfl) p209 rfl) p212 rfl) p216 rfl) p223 rfl) p225 rfl) p228 rfl) p234 rfl) p238 rfl)
    refine zstep 2 [some 66] tb238 zd242 (pq_cons (lda_q (es := [w0_0]) A245 Tryz.underlying42 z42 rfl rfl rfl rfl rfl rfl rfl rfl) rfl (pq_cons (lda_q (es := [v195_0]) A244 Tryz.underlying46 z46 rfl rfl rfl rfl rfl rfl rfl rfl) rfl pq_nil)) (by kernel_rfl) rfl (fun l243 e243 zd243 => ?_)
    have K246 := (((((((((K204.st p208 rfl).st p209 rfl).st p212 rfl).st p216 rfl).st p223 rfl).st p225 rfl).st p228 rfl).st p234 rfl).st p238 rfl)
    have A247 := (A0_0.kp K246)
    refine cl rfl rfl rfl rfl rfl Tryz.func23 rfl rfl rfl (fun r248 m248 => laws_toHeap.calls a0 s238.w (fun b => memb [0] (s238.g b) = true) w0_0 A247 r248 m248) ?_
    rintro r248 _ w248 m248 ⟨v248_0, rfl, f248_0, ky248⟩
    obtain ⟨s249, rfl, p249, n249⟩ := nwx s238 w248 70 ky248
    have A248_0 := f248_0.c n249
    obtain ⟨os248_0, ho248_0, hn248_0, hc248_0⟩ := A248_0
    obtain ⟨u248_0_0, qu248_0_0, e248_0, eo248_0, hu248_0_0⟩ := po46 ho248_0
    have yu248_0_0 : v248_0 = u248_0_0 := congrArg (fun l => (List.drop 0 l).headD undef) e248_0
    subst yu248_0_0
    subst eo248_0
    have Au248_0_0 : OwF (Kd.sl 142 kd142) s249 [v248_0] r248.Pages 70 := sp1 hu248_0_0 hn248_0 hc248_0
    refine zdone (L' := [0]) (D' := [1, 2]) zd243 rfl rfl rfl (fun zd251 => ?_)
    have A252 := (BlF.st (BlF.st (BlF.st (BlF.st (BlF.st (BlF.st A218 p223 rfl) p225 rfl) p228 rfl) p234 rfl) p238 rfl) p249 rfl)
    refine zfin [3, 4] tb238 zd251 (pq_cons (lda_q (es := [v195_0]) A252 Tryz.underlying46 z46 rfl rfl rfl rfl rfl rfl rfl rfl) rfl pq_nil) (by kernel_rfl) (by decide) ?_
    have A253 := ((((((A219.st p223 rfl).st p225 rfl).st p228 rfl).st p234 rfl).st p238 rfl).st p249 rfl)
    refine cl rfl rfl rfl rfl rfl Tryz.func25 rfl rfl rfl (fun r254 m254 => laws_eqHeap.calls r195 r248 s249.w (fun b => memb [62, 70] (s249.g b) = true) v195_0 v248_0 (A253.rd.sub (D := [62, 70]) rfl) (Au248_0_0.rd.sub (D := [62, 70]) rfl) r254 m254) ?_
    rintro r254 _ w254 m254 ⟨rfl, ky254⟩
    obtain ⟨s255, rfl, p255, n255⟩ := nwx s249 w254 71 ky254
    refine pu rfl rfl rfl rfl rfl ?_
    refine dn ?_
    refine cd rfl (fun h256 => ?_) (fun h256 => ?_)
    ·
     refine sr ?_
     refine pu rfl rfl rfl rfl rfl ?_
     refine dn ?_
     have K257 := ((K246.st p249 rfl).st p255 rfl)
     exact re rfl Tryz.func5 rfl (r_t rfl r_nil) rfl ⟨_, rfl, rfl, z.ky K257⟩
    ·
     refine sk ?_
     refine sq ?_
     refine sq ?_
     refine zdraw [[], [], [1], [0, 2, 2], [3]] [some 71, some 72, some 73, some 74, some 75] [[15], [8], [72], [71, 73], [74]] [0, 1, 2, 3, 4] ⟨by kernel_rfl, by kernel_rfl, by kernel_rfl⟩ (by kernel_rfl) (fun s258 p258 l258 tb258 zd258 => ?_)
     have A259 := (BlF.st (BlF.st (BlF.st (BlF.st (BlF.st (BlF.st (BlF.st (BlF.st B216 p223 rfl) p225 rfl) p228 rfl) p234 rfl) p238 rfl) p249 rfl) p255 rfl) p258 rfl)
     have zd260 := zd258.add 0 71 (.agg #[(.int .i64 r207.Xmin), (.int .i64 r207.Xmax), (.int .i64 r207.Key.Kind), (.int .i64 r207.Key.N), v207_0, v207_1, (.int .i64 r207.Value.Kind), (.int .i64 r207.Value.N), v207_2, v207_3]) rfl
     have A261 := (BlF.st (BlF.st (BlF.st (BlF.st (BlF.st (BlF.st (BlF.st (BlF.st (BlF.st (BlF.st (BlF.st (BlF.st A203 p208 rfl) p209 rfl) p212 rfl) p216 rfl) p223 rfl) p225 rfl) p228 rfl) p234 rfl) p238 rfl) p249 rfl) p255 rfl) p258 rfl)
     have zd262 := zd260.add 1 72 (.agg #[(.int .i64 a3.Xmin), (.int .i64 a3.Xmax), (.int .i64 a3.Key.Kind), (.int .i64 a3.Key.N), w3_0, w3_1, (.int .i64 a3.Value.Kind), (.int .i64 a3.Value.N), w3_2, w3_3]) rfl
     have A264 := (BlF.st (BlF.st (BlF.st (BlF.st (BlF.st (BlF.st (BlF.st (BlF.st B216 p223 rfl) p225 rfl) p228 rfl) p234 rfl) p238 rfl) p249 rfl) p255 rfl) p258 rfl)
     have A265 := (BlF.st (BlF.st (BlF.st (BlF.st (BlF.st (BlF.st (BlF.st (BlF.st (BlF.st (BlF.st (BlF.st (BlF.st A203 p208 rfl) p209 rfl) p212 rfl) p216 rfl) p223 rfl) p225 rfl) p228 rfl) p234 rfl) p238 rfl) p249 rfl) p255 rfl) p258 rfl)
     refine zstep 2 [some 71] tb258 zd262 (pq_cons (lda_q (es := [(.int .i64 a3.Xmin), (.int .i64 a3.Xmax), (.int .i64 a3.Key.Kind), (.int .i64 a3.Key.N), w3_0, w3_1, (.int .i64 a3.Value.Kind), (.int .i64 a3.Value.N), w3_2, w3_3]) A265 Tryz.underlying54 z54 rfl rfl rfl rfl rfl rfl rfl rfl) rfl (pq_cons (lda_q (es := [(.int .i64 r207.Xmin), (.int .i64 r207.Xmax), (.int .i64 r207.Key.Kind), (.int .i64 r207.Key.N), v207_0, v207_1, (.int .i64 r207.Value.Kind), (.int .i64 r207.Value.N), v207_2, v207_3]) A264 Tryz.underlying58 z58 rfl rfl rfl rfl rfl rfl rfl rfl) rfl pq_nil)) (by kernel_rfl) rfl (fun l263 e263 zd263 => ?_)
     have K266 := (((K246.st p249 rfl).st p255 rfl).st p258 rfl)
     have A267 := (A3_1.kp K266)
     have A268 := (A3_3.kp K266)
     refine cl rfl rfl rfl rfl rfl Tryz.func30 rfl rfl rfl (fun r269 m269 => laws_toTuple.calls a3 s258.w (fun b => memb [0] (s258.g b) = true) w3_0 w3_1 w3_2 w3_3 ((fl_rdf (s := s258) A3_0).sub (D := [0]) rfl) A267 ((fl_rdf (s := s258) A3_2).sub (D := [0]) rfl) A268 r269 m269) ?_
     rintro r269 _ w269 m269 ⟨v269_0, v269_1, v269_2, v269_3, rfl, f269_0, ky269⟩
     obtain ⟨s270, rfl, p270, n270⟩ := nwx s258 w269 72 ky269
     have A269_0 := f269_0.c n270
     obtain ⟨os269_0, ho269_0, hn269_0, hc269_0⟩ := A269_0
     obtain ⟨u269_0_0, u269_0_1, u269_0_2, u269_0_3, qu269_0_1, qu269_0_3, e269_0, eo269_0, hu269_0_0, hu269_0_1, hu269_0_2, hu269_0_3⟩ := po58 ho269_0
     have yu269_0_0 : v269_0 = u269_0_0 := congrArg (fun l => (List.drop 4 l).headD undef) e269_0
     have yu269_0_1 : v269_1 = u269_0_1 := congrArg (fun l => (List.drop 5 l).headD undef) e269_0
     have yu269_0_2 : v269_2 = u269_0_2 := congrArg (fun l => (List.drop 8 l).headD undef) e269_0
     have yu269_0_3 : v269_3 = u269_0_3 := congrArg (fun l => (List.drop 9 l).headD undef) e269_0
     subst yu269_0_0
     subst yu269_0_1
     subst yu269_0_2
     subst yu269_0_3
     subst eo269_0
     obtain ⟨s271, hw271, p271, Au269_0_1, hn271, hc271⟩ := sp2 73 hu269_0_1 hn269_0 hc269_0 rfl
     rw [hw271]
     have Au269_0_3 : OwF (Kd.sl 5 (Kd.int .u8)) s271 [v269_3] r269.Value.T 73 := sp1 (hw271 ▸ hu269_0_3) hn271 hc271
     refine zdone (L' := [0]) (D' := [1, 2]) zd263 rfl rfl rfl (fun zd274 => ?_)
     have A275 := (BlF.st (BlF.st (BlF.st (BlF.st (BlF.st (BlF.st (BlF.st (BlF.st (BlF.st (BlF.st B216 p223 rfl) p225 rfl) p228 rfl) p234 rfl) p238 rfl) p249 rfl) p255 rfl) p258 rfl) p270 rfl) p271 rfl)
     refine zfin [3, 4] tb258 zd274 (pq_cons (lda_q (es := [(.int .i64 r207.Xmin), (.int .i64 r207.Xmax), (.int .i64 r207.Key.Kind), (.int .i64 r207.Key.N), v207_0, v207_1, (.int .i64 r207.Value.Kind), (.int .i64 r207.Value.N), v207_2, v207_3]) A275 Tryz.underlying58 z58 rfl rfl rfl rfl rfl rfl rfl rfl) rfl pq_nil) (by kernel_rfl) (by decide) ?_
     have A276 := ((((((((((A220.st p223 rfl).st p225 rfl).st p228 rfl).st p234 rfl).st p238 rfl).st p249 rfl).st p255 rfl).st p258 rfl).st p270 rfl).st p271 rfl)
     have A277 := ((((((((((A221.st p223 rfl).st p225 rfl).st p228 rfl).st p234 rfl).st p238 rfl).st p249 rfl).st p255 rfl).st p258 rfl).st p270 rfl).st p271 rfl)
     refine cl rfl rfl rfl rfl rfl Tryz.func32 rfl rfl rfl (fun r278 m278 => laws_eqTuple.calls r207 r269 s271.w (fun b => memb [64, 65, 72, 73] (s271.g b) = true) v207_0 v207_1 v207_2 v207_3 v269_0 v269_1 v269_2 v269_3 ((fl_rdf (s := s271) hu207_0_0).sub (D := [64, 65, 72, 73]) rfl) (A276.rd.sub (D := [64, 65, 72, 73]) rfl) ((fl_rdf (s := s271) hu207_0_2).sub (D := [64, 65, 72, 73]) rfl) (A277.rd.sub (D := [64, 65, 72, 73]) rfl) ((fl_rdf (s := s271) hu269_0_0).sub (D := [64, 65, 72, 73]) rfl) (Au269_0_1.rd.sub (D := [64, 65, 72, 73]) rfl) ((fl_rdf (s := s271) hu269_0_2).sub (D := [64, 65, 72, 73]) rfl) (Au269_0_3.rd.sub (D := [64, 65, 72, 73]) rfl) r278 m278) ?_
     rintro r278 _ w278 m278 ⟨rfl, ky278⟩
     obtain ⟨s279, rfl, p279, n279⟩ := nwx s271 w278 74 ky278
     refine pu rfl rfl rfl rfl rfl ?_
     refine dn ?_
     refine cd rfl (fun h280 => ?_) (fun h280 => ?_)
     ·
      refine sr ?_
      refine pu rfl rfl rfl rfl rfl ?_
      refine dn ?_
      have K281 := (((K266.st p270 rfl).st p271 rfl).st p279 rfl)
      exact re rfl Tryz.func5 rfl (r_t rfl r_nil) rfl ⟨_, rfl, rfl, z.ky K281⟩
     ·
      refine sk ?_
      refine sr ?_
      refine pu rfl rfl rfl rfl rfl ?_
      refine dn ?_
      refine sr ?_
      have A282 := (BlF.st (BlF.st (BlF.st (BlF.st (BlF.st (BlF.st (BlF.st (BlF.st (BlF.st (BlF.st (BlF.st A218 p223 rfl) p225 rfl) p228 rfl) p234 rfl) p238 rfl) p249 rfl) p255 rfl) p258 rfl) p270 rfl) p271 rfl) p279 rfl)
      refine lda (es := [v195_0]) A282 Tryz.underlying46 z46 rfl rfl rfl rfl rfl rfl rfl rfl ?_
      refine pu rfl rfl rfl rfl rfl ?_
      have A284 := (((((A253.st p255 rfl).st p258 rfl).st p270 rfl).st p271 rfl).st p279 rfl)
      obtain ⟨os283, ho283, hn283, hc283⟩ := A284
      refine cl rfl rfl rfl rfl rfl Tryz.func26 rfl rfl rfl (fun r283 m283 => laws_markHeap.calls r195 (1 : Int) s279.w (fun b => memb [] (s279.g b) = true) v195_0 os283 ho283 hn283 (apart_of hc283 rfl) r283 m283) ?_
      rintro r283 _ w283 m283 ⟨rfl, w283_, ky283⟩
      obtain ⟨s285, rfl, p285, A285⟩ := nwo 75 hc283 ky283 w283_
      refine pu rfl rfl rfl rfl rfl ?_
      refine dn ?_
      refine sr ?_
      have A287 := (BlF.st (BlF.st (BlF.st (BlF.st (BlF.st (BlF.st (BlF.st (BlF.st (BlF.st (BlF.st (BlF.st (BlF.st B216 p223 rfl) p225 rfl) p228 rfl) p234 rfl) p238 rfl) p249 rfl) p255 rfl) p258 rfl) p270 rfl) p271 rfl) p279 rfl) p285 rfl)
      refine lda (es := [(.int .i64 r207.Xmin), (.int .i64 r207.Xmax), (.int .i64 r207.Key.Kind), (.int .i64 r207.Key.N), v207_0, v207_1, (.int .i64 r207.Value.Kind), (.int .i64 r207.Value.N), v207_2, v207_3]) A287 Tryz.underlying58 z58 rfl rfl rfl rfl rfl rfl rfl rfl ?_
      refine pu rfl rfl rfl rfl rfl ?_
      have A288 := ((A276.st p279 rfl).st p285 rfl)
      have A289 := ((A277.st p279 rfl).st p285 rfl)
      obtain ⟨s290, hw290, p290, A290⟩ := ow_2 (ow_isoz (fun x : Item => (x.Kind, x.N, x.F, x.T)) r207.Key (ow_l (fz_int .i64 r207.Key.Kind) (ow_l (fz_int .i64 r207.Key.N) (ow_l (fz_flt hu207_0_0) A288)))) (ow_isoz (fun x : Item => (x.Kind, x.N, x.F, x.T)) r207.Value (ow_l (fz_int .i64 r207.Value.Kind) (ow_l (fz_int .i64 r207.Value.N) (ow_l (fz_flt hu207_0_2) A289)))) rfl rfl
      rw [hw290]
      have A292 : OwF kd58 s290 [(.int .i64 r207.Xmin), (.int .i64 r207.Xmax), (.int .i64 r207.Key.Kind), (.int .i64 r207.Key.N), v207_0, v207_1, (.int .i64 r207.Value.Kind), (.int .i64 r207.Value.N), v207_2, v207_3] r207 64 := (ow_isoz (fun x : Tuple => (x.Xmin, x.Xmax, x.Key, x.Value)) r207 (ow_l (fz_int .i64 r207.Xmin) (ow_l (fz_int .i64 r207.Xmax) A290)))
      obtain ⟨os294, ho294, hn294, hc294⟩ := A292
      refine cl rfl rfl rfl rfl rfl Tryz.func33 rfl rfl rfl (fun r294 m294 => laws_markTuple.calls r207 r283.1 s290.w (fun b => memb [] (s290.g b) = true) v207_0 v207_1 v207_2 v207_3 os294 ho294 hn294 (apart_of hc294 rfl) r294 m294) ?_
      rintro r294 _ w294 m294 ⟨rfl, w294_, ky294⟩
      obtain ⟨s295, rfl, p295, A295⟩ := nwo 76 hc294 ky294 w294_
      obtain ⟨os294_w, ho294_w, hn294_w, hc294_w⟩ := A295
      obtain ⟨u294_w_0, u294_w_1, u294_w_2, u294_w_3, qu294_w_1, qu294_w_3, e294_w, eo294_w, hu294_w_0, hu294_w_1, hu294_w_2, hu294_w_3⟩ := po58 ho294_w
      have yu294_w_0 : v207_0 = u294_w_0 := congrArg (fun l => (List.drop 4 l).headD undef) e294_w
      have yu294_w_1 : v207_1 = u294_w_1 := congrArg (fun l => (List.drop 5 l).headD undef) e294_w
      have yu294_w_2 : v207_2 = u294_w_2 := congrArg (fun l => (List.drop 8 l).headD undef) e294_w
      have yu294_w_3 : v207_3 = u294_w_3 := congrArg (fun l => (List.drop 9 l).headD undef) e294_w
      subst yu294_w_0
      subst yu294_w_1
      subst yu294_w_2
      subst yu294_w_3
      subst eo294_w
      obtain ⟨s296, hw296, p296, Au294_w_1, hn296, hc296⟩ := sp2 77 hu294_w_1 hn294_w hc294_w rfl
      rw [hw296]
      have Au294_w_3 : OwF (Kd.sl 5 (Kd.int .u8)) s296 [v207_3] r294.2.Value.T 77 := sp1 (hw296 ▸ hu294_w_3) hn296 hc296
      refine pu rfl rfl rfl rfl rfl ?_
      refine dn ?_
      refine sq ?_
      refine sr ?_
      refine pu rfl rfl rfl rfl rfl ?_
      refine pu rfl rfl rfl rfl rfl ?_
      refine pu rfl rfl rfl rfl rfl ?_
      refine ji [8, 9, 10, 11, 12] (fun (y299 : Bool) (e : Env) (w : World) => ∃ (s : St) (e0 : Env), w = s.w ∧ e = upd (upd (upd (upd (upd (upd (upd (upd (upd (upd e0 1 (.int .i64 a1)) 2 (.int .i64 a2)) 4 (.int .i64 a4)) 5 (.pointer (some ⟨b4, 0, none⟩))) 8 (.pointer (some ⟨b6, 0, none⟩))) 12 (.pointer (some ⟨by31_0, 0, none⟩))) 13 (.bool y31.2)) 16 (.pointer (some ⟨b225, 0, none⟩))) 17 (.bool r222.2)) 89 (.bool y299) ∧ Kp s0 s ∧ BlF s b225 46 [v222_0] 68 ∧ BlF s by31_0 46 [vy31_0] 45 ∧ BlF s b6 54 [(.int .i64 a3.Xmin), (.int .i64 a3.Xmax), (.int .i64 a3.Key.Kind), (.int .i64 a3.Key.N), w3_0, w3_1, (.int .i64 a3.Value.Kind), (.int .i64 a3.Value.N), w3_2, w3_3] 41 ∧ BlF s b4 42 [w0_0] 40 ∧ OwF (Kd.sl 142 kd142) s [v222_0] r222.1.Pages 67 ∧ OwF (Kd.sl 142 kd142) s [vy31_0] y31.1 44) (fun Gj299 Kj299 => ?_) ?_
      ·
       rcases Bool.eq_false_or_eq_true (decide (r294.1 < (0 : Int))) with hb299 | hb299
       ·
        refine sbT hb299 ?_
        rw [if_pos hb299]
        refine uw rfl rfl rfl rfl ?_
        refine uw rfl rfl rfl rfl ?_
        refine uw rfl rfl rfl rfl ?_
        refine uw rfl rfl rfl rfl ?_
        refine pu rfl rfl rfl rfl rfl ?_
        have A300 := (BlF.st (BlF.st (BlF.st (BlF.st (BlF.st (BlF.st (BlF.st (BlF.st (BlF.st (BlF.st (BlF.st (BlF.st B228 p234 rfl) p238 rfl) p249 rfl) p255 rfl) p258 rfl) p270 rfl) p271 rfl) p279 rfl) p285 rfl) p290 rfl) p295 rfl) p296 rfl)
        have A301 := (BlF.st (BlF.st (BlF.st (BlF.st (BlF.st (BlF.st (BlF.st (BlF.st (BlF.st (BlF.st (BlF.st (BlF.st A230 p234 rfl) p238 rfl) p249 rfl) p255 rfl) p258 rfl) p270 rfl) p271 rfl) p279 rfl) p285 rfl) p290 rfl) p295 rfl) p296 rfl)
        have A302 := (BlF.st (BlF.st (BlF.st (BlF.st (BlF.st (BlF.st (BlF.st (BlF.st (BlF.st (BlF.st (BlF.st (BlF.st (BlF.st (BlF.st (BlF.st (BlF.st (BlF.st (BlF.st (BlF.st A203 p208 rfl) p209 rfl) p212 rfl) p216 rfl) p223 rfl) p225 rfl) p228 rfl) p234 rfl) p238 rfl) p249 rfl) p255 rfl) p258 rfl) p270 rfl) p271 rfl) p279 rfl) p285 rfl) p290 rfl) p295 rfl) p296 rfl)
        have A303 := (BlF.st (BlF.st (BlF.st (BlF.st (BlF.st (BlF.st (BlF.st (BlF.st (BlF.st (BlF.st (BlF.st (BlF.st (BlF.st (BlF.st (BlF.st (BlF.st (BlF.st (BlF.st (BlF.st (BlF.st (BlF.st (BlF.st By31_b4 p196 rfl) p198 rfl) p201 rfl) p208 rfl) p209 rfl) p212 rfl) p216 rfl) p223 rfl) p225 rfl) p228 rfl) p234 rfl) p238 rfl) p249 rfl) p255 rfl) p258 rfl) p270 rfl) p271 rfl) p279 rfl) p285 rfl) p290 rfl) p295 rfl) p296 rfl)
        have A304 := ((((((((((((A231.st p234 rfl).st p238 rfl).st p249 rfl).st p255 rfl).st p258 rfl).st p270 rfl).st p271 rfl).st p279 rfl).st p285 rfl).st p290 rfl).st p295 rfl).st p296 rfl)
        have A305 := ((((((((((((A232.st p234 rfl).st p238 rfl).st p249 rfl).st p255 rfl).st p258 rfl).st p270 rfl).st p271 rfl).st p279 rfl).st p285 rfl).st p290 rfl).st p295 rfl).st p296 rfl)
        have K306 := (((((((K266.st p270 rfl).st p271 rfl).st p279 rfl).st p285 rfl).st p290 rfl).st p295 rfl).st p296 rfl)
        exact Kj299 _ _ _ ⟨s296, _, rfl, (ue (ue (ue (ue (ue (ue (ue (ue (ue (ue rfl rfl) rfl) rfl) rfl) rfl) rfl) rfl) rfl) rfl) rfl), K306, A300, A301, A302, A303, A304, A305⟩
       ·
        refine sbT hb299 ?_
        rw [if_neg (by rw [hb299]; decide)]
        have A307 := (BlF.st (BlF.st (BlF.st (BlF.st (BlF.st (BlF.st (BlF.st (BlF.st (BlF.st (BlF.st (BlF.st (BlF.st B228 p234 rfl) p238 rfl) p249 rfl) p255 rfl) p258 rfl) p270 rfl) p271 rfl) p279 rfl) p285 rfl) p290 rfl) p295 rfl) p296 rfl)
        refine lda (es := [v222_0]) A307 Tryz.underlying46 z46 rfl rfl rfl rfl rfl rfl rfl rfl ?_
        have A308 := (BlF.st (BlF.st (BlF.st (BlF.st (BlF.st (BlF.st (BlF.st (BlF.st (BlF.st (BlF.st (BlF.st (BlF.st A230 p234 rfl) p238 rfl) p249 rfl) p255 rfl) p258 rfl) p270 rfl) p271 rfl) p279 rfl) p285 rfl) p290 rfl) p295 rfl) p296 rfl)
        refine lda (es := [vy31_0]) A308 Tryz.underlying46 z46 rfl rfl rfl rfl rfl rfl rfl rfl ?_
        have A309 := ((((((((((((A231.st p234 rfl).st p238 rfl).st p249 rfl).st p255 rfl).st p258 rfl).st p270 rfl).st p271 rfl).st p279 rfl).st p285 rfl).st p290 rfl).st p295 rfl).st p296 rfl)
        have A310 := ((((((((((((A232.st p234 rfl).st p238 rfl).st p249 rfl).st p255 rfl).st p258 rfl).st p270 rfl).st p271 rfl).st p279 rfl).st p285 rfl).st p290 rfl).st p295 rfl).st p296 rfl)
        refine cl rfl rfl rfl rfl rfl Tryz.func25 rfl rfl rfl (fun r311 m311 => laws_eqHeap.calls r222.1 (Heap.mk y31.1) s296.w (fun b => memb [67, 44] (s296.g b) = true) v222_0 vy31_0 (A309.rd.sub (D := [67, 44]) rfl) (A310.rd.sub (D := [67, 44]) rfl) r311 m311) ?_
        rintro r311 _ w311 m311 ⟨rfl, ky311⟩
        obtain ⟨s312, rfl, p312, n312⟩ := nwx s296 w311 78 ky311
        refine pu rfl rfl rfl rfl rfl ?_
        refine pu rfl rfl rfl rfl rfl ?_
        have A313 := (BlF.st A307 p312 rfl)
        have A314 := (BlF.st A308 p312 rfl)
        have A315 := (BlF.st (BlF.st (BlF.st (BlF.st (BlF.st (BlF.st (BlF.st (BlF.st (BlF.st (BlF.st (BlF.st (BlF.st (BlF.st (BlF.st (BlF.st (BlF.st (BlF.st (BlF.st (BlF.st (BlF.st A203 p208 rfl) p209 rfl) p212 rfl) p216 rfl) p223 rfl) p225 rfl) p228 rfl) p234 rfl) p238 rfl) p249 rfl) p255 rfl) p258 rfl) p270 rfl) p271 rfl) p279 rfl) p285 rfl) p290 rfl) p295 rfl) p296 rfl) p312 rfl)
        have A316 := (BlF.st (BlF.st (BlF.st (BlF.st (BlF.st (BlF.st (BlF.st (BlF.st (BlF.st (BlF.st (BlF.st (BlF.st (BlF.st (BlF.st (BlF.st (BlF.st (BlF.st (BlF.st (BlF.st (BlF.st (BlF.st (BlF.st (BlF.st By31_b4 p196 rfl) p198 rfl) p201 rfl) p208 rfl) p209 rfl) p212 rfl) p216 rfl) p223 rfl) p225 rfl) p228 rfl) p234 rfl) p238 rfl) p249 rfl) p255 rfl) p258 rfl) p270 rfl) p271 rfl) p279 rfl) p285 rfl) p290 rfl) p295 rfl) p296 rfl) p312 rfl)
        have A317 := (A309.st p312 rfl)
        have A318 := (A310.st p312 rfl)
        have K319 := ((((((((K266.st p270 rfl).st p271 rfl).st p279 rfl).st p285 rfl).st p290 rfl).st p295 rfl).st p296 rfl).st p312 rfl)
        exact Kj299 _ _ _ ⟨s312, _, rfl, (ue (ue (ue (ue (ue (ue (ue (ue (ue (ue rfl rfl) rfl) rfl) rfl) rfl) rfl) rfl) rfl) rfl) rfl), K319, A313, A314, A315, A316, A317, A318⟩
      rintro y299 _ _ ⟨s320, _, rfl, rfl, Ky299, By299_b225, By299_by31_0, By299_b6, By299_b4, Cy299_224, Cy299_190⟩
      refine pu rfl rfl rfl rfl rfl ?_
      refine jy [90, 91, 92, 93, 94] [] 94 (.bool (y299 || (!(r222.2 == y31.2)))) rfl (fun Kg325 => ?_) (fun j325 => ?_)
      ·
       rcases Bool.eq_false_or_eq_true y299 with hb325 | hb325
       ·
        refine sbT hb325 ?_
        refine uw rfl rfl rfl rfl ?_
        refine uw rfl rfl rfl rfl ?_
        refine uw rfl rfl rfl rfl ?_
        refine pu rfl rfl rfl rfl rfl ?_
        exact Kg325 _ (Ag.put ((Ag.put ((Ag.put ((Ag.put (Ag.base rfl) rfl)) rfl)) rfl)) rfl) (by rw [hb325]; rfl)
       ·
        refine sbT hb325 ?_
        refine pu rfl rfl rfl rfl rfl ?_
        refine pu rfl rfl rfl rfl rfl ?_
        refine bne_ Tryz.underlying4 rfl rfl rfl rfl rfl rfl rfl ?_
        refine pu rfl rfl rfl rfl rfl ?_
        exact Kg325 _ (Ag.put ((Ag.put ((Ag.put ((Ag.put (Ag.base rfl) rfl)) rfl)) rfl)) rfl) (by rw [hb325]; rfl)
      refine dn ?_
      refine cd rfl (fun h326 => ?_) (fun h326 => ?_)
      ·
       refine sr ?_
       refine pu rfl rfl rfl rfl rfl ?_
       refine dn ?_
       exact re rfl Tryz.func5 rfl (r_t rfl r_nil) rfl ⟨_, rfl, rfl, z.ky Ky299⟩
      ·
       refine sk ?_
       refine sr ?_
       refine pu rfl rfl rfl rfl rfl ?_
       refine dn ?_
       refine sr ?_
       refine lda (es := [v222_0]) By299_b225 Tryz.underlying46 z46 rfl rfl rfl rfl rfl rfl rfl rfl ?_
       refine pu rfl rfl rfl rfl rfl ?_
       obtain ⟨os327, ho327, hn327, hc327⟩ := Cy299_224
       refine cl rfl rfl rfl rfl rfl Tryz.func26 rfl rfl rfl (fun r327 m327 => laws_markHeap.calls r222.1 (1 : Int) s320.w (fun b => memb [] (s320.g b) = true) v222_0 os327 ho327 hn327 (apart_of hc327 rfl) r327 m327) ?_
       rintro r327 _ w327 m327 ⟨rfl, w327_, ky327⟩
       obtain ⟨s328, rfl, p328, A328⟩ := nwo 79 hc327 ky327 w327_
       refine pu rfl rfl rfl rfl rfl ?_
       refine dn ?_
       refine sr ?_
       refine pu rfl rfl rfl rfl rfl ?_
       refine dn ?_
       refine sr ?_
       have A330 := (BlF.st By299_b225 p328 rfl)
       refine lda (es := [v222_0]) A330 Tryz.underlying46 z46 rfl rfl rfl rfl rfl rfl rfl rfl ?_
       refine pu rfl rfl rfl rfl rfl ?_
       refine cl rfl rfl rfl rfl rfl Tryz.func27 rfl rfl rfl (fun r331 m331 => laws_heldHeap.calls (Heap.mk r327.2) (1 : Int) s328.w (fun b => memb [67] (s328.g b) = true) v222_0 A328.rd r331 m331) ?_
       rintro r331 _ w331 m331 ⟨rfl, ky331⟩
       obtain ⟨s332, rfl, p332, n332⟩ := nwx s328 w331 80 ky331
       refine pu rfl rfl rfl rfl rfl ?_
       refine dn ?_
       refine sq ?_
       refine sr ?_
       refine pu rfl rfl rfl rfl rfl ?_
       refine pu rfl rfl rfl rfl rfl ?_
       refine dn ?_
       refine cd rfl (fun h333 => ?_) (fun h333 => ?_)
       ·
        refine sr ?_
        refine pu rfl rfl rfl rfl rfl ?_
        refine dn ?_
        have K334 := ((Ky299.st p328 rfl).st p332 rfl)
        exact re rfl Tryz.func5 rfl (r_t rfl r_nil) rfl ⟨_, rfl, rfl, z.ky K334⟩
       ·
        refine sk ?_
        refine sq ?_
        refine sr ?_
        refine pu rfl rfl rfl rfl rfl ?_
        refine pu rfl rfl rfl rfl rfl ?_
        refine pu rfl rfl rfl rfl rfl ?_
        refine dn ?_
        refine cd rfl (fun h335 => ?_) (fun h335 => ?_)
        ·
         refine sr ?_
         refine pu rfl rfl rfl rfl rfl ?_
         refine dn ?_
         have K336 := ((Ky299.st p328 rfl).st p332 rfl)
         exact re rfl Tryz.func5 rfl (r_t rfl r_nil) rfl ⟨_, rfl, rfl, z.ky K336⟩
        ·
         refine sk ?_
         refine sq ?_
         refine zdraw [[], [0], [], [], [], [4, 1], [], [1, 2, 3, 5, 6, 5], [7], [8], [8], [], [11, 9, 7, 0, 1, 2, 3, 4, 5, 6, 7, 8, 9, 11], [10, 12, 0, 1, 2, 3, 4, 5, 6, 7, 8, 9, 10, 11, 12]] [some 107, some 108, some 109, some 110, some 111, some 112, some 113, some 114, some 106, some 115, some 116, some 21, none, some 22] [[5], [107], [1], [2], [8], [111], [4], [108, 109, 110, 112, 113], [114], [106], [106], [], [21, 115], [116]] [0, 1, 2, 3, 4, 5, 6, 7, 8, 9, 12, 10, 11, 13] ⟨by kernel_rfl, by kernel_rfl, by kernel_rfl⟩ (by kernel_rfl) (fun s337 p337 l337 tb337 zd337 => ?_)
         have A338 := (BlF.st (BlF.st (BlF.st By299_b4 p328 rfl) p332 rfl) p337 rfl)
         have zd339 := zd337.add 0 107 (.agg #[w0_0]) rfl
         have zd340 := zd339.add 2 109 (.int .i64 a1) rfl
         have zd341 := zd340.add 3 110 (.int .i64 a2) rfl
         have A342 := (BlF.st (BlF.st (BlF.st By299_b6 p328 rfl) p332 rfl) p337 rfl)
         have zd343 := zd341.add 4 111 (.agg #[(.int .i64 a3.Xmin), (.int .i64 a3.Xmax), (.int .i64 a3.Key.Kind), (.int .i64 a3.Key.N), w3_0, w3_1, (.int .i64 a3.Value.Kind), (.int .i64 a3.Value.N), w3_2, w3_3]) rfl
         have zd344 := zd343.add 6 113 (.int .i64 a4) rfl
         refine ji [13] (fun (y345 : (List Page) × Bool) (e : Env) (w : World) => ∃ (s : St) (e0 : Env) (vy345_0 : Value) (by345_0 : Nat), w = s.w ∧ e = upd (upd (upd (upd (upd (upd e0 12 (.pointer (some ⟨by31_0, 0, none⟩))) 13 (.bool y31.2)) 16 (.pointer (some ⟨b225, 0, none⟩))) 19 (.int .i64 r327.1)) 21 (.pointer (some ⟨by345_0, 0, none⟩))) 116 (.bool y345.2) ∧ Kp s0 s ∧ OwF (Kd.sl 142 kd142) s [vy345_0] y345.1 81 ∧ BlF s b225 46 [v222_0] 68 ∧ BlF s by31_0 46 [vy31_0] 45 ∧ BlF s by345_0 46 [vy345_0] 82 ∧ OwF (Kd.sl 142 kd142) s [v222_0] r327.2 67 ∧ OwF (Kd.sl 142 kd142) s [vy31_0] y31.1 44) (fun Gj345 Kj345 => ?_) ?_
         ·
          have A348 := (BlF.st (BlF.st (BlF.st By299_b4 p328 rfl) p332 rfl) p337 rfl)
          have A349 := (BlF.st (BlF.st (BlF.st By299_b6 p328 rfl) p332 rfl) p337 rfl)
          refine zstep2 1 11 [some 113, some 111, some 110, some 109] [some 113, some 111, some 110, some 109, some 107] tb337 zd344 (pq_cons (pu_q rfl rfl rfl rfl rfl rfl) rfl (pq_cons (lda_q (es := [(.int .i64 a3.Xmin), (.int .i64 a3.Xmax), (.int .i64 a3.Key.Kind), (.int .i64 a3.Key.N), w3_0, w3_1, (.int .i64 a3.Value.Kind), (.int .i64 a3.Value.N), w3_2, w3_3]) A349 Tryz.underlying54 z54 rfl rfl rfl rfl rfl rfl rfl rfl) rfl (pq_cons (pu_q rfl rfl rfl rfl rfl rfl) rfl (pq_cons (pu_q rfl rfl rfl rfl rfl rfl) rfl (pq_cons (lda_q (es := [w0_0]) A348 Tryz.underlying42 z42 rfl rfl rfl rfl rfl rfl rfl rfl) rfl pq_nil))))) (by kernel_rfl) (by kernel_rfl) (fun l346 e346 zd346 => ?_) (fun l347 e347 zd347 => ?_)
          ·
           have K350 := (((Ky299.st p328 rfl).st p332 rfl).st p337 rfl)
           have A351 := (A0_0.kp K350)
           refine cl rfl rfl rfl rfl rfl Tryz.func23 rfl rfl rfl (fun r352 m352 => laws_toHeap.calls a0 s337.w (fun b => memb [0] (s337.g b) = true) w0_0 A351 r352 m352) ?_
           rintro r352 _ w352 m352 ⟨v352_0, rfl, f352_0, ky352⟩
           obtain ⟨s353, rfl, p353, n353⟩ := nwx s337 w352 83 ky352
           have A352_0 := f352_0.c n353
           obtain ⟨os352_0, ho352_0, hn352_0, hc352_0⟩ := A352_0
           obtain ⟨u352_0_0, qu352_0_0, e352_0, eo352_0, hu352_0_0⟩ := po46 ho352_0
           have yu352_0_0 : v352_0 = u352_0_0 := congrArg (fun l => (List.drop 0 l).headD undef) e352_0
           subst yu352_0_0
           subst eo352_0
           have Au352_0_0 : OwF (Kd.sl 142 kd142) s353 [v352_0] r352.Pages 83 := sp1 hu352_0_0 hn352_0 hc352_0
           refine zdone (L' := [6, 4, 3, 2]) (D' := [0, 1]) zd346 rfl rfl rfl (fun zd355 => ?_)
           have A358 := (BlF.st (BlF.st (BlF.st (BlF.st By299_b6 p328 rfl) p332 rfl) p337 rfl) p353 rfl)
           refine zstep2 5 11 [some 113, some 110, some 109] [some 113, some 111, some 110, some 109] tb337 zd355 (pq_cons (pu_q rfl rfl rfl rfl rfl rfl) rfl (pq_cons (lda_q (es := [(.int .i64 a3.Xmin), (.int .i64 a3.Xmax), (.int .i64 a3.Key.Kind), (.int .i64 a3.Key.N), w3_0, w3_1, (.int .i64 a3.Value.Kind), (.int .i64 a3.Value.N), w3_2, w3_3]) A358 Tryz.underlying54 z54 rfl rfl rfl rfl rfl rfl rfl rfl) rfl (pq_cons (pu_q rfl rfl rfl rfl rfl rfl) rfl (pq_cons (pu_q rfl rfl rfl rfl rfl rfl) rfl pq_nil)))) (by kernel_rfl) (by kernel_rfl) (fun l356 e356 zd356 => ?_) (fun l357 e357 zd357 => ?_)
           ·
            have K359 := (K350.st p353 rfl)
            have A360 := (A3_1.kp K359)
            have A361 := (A3_3.kp K359)
            refine cl rfl rfl rfl rfl rfl Tryz.func30 rfl rfl rfl (fun r362 m362 => laws_toTuple.calls a3 s353.w (fun b => memb [0] (s353.g b) = true) w3_0 w3_1 w3_2 w3_3 ((fl_rdf (s := s353) A3_0).sub (D := [0]) rfl) A360 ((fl_rdf (s := s353) A3_2).sub (D := [0]) rfl) A361 r362 m362) ?_
            rintro r362 _ w362 m362 ⟨v362_0, v362_1, v362_2, v362_3, rfl, f362_0, ky362⟩
            obtain ⟨s363, rfl, p363, n363⟩ := nwx s353 w362 84 ky362
            have A362_0 := f362_0.c n363
            obtain ⟨os362_0, ho362_0, hn362_0, hc362_0⟩ := A362_0
            obtain ⟨u362_0_0, u362_0_1, u362_0_2, u362_0_3, qu362_0_1, qu362_0_3, e362_0, eo362_0, hu362_0_0, hu362_0_1, hu362_0_2, hu362_0_3⟩ := po58 ho362_0
            have yu362_0_0 : v362_0 = u362_0_0 := congrArg (fun l => (List.drop 4 l).headD undef) e362_0
            have yu362_0_1 : v362_1 = u362_0_1 := congrArg (fun l => (List.drop 5 l).headD undef) e362_0
            have yu362_0_2 : v362_2 = u362_0_2 := congrArg (fun l => (List.drop 8 l).headD undef) e362_0
            have yu362_0_3 : v362_3 = u362_0_3 := congrArg (fun l => (List.drop 9 l).headD undef) e362_0
            subst yu362_0_0
            subst yu362_0_1
            subst yu362_0_2
            subst yu362_0_3
            subst eo362_0
            obtain ⟨s364, hw364, p364, Au362_0_1, hn364, hc364⟩ := sp2 85 hu362_0_1 hn362_0 hc362_0 rfl
            rw [hw364]
            have Au362_0_3 : OwF (Kd.sl 5 (Kd.int .u8)) s364 [v362_3] r362.Value.T 85 := sp1 (hw364 ▸ hu362_0_3) hn364 hc364
            refine zdone (L' := [6, 3, 2]) (D' := [4, 5, 0, 1]) zd356 rfl rfl rfl (fun zd367 => ?_)
            refine zstep2 7 11 [] [some 113, some 110, some 109] tb337 zd367 (pq_cons (pu_q rfl rfl rfl rfl rfl rfl) rfl (pq_cons (pu_q rfl rfl rfl rfl rfl rfl) rfl (pq_cons (pu_q rfl rfl rfl rfl rfl rfl) rfl pq_nil))) (by kernel_rfl) (by kernel_rfl) (fun l368 e368 zd368 => ?_) (fun l369 e369 zd369 => ?_)
            ·
             have A370 := ((Au352_0_0.st p363 rfl).st p364 rfl)
             refine cl rfl rfl rfl rfl rfl Tryz.func31 rfl rfl rfl (fun r371 m371 => impl_HeapPut.calls r352 a1 a2 r362 a4 s364.w (fun b => memb [83, 84, 85] (s364.g b) = true) v352_0 v362_0 v362_1 v362_2 v362_3 (A370.rd.sub (D := [83, 84, 85]) rfl) ((fl_rdf (s := s364) hu362_0_0).sub (D := [83, 84, 85]) rfl) (Au362_0_1.rd.sub (D := [83, 84, 85]) rfl) ((fl_rdf (s := s364) hu362_0_2).sub (D := [83, 84, 85]) rfl) (Au362_0_3.rd.sub (D := [83, 84, 85]) rfl) r371 m371) ?_
             rintro r371 _ w371 m371 ⟨v371_0, rfl, f371_0, ky371⟩
             obtain ⟨s372, rfl, p372, n372⟩ := nwx s364 w371 86 ky371
             have A371_0 := f371_0.c n372
             obtain ⟨os371_0, ho371_0, hn371_0, hc371_0⟩ := A371_0
             obtain ⟨u371_0_0, qu371_0_0, e371_0, eo371_0, hu371_0_0⟩ := po46 ho371_0
             have yu371_0_0 : v371_0 = u371_0_0 := congrArg (fun l => (List.drop 0 l).headD undef) e371_0
             subst yu371_0_0
             subst eo371_0
             have Au371_0_0 : OwF (Kd.sl 142 kd142) s372 [v371_0] r371.1.Pages 86 := sp1 hu371_0_0 hn371_0 hc371_0
             refine zdone (L' := []) (D' := [2, 3, 6, 7, 4, 5, 0, 1]) zd368 rfl rfl rfl (fun zd374 => ?_)
             have zd375 := zd374.add 8 106 (.tuple #[(.agg #[v371_0]), (.bool r371.2)]) rfl
             have zd376 := zd375.add 9 115 (.agg #[v371_0]) rfl
             have zd377 := zd376.add 10 116 (.bool r371.2) rfl
             refine zstep 11 [some 116, some 115, some 106] tb337 zd377 (pq_cons (pu_q (v := (.bool r371.2)) rfl rfl rfl rfl rfl rfl) rfl (pq_cons (pu_q (v := (.agg #[v371_0])) rfl rfl rfl rfl rfl rfl) rfl (pq_cons (pu_q rfl rfl rfl rfl rfl rfl) rfl pq_nil))) (by kernel_rfl) rfl (fun l378 e378 zd378 => ?_)
             refine al (cs := [(.slice none 0 0)]) 87 rfl rfl rfl rfl rfl o46 rfl (fun b379 s379 p379 B379 => ?_)
             refine zdone (L' := [10, 9, 8]) (D' := [11, 2, 3, 6, 7, 4, 5, 0, 1]) zd378 rfl rfl rfl (fun zd381 => ?_)
             refine zstep 12 [some 116] tb337 zd381 (pq_cons (pu_q (v := (.bool r371.2)) rfl rfl rfl rfl rfl rfl) rfl (pq_cons (pu_q (v := (.agg #[v371_0])) rfl rfl rfl rfl rfl rfl) rfl (pq_cons (pu_q rfl rfl rfl rfl rfl rfl) rfl pq_nil))) (by kernel_rfl) rfl (fun l382 e382 zd382 => ?_)
             have A383 := (Au371_0_0.st p379 rfl)
             refine sva (vs := [v371_0]) B379 z46 rfl rfl rfl rfl rfl rfl (on_cons A383.rd.one on_nil) rfl (fun s384 p384 B384 => ?_)
             refine zdone0 (L' := [10]) (D' := [9, 8, 9, 12, 11, 2, 3, 6, 7, 4, 5, 0, 1]) zd382 rfl rfl rfl (fun zd386 => ?_)
             refine zfin [13] tb337 zd386 (pq_cons (pu_q (v := (.bool r371.2)) rfl rfl rfl rfl rfl rfl) rfl pq_nil) (by kernel_rfl) (by decide) ?_
             obtain ⟨s387, hw387, p387, D387⟩ := BlF.rc B384 82 rfl
             rw [hw387]
             have A389 := ((A383.st p384 rfl).st p387 rfl)
             obtain ⟨s390, hw390, p390, A390⟩ := A389.rc 81 rfl
             rw [hw390]
             have A391 := (BlF.st (BlF.st (BlF.st (BlF.st (BlF.st (BlF.st (BlF.st (BlF.st (BlF.st (BlF.st A330 p332 rfl) p337 rfl) p353 rfl) p363 rfl) p364 rfl) p372 rfl) p379 rfl) p384 rfl) p387 rfl) p390 rfl)
             have A392 := (BlF.st (BlF.st (BlF.st (BlF.st (BlF.st (BlF.st (BlF.st (BlF.st (BlF.st (BlF.st (BlF.st By299_by31_0 p328 rfl) p332 rfl) p337 rfl) p353 rfl) p363 rfl) p364 rfl) p372 rfl) p379 rfl) p384 rfl) p387 rfl) p390 rfl)
             have A393 := (BlF.st D387 p390 rfl)
             have A394 := ((((((((((A328.st p332 rfl).st p337 rfl).st p353 rfl).st p363 rfl).st p364 rfl).st p372 rfl).st p379 rfl).st p384 rfl).st p387 rfl).st p390 rfl)
             have A395 := (((((((((((Cy299_190.st p328 rfl).st p332 rfl).st p337 rfl).st p353 rfl).st p363 rfl).st p364 rfl).st p372 rfl).st p379 rfl).st p384 rfl).st p387 rfl).st p390 rfl)
             have K396 := (((((((K359.st p363 rfl).st p364 rfl).st p372 rfl).st p379 rfl).st p384 rfl).st p387 rfl).st p390 rfl)
             exact Kj345 _ _ _ ⟨s390, _, v371_0, b379, rfl, (ue (ue (ue (ue (ue (ue rfl rfl) rfl) rfl) rfl) rfl) rfl), K396, A390, A391, A392, A393, A394, A395⟩
            ·
             refine al (cs := [(.slice none 0 0)]) 88 rfl rfl rfl rfl rfl o46 rfl (fun b397 s397 p397 B397 => ?_)
             refine zdone (L' := [6, 3, 2]) (D' := [11, 4, 5, 0, 1]) zd369 rfl rfl rfl (fun zd399 => ?_)
             refine zstep 7 [] tb337 zd399 (pq_cons (pu_q rfl rfl rfl rfl rfl rfl) rfl (pq_cons (pu_q rfl rfl rfl rfl rfl rfl) rfl (pq_cons (pu_q rfl rfl rfl rfl rfl rfl) rfl pq_nil))) (by kernel_rfl) rfl (fun l400 e400 zd400 => ?_)
             have A401 := (((Au352_0_0.st p363 rfl).st p364 rfl).st p397 rfl)
             have A402 := (Au362_0_1.st p397 rfl)
             have A403 := (Au362_0_3.st p397 rfl)
             refine cl rfl rfl rfl rfl rfl Tryz.func31 rfl rfl rfl (fun r404 m404 => impl_HeapPut.calls r352 a1 a2 r362 a4 s397.w (fun b => memb [83, 84, 85] (s397.g b) = true) v352_0 v362_0 v362_1 v362_2 v362_3 (A401.rd.sub (D := [83, 84, 85]) rfl) ((fl_rdf (s := s397) hu362_0_0).sub (D := [83, 84, 85]) rfl) (A402.rd.sub (D := [83, 84, 85]) rfl) ((fl_rdf (s := s397) hu362_0_2).sub (D := [83, 84, 85]) rfl) (A403.rd.sub (D := [83, 84, 85]) rfl) r404 m404) ?_
             rintro r404 _ w404 m404 ⟨v404_0, rfl, f404_0, ky404⟩
             obtain ⟨s405, rfl, p405, n405⟩ := nwx s397 w404 89 ky404
             have A404_0 := f404_0.c n405
             obtain ⟨os404_0, ho404_0, hn404_0, hc404_0⟩ := A404_0
             obtain ⟨u404_0_0, qu404_0_0, e404_0, eo404_0, hu404_0_0⟩ := po46 ho404_0
             have yu404_0_0 : v404_0 = u404_0_0 := congrArg (fun l => (List.drop 0 l).headD undef) e404_0
             subst yu404_0_0
             subst eo404_0
             have Au404_0_0 : OwF (Kd.sl 142 kd142) s405 [v404_0] r404.1.Pages 89 := sp1 hu404_0_0 hn404_0 hc404_0
             refine zdone (L' := []) (D' := [2, 3, 6, 7, 11, 4, 5, 0, 1]) zd400 rfl rfl rfl (fun zd407 => ?_)
             have zd408 := zd407.add 8 106 (.tuple #[(.agg #[v404_0]), (.bool r404.2)]) rfl
             have zd409 := zd408.add 9 115 (.agg #[v404_0]) rfl
             have zd410 := zd409.add 10 116 (.bool r404.2) rfl
             refine zstep 12 [some 116] tb337 zd410 (pq_cons (pu_q (v := (.bool r404.2)) rfl rfl rfl rfl rfl rfl) rfl (pq_cons (pu_q (v := (.agg #[v404_0])) rfl rfl rfl rfl rfl rfl) rfl (pq_cons (pu_q rfl rfl rfl rfl rfl rfl) rfl pq_nil))) (by kernel_rfl) rfl (fun l411 e411 zd411 => ?_)
             have A412 := (BlF.st B397 p405 rfl)
             refine sva (vs := [v404_0]) A412 z46 rfl rfl rfl rfl rfl rfl (on_cons Au404_0_0.rd.one on_nil) rfl (fun s413 p413 B413 => ?_)
             refine zdone0 (L' := [10]) (D' := [9, 8, 9, 12, 2, 3, 6, 7, 11, 4, 5, 0, 1]) zd411 rfl rfl rfl (fun zd415 => ?_)
             refine zfin [13] tb337 zd415 (pq_cons (pu_q (v := (.bool r404.2)) rfl rfl rfl rfl rfl rfl) rfl pq_nil) (by kernel_rfl) (by decide) ?_
             obtain ⟨s416, hw416, p416, D416⟩ := BlF.rc B413 82 rfl
             rw [hw416]
             have A418 := ((Au404_0_0.st p413 rfl).st p416 rfl)
             obtain ⟨s419, hw419, p419, A419⟩ := A418.rc 81 rfl
             rw [hw419]
             have A420 := (BlF.st (BlF.st (BlF.st (BlF.st (BlF.st (BlF.st (BlF.st (BlF.st (BlF.st (BlF.st A330 p332 rfl) p337 rfl) p353 rfl) p363 rfl) p364 rfl) p397 rfl) p405 rfl) p413 rfl) p416 rfl) p419 rfl)
             have A421 := (BlF.st (BlF.st (BlF.st (BlF.st (BlF.st (BlF.st (BlF.st (BlF.st (BlF.st (BlF.st (BlF.st By299_by31_0 p328 rfl) p332 rfl) p337 rfl) p353 rfl) p363 rfl) p364 rfl) p397 rfl) p405 rfl) p413 rfl) p416 rfl) p419 rfl)
             have A422 := (BlF.st D416 p419 rfl)
             have A423 := ((((((((((A328.st p332 rfl).st p337 rfl).st p353 rfl).st p363 rfl).st p364 rfl).st p397 rfl).st p405 rfl).st p413 rfl).st p416 rfl).st p419 rfl)
             have A424 := (((((((((((Cy299_190.st p328 rfl).st p332 rfl).st p337 rfl).st p353 rfl).st p363 rfl).st p364 rfl).st p397 rfl).st p405 rfl).st p413 rfl).st p416 rfl).st p419 rfl)
             have K425 := (((((((K359.st p363 rfl).st p364 rfl).st p397 rfl).st p405 rfl).st p413 rfl).st p416 rfl).st p419 rfl)
             exact Kj345 _ _ _ ⟨s419, _, v404_0, b397, rfl, (ue (ue (ue (ue (ue (ue rfl rfl) rfl) rfl) rfl) rfl) rfl), K425, A419, A420, A421, A422, A423, A424⟩
           ·
            refine al (cs := [(.slice none 0 0)]) 90 rfl rfl rfl rfl rfl o46 rfl (fun b426 s426 p426 B426 => ?_)
            refine zdone (L' := [6, 4, 3, 2]) (D' := [11, 0, 1]) zd357 rfl rfl rfl (fun zd428 => ?_)
            have A430 := (BlF.st (BlF.st (BlF.st (BlF.st (BlF.st By299_b6 p328 rfl) p332 rfl) p337 rfl) p353 rfl) p426 rfl)
            refine zstep 5 [some 113, some 110, some 109] tb337 zd428 (pq_cons (pu_q rfl rfl rfl rfl rfl rfl) rfl (pq_cons (lda_q (es := [(.int .i64 a3.Xmin), (.int .i64 a3.Xmax), (.int .i64 a3.Key.Kind), (.int .i64 a3.Key.N), w3_0, w3_1, (.int .i64 a3.Value.Kind), (.int .i64 a3.Value.N), w3_2, w3_3]) A430 Tryz.underlying54 z54 rfl rfl rfl rfl rfl rfl rfl rfl) rfl (pq_cons (pu_q rfl rfl rfl rfl rfl rfl) rfl (pq_cons (pu_q rfl rfl rfl rfl rfl rfl) rfl pq_nil)))) (by kernel_rfl) rfl (fun l429 e429 zd429 => ?_)
            have K431 := ((K350.st p353 rfl).st p426 rfl)
            have A432 := (A3_1.kp K431)
            have A433 := (A3_3.kp K431)
            refine cl rfl rfl rfl rfl rfl Tryz.func30 rfl rfl rfl (fun r434 m434 => laws_toTuple.calls a3 s426.w (fun b => memb [0] (s426.g b) = true) w3_0 w3_1 w3_2 w3_3 ((fl_rdf (s := s426) A3_0).sub (D := [0]) rfl) A432 ((fl_rdf (s := s426) A3_2).sub (D := [0]) rfl) A433 r434 m434) ?_
            rintro r434 _ w434 m434 ⟨v434_0, v434_1, v434_2, v434_3, rfl, f434_0, ky434⟩
            obtain ⟨s435, rfl, p435, n435⟩ := nwx s426 w434 91 ky434
            have A434_0 := f434_0.c n435
            obtain ⟨os434_0, ho434_0, hn434_0, hc434_0⟩ := A434_0
            obtain ⟨u434_0_0, u434_0_1, u434_0_2, u434_0_3, qu434_0_1, qu434_0_3, e434_0, eo434_0, hu434_0_0, hu434_0_1, hu434_0_2, hu434_0_3⟩ := po58 ho434_0
            have yu434_0_0 : v434_0 = u434_0_0 := congrArg (fun l => (List.drop 4 l).headD undef) e434_0
            have yu434_0_1 : v434_1 = u434_0_1 := congrArg (fun l => (List.drop 5 l).headD undef) e434_0
            have yu434_0_2 : v434_2 = u434_0_2 := congrArg (fun l => (List.drop 8 l).headD undef) e434_0
            have yu434_0_3 : v434_3 = u434_0_3 := congrArg (fun l => (List.drop 9 l).headD undef) e434_0
            subst yu434_0_0
            subst yu434_0_1
            subst yu434_0_2
            subst yu434_0_3
            subst eo434_0
            obtain ⟨s436, hw436, p436, Au434_0_1, hn436, hc436⟩ := sp2 92 hu434_0_1 hn434_0 hc434_0 rfl
            rw [hw436]
            have Au434_0_3 : OwF (Kd.sl 5 (Kd.int .u8)) s436 [v434_3] r434.Value.T 92 := sp1 (hw436 ▸ hu434_0_3) hn436 hc436
            refine zdone (L' := [6, 3, 2]) (D' := [4, 5, 11, 0, 1]) zd429 rfl rfl rfl (fun zd439 => ?_)
            refine zstep 7 [] tb337 zd439 (pq_cons (pu_q rfl rfl rfl rfl rfl rfl) rfl (pq_cons (pu_q rfl rfl rfl rfl rfl rfl) rfl (pq_cons (pu_q rfl rfl rfl rfl rfl rfl) rfl pq_nil))) (by kernel_rfl) rfl (fun l440 e440 zd440 => ?_)
            have A441 := (((Au352_0_0.st p426 rfl).st p435 rfl).st p436 rfl)
            refine cl rfl rfl rfl rfl rfl Tryz.func31 rfl rfl rfl (fun r442 m442 => impl_HeapPut.calls r352 a1 a2 r434 a4 s436.w (fun b => memb [83, 91, 92] (s436.g b) = true) v352_0 v434_0 v434_1 v434_2 v434_3 (A441.rd.sub (D := [83, 91, 92]) rfl) ((fl_rdf (s := s436) hu434_0_0).sub (D := [83, 91, 92]) rfl) (Au434_0_1.rd.sub (D := [83, 91, 92]) rfl) ((fl_rdf (s := s436) hu434_0_2).sub (D := [83, 91, 92]) rfl) (Au434_0_3.rd.sub (D := [83, 91, 92]) rfl) r442 m442) ?_
            rintro r442 _ w442 m442 ⟨v442_0, rfl, f442_0, ky442⟩
            obtain ⟨s443, rfl, p443, n443⟩ := nwx s436 w442 93 ky442
            have A442_0 := f442_0.c n443
            obtain ⟨os442_0, ho442_0, hn442_0, hc442_0⟩ := A442_0
            obtain ⟨u442_0_0, qu442_0_0, e442_0, eo442_0, hu442_0_0⟩ := po46 ho442_0
            have yu442_0_0 : v442_0 = u442_0_0 := congrArg (fun l => (List.drop 0 l).headD undef) e442_0
            subst yu442_0_0
            subst eo442_0
            have Au442_0_0 : OwF (Kd.sl 142 kd142) s443 [v442_0] r442.1.Pages 93 := sp1 hu442_0_0 hn442_0 hc442_0
            refine zdone (L' := []) (D' := [2, 3, 6, 7, 4, 5, 11, 0, 1]) zd440 rfl rfl rfl (fun zd445 => ?_)
            have zd446 := zd445.add 8 106 (.tuple #[(.agg #[v442_0]), (.bool r442.2)]) rfl
            have zd447 := zd446.add 9 115 (.agg #[v442_0]) rfl
            have zd448 := zd447.add 10 116 (.bool r442.2) rfl
            refine zstep 12 [some 116] tb337 zd448 (pq_cons (pu_q (v := (.bool r442.2)) rfl rfl rfl rfl rfl rfl) rfl (pq_cons (pu_q (v := (.agg #[v442_0])) rfl rfl rfl rfl rfl rfl) rfl (pq_cons (pu_q rfl rfl rfl rfl rfl rfl) rfl pq_nil))) (by kernel_rfl) rfl (fun l449 e449 zd449 => ?_)
            have A450 := (BlF.st (BlF.st (BlF.st B426 p435 rfl) p436 rfl) p443 rfl)
            refine sva (vs := [v442_0]) A450 z46 rfl rfl rfl rfl rfl rfl (on_cons Au442_0_0.rd.one on_nil) rfl (fun s451 p451 B451 => ?_)
            refine zdone0 (L' := [10]) (D' := [9, 8, 9, 12, 2, 3, 6, 7, 4, 5, 11, 0, 1]) zd449 rfl rfl rfl (fun zd453 => ?_)
            refine zfin [13] tb337 zd453 (pq_cons (pu_q (v := (.bool r442.2)) rfl rfl rfl rfl rfl rfl) rfl pq_nil) (by kernel_rfl) (by decide) ?_
            obtain ⟨s454, hw454, p454, D454⟩ := BlF.rc B451 82 rfl
            rw [hw454]
            have A456 := ((Au442_0_0.st p451 rfl).st p454 rfl)
            obtain ⟨s457, hw457, p457, A457⟩ := A456.rc 81 rfl
            rw [hw457]
            have A458 := (BlF.st (BlF.st (BlF.st (BlF.st (BlF.st (BlF.st (BlF.st (BlF.st (BlF.st (BlF.st A330 p332 rfl) p337 rfl) p353 rfl) p426 rfl) p435 rfl) p436 rfl) p443 rfl) p451 rfl) p454 rfl) p457 rfl)
            have A459 := (BlF.st (BlF.st (BlF.st (BlF.st (BlF.st (BlF.st (BlF.st (BlF.st (BlF.st (BlF.st (BlF.st By299_by31_0 p328 rfl) p332 rfl) p337 rfl) p353 rfl) p426 rfl) p435 rfl) p436 rfl) p443 rfl) p451 rfl) p454 rfl) p457 rfl)
            have A460 := (BlF.st D454 p457 rfl)
            have A461 := ((((((((((A328.st p332 rfl).st p337 rfl).st p353 rfl).st p426 rfl).st p435 rfl).st p436 rfl).st p443 rfl).st p451 rfl).st p454 rfl).st p457 rfl)
            have A462 := (((((((((((Cy299_190.st p328 rfl).st p332 rfl).st p337 rfl).st p353 rfl).st p426 rfl).st p435 rfl).st p436 rfl).st p443 rfl).st p451 rfl).st p454 rfl).st p457 rfl)
            have K463 := ((((((K431.st p435 rfl).st p436 rfl).st p443 rfl).st p451 rfl).st p454 rfl).st p457 rfl)
            exact Kj345 _ _ _ ⟨s457, _, v442_0, b426, rfl, (ue (ue (ue (ue (ue (ue rfl rfl) rfl) rfl) rfl) rfl) rfl), K463, A457, A458, A459, A460, A461, A462⟩
          ·
           refine al (cs := [(.slice none 0 0)]) 94 rfl rfl rfl rfl rfl o46 rfl (fun b464 s464 p464 B464 => ?_)
           refine zdone (L' := [6, 4, 3, 2, 0]) (D' := [11]) zd347 rfl rfl rfl (fun zd466 => ?_)
           have A468 := (BlF.st (BlF.st (BlF.st (BlF.st By299_b4 p328 rfl) p332 rfl) p337 rfl) p464 rfl)
           have A469 := (BlF.st (BlF.st (BlF.st (BlF.st By299_b6 p328 rfl) p332 rfl) p337 rfl) p464 rfl)
           refine zstep 1 [some 113, some 111, some 110, some 109] tb337 zd466 (pq_cons (pu_q rfl rfl rfl rfl rfl rfl) rfl (pq_cons (lda_q (es := [(.int .i64 a3.Xmin), (.int .i64 a3.Xmax), (.int .i64 a3.Key.Kind), (.int .i64 a3.Key.N), w3_0, w3_1, (.int .i64 a3.Value.Kind), (.int .i64 a3.Value.N), w3_2, w3_3]) A469 Tryz.underlying54 z54 rfl rfl rfl rfl rfl rfl rfl rfl) rfl (pq_cons (pu_q rfl rfl rfl rfl rfl rfl) rfl (pq_cons (pu_q rfl rfl rfl rfl rfl rfl) rfl (pq_cons (lda_q (es := [w0_0]) A468 Tryz.underlying42 z42 rfl rfl rfl rfl rfl rfl rfl rfl) rfl pq_nil))))) (by kernel_rfl) rfl (fun l467 e467 zd467 => ?_)
           have K470 := ((((Ky299.st p328 rfl).st p332 rfl).st p337 rfl).st p464 rfl)
           have A471 := (A0_0.kp K470)
           refine cl rfl rfl rfl rfl rfl Tryz.func23 rfl rfl rfl (fun r472 m472 => laws_toHeap.calls a0 s464.w (fun b => memb [0] (s464.g b) = true) w0_0 A471 r472 m472) ?_
           rintro r472 _ w472 m472 ⟨v472_0, rfl, f472_0, ky472⟩
           obtain ⟨s473, rfl, p473, n473⟩ := nwx s464 w472 95 ky472
           have A472_0 := f472_0.c n473
           obtain ⟨os472_0, ho472_0, hn472_0, hc472_0⟩ := A472_0
           obtain ⟨u472_0_0, qu472_0_0, e472_0, eo472_0, hu472_0_0⟩ := po46 ho472_0
           have yu472_0_0 : v472_0 = u472_0_0 := congrArg (fun l => (List.drop 0 l).headD undef) e472_0
           subst yu472_0_0
           subst eo472_0
           have Au472_0_0 : OwF (Kd.sl 142 kd142) s473 [v472_0] r472.Pages 95 := sp1 hu472_0_0 hn472_0 hc472_0
           refine zdone (L' := [6, 4, 3, 2]) (D' := [0, 1, 11]) zd467 rfl rfl rfl (fun zd475 => ?_)
           have A477 := (BlF.st (BlF.st (BlF.st (BlF.st (BlF.st By299_b6 p328 rfl) p332 rfl) p337 rfl) p464 rfl) p473 rfl)
           refine zstep 5 [some 113, some 110, some 109] tb337 zd475 (pq_cons (pu_q rfl rfl rfl rfl rfl rfl) rfl (pq_cons (lda_q (es := [(.int .i64 a3.Xmin), (.int .i64 a3.Xmax), (.int .i64 a3.Key.Kind), (.int .i64 a3.Key.N), w3_0, w3_1, (.int .i64 a3.Value.Kind), (.int .i64 a3.Value.N), w3_2, w3_3]) A477 Tryz.underlying54 z54 rfl rfl rfl rfl rfl rfl rfl rfl) rfl (pq_cons (pu_q rfl rfl rfl rfl rfl rfl) rfl (pq_cons (pu_q rfl rfl rfl rfl rfl rfl) rfl pq_nil)))) (by kernel_rfl) rfl (fun l476 e476 zd476 => ?_)
           have K478 := (K470.st p473 rfl)
           have A479 := (A3_1.kp K478)
           have A480 := (A3_3.kp K478)
           refine cl rfl rfl rfl rfl rfl Tryz.func30 rfl rfl rfl (fun r481 m481 => laws_toTuple.calls a3 s473.w (fun b => memb [0] (s473.g b) = true) w3_0 w3_1 w3_2 w3_3 ((fl_rdf (s := s473) A3_0).sub (D := [0]) rfl) A479 ((fl_rdf (s := s473) A3_2).sub (D := [0]) rfl) A480 r481 m481) ?_
           rintro r481 _ w481 m481 ⟨v481_0, v481_1, v481_2, v481_3, rfl, f481_0, ky481⟩
           obtain ⟨s482, rfl, p482, n482⟩ := nwx s473 w481 96 ky481
           have A481_0 := f481_0.c n482
           obtain ⟨os481_0, ho481_0, hn481_0, hc481_0⟩ := A481_0
           obtain ⟨u481_0_0, u481_0_1, u481_0_2, u481_0_3, qu481_0_1, qu481_0_3, e481_0, eo481_0, hu481_0_0, hu481_0_1, hu481_0_2, hu481_0_3⟩ := po58 ho481_0
           have yu481_0_0 : v481_0 = u481_0_0 := congrArg (fun l => (List.drop 4 l).headD undef) e481_0
           have yu481_0_1 : v481_1 = u481_0_1 := congrArg (fun l => (List.drop 5 l).headD undef) e481_0
           have yu481_0_2 : v481_2 = u481_0_2 := congrArg (fun l => (List.drop 8 l).headD undef) e481_0
           have yu481_0_3 : v481_3 = u481_0_3 := congrArg (fun l => (List.drop 9 l).headD undef) e481_0
           subst yu481_0_0
           subst yu481_0_1
           subst yu481_0_2
           subst yu481_0_3
           subst eo481_0
           obtain ⟨s483, hw483, p483, Au481_0_1, hn483, hc483⟩ := sp2 97 hu481_0_1 hn481_0 hc481_0 rfl
           rw [hw483]
           have Au481_0_3 : OwF (Kd.sl 5 (Kd.int .u8)) s483 [v481_3] r481.Value.T 97 := sp1 (hw483 ▸ hu481_0_3) hn483 hc483
           refine zdone (L' := [6, 3, 2]) (D' := [4, 5, 0, 1, 11]) zd476 rfl rfl rfl (fun zd486 => ?_)
           refine zstep 7 [] tb337 zd486 (pq_cons (pu_q rfl rfl rfl rfl rfl rfl) rfl (pq_cons (pu_q rfl rfl rfl rfl rfl rfl) rfl (pq_cons (pu_q rfl rfl rfl rfl rfl rfl) rfl pq_nil))) (by kernel_rfl) rfl (fun l487 e487 zd487 => ?_)
           have A488 := ((Au472_0_0.st p482 rfl).st p483 rfl)
           refine cl rfl rfl rfl rfl rfl Tryz.func31 rfl rfl rfl (fun r489 m489 => impl_HeapPut.calls r472 a1 a2 r481 a4 s483.w (fun b => memb [95, 96, 97] (s483.g b) = true) v472_0 v481_0 v481_1 v481_2 v481_3 (A488.rd.sub (D := [95, 96, 97]) rfl) ((fl_rdf (s := s483) hu481_0_0).sub (D := [95, 96, 97]) rfl) (Au481_0_1.rd.sub (D := [95, 96, 97]) rfl) ((fl_rdf (s := s483) hu481_0_2).sub (D := [95, 96, 97]) rfl) (Au481_0_3.rd.sub (D := [95, 96, 97]) rfl) r489 m489) ?_
           rintro r489 _ w489 m489 ⟨v489_0, rfl, f489_0, ky489⟩
           obtain ⟨s490, rfl, p490, n490⟩ := nwx s483 w489 98 ky489
           have A489_0 := f489_0.c n490
           obtain ⟨os489_0, ho489_0, hn489_0, hc489_0⟩ := A489_0
           obtain ⟨u489_0_0, qu489_0_0, e489_0, eo489_0, hu489_0_0⟩ := po46 ho489_0
           have yu489_0_0 : v489_0 = u489_0_0 := congrArg (fun l => (List.drop 0 l).headD undef) e489_0
           subst yu489_0_0
           subst eo489_0
           have Au489_0_0 : OwF (Kd.sl 142 kd142) s490 [v489_0] r489.1.Pages 98 := sp1 hu489_0_0 hn489_0 hc489_0
           refine zdone (L' := []) (D' := [2, 3, 6, 7, 4, 5, 0, 1, 11]) zd487 rfl rfl rfl (fun zd492 => ?_)
           have zd493 := zd492.add 8 106 (.tuple #[(.agg #[v489_0]), (.bool r489.2)]) rfl
           have zd494 := zd493.add 9 115 (.agg #[v489_0]) rfl
           have zd495 := zd494.add 10 116 (.bool r489.2) rfl
           refine zstep 12 [some 116] tb337 zd495 (pq_cons (pu_q (v := (.bool r489.2)) rfl rfl rfl rfl rfl rfl) rfl (pq_cons (pu_q (v := (.agg #[v489_0])) rfl rfl rfl rfl rfl rfl) rfl (pq_cons (pu_q rfl rfl rfl rfl rfl rfl) rfl pq_nil))) (by kernel_rfl) rfl (fun l496 e496 zd496 => ?_)
           have A497 := (BlF.st (BlF.st (BlF.st (BlF.st B464 p473 rfl) p482 rfl) p483 rfl) p490 rfl)
           refine sva (vs := [v489_0]) A497 z46 rfl rfl rfl rfl rfl rfl (on_cons Au489_0_0.rd.one on_nil) rfl (fun s498 p498 B498 => ?_)
           refine zdone0 (L' := [10]) (D' := [9, 8, 9, 12, 2, 3, 6, 7, 4, 5, 0, 1, 11]) zd496 rfl rfl rfl (fun zd500 => ?_)
           refine zfin [13] tb337 zd500 (pq_cons (pu_q (v := (.bool r489.2)) rfl rfl rfl rfl rfl rfl) rfl pq_nil) (by kernel_rfl) (by decide) ?_
           obtain ⟨s501, hw501, p501, D501⟩ := BlF.rc B498 82 rfl
           rw [hw501]
           have A503 := ((Au489_0_0.st p498 rfl).st p501 rfl)
           obtain ⟨s504, hw504, p504, A504⟩ := A503.rc 81 rfl
           rw [hw504]
           have A505 := (BlF.st (BlF.st (BlF.st (BlF.st (BlF.st (BlF.st (BlF.st (BlF.st (BlF.st (BlF.st A330 p332 rfl) p337 rfl) p464 rfl) p473 rfl) p482 rfl) p483 rfl) p490 rfl) p498 rfl) p501 rfl) p504 rfl)
           have A506 := (BlF.st (BlF.st (BlF.st (BlF.st (BlF.st (BlF.st (BlF.st (BlF.st (BlF.st (BlF.st (BlF.st By299_by31_0 p328 rfl) p332 rfl) p337 rfl) p464 rfl) p473 rfl) p482 rfl) p483 rfl) p490 rfl) p498 rfl) p501 rfl) p504 rfl)
           have A507 := (BlF.st D501 p504 rfl)
           have A508 := ((((((((((A328.st p332 rfl).st p337 rfl).st p464 rfl).st p473 rfl).st p482 rfl).st p483 rfl).st p490 rfl).st p498 rfl).st p501 rfl).st p504 rfl)
           have A509 := (((((((((((Cy299_190.st p328 rfl).st p332 rfl).st p337 rfl).st p464 rfl).st p473 rfl).st p482 rfl).st p483 rfl).st p490 rfl).st p498 rfl).st p501 rfl).st p504 rfl)
           have K510 := ((((((K478.st p482 rfl).st p483 rfl).st p490 rfl).st p498 rfl).st p501 rfl).st p504 rfl)
           exact Kj345 _ _ _ ⟨s504, _, v489_0, b464, rfl, (ue (ue (ue (ue (ue (ue rfl rfl) rfl) rfl) rfl) rfl) rfl), K510, A504, A505, A506, A507, A508, A509⟩
         rintro y345 _ _ ⟨s511, _, vy345_0, by345_0, rfl, rfl, Ky345, Ay345_0, By345_b225, By345_by31_0, Dy345_0, Cy345_329, Cy345_190⟩
         refine pu rfl rfl rfl rfl rfl ?_
         refine dn ?_
         refine sq ?_
         refine sr ?_
         refine lda (es := [vy345_0]) Dy345_0 Tryz.underlying46 z46 rfl rfl rfl rfl rfl rfl rfl rfl ?_
         refine lda (es := [vy31_0]) By345_by31_0 Tryz.underlying46 z46 rfl rfl rfl rfl rfl rfl rfl rfl ?_
         refine cl rfl rfl rfl rfl rfl Tryz.func25 rfl rfl rfl (fun r516 m516 => laws_eqHeap.calls (Heap.mk y345.1) (Heap.mk y31.1) s511.w (fun b => memb [81, 44] (s511.g b) = true) vy345_0 vy31_0 (Ay345_0.rd.sub (D := [81, 44]) rfl) (Cy345_190.rd.sub (D := [81, 44]) rfl) r516 m516) ?_
         rintro r516 _ w516 m516 ⟨rfl, ky516⟩
         obtain ⟨s517, rfl, p517, n517⟩ := nwx s511 w516 99 ky516
         refine pu rfl rfl rfl rfl rfl ?_
         refine pu rfl rfl rfl rfl rfl ?_
         refine jy [121, 122, 123, 124, 125] [] 125 (.bool ((!r516) || (!(y345.2 == y31.2)))) rfl (fun Kg518 => ?_) (fun j518 => ?_)
         ·
          rcases Bool.eq_false_or_eq_true (!r516) with hb518 | hb518
          ·
           refine sbT hb518 ?_
           refine uw rfl rfl rfl rfl ?_
           refine uw rfl rfl rfl rfl ?_
           refine uw rfl rfl rfl rfl ?_
           refine pu rfl rfl rfl rfl rfl ?_
           exact Kg518 _ (Ag.put ((Ag.put ((Ag.put ((Ag.put (Ag.base rfl) rfl)) rfl)) rfl)) rfl) (by rw [hb518]; rfl)
          ·
           refine sbT hb518 ?_
           refine pu rfl rfl rfl rfl rfl ?_
           refine pu rfl rfl rfl rfl rfl ?_
           refine bne_ Tryz.underlying4 rfl rfl rfl rfl rfl rfl rfl ?_
           refine pu rfl rfl rfl rfl rfl ?_
           exact Kg518 _ (Ag.put ((Ag.put ((Ag.put ((Ag.put (Ag.base rfl) rfl)) rfl)) rfl)) rfl) (by rw [hb518]; rfl)
         refine dn ?_
         refine cd rfl (fun h519 => ?_) (fun h519 => ?_)
         ·
          refine sr ?_
          refine pu rfl rfl rfl rfl rfl ?_
          refine dn ?_
          have K520 := (Ky345.st p517 rfl)
          exact re rfl Tryz.func5 rfl (r_t rfl r_nil) rfl ⟨_, rfl, rfl, z.ky K520⟩
         ·
          refine sk ?_
          refine sr ?_
          refine pu rfl rfl rfl rfl rfl ?_
          refine dn ?_
          refine sr ?_
          have A521 := (BlF.st By345_b225 p517 rfl)
          refine lda (es := [v222_0]) A521 Tryz.underlying46 z46 rfl rfl rfl rfl rfl rfl rfl rfl ?_
          refine pu rfl rfl rfl rfl rfl ?_
          have A522 := (Cy345_329.st p517 rfl)
          refine cl rfl rfl rfl rfl rfl Tryz.func27 rfl rfl rfl (fun r523 m523 => laws_heldHeap.calls (Heap.mk r327.2) (1 : Int) s517.w (fun b => memb [67] (s517.g b) = true) v222_0 A522.rd r523 m523) ?_
          rintro r523 _ w523 m523 ⟨rfl, ky523⟩
          obtain ⟨s524, rfl, p524, n524⟩ := nwx s517 w523 100 ky523
          refine pu rfl rfl rfl rfl rfl ?_
          refine dn ?_
          refine sq ?_
          refine sr ?_
          refine pu rfl rfl rfl rfl rfl ?_
          refine pu rfl rfl rfl rfl rfl ?_
          refine dn ?_
          refine cd rfl (fun h525 => ?_) (fun h525 => ?_)
          ·
           refine sr ?_
           refine pu rfl rfl rfl rfl rfl ?_
           refine dn ?_
           have K526 := ((Ky345.st p517 rfl).st p524 rfl)
           exact re rfl Tryz.func5 rfl (r_t rfl r_nil) rfl ⟨_, rfl, rfl, z.ky K526⟩
          ·
           refine sk ?_
           refine sq ?_
           refine sr ?_
           refine pu rfl rfl rfl rfl rfl ?_
           refine pu rfl rfl rfl rfl rfl ?_
           refine pu rfl rfl rfl rfl rfl ?_
           refine dn ?_
           refine cd rfl (fun h527 => ?_) (fun h527 => ?_)
           ·
            refine sr ?_
            refine pu rfl rfl rfl rfl rfl ?_
            refine dn ?_
            have K528 := ((Ky345.st p517 rfl).st p524 rfl)
            exact re rfl Tryz.func5 rfl (r_t rfl r_nil) rfl ⟨_, rfl, rfl, z.ky K528⟩
           ·
            refine sk ?_
            refine sr ?_
            refine pu rfl rfl rfl rfl rfl ?_
            refine dn ?_
            have K529 := ((Ky345.st p517 rfl).st p524 rfl)
            exact re rfl Tryz.func5 rfl (r_t rfl r_nil) rfl ⟨_, rfl, rfl, z.ky K529⟩
end Go.Proofs.YtcagjdngannneaaGreat
