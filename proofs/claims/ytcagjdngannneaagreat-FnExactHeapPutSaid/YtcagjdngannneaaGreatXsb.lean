/- The functions as models, and that the calls come to what the models tell. -/
import Derived.Test.YtcagjdngannneaaGreatXsa
set_option linter.unusedVariables false
set_option linter.unusedSimpArgs false
namespace Go.Proofs.YtcagjdngannneaaGreat
open Go V
noncomputable def spec_TupleRead.f (a0 : (List Int)) : Option (Tuple × Bool) :=
 (if ((decide ((a0.length : Int) < (10 : Int))) || (decide ((a0.length : Int) > (92 : Int)))) = true then (some ((Tuple.mk (0 : Int) (0 : Int) (Item.mk (0 : Int) (0 : Int) (0 : Nat) ([] : (List Int))) (Item.mk (0 : Int) (0 : Int) (0 : Nat) ([] : (List Int)))), false)) else ((spec_GetNum.f a0 (0 : Int) (4 : Int)).bind fun r16 => ((spec_GetNum.f a0 (4 : Int) (4 : Int)).bind fun r23 => (if 0 ≤ (8 : Int) ∧ (8 : Int) < (a0.length : Int) then (if (decide ((IntKind.wrap .i64 (at_ a0 (8 : Int))) > (IntKind.wrap .i64 ((a0.length : Int) - (10 : Int))))) = true then (some ((Tuple.mk (0 : Int) (0 : Int) (Item.mk (0 : Int) (0 : Int) (0 : Nat) ([] : (List Int))) (Item.mk (0 : Int) (0 : Int) (0 : Nat) ([] : (List Int)))), false)) else (if 0 ≤ (9 : Int) ∧ (9 : Int) ≤ (IntKind.wrap .i64 ((9 : Int) + (IntKind.wrap .i64 (at_ a0 (8 : Int))))) ∧ (IntKind.wrap .i64 ((9 : Int) + (IntKind.wrap .i64 (at_ a0 (8 : Int))))) ≤ (a0.length : Int) then ((spec_KeyRead.f ((a0.take ((IntKind.wrap .i64 ((9 : Int) + (IntKind.wrap .i64 (at_ a0 (8 : Int)))))).toNat).drop ((9 : Int)).toNat)).bind fun r41 => (if 0 ≤ (IntKind.wrap .i64 ((10 : Int) + (IntKind.wrap .i64 (at_ a0 (8 : Int))))) ∧ (IntKind.wrap .i64 ((10 : Int) + (IntKind.wrap .i64 (at_ a0 (8 : Int))))) ≤ (a0.length : Int) then ((spec_ValueRead.f (a0.drop ((IntKind.wrap .i64 ((10 : Int) + (IntKind.wrap .i64 (at_ a0 (8 : Int)))))).toNat)).bind fun r53 => ((if (!r41.2) = true then (some true) else ((if (!r53.2) = true then (some true) else ((spec_TupleBytes.f (Tuple.mk r16.1 r23.1 r41.1 r53.1)).bind fun r116 => (some (!((str r116).toList == (str a0).toList))))).bind fun y93 => (some y93))).bind fun y74 => (if y74 = true then (some ((Tuple.mk (0 : Int) (0 : Int) (Item.mk (0 : Int) (0 : Int) (0 : Nat) ([] : (List Int))) (Item.mk (0 : Int) (0 : Int) (0 : Nat) ([] : (List Int)))), false)) else (some ((Tuple.mk r16.1 r23.1 r41.1 r53.1), true))))) else none)) else none)) else none))))
def spec_TupleRead.Q (w : World) (F : Nat → Prop) (r : Tuple × Bool) (v : Value) (w' : World) : Prop :=
 ∃ (v0 : Value) (v1 : Value) (v2 : Value) (v3 : Value), v = .tuple #[(.agg #[(.int .i64 r.1.Xmin), (.int .i64 r.1.Xmax), (.int .i64 r.1.Key.Kind), (.int .i64 r.1.Key.N), v0, v1, (.int .i64 r.1.Value.Kind), (.int .i64 r.1.Value.N), v2, v3]), (.bool r.2)] ∧ FO kd58 w w' [(.int .i64 r.1.Xmin), (.int .i64 r.1.Xmax), (.int .i64 r.1.Key.Kind), (.int .i64 r.1.Key.N), v0, v1, (.int .i64 r.1.Value.Kind), (.int .i64 r.1.Value.N), v2, v3] r.1 ∧ Ky [] w w'
set_option maxHeartbeats 4000000 in
set_option maxRecDepth 100000 in
theorem spec_TupleRead.calls (a0 : (List Int)) (w : World) (F : Nat → Prop) (w0_0 : Value) (h0_0 : (Kd.sl 5 (Kd.int .u8)).rd w [w0_0] a0 F) (r : Tuple × Bool) (m : spec_TupleRead.f a0 = some r) :
  Calls Tryz.prog 183 #[w0_0] w fun en w' => ∃ v, en = .returned v ∧ spec_TupleRead.Q w F r v w' := by
 obtain ⟨s0, rfl, kp0, z⟩ := start0 w F
 have A0_0 := z.rd h0_0
 refine calls_of_TM (args := [w0_0]) (R := fun r en w' => ∃ v, en = .returned v ∧ spec_TupleRead.Q s0.w F r v w') Tryz.func183 Tryz.ntmps183 rfl rfl m ?_
 unfold spec_TupleRead.f
 refine sr ?_
 refine al (cs := [(.int .i64 (0 : Int)), (.int .i64 (0 : Int)), (.int .i64 (0 : Int)), (.int .i64 (0 : Int)), (.float .f64 0), (.slice none 0 0), (.int .i64 (0 : Int)), (.int .i64 (0 : Int)), (.float .f64 0), (.slice none 0 0)]) 40 rfl rfl rfl rfl rfl o58 rfl (fun b2 s2 p2 B2 => ?_)
 refine pu rfl rfl rfl rfl rfl ?_
 refine dn ?_
 refine sr ?_
 refine al (cs := [(.int .i64 (0 : Int)), (.int .i64 (0 : Int)), (.int .i64 (0 : Int)), (.int .i64 (0 : Int)), (.float .f64 0), (.slice none 0 0), (.int .i64 (0 : Int)), (.int .i64 (0 : Int)), (.float .f64 0), (.slice none 0 0)]) 41 rfl rfl rfl rfl rfl o58 rfl (fun b4 s4 p4 B4 => ?_)
 refine dn ?_
 refine sq ?_
 refine sr ?_
 refine mv w0_0 rfl rfl rfl rfl rfl rfl ?_
 have K6 := ((kp0.st p2 rfl).st p4 rfl)
 have A7 := (A0_0.kp K6)
 refine ln A7 Tryz.underlying24 rfl rfl rfl rfl rfl rfl ?_
 refine pu rfl rfl rfl rfl rfl ?_
 refine pu rfl rfl rfl rfl rfl ?_
 refine jy [13, 14, 15, 16, 17] [] 17 (.bool ((decide ((a0.length : Int) < (10 : Int))) || (decide ((a0.length : Int) > (92 : Int))))) rfl (fun Kg8 => ?_) (fun j8 => ?_)
 ·
  rcases Bool.eq_false_or_eq_true (decide ((a0.length : Int) < (10 : Int))) with hb8 | hb8
  ·
   refine sbT hb8 ?_
   refine uw rfl rfl rfl rfl ?_
   refine uw rfl rfl rfl rfl ?_
   refine uw rfl rfl rfl rfl ?_
   refine pu rfl rfl rfl rfl rfl ?_
   exact Kg8 _ (Ag.put ((Ag.put ((Ag.put ((Ag.put (Ag.base rfl) rfl)) rfl)) rfl)) rfl) (by rw [hb8]; rfl)
  ·
   refine sbT hb8 ?_
   refine mv w0_0 rfl rfl rfl rfl rfl rfl ?_
   refine ln A7 Tryz.underlying24 rfl rfl rfl rfl rfl rfl ?_
   refine pu rfl rfl rfl rfl rfl ?_
   refine pu rfl rfl rfl rfl rfl ?_
   exact Kg8 _ (Ag.put ((Ag.put ((Ag.put ((Ag.put (Ag.base rfl) rfl)) rfl)) rfl)) rfl) (by rw [hb8]; rfl)
 refine dn ?_
 refine cd rfl (fun h9 => ?_) (fun h9 => ?_)
 ·
  refine sr ?_
  refine lda (es := [(.int .i64 (0 : Int)), (.int .i64 (0 : Int)), (.int .i64 (0 : Int)), (.int .i64 (0 : Int)), (.float .f64 0), (.slice none 0 0), (.int .i64 (0 : Int)), (.int .i64 (0 : Int)), (.float .f64 0), (.slice none 0 0)]) B4 Tryz.underlying58 z58 rfl rfl rfl rfl rfl rfl rfl rfl ?_
  have A10 := (BlF.st B2 p4 rfl)
  refine sva (vs := [(.int .i64 (0 : Int)), (.int .i64 (0 : Int)), (.int .i64 (0 : Int)), (.int .i64 (0 : Int)), (.float .f64 0), (.slice none 0 0), (.int .i64 (0 : Int)), (.int .i64 (0 : Int)), (.float .f64 0), (.slice none 0 0)]) A10 z58 rfl rfl rfl rfl rfl rfl (on_cons rfl (on_cons rfl (on_cons rfl (on_cons rfl (on_cons (FL.one (fl_c rfl)) (on_cons rfl (on_cons rfl (on_cons rfl (on_cons (FL.one (fl_c rfl)) (on_cons rfl on_nil)))))))))) rfl (fun s11 p11 B11 => ?_)
  refine pu rfl rfl rfl rfl rfl ?_
  refine dn ?_
  have A13 : OwF kd58 s11 [(.int .i64 (0 : Int)), (.int .i64 (0 : Int)), (.int .i64 (0 : Int)), (.int .i64 (0 : Int)), (.float .f64 0), (.slice none 0 0), (.int .i64 (0 : Int)), (.int .i64 (0 : Int)), (.float .f64 0), (.slice none 0 0)] (Tuple.mk (0 : Int) (0 : Int) (Item.mk (0 : Int) (0 : Int) (0 : Nat) ([] : (List Int))) (Item.mk (0 : Int) (0 : Int) (0 : Nat) ([] : (List Int)))) 42 := ow_z _ _ (fz_iso (fun x : Tuple => (x.Xmin, x.Xmax, x.Key, x.Value)) (Tuple.mk (0 : Int) (0 : Int) (Item.mk (0 : Int) (0 : Int) (0 : Nat) ([] : (List Int))) (Item.mk (0 : Int) (0 : Int) (0 : Nat) ([] : (List Int)))) (fz_pair (fz_int .i64 (0 : Int)) (fz_pair (fz_int .i64 (0 : Int)) (fz_pair (fz_iso (fun x : Item => (x.Kind, x.N, x.F, x.T)) (Item.mk (0 : Int) (0 : Int) (0 : Nat) ([] : (List Int))) (fz_pair (fz_int .i64 (0 : Int)) (fz_pair (fz_int .i64 (0 : Int)) (fz_pair (fz_flt (fl_c rfl)) (fz_nil 5 (Kd.int .u8)))))) (fz_iso (fun x : Item => (x.Kind, x.N, x.F, x.T)) (Item.mk (0 : Int) (0 : Int) (0 : Nat) ([] : (List Int))) (fz_pair (fz_int .i64 (0 : Int)) (fz_pair (fz_int .i64 (0 : Int)) (fz_pair (fz_flt (fl_c rfl)) (fz_nil 5 (Kd.int .u8))))))))))
  have K15 := (K6.st p11 rfl)
  exact re rfl Tryz.func183 rfl (r_b B11 Tryz.underlying58 rfl z58 rfl (r_t rfl r_nil)) rfl ⟨_, rfl, (.float .f64 0), (.slice none 0 0), (.float .f64 0), (.slice none 0 0), rfl, A13.fo K15 rfl z.l, z.ky K15⟩
 ·
  refine sk ?_
  refine sr ?_
  refine mv w0_0 rfl rfl rfl rfl rfl rfl ?_
  refine cl rfl rfl rfl rfl rfl Tryz.func233 rfl rfl rfl (fun r16 m16 => spec_GetNum.calls a0 (0 : Int) (4 : Int) s4.w (fun b => memb [0] (s4.g b) = true) w0_0 A7 r16 m16) ?_
  rintro r16 _ w16 m16 ⟨rfl, ky16⟩
  obtain ⟨s17, rfl, p17, n17⟩ := nwx s4 w16 43 ky16
  refine pu rfl rfl rfl rfl rfl ?_
  refine pu (v := (.int .i64 r16.1)) rfl rfl rfl rfl rfl ?_
  refine pu (v := (.bool r16.2)) rfl rfl rfl rfl rfl ?_
  refine fa fa58_0 rfl rfl rfl rfl rfl rfl ?_
  have A18 := (BlF.st B4 p17 rfl)
  refine sv A18 z3 rfl rfl rfl rfl rfl rfl rfl rfl (fun s19 p19 B19 => ?_)
  refine dn ?_
  refine sr ?_
  refine mv w0_0 rfl rfl rfl rfl rfl rfl ?_
  have K21 := ((K6.st p17 rfl).st p19 rfl)
  have A22 := (A0_0.kp K21)
  refine cl rfl rfl rfl rfl rfl Tryz.func233 rfl rfl rfl (fun r23 m23 => spec_GetNum.calls a0 (4 : Int) (4 : Int) s19.w (fun b => memb [0] (s19.g b) = true) w0_0 A22 r23 m23) ?_
  rintro r23 _ w23 m23 ⟨rfl, ky23⟩
  obtain ⟨s24, rfl, p24, n24⟩ := nwx s19 w23 44 ky23
  refine pu rfl rfl rfl rfl rfl ?_
  refine pu (v := (.int .i64 r23.1)) rfl rfl rfl rfl rfl ?_
  refine pu (v := (.bool r23.2)) rfl rfl rfl rfl rfl ?_
  refine fa fa58_1 rfl rfl rfl rfl rfl rfl ?_
  have A25 := (BlF.st B19 p24 rfl)
  refine sv A25 z3 rfl rfl rfl rfl rfl rfl rfl rfl (fun s26 p26 B26 => ?_)
  refine dn ?_
  refine sr ?_
  refine mv w0_0 rfl rfl rfl rfl rfl rfl ?_
  have K28 := ((K21.st p24 rfl).st p26 rfl)
  have A29 := (A0_0.kp K28)
  refine ix A29 Tryz.underlying24 z5 rfl rfl rfl rfl rfl rfl rfl rfl (fun ad30 es30 h0_30 h1_30 he30 ce30 ia30 => ?_)
  obtain rfl := he30
  refine lc0 ce30 Tryz.underlying5 rfl rfl rfl rfl rfl rfl rfl rfl ?_
  refine cv Tryz.underlying3 Tryz.underlying5 rfl rfl rfl rfl rfl rfl ?_
  refine pu rfl rfl rfl rfl rfl ?_
  refine dn ?_
  refine sq ?_
  refine sr ?_
  refine pu rfl rfl rfl rfl rfl ?_
  refine mv w0_0 rfl rfl rfl rfl rfl rfl ?_
  refine ln A29 Tryz.underlying24 rfl rfl rfl rfl rfl rfl ?_
  refine pu rfl rfl rfl rfl rfl ?_
  refine pu rfl rfl rfl rfl rfl ?_
  refine dn ?_
  refine cd rfl (fun h32 => ?_) (fun h32 => ?_)
  ·
   refine sr ?_
   refine bd (cells := [(.int .i64 (0 : Int)), (.int .i64 (0 : Int)), (.int .i64 (0 : Int)), (.int .i64 (0 : Int)), (.float .f64 0), (.slice none 0 0), (.int .i64 (0 : Int)), (.int .i64 (0 : Int)), (.float .f64 0), (.slice none 0 0)]) pl58 o58 rfl rfl rfl rfl rfl rfl ?_
   have A33 := (BlF.st (BlF.st (BlF.st (BlF.st (BlF.st B2 p4 rfl) p17 rfl) p19 rfl) p24 rfl) p26 rfl)
   refine sva (vs := [(.int .i64 (0 : Int)), (.int .i64 (0 : Int)), (.int .i64 (0 : Int)), (.int .i64 (0 : Int)), (.float .f64 0), (.slice none 0 0), (.int .i64 (0 : Int)), (.int .i64 (0 : Int)), (.float .f64 0), (.slice none 0 0)]) A33 z58 rfl rfl rfl rfl rfl rfl (on_cons rfl (on_cons rfl (on_cons rfl (on_cons rfl (on_cons (FL.one (fl_c rfl)) (on_cons rfl (on_cons rfl (on_cons rfl (on_cons (FL.one (fl_c rfl)) (on_cons rfl on_nil)))))))))) rfl (fun s34 p34 B34 => ?_)
   refine pu rfl rfl rfl rfl rfl ?_
   refine dn ?_
   have A36 : OwF kd58 s34 [(.int .i64 (0 : Int)), (.int .i64 (0 : Int)), (.int .i64 (0 : Int)), (.int .i64 (0 : Int)), (.float .f64 0), (.slice none 0 0), (.int .i64 (0 : Int)), (.int .i64 (0 : Int)), (.float .f64 0), (.slice none 0 0)] (Tuple.mk (0 : Int) (0 : Int) (Item.mk (0 : Int) (0 : Int) (0 : Nat) ([] : (List Int))) (Item.mk (0 : Int) (0 : Int) (0 : Nat) ([] : (List Int)))) 45 := ow_z _ _ (fz_iso (fun x : Tuple => (x.Xmin, x.Xmax, x.Key, x.Value)) (Tuple.mk (0 : Int) (0 : Int) (Item.mk (0 : Int) (0 : Int) (0 : Nat) ([] : (List Int))) (Item.mk (0 : Int) (0 : Int) (0 : Nat) ([] : (List Int)))) (fz_pair (fz_int .i64 (0 : Int)) (fz_pair (fz_int .i64 (0 : Int)) (fz_pair (fz_iso (fun x : Item => (x.Kind, x.N, x.F, x.T)) (Item.mk (0 : Int) (0 : Int) (0 : Nat) ([] : (List Int))) (fz_pair (fz_int .i64 (0 : Int)) (fz_pair (fz_int .i64 (0 : Int)) (fz_pair (fz_flt (fl_c rfl)) (fz_nil 5 (Kd.int .u8)))))) (fz_iso (fun x : Item => (x.Kind, x.N, x.F, x.T)) (Item.mk (0 : Int) (0 : Int) (0 : Nat) ([] : (List Int))) (fz_pair (fz_int .i64 (0 : Int)) (fz_pair (fz_int .i64 (0 : Int)) (fz_pair (fz_flt (fl_c rfl)) (fz_nil 5 (Kd.int .u8))))))))))
   have K38 := (K28.st p34 rfl)
   exact re rfl Tryz.func183 rfl (r_b B34 Tryz.underlying58 rfl z58 rfl (r_t rfl r_nil)) rfl ⟨_, rfl, (.float .f64 0), (.slice none 0 0), (.float .f64 0), (.slice none 0 0), rfl, A36.fo K38 rfl z.l, z.ky K38⟩
  ·
   refine sk ?_
   refine sr ?_
   refine mv w0_0 rfl rfl rfl rfl rfl rfl ?_
   refine pu rfl rfl rfl rfl rfl ?_
   refine pu rfl rfl rfl rfl rfl ?_
   refine slb A29 Tryz.underlying24 z5 rfl rfl rfl rfl rfl rfl rfl rfl (fun v39 A39 => ?_)
   refine cl rfl rfl rfl rfl rfl Tryz.func258 rfl rfl rfl (fun r41 m41 => spec_KeyRead.calls ((a0.take ((IntKind.wrap .i64 ((9 : Int) + (IntKind.wrap .i64 (at_ a0 (8 : Int)))))).toNat).drop ((9 : Int)).toNat) s26.w (fun b => memb [0] (s26.g b) = true) v39 A39 r41 m41) ?_
   rintro r41 _ w41 m41 ⟨v41_0, v41_1, rfl, f41_0, ky41⟩
   obtain ⟨s42, rfl, p42, n42⟩ := nwx s26 w41 46 ky41
   have A41_0 := f41_0.c n42
   obtain ⟨os41_0, ho41_0, hn41_0, hc41_0⟩ := A41_0
   obtain ⟨u41_0_0, u41_0_1, qu41_0_1, e41_0, eo41_0, hu41_0_0, hu41_0_1⟩ := po33 ho41_0
   have yu41_0_0 : v41_0 = u41_0_0 := congrArg (fun l => (List.drop 2 l).headD undef) e41_0
   have yu41_0_1 : v41_1 = u41_0_1 := congrArg (fun l => (List.drop 3 l).headD undef) e41_0
   subst yu41_0_0
   subst yu41_0_1
   subst eo41_0
   have Au41_0_1 : OwF (Kd.sl 5 (Kd.int .u8)) s42 [v41_1] r41.1.T 46 := sp1 hu41_0_1 hn41_0 hc41_0
   refine pu rfl rfl rfl rfl rfl ?_
   refine pu (v := (.agg #[(.int .i64 r41.1.Kind), (.int .i64 r41.1.N), v41_0, v41_1])) rfl rfl rfl rfl rfl ?_
   refine pu (v := (.bool r41.2)) rfl rfl rfl rfl rfl ?_
   refine al (cs := [(.int .i64 (0 : Int)), (.int .i64 (0 : Int)), (.float .f64 0), (.slice none 0 0)]) 47 rfl rfl rfl rfl rfl o33 rfl (fun b44 s44 p44 B44 => ?_)
   have A46 := (Au41_0_1.st p44 rfl)
   refine sva (vs := [(.int .i64 r41.1.Kind), (.int .i64 r41.1.N), v41_0, v41_1]) B44 z33 rfl rfl rfl rfl rfl rfl (on_cons rfl (on_cons rfl (on_cons (FL.one hu41_0_0) (on_cons A46.rd.one on_nil)))) rfl (fun s47 p47 B47 => ?_)
   refine pu rfl rfl rfl rfl rfl ?_
   refine dn ?_
   refine sr ?_
   refine mv w0_0 rfl rfl rfl rfl rfl rfl ?_
   refine pu rfl rfl rfl rfl rfl ?_
   refine pu rfl rfl rfl rfl rfl ?_
   have K49 := (((K28.st p42 rfl).st p44 rfl).st p47 rfl)
   have A50 := (A0_0.kp K49)
   refine sla A50 Tryz.underlying24 z5 rfl rfl rfl rfl rfl rfl rfl (fun v51 A51 => ?_)
   refine cl rfl rfl rfl rfl rfl Tryz.func259 rfl rfl rfl (fun r53 m53 => spec_ValueRead.calls (a0.drop ((IntKind.wrap .i64 ((10 : Int) + (IntKind.wrap .i64 (at_ a0 (8 : Int)))))).toNat) s47.w (fun b => memb [0] (s47.g b) = true) v51 A51 r53 m53) ?_
   rintro r53 _ w53 m53 ⟨v53_0, v53_1, rfl, f53_0, ky53⟩
   obtain ⟨s54, rfl, p54, n54⟩ := nwx s47 w53 48 ky53
   have A53_0 := f53_0.c n54
   obtain ⟨os53_0, ho53_0, hn53_0, hc53_0⟩ := A53_0
   obtain ⟨u53_0_0, u53_0_1, qu53_0_1, e53_0, eo53_0, hu53_0_0, hu53_0_1⟩ := po33 ho53_0
   have yu53_0_0 : v53_0 = u53_0_0 := congrArg (fun l => (List.drop 2 l).headD undef) e53_0
   have yu53_0_1 : v53_1 = u53_0_1 := congrArg (fun l => (List.drop 3 l).headD undef) e53_0
   subst yu53_0_0
   subst yu53_0_1
   subst eo53_0
   have Au53_0_1 : OwF (Kd.sl 5 (Kd.int .u8)) s54 [v53_1] r53.1.T 48 := sp1 hu53_0_1 hn53_0 hc53_0
   refine pu rfl rfl rfl rfl rfl ?_
   refine pu (v := (.agg #[(.int .i64 r53.1.Kind), (.int .i64 r53.1.N), v53_0, v53_1])) rfl rfl rfl rfl rfl ?_
   refine pu (v := (.bool r53.2)) rfl rfl rfl rfl rfl ?_
   refine al (cs := [(.int .i64 (0 : Int)), (.int .i64 (0 : Int)), (.float .f64 0), (.slice none 0 0)]) 49 rfl rfl rfl rfl rfl o33 rfl (fun b56 s56 p56 B56 => ?_)
   have A58 := (Au53_0_1.st p56 rfl)
   refine sva (vs := [(.int .i64 r53.1.Kind), (.int .i64 r53.1.N), v53_0, v53_1]) B56 z33 rfl rfl rfl rfl rfl rfl (on_cons rfl (on_cons rfl (on_cons (FL.one hu53_0_0) (on_cons A58.rd.one on_nil)))) rfl (fun s59 p59 B59 => ?_)
   refine pu rfl rfl rfl rfl rfl ?_
   refine dn ?_
   refine sr ?_
   have A61 := (BlF.st (BlF.st (BlF.st B47 p54 rfl) p56 rfl) p59 rfl)
   refine lda (es := [(.int .i64 r41.1.Kind), (.int .i64 r41.1.N), v41_0, v41_1]) A61 Tryz.underlying33 z33 rfl rfl rfl rfl rfl rfl rfl rfl ?_
   refine fa fa58_2 rfl rfl rfl rfl rfl rfl ?_
   have A62 := (BlF.st (BlF.st (BlF.st (BlF.st (BlF.st (BlF.st B26 p42 rfl) p44 rfl) p47 rfl) p54 rfl) p56 rfl) p59 rfl)
   have A63 := ((((A46.st p47 rfl).st p54 rfl).st p56 rfl).st p59 rfl)
   refine sva (vs := [(.int .i64 r41.1.Kind), (.int .i64 r41.1.N), v41_0, v41_1]) A62 z33 rfl rfl rfl rfl rfl rfl (on_cons rfl (on_cons rfl (on_cons (FL.one hu41_0_0) (on_cons A63.rd.one on_nil)))) rfl (fun s64 p64 B64 => ?_)
   refine dn ?_
   refine sr ?_
   have A66 := (BlF.st B59 p64 rfl)
   refine lda (es := [(.int .i64 r53.1.Kind), (.int .i64 r53.1.N), v53_0, v53_1]) A66 Tryz.underlying33 z33 rfl rfl rfl rfl rfl rfl rfl rfl ?_
   refine fa fa58_3 rfl rfl rfl rfl rfl rfl ?_
   have A67 := ((A58.st p59 rfl).st p64 rfl)
   refine sva (vs := [(.int .i64 r53.1.Kind), (.int .i64 r53.1.N), v53_0, v53_1]) B64 z33 rfl rfl rfl rfl rfl rfl (on_cons rfl (on_cons rfl (on_cons (FL.one hu53_0_0) (on_cons A67.rd.one on_nil)))) rfl (fun s68 p68 B68 => ?_)
   refine dn ?_
   refine sq ?_
   refine sq ?_
   refine zdraw [[], [0], [1], [2], [3, 2], [2, 4], [5, 2], [6], [7, 6, 6], [8, 6], [6], [10, 6], [9, 11, 6], [6, 12]] [some 61, some 62, some 63, some 64, some 65, some 66, some 67, some 68, some 69, some 70, some 71, some 72, some 73, some 74] [[7], [61], [62], [9, 63], [64, 63], [63, 65], [66], [4, 67], [68, 67], [69, 67], [0, 67], [71, 67], [70, 72, 67], [67, 73]] [0, 1, 2, 3, 4, 5, 6, 7, 8, 9, 10, 11, 12, 13] ⟨by kernel_rfl, by kernel_rfl, by kernel_rfl⟩ (by kernel_rfl) (fun s70 p70 l70 tb70 zd70 => ?_)
   have zd71 := zd70.add 0 61 (.bool r41.2) rfl
   have zd72 := zd71.add 1 62 (.bool (!r41.2)) rfl
   have zd73 := zd72.add 2 63 (.bool (!r41.2)) rfl
   refine ji [] (fun (y74 : Bool) (e : Env) (w : World) => ∃ (s : St) (e0 : Env), w = s.w ∧ e = upd (upd (upd e0 2 (.pointer (some ⟨b2, 0, none⟩))) 4 (.pointer (some ⟨b4, 0, none⟩))) 74 (.bool y74) ∧ Kp s0 s ∧ BlF s b4 58 [(.int .i64 r16.1), (.int .i64 r23.1), (.int .i64 r41.1.Kind), (.int .i64 r41.1.N), v41_0, v41_1, (.int .i64 r53.1.Kind), (.int .i64 r53.1.N), v53_0, v53_1] 41 ∧ BlF s b2 58 [(.int .i64 (0 : Int)), (.int .i64 (0 : Int)), (.int .i64 (0 : Int)), (.int .i64 (0 : Int)), (.float .f64 0), (.slice none 0 0), (.int .i64 (0 : Int)), (.int .i64 (0 : Int)), (.float .f64 0), (.slice none 0 0)] 40 ∧ OwF (Kd.sl 5 (Kd.int .u8)) s [v41_1] r41.1.T 46 ∧ OwF (Kd.sl 5 (Kd.int .u8)) s [v53_1] r53.1.T 48) (fun Gj74 Kj74 => ?_) ?_
   ·
    rcases Bool.eq_false_or_eq_true (!r41.2) with hb74 | hb74
    ·
     rw [if_pos hb74]
     rw [hb74] at zd73
     try rw [hb74]
     have zd75 := zd73.add 3 64 undef rfl
     have zd76 := zd75.add 4 65 undef rfl
     have zd77 := zd76.add 5 66 (.bool true) rfl
     have zd78 := zd77.add 6 67 (.bool true) rfl
     have zd79 := zd78.add 7 68 undef rfl
     have zd80 := zd79.add 8 69 undef rfl
     have zd81 := zd80.add 9 70 undef rfl
     have zd82 := zd81.add 10 71 undef rfl
     have zd83 := zd82.add 11 72 undef rfl
     refine zfin [12, 13] tb70 zd83 (pq_cons (uw_q rfl rfl rfl rfl rfl) rfl (pq_cons (uw_q rfl rfl rfl rfl rfl) rfl (pq_cons (uw_q rfl rfl rfl rfl rfl) rfl (pq_cons (uw_q rfl rfl rfl rfl rfl) rfl (pq_cons (uw_q rfl rfl rfl rfl rfl) rfl (pq_cons (pu_q rfl rfl rfl rfl rfl rfl) rfl (pq_cons (pu_q rfl rfl rfl rfl rfl rfl) rfl (pq_cons (uw_q rfl rfl rfl rfl rfl) rfl (pq_cons (uw_q rfl rfl rfl rfl rfl) rfl (pq_cons (pu_q rfl rfl rfl rfl rfl rfl) rfl (pq_cons (qv_b (pu_q rfl rfl rfl rfl rfl rfl) hb74) rfl (pq_cons (pu_q rfl rfl rfl rfl rfl rfl) rfl pq_nil)))))))))))) (by kernel_rfl) (by decide) ?_
     refine uw rfl rfl rfl rfl ?_
     refine pu rfl rfl rfl rfl rfl ?_
     have A84 := (BlF.st B68 p70 rfl)
     have A85 := (BlF.st (BlF.st (BlF.st (BlF.st (BlF.st (BlF.st (BlF.st (BlF.st (BlF.st (BlF.st (BlF.st (BlF.st (BlF.st (BlF.st B2 p4 rfl) p17 rfl) p19 rfl) p24 rfl) p26 rfl) p42 rfl) p44 rfl) p47 rfl) p54 rfl) p56 rfl) p59 rfl) p64 rfl) p68 rfl) p70 rfl)
     have A86 := (((A63.st p64 rfl).st p68 rfl).st p70 rfl)
     have A87 := ((A67.st p68 rfl).st p70 rfl)
     have K88 := ((((((K49.st p54 rfl).st p56 rfl).st p59 rfl).st p64 rfl).st p68 rfl).st p70 rfl)
     exact Kj74 _ _ _ ⟨s70, _, rfl, (ue (ue (ue rfl rfl) rfl) rfl), K88, A84, A85, A86, A87⟩
    ·
     rw [if_neg (by rw [hb74]; decide)]
     rw [hb74] at zd73
     try rw [hb74]
     have zd89 := zd73.add 3 64 (.bool r53.2) rfl
     have zd90 := zd89.add 4 65 (.bool (!r53.2)) rfl
     have zd91 := zd90.add 5 66 (.bool (!r53.2)) rfl
     have zd92 := zd91.add 6 67 (.bool (!r53.2)) rfl
     refine ji [] (fun (y93 : Bool) (e : Env) (w : World) => ∃ (s : St) (e0 : Env), w = s.w ∧ e = upd (upd (upd e0 2 (.pointer (some ⟨b2, 0, none⟩))) 4 (.pointer (some ⟨b4, 0, none⟩))) 74 (.bool y93) ∧ Kp s0 s ∧ BlF s b4 58 [(.int .i64 r16.1), (.int .i64 r23.1), (.int .i64 r41.1.Kind), (.int .i64 r41.1.N), v41_0, v41_1, (.int .i64 r53.1.Kind), (.int .i64 r53.1.N), v53_0, v53_1] 41 ∧ BlF s b2 58 [(.int .i64 (0 : Int)), (.int .i64 (0 : Int)), (.int .i64 (0 : Int)), (.int .i64 (0 : Int)), (.float .f64 0), (.slice none 0 0), (.int .i64 (0 : Int)), (.int .i64 (0 : Int)), (.float .f64 0), (.slice none 0 0)] 40 ∧ OwF (Kd.sl 5 (Kd.int .u8)) s [v41_1] r41.1.T 46 ∧ OwF (Kd.sl 5 (Kd.int .u8)) s [v53_1] r53.1.T 48) (fun Gj93 Kj93 => ?_) ?_
     ·
      rcases Bool.eq_false_or_eq_true (!r53.2) with hb93 | hb93
      ·
       rw [if_pos hb93]
       rw [hb93] at zd92
       try rw [hb93]
       have zd94 := zd92.add 7 68 undef rfl
       have zd95 := zd94.add 8 69 undef rfl
       have zd96 := zd95.add 9 70 undef rfl
       have zd97 := zd96.add 10 71 undef rfl
       have zd98 := zd97.add 11 72 undef rfl
       refine zfin [12, 13] tb70 zd98 (pq_cons (uw_q rfl rfl rfl rfl rfl) rfl (pq_cons (uw_q rfl rfl rfl rfl rfl) rfl (pq_cons (uw_q rfl rfl rfl rfl rfl) rfl (pq_cons (uw_q rfl rfl rfl rfl rfl) rfl (pq_cons (uw_q rfl rfl rfl rfl rfl) rfl (pq_cons (pu_q rfl rfl rfl rfl rfl rfl) rfl (pq_cons (pu_q rfl rfl rfl rfl rfl rfl) rfl (pq_cons (qv_b (pu_q rfl rfl rfl rfl rfl rfl) hb93) rfl (pq_cons (pu_q rfl rfl rfl rfl rfl rfl) rfl (pq_cons (pu_q rfl rfl rfl rfl rfl rfl) rfl (pq_cons (qv_b (pu_q rfl rfl rfl rfl rfl rfl) hb74) rfl (pq_cons (pu_q rfl rfl rfl rfl rfl rfl) rfl pq_nil)))))))))))) (by kernel_rfl) (by decide) ?_
       refine uw rfl rfl rfl rfl ?_
       refine pu rfl rfl rfl rfl rfl ?_
       have A99 := (BlF.st B68 p70 rfl)
       have A100 := (BlF.st (BlF.st (BlF.st (BlF.st (BlF.st (BlF.st (BlF.st (BlF.st (BlF.st (BlF.st (BlF.st (BlF.st (BlF.st (BlF.st B2 p4 rfl) p17 rfl) p19 rfl) p24 rfl) p26 rfl) p42 rfl) p44 rfl) p47 rfl) p54 rfl) p56 rfl) p59 rfl) p64 rfl) p68 rfl) p70 rfl)
       have A101 := (((A63.st p64 rfl).st p68 rfl).st p70 rfl)
       have A102 := ((A67.st p68 rfl).st p70 rfl)
       have K103 := ((((((K49.st p54 rfl).st p56 rfl).st p59 rfl).st p64 rfl).st p68 rfl).st p70 rfl)
       exact Kj93 _ _ _ ⟨s70, _, rfl, (ue (ue (ue rfl rfl) rfl) rfl), K103, A99, A100, A101, A102⟩
      ·
       rw [if_neg (by rw [hb93]; decide)]
       rw [hb93] at zd92
       try rw [hb93]
       have A104 := (BlF.st B68 p70 rfl)
       have zd105 := zd92.add 7 68 (.agg #[(.int .i64 r16.1), (.int .i64 r23.1), (.int .i64 r41.1.Kind), (.int .i64 r41.1.N), v41_0, v41_1, (.int .i64 r53.1.Kind), (.int .i64 r53.1.N), v53_0, v53_1]) rfl
       have zd106 := zd105.add 10 71 w0_0 rfl
       have K107 := ((((((K49.st p54 rfl).st p56 rfl).st p59 rfl).st p64 rfl).st p68 rfl).st p70 rfl)
       have A108 := (A0_0.kp K107)
       have zd109 := zd106.add 11 72 (.string (str a0)) rfl
       have A111 := (BlF.st B68 p70 rfl)
       have K112 := ((((((K49.st p54 rfl).st p56 rfl).st p59 rfl).st p64 rfl).st p68 rfl).st p70 rfl)
       have A113 := (A0_0.kp K112)
       refine zstep 8 [some 72, some 71] tb70 zd109 (pq_cons (b2s_q A113 Tryz.underlying24 Tryz.underlying9 Tryz.underlying5 rfl rfl rfl rfl rfl rfl) rfl (pq_cons (mv_q w0_0 rfl rfl rfl rfl rfl rfl) rfl (pq_cons (lda_q (es := [(.int .i64 r16.1), (.int .i64 r23.1), (.int .i64 r41.1.Kind), (.int .i64 r41.1.N), v41_0, v41_1, (.int .i64 r53.1.Kind), (.int .i64 r53.1.N), v53_0, v53_1]) A111 Tryz.underlying58 z58 rfl rfl rfl rfl rfl rfl rfl rfl) rfl (pq_cons (pu_q rfl rfl rfl rfl rfl rfl) rfl (pq_cons (pu_q rfl rfl rfl rfl rfl rfl) rfl (pq_cons (qv_b (pu_q rfl rfl rfl rfl rfl rfl) hb93) rfl (pq_cons (pu_q rfl rfl rfl rfl rfl rfl) rfl (pq_cons (pu_q rfl rfl rfl rfl rfl rfl) rfl (pq_cons (qv_b (pu_q rfl rfl rfl rfl rfl rfl) hb74) rfl (pq_cons (pu_q rfl rfl rfl rfl rfl rfl) rfl pq_nil)))))))))) (by kernel_rfl) rfl (fun l110 e110 zd110 => ?_)
       have A114 := (((A63.st p64 rfl).st p68 rfl).st p70 rfl)
       have A115 := ((A67.st p68 rfl).st p70 rfl)
       refine cl rfl rfl rfl rfl rfl Tryz.func99 rfl rfl rfl (fun r116 m116 => spec_TupleBytes.calls (Tuple.mk r16.1 r23.1 r41.1 r53.1) s70.w (fun b => memb [46, 48] (s70.g b) = true) v41_0 v41_1 v53_0 v53_1 ((fl_rdf (s := s70) hu41_0_0).sub (D := [46, 48]) rfl) (A114.rd.sub (D := [46, 48]) rfl) ((fl_rdf (s := s70) hu53_0_0).sub (D := [46, 48]) rfl) (A115.rd.sub (D := [46, 48]) rfl) r116 m116) ?_
       rintro r116 v116_0 w116 m116 ⟨f116_0, ky116⟩
       obtain ⟨s117, rfl, p117, n117⟩ := nwx s70 w116 50 ky116
       have A116_0 := f116_0.c n117
       refine zdone (L' := [11, 10]) (D' := [0, 1, 3, 4, 5, 2, 7, 6, 6, 8]) zd110 rfl rfl rfl (fun zd119 => ?_)
       have zd120 := zd119.add 9 70 (.string (str r116)) rfl
       have K121 := (((((((K49.st p54 rfl).st p56 rfl).st p59 rfl).st p64 rfl).st p68 rfl).st p70 rfl).st p117 rfl)
       have A122 := (A0_0.kp K121)
       refine zfin [12, 13] tb70 zd120 (pq_cons (b2s_q A116_0.rd Tryz.underlying24 Tryz.underlying9 Tryz.underlying5 rfl rfl rfl rfl rfl rfl) rfl (pq_cons (b2s_q A122 Tryz.underlying24 Tryz.underlying9 Tryz.underlying5 rfl rfl rfl rfl rfl rfl) rfl (pq_cons (mv_q w0_0 rfl rfl rfl rfl rfl rfl) rfl pq_nil))) (by kernel_rfl) (by decide) ?_
       refine pu rfl rfl rfl rfl rfl ?_
       refine pu rfl rfl rfl rfl rfl ?_
       have A123 := (BlF.st (BlF.st B68 p70 rfl) p117 rfl)
       have A124 := (BlF.st (BlF.st (BlF.st (BlF.st (BlF.st (BlF.st (BlF.st (BlF.st (BlF.st (BlF.st (BlF.st (BlF.st (BlF.st (BlF.st (BlF.st B2 p4 rfl) p17 rfl) p19 rfl) p24 rfl) p26 rfl) p42 rfl) p44 rfl) p47 rfl) p54 rfl) p56 rfl) p59 rfl) p64 rfl) p68 rfl) p70 rfl) p117 rfl)
       have A125 := (A114.st p117 rfl)
       have A126 := (A115.st p117 rfl)
       have K127 := (((((((K49.st p54 rfl).st p56 rfl).st p59 rfl).st p64 rfl).st p68 rfl).st p70 rfl).st p117 rfl)
       exact Kj93 _ _ _ ⟨s117, _, rfl, (ue (ue (ue rfl rfl) rfl) rfl), K127, A123, A124, A125, A126⟩
     rintro y93 _ _ ⟨s128, _, rfl, rfl, Ky93, By93_b4, By93_b2, Cy93_43, Cy93_55⟩
     exact Kj74 _ _ _ ⟨s128, _, rfl, (ue (ue (ue rfl rfl) rfl) rfl), Ky93, By93_b4, By93_b2, Cy93_43, Cy93_55⟩
   rintro y74 _ _ ⟨s131, _, rfl, rfl, Ky74, By74_b4, By74_b2, Cy74_43, Cy74_55⟩
   refine dn ?_
   refine cd rfl (fun h134 => ?_) (fun h134 => ?_)
   ·
    refine sr ?_
    refine bd (cells := [(.int .i64 (0 : Int)), (.int .i64 (0 : Int)), (.int .i64 (0 : Int)), (.int .i64 (0 : Int)), (.float .f64 0), (.slice none 0 0), (.int .i64 (0 : Int)), (.int .i64 (0 : Int)), (.float .f64 0), (.slice none 0 0)]) pl58 o58 rfl rfl rfl rfl rfl rfl ?_
    refine sva (vs := [(.int .i64 (0 : Int)), (.int .i64 (0 : Int)), (.int .i64 (0 : Int)), (.int .i64 (0 : Int)), (.float .f64 0), (.slice none 0 0), (.int .i64 (0 : Int)), (.int .i64 (0 : Int)), (.float .f64 0), (.slice none 0 0)]) By74_b2 z58 rfl rfl rfl rfl rfl rfl (on_cons rfl (on_cons rfl (on_cons rfl (on_cons rfl (on_cons (FL.one (fl_c rfl)) (on_cons rfl (on_cons rfl (on_cons rfl (on_cons (FL.one (fl_c rfl)) (on_cons rfl on_nil)))))))))) rfl (fun s135 p135 B135 => ?_)
    refine pu rfl rfl rfl rfl rfl ?_
    refine dn ?_
    have A137 : OwF kd58 s135 [(.int .i64 (0 : Int)), (.int .i64 (0 : Int)), (.int .i64 (0 : Int)), (.int .i64 (0 : Int)), (.float .f64 0), (.slice none 0 0), (.int .i64 (0 : Int)), (.int .i64 (0 : Int)), (.float .f64 0), (.slice none 0 0)] (Tuple.mk (0 : Int) (0 : Int) (Item.mk (0 : Int) (0 : Int) (0 : Nat) ([] : (List Int))) (Item.mk (0 : Int) (0 : Int) (0 : Nat) ([] : (List Int)))) 51 := ow_z _ _ (fz_iso (fun x : Tuple => (x.Xmin, x.Xmax, x.Key, x.Value)) (Tuple.mk (0 : Int) (0 : Int) (Item.mk (0 : Int) (0 : Int) (0 : Nat) ([] : (List Int))) (Item.mk (0 : Int) (0 : Int) (0 : Nat) ([] : (List Int)))) (fz_pair (fz_int .i64 (0 : Int)) (fz_pair (fz_int .i64 (0 : Int)) (fz_pair (fz_iso (fun x : Item => (x.Kind, x.N, x.F, x.T)) (Item.mk (0 : Int) (0 : Int) (0 : Nat) ([] : (List Int))) (fz_pair (fz_int .i64 (0 : Int)) (fz_pair (fz_int .i64 (0 : Int)) (fz_pair (fz_flt (fl_c rfl)) (fz_nil 5 (Kd.int .u8)))))) (fz_iso (fun x : Item => (x.Kind, x.N, x.F, x.T)) (Item.mk (0 : Int) (0 : Int) (0 : Nat) ([] : (List Int))) (fz_pair (fz_int .i64 (0 : Int)) (fz_pair (fz_int .i64 (0 : Int)) (fz_pair (fz_flt (fl_c rfl)) (fz_nil 5 (Kd.int .u8))))))))))
    have K139 := (Ky74.st p135 rfl)
    exact re rfl Tryz.func183 rfl (r_b B135 Tryz.underlying58 rfl z58 rfl (r_t rfl r_nil)) rfl ⟨_, rfl, (.float .f64 0), (.slice none 0 0), (.float .f64 0), (.slice none 0 0), rfl, A137.fo K139 rfl z.l, z.ky K139⟩
   ·
    refine sk ?_
    refine sr ?_
    refine lda (es := [(.int .i64 r16.1), (.int .i64 r23.1), (.int .i64 r41.1.Kind), (.int .i64 r41.1.N), v41_0, v41_1, (.int .i64 r53.1.Kind), (.int .i64 r53.1.N), v53_0, v53_1]) By74_b4 Tryz.underlying58 z58 rfl rfl rfl rfl rfl rfl rfl rfl ?_
    refine sva (vs := [(.int .i64 r16.1), (.int .i64 r23.1), (.int .i64 r41.1.Kind), (.int .i64 r41.1.N), v41_0, v41_1, (.int .i64 r53.1.Kind), (.int .i64 r53.1.N), v53_0, v53_1]) By74_b2 z58 rfl rfl rfl rfl rfl rfl (on_cons rfl (on_cons rfl (on_cons rfl (on_cons rfl (on_cons (FL.one hu41_0_0) (on_cons Cy74_43.rd.one (on_cons rfl (on_cons rfl (on_cons (FL.one hu53_0_0) (on_cons Cy74_55.rd.one on_nil)))))))))) rfl (fun s140 p140 B140 => ?_)
    refine pu rfl rfl rfl rfl rfl ?_
    refine dn ?_
    have A142 := (Cy74_43.st p140 rfl)
    have A143 := (Cy74_55.st p140 rfl)
    obtain ⟨s144, hw144, p144, A144⟩ := ow_2 (ow_isoz (fun x : Item => (x.Kind, x.N, x.F, x.T)) r41.1 (ow_l (fz_int .i64 r41.1.Kind) (ow_l (fz_int .i64 r41.1.N) (ow_l (fz_flt hu41_0_0) A142)))) (ow_isoz (fun x : Item => (x.Kind, x.N, x.F, x.T)) r53.1 (ow_l (fz_int .i64 r53.1.Kind) (ow_l (fz_int .i64 r53.1.N) (ow_l (fz_flt hu53_0_0) A143)))) rfl rfl
    rw [hw144]
    have A146 : OwF kd58 s144 [(.int .i64 r16.1), (.int .i64 r23.1), (.int .i64 r41.1.Kind), (.int .i64 r41.1.N), v41_0, v41_1, (.int .i64 r53.1.Kind), (.int .i64 r53.1.N), v53_0, v53_1] (Tuple.mk r16.1 r23.1 r41.1 r53.1) 46 := (ow_isoz (fun x : Tuple => (x.Xmin, x.Xmax, x.Key, x.Value)) (Tuple.mk r16.1 r23.1 r41.1 r53.1) (ow_l (fz_int .i64 r16.1) (ow_l (fz_int .i64 r23.1) A144)))
    have A148 := (BlF.st B140 p144 rfl)
    have K149 := ((Ky74.st p140 rfl).st p144 rfl)
    exact re rfl Tryz.func183 rfl (r_b A148 Tryz.underlying58 rfl z58 rfl (r_t rfl r_nil)) rfl ⟨_, rfl, v41_0, v41_1, v53_0, v53_1, rfl, A146.fo K149 rfl z.l, z.ky K149⟩
noncomputable def spec_HeapOk.b1 (a0 : Heap) (x7 : Int) (x25 : Int) : Option (Int ⊕ (Int ⊕ Bool)) :=
 (if (decide (x25 < (((at_ a0.Pages x7).Slots).length : Int))) = true then (if 0 ≤ x25 ∧ x25 < (((at_ a0.Pages x7).Slots).length : Int) then ((spec_TupleRead.f (at_ ((at_ a0.Pages x7).Slots) x25)).bind fun r37 => (if 0 ≤ x25 ∧ x25 < (((at_ a0.Pages x7).Slots).length : Int) then (if ((decide (((at_ ((at_ a0.Pages x7).Slots) x25).length : Int) > (0 : Int))) && (!r37.2)) = true then (some (Sum.inr (Sum.inr false))) else (some (Sum.inl (IntKind.wrap .i64 (x25 + (1 : Int)))))) else none)) else none) else ((some (Sum.inl (IntKind.wrap .i64 (x7 + (1 : Int))))).bind fun o => some (Sum.inr o)))
noncomputable def spec_HeapOk.b0 (a0 : Heap) (x7 : Int) : Option (Int ⊕ Bool) :=
 (if (decide (x7 < (a0.Pages.length : Int))) = true then (if 0 ≤ x7 ∧ x7 < (a0.Pages.length : Int) then ((spec_PageUsed.f (at_ a0.Pages x7)).bind fun r21 => (if (decide (r21 < (0 : Int))) = true then (some (Sum.inr false)) else (iter (spec_HeapOk.b1 a0 x7) (0 : Int)))) else none) else ((some true).bind fun o => some (Sum.inr o)))
noncomputable def spec_HeapOk.f (a0 : Heap) : Option (Bool) :=
 (if (decide ((a0.Pages.length : Int) > (16 : Int))) = true then (some false) else (iter (spec_HeapOk.b0 a0) (0 : Int)))
def spec_HeapOk.Q (w : World) (F : Nat → Prop) (r : Bool) (v : Value) (w' : World) : Prop :=
 v = (.bool r) ∧ Ky [] w w'
set_option maxHeartbeats 4000000 in
set_option maxRecDepth 100000 in
theorem spec_HeapOk.calls (a0 : Heap) (w : World) (F : Nat → Prop) (w0_0 : Value) (h0_0 : (Kd.sl 142 kd142).rd w [w0_0] a0.Pages F) (r : Bool) (m : spec_HeapOk.f a0 = some r) :
  Calls Tryz.prog 108 #[(.agg #[w0_0])] w fun en w' => ∃ v, en = .returned v ∧ spec_HeapOk.Q w F r v w' := by
 obtain ⟨s0, rfl, kp0, z⟩ := start0 w F
 have A0_0 := z.rd h0_0
 refine calls_of_TM (args := [(.agg #[w0_0])]) (R := fun r en w' => ∃ v, en = .returned v ∧ spec_HeapOk.Q s0.w F r v w') Tryz.func108 Tryz.ntmps108 rfl rfl m ?_
 unfold spec_HeapOk.f
 refine sr ?_
 refine bx (cs := [w0_0]) 40 rfl rfl rfl rfl rfl rfl (fun b2 s2 p2 B2 => ?_)
 refine pu rfl rfl rfl rfl rfl ?_
 refine dn ?_
 refine sq ?_
 refine sr ?_
 refine fa fa46_0 rfl rfl rfl rfl rfl rfl ?_
 refine ld B2 Tryz.underlying44 rfl rfl rfl rfl rfl rfl rfl rfl ?_
 have K4 := (kp0.st p2 rfl)
 have A5 := (A0_0.kp K4)
 refine ln A5 Tryz.underlying44 rfl rfl rfl rfl rfl rfl ?_
 refine pu rfl rfl rfl rfl rfl ?_
 refine dn ?_
 refine cd rfl (fun h6 => ?_) (fun h6 => ?_)
 ·
  refine sr ?_
  refine pu rfl rfl rfl rfl rfl ?_
  refine dn ?_
  exact re rfl Tryz.func108 rfl (r_t rfl r_nil) rfl ⟨_, rfl, rfl, z.ky K4⟩
 ·
  refine sk ?_
  refine sq ?_
  refine sr ?_
  refine pu rfl rfl rfl rfl rfl ?_
  refine dn ?_
  refine bl ?_
  refine lpI (fun (x7 : Int) (e : Env) (w : World) => ∃ (s : St) (e0 : Env), w = s.w ∧ e = upd (upd e0 1 (.pointer (some ⟨b2, 0, none⟩))) 3 (.int .i64 x7) ∧ Kp s0 s ∧ BlF s b2 46 [w0_0] 40) ⟨s2, _, rfl, (ue (ue rfl rfl) rfl), K4, B2⟩ (fun g7 ih7 => ?_)
  rintro x7 _ _ ⟨s8, _, rfl, rfl, Kx7, Bx7_b2⟩
  unfold spec_HeapOk.b0
  refine sq ?_
  refine sr ?_
  refine pu rfl rfl rfl rfl rfl ?_
  refine fa fa46_0 rfl rfl rfl rfl rfl rfl ?_
  refine ld Bx7_b2 Tryz.underlying44 rfl rfl rfl rfl rfl rfl rfl rfl ?_
  have A10 := (A0_0.kp Kx7)
  refine ln A10 Tryz.underlying44 rfl rfl rfl rfl rfl rfl ?_
  refine pu rfl rfl rfl rfl rfl ?_
  refine dn ?_
  refine cd rfl (fun h11 => ?_) (fun h11 => ?_)
  ·
   refine sk ?_
   refine sq ?_
   refine bl ?_
   refine sr ?_
   refine fa fa46_0 rfl rfl rfl rfl rfl rfl ?_
   refine ld Bx7_b2 Tryz.underlying44 rfl rfl rfl rfl rfl rfl rfl rfl ?_
   refine pu rfl rfl rfl rfl rfl ?_
   refine ix A10 Tryz.underlying44 z142 rfl rfl rfl rfl rfl rfl rfl rfl (fun ad12 es12 h0_12 h1_12 he12 ce12 ia12 => ?_)
   obtain ⟨v12_0, rfl, A12_0⟩ := op142 he12
   refine lca ce12 Tryz.underlying142 z142 rfl rfl rfl rfl rfl rfl rfl ?_
   refine al (cs := [(.int .i64 (0 : Int)), (.slice none 0 0)]) 41 rfl rfl rfl rfl rfl o142 rfl (fun b15 s15 p15 B15 => ?_)
   have A17 := (A12_0.st p15 rfl)
   refine sva (vs := [(.int .i64 ((at_ a0.Pages x7).Lsn)), v12_0]) B15 z142 rfl rfl rfl rfl rfl rfl (on_cons rfl (on_cons A17.one on_nil)) rfl (fun s18 p18 B18 => ?_)
   refine dn ?_
   refine sq ?_
   refine sr ?_
   refine lda (es := [(.int .i64 ((at_ a0.Pages x7).Lsn)), v12_0]) B18 Tryz.underlying142 z142 rfl rfl rfl rfl rfl rfl rfl rfl ?_
   have A20 := (A17.st p18 rfl)
   refine cl rfl rfl rfl rfl rfl Tryz.func185 rfl rfl rfl (fun r21 m21 => spec_PageUsed.calls (at_ a0.Pages x7) s18.w (fun b => memb [0] (s18.g b) = true) v12_0 A20 r21 m21) ?_
   rintro r21 _ w21 m21 ⟨rfl, ky21⟩
   obtain ⟨s22, rfl, p22, n22⟩ := nwx s18 w21 42 ky21
   refine pu rfl rfl rfl rfl rfl ?_
   refine dn ?_
   refine cd rfl (fun h23 => ?_) (fun h23 => ?_)
   ·
    refine sr ?_
    refine pu rfl rfl rfl rfl rfl ?_
    refine dn ?_
    refine sgi ?_
    have K24 := (((Kx7.st p15 rfl).st p18 rfl).st p22 rfl)
    exact re rfl Tryz.func108 rfl (r_t rfl r_nil) rfl ⟨_, rfl, rfl, z.ky K24⟩
   ·
    refine sk ?_
    refine sr ?_
    refine pu rfl rfl rfl rfl rfl ?_
    refine dn ?_
    refine bl ?_
    have A26 := (BlF.st B18 p22 rfl)
    have A27 := (BlF.st (BlF.st (BlF.st Bx7_b2 p15 rfl) p18 rfl) p22 rfl)
    have A28 := (A20.st p22 rfl)
    have K29 := (((Kx7.st p15 rfl).st p18 rfl).st p22 rfl)
    refine lpI (fun (x25 : Int) (e : Env) (w : World) => ∃ (s : St) (e0 : Env), w = s.w ∧ e = upd (upd (upd (upd e0 1 (.pointer (some ⟨b2, 0, none⟩))) 3 (.int .i64 x7)) 4 (.pointer (some ⟨b15, 0, none⟩))) 5 (.int .i64 x25) ∧ Kp s0 s ∧ BlF s b15 142 [(.int .i64 ((at_ a0.Pages x7).Lsn)), v12_0] 41 ∧ BlF s b2 46 [w0_0] 40 ∧ RdF (Kd.sl 24 (Kd.sl 5 (Kd.int .u8))) s [v12_0] ((at_ a0.Pages x7).Slots) [0]) ⟨s22, _, rfl, (ue (ue (ue (ue rfl rfl) rfl) rfl) rfl), K29, A26, A27, A28⟩ (fun g25 ih25 => ?_)
    rintro x25 _ _ ⟨s30, _, rfl, rfl, Kx25, Bx25_b15, Bx25_b2, Cx25_13⟩
    unfold spec_HeapOk.b1
    refine sq ?_
    refine sr ?_
    refine pu rfl rfl rfl rfl rfl ?_
    refine fa fa142_1 rfl rfl rfl rfl rfl rfl ?_
    refine ld Bx25_b15 Tryz.underlying140 rfl rfl rfl rfl rfl rfl rfl rfl ?_
    refine ln Cx25_13 Tryz.underlying140 rfl rfl rfl rfl rfl rfl ?_
    refine pu rfl rfl rfl rfl rfl ?_
    refine dn ?_
    refine cd rfl (fun h33 => ?_) (fun h33 => ?_)
    ·
     refine sk ?_
     refine sq ?_
     refine bl ?_
     refine sr ?_
     refine fa fa142_1 rfl rfl rfl rfl rfl rfl ?_
     refine ld Bx25_b15 Tryz.underlying140 rfl rfl rfl rfl rfl rfl rfl rfl ?_
     refine pu rfl rfl rfl rfl rfl ?_
     refine ix Cx25_13 Tryz.underlying140 z24 rfl rfl rfl rfl rfl rfl rfl rfl (fun ad34 es34 h0_34 h1_34 he34 ce34 ia34 => ?_)
     obtain ⟨v34, rfl, he34'⟩ := he34
     have A34 : RdF (Kd.sl 5 (Kd.int .u8)) s30 [v34] (at_ ((at_ a0.Pages x7).Slots) x25) [0] := ⟨v34, rfl, he34'⟩
     refine lc0 ce34 Tryz.underlying24 rfl rfl rfl rfl rfl rfl rfl rfl ?_
     refine cl rfl rfl rfl rfl rfl Tryz.func183 rfl rfl rfl (fun r37 m37 => spec_TupleRead.calls (at_ ((at_ a0.Pages x7).Slots) x25) s30.w (fun b => memb [0] (s30.g b) = true) v34 A34 r37 m37) ?_
     rintro r37 _ w37 m37 ⟨v37_0, v37_1, v37_2, v37_3, rfl, f37_0, ky37⟩
     obtain ⟨s38, rfl, p38, n38⟩ := nwx s30 w37 43 ky37
     have A37_0 := f37_0.c n38
     obtain ⟨os37_0, ho37_0, hn37_0, hc37_0⟩ := A37_0
     obtain ⟨u37_0_0, u37_0_1, u37_0_2, u37_0_3, qu37_0_1, qu37_0_3, e37_0, eo37_0, hu37_0_0, hu37_0_1, hu37_0_2, hu37_0_3⟩ := po58 ho37_0
     have yu37_0_0 : v37_0 = u37_0_0 := congrArg (fun l => (List.drop 4 l).headD undef) e37_0
     have yu37_0_1 : v37_1 = u37_0_1 := congrArg (fun l => (List.drop 5 l).headD undef) e37_0
     have yu37_0_2 : v37_2 = u37_0_2 := congrArg (fun l => (List.drop 8 l).headD undef) e37_0
     have yu37_0_3 : v37_3 = u37_0_3 := congrArg (fun l => (List.drop 9 l).headD undef) e37_0
     subst yu37_0_0
     subst yu37_0_1
     subst yu37_0_2
     subst yu37_0_3
     subst eo37_0
     obtain ⟨s39, hw39, p39, Au37_0_1, hn39, hc39⟩ := sp2 44 hu37_0_1 hn37_0 hc37_0 rfl
     rw [hw39]
     have Au37_0_3 : OwF (Kd.sl 5 (Kd.int .u8)) s39 [v37_3] r37.1.Value.T 44 := sp1 (hw39 ▸ hu37_0_3) hn39 hc39
     refine pu rfl rfl rfl rfl rfl ?_
     refine pu (v := (.agg #[(.int .i64 r37.1.Xmin), (.int .i64 r37.1.Xmax), (.int .i64 r37.1.Key.Kind), (.int .i64 r37.1.Key.N), v37_0, v37_1, (.int .i64 r37.1.Value.Kind), (.int .i64 r37.1.Value.N), v37_2, v37_3])) rfl rfl rfl rfl rfl ?_
     refine pu (v := (.bool r37.2)) rfl rfl rfl rfl rfl ?_
     refine al (cs := [(.int .i64 (0 : Int)), (.int .i64 (0 : Int)), (.int .i64 (0 : Int)), (.int .i64 (0 : Int)), (.float .f64 0), (.slice none 0 0), (.int .i64 (0 : Int)), (.int .i64 (0 : Int)), (.float .f64 0), (.slice none 0 0)]) 45 rfl rfl rfl rfl rfl o58 rfl (fun b42 s42 p42 B42 => ?_)
     have A44 := (Au37_0_3.st p42 rfl)
     have A45 := (Au37_0_1.st p42 rfl)
     refine sva (vs := [(.int .i64 r37.1.Xmin), (.int .i64 r37.1.Xmax), (.int .i64 r37.1.Key.Kind), (.int .i64 r37.1.Key.N), v37_0, v37_1, (.int .i64 r37.1.Value.Kind), (.int .i64 r37.1.Value.N), v37_2, v37_3]) B42 z58 rfl rfl rfl rfl rfl rfl (on_cons rfl (on_cons rfl (on_cons rfl (on_cons rfl (on_cons (FL.one hu37_0_0) (on_cons A45.rd.one (on_cons rfl (on_cons rfl (on_cons (FL.one hu37_0_2) (on_cons A44.rd.one on_nil)))))))))) rfl (fun s46 p46 B46 => ?_)
     refine pu rfl rfl rfl rfl rfl ?_
     refine dn ?_
     refine sr ?_
     refine fa fa142_1 rfl rfl rfl rfl rfl rfl ?_
     have A48 := (BlF.st (BlF.st (BlF.st (BlF.st Bx25_b15 p38 rfl) p39 rfl) p42 rfl) p46 rfl)
     refine ld A48 Tryz.underlying140 rfl rfl rfl rfl rfl rfl rfl rfl ?_
     refine pu rfl rfl rfl rfl rfl ?_
     have A49 := ((((Cx25_13.st p38 rfl).st p39 rfl).st p42 rfl).st p46 rfl)
     refine ix A49 Tryz.underlying140 z24 rfl rfl rfl rfl rfl rfl rfl rfl (fun ad50 es50 h0_50 h1_50 he50 ce50 ia50 => ?_)
     obtain ⟨v50, rfl, he50'⟩ := he50
     have A50 : RdF (Kd.sl 5 (Kd.int .u8)) s46 [v50] (at_ ((at_ a0.Pages x7).Slots) x25) [0] := ⟨v50, rfl, he50'⟩
     refine lc0 ce50 Tryz.underlying24 rfl rfl rfl rfl rfl rfl rfl rfl ?_
     refine ln A50 Tryz.underlying24 rfl rfl rfl rfl rfl rfl ?_
     refine pu rfl rfl rfl rfl rfl ?_
     refine pu rfl rfl rfl rfl rfl ?_
     refine jy [50, 51, 52, 53] [] 53 (.bool ((decide (((at_ ((at_ a0.Pages x7).Slots) x25).length : Int) > (0 : Int))) && (!r37.2))) rfl (fun Kg53 => ?_) (fun j53 => ?_)
     ·
      rcases Bool.eq_false_or_eq_true (decide (((at_ ((at_ a0.Pages x7).Slots) x25).length : Int) > (0 : Int))) with hb53 | hb53
      ·
       refine sbT hb53 ?_
       refine pu rfl rfl rfl rfl rfl ?_
       refine pu rfl rfl rfl rfl rfl ?_
       refine pu rfl rfl rfl rfl rfl ?_
       exact Kg53 _ (Ag.put ((Ag.put ((Ag.put (Ag.base rfl) rfl)) rfl)) rfl) (by rw [hb53]; rfl)
      ·
       refine sbT hb53 ?_
       refine uw rfl rfl rfl rfl ?_
       refine uw rfl rfl rfl rfl ?_
       refine pu rfl rfl rfl rfl rfl ?_
       exact Kg53 _ (Ag.put ((Ag.put ((Ag.put (Ag.base rfl) rfl)) rfl)) rfl) (by rw [hb53]; rfl)
     refine dn ?_
     refine cd rfl (fun h54 => ?_) (fun h54 => ?_)
     ·
      refine sr ?_
      refine pu rfl rfl rfl rfl rfl ?_
      refine dn ?_
      refine sgi ?_
      refine sgi ?_
      have K55 := ((((Kx25.st p38 rfl).st p39 rfl).st p42 rfl).st p46 rfl)
      exact re rfl Tryz.func108 rfl (r_t rfl r_nil) rfl ⟨_, rfl, rfl, z.ky K55⟩
     ·
      refine sk ?_
      refine ib ?_
      refine rg ?_
      refine pu rfl rfl rfl rfl rfl ?_
      refine pu rfl rfl rfl rfl rfl ?_
      refine pu rfl rfl rfl rfl rfl ?_
      refine dn ?_
      have A56 := (BlF.st (BlF.st (BlF.st (BlF.st Bx25_b2 p38 rfl) p39 rfl) p42 rfl) p46 rfl)
      have K57 := ((((Kx25.st p38 rfl).st p39 rfl).st p42 rfl).st p46 rfl)
      exact lb ih25 ⟨s46, _, rfl, (ue (ue (ue (ue rfl rfl) rfl) rfl) rfl), K57, A48, A56, A49⟩
    ·
     refine xt rfl ?_
     refine sgb ?_
     refine ib ?_
     refine rg ?_
     refine pu rfl rfl rfl rfl rfl ?_
     refine pu rfl rfl rfl rfl rfl ?_
     refine pu rfl rfl rfl rfl rfl ?_
     refine dn ?_
     exact lb ih7 ⟨s30, _, rfl, (ue (ue rfl rfl) rfl), Kx25, Bx25_b2⟩
  ·
   refine xt rfl ?_
   refine sgb ?_
   refine sr ?_
   refine pu rfl rfl rfl rfl rfl ?_
   refine dn ?_
   exact re rfl Tryz.func108 rfl (r_t rfl r_nil) rfl ⟨_, rfl, rfl, z.ky Kx7⟩
noncomputable def spec_HeapAt.f (a0 : Heap) (a1 : Int) (a2 : Int) : Option (Tuple × Bool) :=
 ((spec_HeapOk.f a0).bind fun r9 => ((if (!r9) = true then (some true) else ((spec_l5in.f a1 (0 : Int) (IntKind.wrap .i64 ((a0.Pages.length : Int) - (1 : Int)))).bind fun r18 => (some (!r18)))).bind fun y11 => ((if y11 = true then (some true) else (if 0 ≤ a1 ∧ a1 < (a0.Pages.length : Int) then ((spec_l5in.f a2 (0 : Int) (IntKind.wrap .i64 ((((at_ a0.Pages a1).Slots).length : Int) - (1 : Int)))).bind fun r31 => (some (!r31))) else none)).bind fun y26 => (if y26 = true then (some ((Tuple.mk (0 : Int) (0 : Int) (Item.mk (0 : Int) (0 : Int) (0 : Nat) ([] : (List Int))) (Item.mk (0 : Int) (0 : Int) (0 : Nat) ([] : (List Int)))), false)) else (if 0 ≤ a1 ∧ a1 < (a0.Pages.length : Int) then (if 0 ≤ a2 ∧ a2 < (((at_ a0.Pages a1).Slots).length : Int) then ((spec_TupleRead.f (at_ ((at_ a0.Pages a1).Slots) a2)).bind fun r52 => (some (r52.1, r52.2))) else none) else none)))))
def spec_HeapAt.Q (w : World) (F : Nat → Prop) (r : Tuple × Bool) (v : Value) (w' : World) : Prop :=
 ∃ (v0 : Value) (v1 : Value) (v2 : Value) (v3 : Value), v = .tuple #[(.agg #[(.int .i64 r.1.Xmin), (.int .i64 r.1.Xmax), (.int .i64 r.1.Key.Kind), (.int .i64 r.1.Key.N), v0, v1, (.int .i64 r.1.Value.Kind), (.int .i64 r.1.Value.N), v2, v3]), (.bool r.2)] ∧ FO kd58 w w' [(.int .i64 r.1.Xmin), (.int .i64 r.1.Xmax), (.int .i64 r.1.Key.Kind), (.int .i64 r.1.Key.N), v0, v1, (.int .i64 r.1.Value.Kind), (.int .i64 r.1.Value.N), v2, v3] r.1 ∧ Ky [] w w'
set_option maxHeartbeats 4000000 in
set_option maxRecDepth 100000 in
theorem spec_HeapAt.calls (a0 : Heap) (a1 : Int) (a2 : Int) (w : World) (F : Nat → Prop) (w0_0 : Value) (h0_0 : (Kd.sl 142 kd142).rd w [w0_0] a0.Pages F) (r : Tuple × Bool) (m : spec_HeapAt.f a0 a1 a2 = some r) :
  Calls Tryz.prog 95 #[(.agg #[w0_0]), (.int .i64 a1), (.int .i64 a2)] w fun en w' => ∃ v, en = .returned v ∧ spec_HeapAt.Q w F r v w' := by
 obtain ⟨s0, rfl, kp0, z⟩ := start0 w F
 have A0_0 := z.rd h0_0
 refine calls_of_TM (args := [(.agg #[w0_0]), (.int .i64 a1), (.int .i64 a2)]) (R := fun r en w' => ∃ v, en = .returned v ∧ spec_HeapAt.Q s0.w F r v w') Tryz.func95 Tryz.ntmps95 rfl rfl m ?_
 unfold spec_HeapAt.f
 refine sr ?_
 refine bx (cs := [w0_0]) 40 rfl rfl rfl rfl rfl rfl (fun b2 s2 p2 B2 => ?_)
 refine al (cs := [(.int .i64 (0 : Int)), (.int .i64 (0 : Int)), (.int .i64 (0 : Int)), (.int .i64 (0 : Int)), (.float .f64 0), (.slice none 0 0), (.int .i64 (0 : Int)), (.int .i64 (0 : Int)), (.float .f64 0), (.slice none 0 0)]) 41 rfl rfl rfl rfl rfl o58 rfl (fun b4 s4 p4 B4 => ?_)
 refine pu rfl rfl rfl rfl rfl ?_
 refine dn ?_
 refine sq ?_
 refine sr ?_
 have A6 := (BlF.st B2 p4 rfl)
 refine lda (es := [w0_0]) A6 Tryz.underlying46 z46 rfl rfl rfl rfl rfl rfl rfl rfl ?_
 have K7 := ((kp0.st p2 rfl).st p4 rfl)
 have A8 := (A0_0.kp K7)
 refine cl rfl rfl rfl rfl rfl Tryz.func108 rfl rfl rfl (fun r9 m9 => spec_HeapOk.calls a0 s4.w (fun b => memb [0] (s4.g b) = true) w0_0 A8 r9 m9) ?_
 rintro r9 _ w9 m9 ⟨rfl, ky9⟩
 obtain ⟨s10, rfl, p10, n10⟩ := nwx s4 w9 42 ky9
 refine pu rfl rfl rfl rfl rfl ?_
 refine pu rfl rfl rfl rfl rfl ?_
 refine ji [12, 13, 14, 15, 16, 17, 18, 19, 20, 21, 22, 23, 24] (fun (y11 : Bool) (e : Env) (w : World) => ∃ (s : St) (e0 : Env), w = s.w ∧ e = upd (upd (upd (upd (upd e0 1 (.int .i64 a1)) 2 (.int .i64 a2)) 3 (.pointer (some ⟨b2, 0, none⟩))) 6 (.pointer (some ⟨b4, 0, none⟩))) 19 (.bool y11) ∧ Kp s0 s ∧ BlF s b4 58 [(.int .i64 (0 : Int)), (.int .i64 (0 : Int)), (.int .i64 (0 : Int)), (.int .i64 (0 : Int)), (.float .f64 0), (.slice none 0 0), (.int .i64 (0 : Int)), (.int .i64 (0 : Int)), (.float .f64 0), (.slice none 0 0)] 41 ∧ BlF s b2 46 [w0_0] 40) (fun Gj11 Kj11 => ?_) ?_
 ·
  rcases Bool.eq_false_or_eq_true (!r9) with hb11 | hb11
  ·
   refine sbT hb11 ?_
   rw [if_pos hb11]
   refine uw rfl rfl rfl rfl ?_
   refine uw rfl rfl rfl rfl ?_
   refine uw rfl rfl rfl rfl ?_
   refine uw rfl rfl rfl rfl ?_
   refine uw rfl rfl rfl rfl ?_
   refine uw rfl rfl rfl rfl ?_
   refine uw rfl rfl rfl rfl ?_
   refine pu rfl rfl rfl rfl rfl ?_
   have A12 := (BlF.st B4 p10 rfl)
   have A13 := (BlF.st A6 p10 rfl)
   have K14 := (K7.st p10 rfl)
   exact Kj11 _ _ _ ⟨s10, _, rfl, (ue (ue (ue (ue (ue rfl rfl) rfl) rfl) rfl) rfl), K14, A12, A13⟩
  ·
   refine sbT hb11 ?_
   rw [if_neg (by rw [hb11]; decide)]
   refine pu rfl rfl rfl rfl rfl ?_
   refine fa fa46_0 rfl rfl rfl rfl rfl rfl ?_
   have A15 := (BlF.st A6 p10 rfl)
   refine ld A15 Tryz.underlying44 rfl rfl rfl rfl rfl rfl rfl rfl ?_
   have K16 := (K7.st p10 rfl)
   have A17 := (A0_0.kp K16)
   refine ln A17 Tryz.underlying44 rfl rfl rfl rfl rfl rfl ?_
   refine pu rfl rfl rfl rfl rfl ?_
   refine cl rfl rfl rfl rfl rfl Tryz.func96 rfl rfl rfl (fun r18 m18 => spec_l5in.calls a1 (0 : Int) (IntKind.wrap .i64 ((a0.Pages.length : Int) - (1 : Int))) s10.w (fun b => memb [] (s10.g b) = true)  r18 m18) ?_
   rintro r18 _ w18 m18 ⟨rfl, ky18⟩
   obtain ⟨s19, rfl, p19, n19⟩ := nwx s10 w18 43 ky18
   refine pu rfl rfl rfl rfl rfl ?_
   refine pu rfl rfl rfl rfl rfl ?_
   have A20 := (BlF.st (BlF.st B4 p10 rfl) p19 rfl)
   have A21 := (BlF.st A15 p19 rfl)
   have K22 := (K16.st p19 rfl)
   exact Kj11 _ _ _ ⟨s19, _, rfl, (ue (ue (ue (ue (ue rfl rfl) rfl) rfl) rfl) rfl), K22, A20, A21⟩
 rintro y11 _ _ ⟨s23, _, rfl, rfl, Ky11, By11_b4, By11_b2⟩
 refine pu rfl rfl rfl rfl rfl ?_
 refine ji [] (fun (y26 : Bool) (e : Env) (w : World) => ∃ (s : St) (e0 : Env), w = s.w ∧ e = upd (upd (upd (upd (upd e0 1 (.int .i64 a1)) 2 (.int .i64 a2)) 3 (.pointer (some ⟨b2, 0, none⟩))) 6 (.pointer (some ⟨b4, 0, none⟩))) 32 (.bool y26) ∧ Kp s0 s ∧ BlF s b4 58 [(.int .i64 (0 : Int)), (.int .i64 (0 : Int)), (.int .i64 (0 : Int)), (.int .i64 (0 : Int)), (.float .f64 0), (.slice none 0 0), (.int .i64 (0 : Int)), (.int .i64 (0 : Int)), (.float .f64 0), (.slice none 0 0)] 41 ∧ BlF s b2 46 [w0_0] 40) (fun Gj26 Kj26 => ?_) ?_
 ·
  rcases Bool.eq_false_or_eq_true y11 with hb26 | hb26
  ·
   refine sbT hb26 ?_
   rw [if_pos hb26]
   refine uw rfl rfl rfl rfl ?_
   refine uw rfl rfl rfl rfl ?_
   refine uw rfl rfl rfl rfl ?_
   refine uw rfl rfl rfl rfl ?_
   refine uw rfl rfl rfl rfl ?_
   refine uw rfl rfl rfl rfl ?_
   refine uw rfl rfl rfl rfl ?_
   refine uw rfl rfl rfl rfl ?_
   refine uw rfl rfl rfl rfl ?_
   refine uw rfl rfl rfl rfl ?_
   refine uw rfl rfl rfl rfl ?_
   refine pu rfl rfl rfl rfl rfl ?_
   exact Kj26 _ _ _ ⟨s23, _, rfl, (ue (ue (ue (ue (ue rfl rfl) rfl) rfl) rfl) rfl), Ky11, By11_b4, By11_b2⟩
  ·
   refine sbT hb26 ?_
   rw [if_neg (by rw [hb26]; decide)]
   refine pu rfl rfl rfl rfl rfl ?_
   refine fa fa46_0 rfl rfl rfl rfl rfl rfl ?_
   refine ld By11_b2 Tryz.underlying44 rfl rfl rfl rfl rfl rfl rfl rfl ?_
   refine pu rfl rfl rfl rfl rfl ?_
   have A27 := (A0_0.kp Ky11)
   refine ix A27 Tryz.underlying44 z142 rfl rfl rfl rfl rfl rfl rfl rfl (fun ad28 es28 h0_28 h1_28 he28 ce28 ia28 => ?_)
   obtain ⟨v28_0, rfl, A28_0⟩ := op142 he28
   refine fa fa142_1 rfl rfl rfl rfl rfl rfl ?_
   refine lc ce28 Tryz.underlying140 rfl rfl rfl rfl rfl rfl rfl rfl ?_
   refine ln A28_0 Tryz.underlying140 rfl rfl rfl rfl rfl rfl ?_
   refine pu rfl rfl rfl rfl rfl ?_
   refine cl rfl rfl rfl rfl rfl Tryz.func96 rfl rfl rfl (fun r31 m31 => spec_l5in.calls a2 (0 : Int) (IntKind.wrap .i64 ((((at_ a0.Pages a1).Slots).length : Int) - (1 : Int))) s23.w (fun b => memb [] (s23.g b) = true)  r31 m31) ?_
   rintro r31 _ w31 m31 ⟨rfl, ky31⟩
   obtain ⟨s32, rfl, p32, n32⟩ := nwx s23 w31 44 ky31
   refine pu rfl rfl rfl rfl rfl ?_
   refine pu rfl rfl rfl rfl rfl ?_
   have A33 := (BlF.st By11_b4 p32 rfl)
   have A34 := (BlF.st By11_b2 p32 rfl)
   have K35 := (Ky11.st p32 rfl)
   exact Kj26 _ _ _ ⟨s32, _, rfl, (ue (ue (ue (ue (ue rfl rfl) rfl) rfl) rfl) rfl), K35, A33, A34⟩
 rintro y26 _ _ ⟨s36, _, rfl, rfl, Ky26, By26_b4, By26_b2⟩
 refine dn ?_
 refine cd rfl (fun h39 => ?_) (fun h39 => ?_)
 ·
  refine sr ?_
  refine bd (cells := [(.int .i64 (0 : Int)), (.int .i64 (0 : Int)), (.int .i64 (0 : Int)), (.int .i64 (0 : Int)), (.float .f64 0), (.slice none 0 0), (.int .i64 (0 : Int)), (.int .i64 (0 : Int)), (.float .f64 0), (.slice none 0 0)]) pl58 o58 rfl rfl rfl rfl rfl rfl ?_
  refine sva (vs := [(.int .i64 (0 : Int)), (.int .i64 (0 : Int)), (.int .i64 (0 : Int)), (.int .i64 (0 : Int)), (.float .f64 0), (.slice none 0 0), (.int .i64 (0 : Int)), (.int .i64 (0 : Int)), (.float .f64 0), (.slice none 0 0)]) By26_b4 z58 rfl rfl rfl rfl rfl rfl (on_cons rfl (on_cons rfl (on_cons rfl (on_cons rfl (on_cons (FL.one (fl_c rfl)) (on_cons rfl (on_cons rfl (on_cons rfl (on_cons (FL.one (fl_c rfl)) (on_cons rfl on_nil)))))))))) rfl (fun s40 p40 B40 => ?_)
  refine pu rfl rfl rfl rfl rfl ?_
  refine dn ?_
  have A42 : OwF kd58 s40 [(.int .i64 (0 : Int)), (.int .i64 (0 : Int)), (.int .i64 (0 : Int)), (.int .i64 (0 : Int)), (.float .f64 0), (.slice none 0 0), (.int .i64 (0 : Int)), (.int .i64 (0 : Int)), (.float .f64 0), (.slice none 0 0)] (Tuple.mk (0 : Int) (0 : Int) (Item.mk (0 : Int) (0 : Int) (0 : Nat) ([] : (List Int))) (Item.mk (0 : Int) (0 : Int) (0 : Nat) ([] : (List Int)))) 45 := ow_z _ _ (fz_iso (fun x : Tuple => (x.Xmin, x.Xmax, x.Key, x.Value)) (Tuple.mk (0 : Int) (0 : Int) (Item.mk (0 : Int) (0 : Int) (0 : Nat) ([] : (List Int))) (Item.mk (0 : Int) (0 : Int) (0 : Nat) ([] : (List Int)))) (fz_pair (fz_int .i64 (0 : Int)) (fz_pair (fz_int .i64 (0 : Int)) (fz_pair (fz_iso (fun x : Item => (x.Kind, x.N, x.F, x.T)) (Item.mk (0 : Int) (0 : Int) (0 : Nat) ([] : (List Int))) (fz_pair (fz_int .i64 (0 : Int)) (fz_pair (fz_int .i64 (0 : Int)) (fz_pair (fz_flt (fl_c rfl)) (fz_nil 5 (Kd.int .u8)))))) (fz_iso (fun x : Item => (x.Kind, x.N, x.F, x.T)) (Item.mk (0 : Int) (0 : Int) (0 : Nat) ([] : (List Int))) (fz_pair (fz_int .i64 (0 : Int)) (fz_pair (fz_int .i64 (0 : Int)) (fz_pair (fz_flt (fl_c rfl)) (fz_nil 5 (Kd.int .u8))))))))))
  have K44 := (Ky26.st p40 rfl)
  exact re rfl Tryz.func95 rfl (r_b B40 Tryz.underlying58 rfl z58 rfl (r_t rfl r_nil)) rfl ⟨_, rfl, (.float .f64 0), (.slice none 0 0), (.float .f64 0), (.slice none 0 0), rfl, A42.fo K44 rfl z.l, z.ky K44⟩
 ·
  refine sk ?_
  refine sr ?_
  refine fa fa46_0 rfl rfl rfl rfl rfl rfl ?_
  refine ld By26_b2 Tryz.underlying44 rfl rfl rfl rfl rfl rfl rfl rfl ?_
  refine pu rfl rfl rfl rfl rfl ?_
  have A45 := (A0_0.kp Ky26)
  refine ix A45 Tryz.underlying44 z142 rfl rfl rfl rfl rfl rfl rfl rfl (fun ad46 es46 h0_46 h1_46 he46 ce46 ia46 => ?_)
  obtain ⟨v46_0, rfl, A46_0⟩ := op142 he46
  refine fa fa142_1 rfl rfl rfl rfl rfl rfl ?_
  refine lc ce46 Tryz.underlying140 rfl rfl rfl rfl rfl rfl rfl rfl ?_
  refine pu rfl rfl rfl rfl rfl ?_
  refine ix A46_0 Tryz.underlying140 z24 rfl rfl rfl rfl rfl rfl rfl rfl (fun ad49 es49 h0_49 h1_49 he49 ce49 ia49 => ?_)
  obtain ⟨v49, rfl, he49'⟩ := he49
  have A49 : RdF (Kd.sl 5 (Kd.int .u8)) s36 [v49] (at_ ((at_ a0.Pages a1).Slots) a2) [0] := ⟨v49, rfl, he49'⟩
  refine lc0 ce49 Tryz.underlying24 rfl rfl rfl rfl rfl rfl rfl rfl ?_
  refine cl rfl rfl rfl rfl rfl Tryz.func183 rfl rfl rfl (fun r52 m52 => spec_TupleRead.calls (at_ ((at_ a0.Pages a1).Slots) a2) s36.w (fun b => memb [0] (s36.g b) = true) v49 A49 r52 m52) ?_
  rintro r52 _ w52 m52 ⟨v52_0, v52_1, v52_2, v52_3, rfl, f52_0, ky52⟩
  obtain ⟨s53, rfl, p53, n53⟩ := nwx s36 w52 46 ky52
  have A52_0 := f52_0.c n53
  obtain ⟨os52_0, ho52_0, hn52_0, hc52_0⟩ := A52_0
  obtain ⟨u52_0_0, u52_0_1, u52_0_2, u52_0_3, qu52_0_1, qu52_0_3, e52_0, eo52_0, hu52_0_0, hu52_0_1, hu52_0_2, hu52_0_3⟩ := po58 ho52_0
  have yu52_0_0 : v52_0 = u52_0_0 := congrArg (fun l => (List.drop 4 l).headD undef) e52_0
  have yu52_0_1 : v52_1 = u52_0_1 := congrArg (fun l => (List.drop 5 l).headD undef) e52_0
  have yu52_0_2 : v52_2 = u52_0_2 := congrArg (fun l => (List.drop 8 l).headD undef) e52_0
  have yu52_0_3 : v52_3 = u52_0_3 := congrArg (fun l => (List.drop 9 l).headD undef) e52_0
  subst yu52_0_0
  subst yu52_0_1
  subst yu52_0_2
  subst yu52_0_3
  subst eo52_0
  obtain ⟨s54, hw54, p54, Au52_0_1, hn54, hc54⟩ := sp2 47 hu52_0_1 hn52_0 hc52_0 rfl
  rw [hw54]
  have Au52_0_3 : OwF (Kd.sl 5 (Kd.int .u8)) s54 [v52_3] r52.1.Value.T 47 := sp1 (hw54 ▸ hu52_0_3) hn54 hc54
  refine pu (v := (.agg #[(.int .i64 r52.1.Xmin), (.int .i64 r52.1.Xmax), (.int .i64 r52.1.Key.Kind), (.int .i64 r52.1.Key.N), v52_0, v52_1, (.int .i64 r52.1.Value.Kind), (.int .i64 r52.1.Value.N), v52_2, v52_3])) rfl rfl rfl rfl rfl ?_
  refine pu (v := (.bool r52.2)) rfl rfl rfl rfl rfl ?_
  have A57 := (BlF.st (BlF.st By26_b4 p53 rfl) p54 rfl)
  refine sva (vs := [(.int .i64 r52.1.Xmin), (.int .i64 r52.1.Xmax), (.int .i64 r52.1.Key.Kind), (.int .i64 r52.1.Key.N), v52_0, v52_1, (.int .i64 r52.1.Value.Kind), (.int .i64 r52.1.Value.N), v52_2, v52_3]) A57 z58 rfl rfl rfl rfl rfl rfl (on_cons rfl (on_cons rfl (on_cons rfl (on_cons rfl (on_cons (FL.one hu52_0_0) (on_cons Au52_0_1.rd.one (on_cons rfl (on_cons rfl (on_cons (FL.one hu52_0_2) (on_cons Au52_0_3.rd.one on_nil)))))))))) rfl (fun s58 p58 B58 => ?_)
  refine pu rfl rfl rfl rfl rfl ?_
  refine dn ?_
  have A60 := (Au52_0_1.st p58 rfl)
  have A61 := (Au52_0_3.st p58 rfl)
  obtain ⟨s62, hw62, p62, A62⟩ := ow_2 (ow_isoz (fun x : Item => (x.Kind, x.N, x.F, x.T)) r52.1.Key (ow_l (fz_int .i64 r52.1.Key.Kind) (ow_l (fz_int .i64 r52.1.Key.N) (ow_l (fz_flt hu52_0_0) A60)))) (ow_isoz (fun x : Item => (x.Kind, x.N, x.F, x.T)) r52.1.Value (ow_l (fz_int .i64 r52.1.Value.Kind) (ow_l (fz_int .i64 r52.1.Value.N) (ow_l (fz_flt hu52_0_2) A61)))) rfl rfl
  rw [hw62]
  have A64 : OwF kd58 s62 [(.int .i64 r52.1.Xmin), (.int .i64 r52.1.Xmax), (.int .i64 r52.1.Key.Kind), (.int .i64 r52.1.Key.N), v52_0, v52_1, (.int .i64 r52.1.Value.Kind), (.int .i64 r52.1.Value.N), v52_2, v52_3] r52.1 46 := (ow_isoz (fun x : Tuple => (x.Xmin, x.Xmax, x.Key, x.Value)) r52.1 (ow_l (fz_int .i64 r52.1.Xmin) (ow_l (fz_int .i64 r52.1.Xmax) A62)))
  have A66 := (BlF.st B58 p62 rfl)
  have K67 := ((((Ky26.st p53 rfl).st p54 rfl).st p58 rfl).st p62 rfl)
  exact re rfl Tryz.func95 rfl (r_b A66 Tryz.underlying58 rfl z58 rfl (r_t rfl r_nil)) rfl ⟨_, rfl, v52_0, v52_1, v52_2, v52_3, rfl, A64.fo K67 rfl z.l, z.ky K67⟩
noncomputable def spec_l7copy.b0 (a0 : Page) (x11 : Int × (List (List Int))) : Option ((Int × (List (List Int))) ⊕ Page) :=
 (if (decide (x11.1 < (a0.Slots.length : Int))) = true then (if 0 ≤ x11.1 ∧ x11.1 < (a0.Slots.length : Int) then (if ([] : (List Int)).length + (at_ a0.Slots x11.1).length ≤ Lim then (if x11.2.length + ([(([] : (List Int)) ++ (at_ a0.Slots x11.1))]).length ≤ Lim then (some (Sum.inl ((IntKind.wrap .i64 (x11.1 + (1 : Int))), (x11.2 ++ [(([] : (List Int)) ++ (at_ a0.Slots x11.1))])))) else none) else none) else none) else ((some (Page.mk a0.Lsn x11.2)).bind fun o => some (Sum.inr o)))
noncomputable def spec_l7copy.f (a0 : Page) : Option (Page) :=
 (iter (spec_l7copy.b0 a0) ((0 : Int), ([] : (List (List Int)))))
def spec_l7copy.Q (w : World) (F : Nat → Prop) (r : Page) (v : Value) (w' : World) : Prop :=
 ∃ (v0 : Value), v = (.agg #[(.int .i64 r.Lsn), v0]) ∧ FO kd142 w w' [(.int .i64 r.Lsn), v0] r ∧ Ky [] w w'
set_option maxHeartbeats 4000000 in
set_option maxRecDepth 100000 in
theorem spec_l7copy.calls (a0 : Page) (w : World) (F : Nat → Prop) (w0_0 : Value) (h0_0 : (Kd.sl 24 (Kd.sl 5 (Kd.int .u8))).rd w [w0_0] a0.Slots F) (r : Page) (m : spec_l7copy.f a0 = some r) :
  Calls Tryz.prog 184 #[(.agg #[(.int .i64 a0.Lsn), w0_0])] w fun en w' => ∃ v, en = .returned v ∧ spec_l7copy.Q w F r v w' := by
 obtain ⟨s0, rfl, kp0, z⟩ := start0 w F
 have A0_0 := z.rd h0_0
 refine calls_of_TM (args := [(.agg #[(.int .i64 a0.Lsn), w0_0])]) (R := fun r en w' => ∃ v, en = .returned v ∧ spec_l7copy.Q s0.w F r v w') Tryz.func184 Tryz.ntmps184 rfl rfl m ?_
 unfold spec_l7copy.f
 refine sr ?_
 refine bx (cs := [(.int .i64 a0.Lsn), w0_0]) 40 rfl rfl rfl rfl rfl rfl (fun b2 s2 p2 B2 => ?_)
 refine al (cs := [(.int .i64 (0 : Int)), (.slice none 0 0)]) 41 rfl rfl rfl rfl rfl o142 rfl (fun b4 s4 p4 B4 => ?_)
 refine dn ?_
 refine sr ?_
 refine fa fa142_0 rfl rfl rfl rfl rfl rfl ?_
 have A6 := (BlF.st B2 p4 rfl)
 refine ld A6 Tryz.underlying3 rfl rfl rfl rfl rfl rfl rfl rfl ?_
 refine bd (cells := [(.int .i64 a0.Lsn), (.slice none 0 0)]) pl142 o142 rfl rfl rfl rfl rfl rfl ?_
 refine al (cs := [(.int .i64 (0 : Int)), (.slice none 0 0)]) 42 rfl rfl rfl rfl rfl o142 rfl (fun b7 s7 p7 B7 => ?_)
 refine sva (vs := [(.int .i64 a0.Lsn), (.slice none 0 0)]) B7 z142 rfl rfl rfl rfl rfl rfl (on_cons rfl (on_cons rfl on_nil)) rfl (fun s9 p9 B9 => ?_)
 refine dn ?_
 refine sq ?_
 refine sr ?_
 refine pu rfl rfl rfl rfl rfl ?_
 refine dn ?_
 refine bl ?_
 have A12 := (BlF.st (BlF.st B4 p7 rfl) p9 rfl)
 have A13 := (BlF.st (BlF.st A6 p7 rfl) p9 rfl)
 have K14 := ((((kp0.st p2 rfl).st p4 rfl).st p7 rfl).st p9 rfl)
 refine lpI (fun (x11 : Int × (List (List Int))) (e : Env) (w : World) => ∃ (s : St) (e0 : Env) (vx11_0 : Value), w = s.w ∧ e = upd (upd (upd (upd e0 1 (.pointer (some ⟨b2, 0, none⟩))) 2 (.pointer (some ⟨b4, 0, none⟩))) 3 (.pointer (some ⟨b7, 0, none⟩))) 4 (.int .i64 x11.1) ∧ Kp s0 s ∧ OwF (Kd.sl 24 (Kd.sl 5 (Kd.int .u8))) s [vx11_0] x11.2 43 ∧ BlF s b7 142 [(.int .i64 a0.Lsn), vx11_0] 42 ∧ BlF s b4 142 [(.int .i64 (0 : Int)), (.slice none 0 0)] 41 ∧ BlF s b2 142 [(.int .i64 a0.Lsn), w0_0] 40) ⟨s9, _, (.slice none 0 0), rfl, (ue (ue (ue (ue rfl rfl) rfl) rfl) rfl), K14, (ow_nil 24 (Kd.sl 5 (Kd.int .u8)) _ 43), B9, A12, A13⟩ (fun g11 ih11 => ?_)
 rintro x11 _ _ ⟨s15, _, vx11_0, rfl, rfl, Kx11, Ax11_0, Bx11_b7, Bx11_b4, Bx11_b2⟩
 unfold spec_l7copy.b0
 refine sq ?_
 refine sr ?_
 refine pu rfl rfl rfl rfl rfl ?_
 refine fa fa142_1 rfl rfl rfl rfl rfl rfl ?_
 refine ld Bx11_b2 Tryz.underlying140 rfl rfl rfl rfl rfl rfl rfl rfl ?_
 have A20 := (A0_0.kp Kx11)
 refine ln A20 Tryz.underlying140 rfl rfl rfl rfl rfl rfl ?_
 refine pu rfl rfl rfl rfl rfl ?_
 refine dn ?_
 refine cd rfl (fun h21 => ?_) (fun h21 => ?_)
 ·
  refine sk ?_
  refine sq ?_
  refine bl ?_
  refine zdraw [[], [0], [], [], [3], [], [4, 5], [6], [2, 7], [8], [1, 9, 8], [0, 1, 2, 3, 4, 5, 6, 7, 8, 9, 10], [11, 10, 10, 0, 1, 2, 3, 4, 5, 6, 7, 8, 9, 10]] [some 15, some 16, some 17, some 18, some 19, some 20, some 21, some 22, some 23, some 24, some 25, some 26, none] [[3], [15], [], [1], [18], [4], [19, 20], [21], [17, 22], [23], [16, 24], [3], [26, 25]] [0, 1, 2, 3, 4, 5, 6, 7, 8, 9, 10, 11, 12] ⟨by kernel_rfl, by kernel_rfl, by kernel_rfl⟩ (by kernel_rfl) (fun s22 p22 l22 tb22 zd22 => ?_)
  have zd23 := zd22.add 0 15 (.pointer (some ⟨b7, 1, none⟩)) rfl
  have A24 := (BlF.st Bx11_b7 p22 rfl)
  have zd25 := zd23.add 1 16 vx11_0 rfl
  have zd26 := zd25.add 3 18 (.pointer (some ⟨b2, 1, none⟩)) rfl
  have A27 := (BlF.st Bx11_b2 p22 rfl)
  have zd28 := zd26.add 4 19 w0_0 rfl
  have zd29 := zd28.add 5 20 (.int .i64 x11.1) rfl
  have K30 := (Kx11.st p22 rfl)
  have A31 := (A0_0.kp K30)
  refine mg fun hg32 => ?_
  obtain ⟨ad32, es32, he32, ce32, ia32⟩ := ix_e A31 rfl hg32.1 hg32.2
  have h0_32 := hg32.1
  have h1_32 := hg32.2
  obtain ⟨v32, rfl, he32'⟩ := he32
  have A32 : RdF (Kd.sl 5 (Kd.int .u8)) s22 [v32] (at_ a0.Slots x11.1) [0] := ⟨v32, rfl, he32'⟩
  have zd35 := zd29.add 6 21 (.pointer (some ad32)) rfl
  have zd36 := zd35.add 7 22 v32 rfl
  have A38 := (BlF.st Bx11_b7 p22 rfl)
  have A39 := (BlF.st Bx11_b2 p22 rfl)
  refine zstep 2 [some 22, some 21, some 20, some 19, some 18, some 16, some 15] tb22 zd36 (pq_cons (lc0_q ce32 Tryz.underlying24 rfl rfl rfl rfl rfl rfl rfl rfl) rfl (pq_cons (ix_q A31 Tryz.underlying140 z24 hg32.1 hg32.2 ia32 rfl rfl rfl rfl rfl rfl rfl) rfl (pq_cons (pu_q rfl rfl rfl rfl rfl rfl) rfl (pq_cons (ld_q A39 Tryz.underlying140 rfl rfl rfl rfl rfl rfl rfl rfl) rfl (pq_cons (fa_q fa142_1 rfl rfl rfl rfl rfl rfl) rfl (pq_cons (ld_q A38 Tryz.underlying140 rfl rfl rfl rfl rfl rfl rfl rfl) rfl (pq_cons (fa_q fa142_1 rfl rfl rfl rfl rfl rfl) rfl pq_nil))))))) (by kernel_rfl) rfl (fun l37 e37 zd37 => ?_)
  refine lt0 (K := (Kd.int .u8)) 44 Tryz.underlying24 z5 rfl rfl rfl rfl rfl (fun v40 s40 p40 A40 => ?_)
  refine zdone (L' := [7, 6, 5, 4, 3, 1, 0]) (D' := [2]) zd37 rfl rfl rfl (fun zd42 => ?_)
  have A44 := (BlF.st (BlF.st Bx11_b7 p22 rfl) p40 rfl)
  have A45 := (BlF.st (BlF.st Bx11_b2 p22 rfl) p40 rfl)
  have K46 := (K30.st p40 rfl)
  have A47 := (A0_0.kp K46)
  have ce48 := (ce32.st p40 rfl rfl)
  refine zstep 8 [some 16, some 15] tb22 zd42 (pq_cons (lc0_q ce48 Tryz.underlying24 rfl rfl rfl rfl rfl rfl rfl rfl) rfl (pq_cons (ix_q A47 Tryz.underlying140 z24 hg32.1 hg32.2 ia32 rfl rfl rfl rfl rfl rfl rfl) rfl (pq_cons (pu_q rfl rfl rfl rfl rfl rfl) rfl (pq_cons (ld_q A45 Tryz.underlying140 rfl rfl rfl rfl rfl rfl rfl rfl) rfl (pq_cons (fa_q fa142_1 rfl rfl rfl rfl rfl rfl) rfl (pq_cons (ld_q A44 Tryz.underlying140 rfl rfl rfl rfl rfl rfl rfl rfl) rfl (pq_cons (fa_q fa142_1 rfl rfl rfl rfl rfl rfl) rfl pq_nil))))))) (by kernel_rfl) rfl (fun l43 e43 zd43 => ?_)
  have A49 := (A32.st p40 rfl)
  refine apF fl_int sl24 A40 A49 rfl rfl rfl rfl rfl rfl rfl (fun v50 s50 p50 A50 => ?_)
  refine zdone (L' := [1, 0]) (D' := [3, 4, 5, 6, 7, 8, 2]) zd43 rfl rfl rfl (fun zd52 => ?_)
  have A54 := (BlF.st (BlF.st (BlF.st Bx11_b7 p22 rfl) p40 rfl) p50 rfl)
  refine zstep 9 [some 16, some 15] tb22 zd52 (pq_cons (ld_q A54 Tryz.underlying140 rfl rfl rfl rfl rfl rfl rfl rfl) rfl (pq_cons (fa_q fa142_1 rfl rfl rfl rfl rfl rfl) rfl pq_nil)) (by kernel_rfl) rfl (fun l53 e53 zd53 => ?_)
  have L55 := lo_one A50
  refine ltO (K := (Kd.sl 5 (Kd.int .u8))) (cells := [v50]) [(([] : (List Int)) ++ (at_ a0.Slots x11.1))] 44 Tryz.underlying140 z24 o24 L55 rfl rfl rfl rfl rfl rfl rfl rfl rfl (lfill_pc (pc_c (oc A50.rd.one) pc_n) rfl) (fun v56 s56 p56 A56 => ?_)
  refine zdone (L' := [1, 0]) (D' := [9, 3, 4, 5, 6, 7, 8, 2]) zd53 rfl rfl rfl (fun zd58 => ?_)
  have A59 := (BlF.st (BlF.st (BlF.st (BlF.st Bx11_b7 p22 rfl) p40 rfl) p50 rfl) p56 rfl)
  refine zfin [10, 11, 12] tb22 zd58 (pq_cons (ld_q A59 Tryz.underlying140 rfl rfl rfl rfl rfl rfl rfl rfl) rfl (pq_cons (fa_q fa142_1 rfl rfl rfl rfl rfl rfl) rfl pq_nil)) (by kernel_rfl) (by decide) ?_
  have A60 := ((((Ax11_0.st p22 rfl).st p40 rfl).st p50 rfl).st p56 rfl)
  refine apO sl140 A60 A56 rfl rfl rfl rfl rfl rfl rfl rfl rfl (fun v61 s61 p61 A61 => ?_)
  refine fa fa142_1 rfl rfl rfl rfl rfl rfl ?_
  have A63 := (BlF.st (BlF.st (BlF.st (BlF.st (BlF.st Bx11_b7 p22 rfl) p40 rfl) p50 rfl) p56 rfl) p61 rfl)
  refine sv A63 z140 rfl rfl rfl rfl rfl rfl A61.rd.one rfl (fun s64 p64 B64 => ?_)
  refine dn ?_
  refine ib ?_
  refine rg ?_
  refine pu rfl rfl rfl rfl rfl ?_
  refine pu rfl rfl rfl rfl rfl ?_
  refine pu rfl rfl rfl rfl rfl ?_
  refine dn ?_
  have A66 := (A61.st p64 rfl)
  have A67 := (BlF.st (BlF.st (BlF.st (BlF.st (BlF.st (BlF.st Bx11_b4 p22 rfl) p40 rfl) p50 rfl) p56 rfl) p61 rfl) p64 rfl)
  have A68 := (BlF.st (BlF.st (BlF.st (BlF.st (BlF.st (BlF.st Bx11_b2 p22 rfl) p40 rfl) p50 rfl) p56 rfl) p61 rfl) p64 rfl)
  have K69 := ((((K46.st p50 rfl).st p56 rfl).st p61 rfl).st p64 rfl)
  exact lb ih11 ⟨s64, _, v61, rfl, (ue (ue (ue (ue rfl rfl) rfl) rfl) rfl), K69, A66, B64, A67, A68⟩
 ·
  refine xt rfl ?_
  refine sgb ?_
  refine sr ?_
  refine lda (es := [(.int .i64 a0.Lsn), vx11_0]) Bx11_b7 Tryz.underlying142 z142 rfl rfl rfl rfl rfl rfl rfl rfl ?_
  refine sva (vs := [(.int .i64 a0.Lsn), vx11_0]) Bx11_b4 z142 rfl rfl rfl rfl rfl rfl (on_cons rfl (on_cons Ax11_0.rd.one on_nil)) rfl (fun s70 p70 B70 => ?_)
  refine dn ?_
  have A73 := (Ax11_0.st p70 rfl)
  have A72 : OwF kd142 s70 [(.int .i64 a0.Lsn), vx11_0] (Page.mk a0.Lsn x11.2) 43 := (ow_isoz (fun x : Page => (x.Lsn, x.Slots)) (Page.mk a0.Lsn x11.2) (ow_l (fz_int .i64 a0.Lsn) A73))
  have K75 := (Kx11.st p70 rfl)
  exact re rfl Tryz.func184 rfl (r_b B70 Tryz.underlying142 rfl z142 rfl r_nil) rfl ⟨_, rfl, vx11_0, rfl, A72.fo K75 rfl z.l, z.ky K75⟩
noncomputable def spec_l10copy.b0 (a0 : Heap) (x8 : Int × (List Page)) : Option ((Int × (List Page)) ⊕ Heap) :=
 (if (decide (x8.1 < (a0.Pages.length : Int))) = true then (if 0 ≤ x8.1 ∧ x8.1 < (a0.Pages.length : Int) then ((spec_l7copy.f (at_ a0.Pages x8.1)).bind fun r37 => (if x8.2.length + ([r37]).length ≤ Lim then (some (Sum.inl ((IntKind.wrap .i64 (x8.1 + (1 : Int))), (x8.2 ++ [r37])))) else none)) else none) else ((some (Heap.mk x8.2)).bind fun o => some (Sum.inr o)))
noncomputable def spec_l10copy.f (a0 : Heap) : Option (Heap) :=
 (iter (spec_l10copy.b0 a0) ((0 : Int), ([] : (List Page))))
def spec_l10copy.Q (w : World) (F : Nat → Prop) (r : Heap) (v : Value) (w' : World) : Prop :=
 ∃ (v0 : Value), v = (.agg #[v0]) ∧ FO kd46 w w' [v0] r ∧ Ky [] w w'
set_option maxHeartbeats 4000000 in
set_option maxRecDepth 100000 in
theorem spec_l10copy.calls (a0 : Heap) (w : World) (F : Nat → Prop) (w0_0 : Value) (h0_0 : (Kd.sl 142 kd142).rd w [w0_0] a0.Pages F) (r : Heap) (m : spec_l10copy.f a0 = some r) :
  Calls Tryz.prog 97 #[(.agg #[w0_0])] w fun en w' => ∃ v, en = .returned v ∧ spec_l10copy.Q w F r v w' := by
 obtain ⟨s0, rfl, kp0, z⟩ := start0 w F
 have A0_0 := z.rd h0_0
 refine calls_of_TM (args := [(.agg #[w0_0])]) (R := fun r en w' => ∃ v, en = .returned v ∧ spec_l10copy.Q s0.w F r v w') Tryz.func97 Tryz.ntmps97 rfl rfl m ?_
 unfold spec_l10copy.f
 refine sr ?_
 refine bx (cs := [w0_0]) 40 rfl rfl rfl rfl rfl rfl (fun b2 s2 p2 B2 => ?_)
 refine al (cs := [(.slice none 0 0)]) 41 rfl rfl rfl rfl rfl o46 rfl (fun b4 s4 p4 B4 => ?_)
 refine dn ?_
 refine sr ?_
 refine al (cs := [(.slice none 0 0)]) 42 rfl rfl rfl rfl rfl o46 rfl (fun b6 s6 p6 B6 => ?_)
 refine dn ?_
 refine sq ?_
 refine sr ?_
 refine pu rfl rfl rfl rfl rfl ?_
 refine dn ?_
 refine bl ?_
 have A9 := (BlF.st B4 p6 rfl)
 have A10 := (BlF.st (BlF.st B2 p4 rfl) p6 rfl)
 have K11 := (((kp0.st p2 rfl).st p4 rfl).st p6 rfl)
 refine lpI (fun (x8 : Int × (List Page)) (e : Env) (w : World) => ∃ (s : St) (e0 : Env) (vx8_0 : Value), w = s.w ∧ e = upd (upd (upd (upd e0 1 (.pointer (some ⟨b2, 0, none⟩))) 2 (.pointer (some ⟨b4, 0, none⟩))) 3 (.pointer (some ⟨b6, 0, none⟩))) 4 (.int .i64 x8.1) ∧ Kp s0 s ∧ OwF (Kd.sl 142 kd142) s [vx8_0] x8.2 43 ∧ BlF s b6 46 [vx8_0] 42 ∧ BlF s b4 46 [(.slice none 0 0)] 41 ∧ BlF s b2 46 [w0_0] 40) ⟨s6, _, (.slice none 0 0), rfl, (ue (ue (ue (ue rfl rfl) rfl) rfl) rfl), K11, (ow_nil 142 kd142 _ 43), B6, A9, A10⟩ (fun g8 ih8 => ?_)
 rintro x8 _ _ ⟨s12, _, vx8_0, rfl, rfl, Kx8, Ax8_0, Bx8_b6, Bx8_b4, Bx8_b2⟩
 unfold spec_l10copy.b0
 refine sq ?_
 refine sr ?_
 refine pu rfl rfl rfl rfl rfl ?_
 refine fa fa46_0 rfl rfl rfl rfl rfl rfl ?_
 refine ld Bx8_b2 Tryz.underlying44 rfl rfl rfl rfl rfl rfl rfl rfl ?_
 have A17 := (A0_0.kp Kx8)
 refine ln A17 Tryz.underlying44 rfl rfl rfl rfl rfl rfl ?_
 refine pu rfl rfl rfl rfl rfl ?_
 refine dn ?_
 refine cd rfl (fun h18 => ?_) (fun h18 => ?_)
 ·
  refine sk ?_
  refine sq ?_
  refine bl ?_
  refine zdraw [[], [0], [], [2], [], [3, 4], [5], [6], [7], [1, 8, 7], [0, 1, 2, 3, 4, 5, 6, 7, 8, 9], [10, 9, 9, 0, 1, 2, 3, 4, 5, 6, 7, 8, 9]] [some 12, some 13, some 14, some 15, some 16, some 17, some 18, some 19, some 20, some 21, some 22, none] [[3], [12], [1], [14], [4], [15, 16], [17], [18], [19], [13, 20], [3], [22, 21]] [0, 1, 2, 3, 4, 5, 6, 7, 8, 9, 10, 11] ⟨by kernel_rfl, by kernel_rfl, by kernel_rfl⟩ (by kernel_rfl) (fun s19 p19 l19 tb19 zd19 => ?_)
  have zd20 := zd19.add 0 12 (.pointer (some ⟨b6, 0, none⟩)) rfl
  have A21 := (BlF.st Bx8_b6 p19 rfl)
  have zd22 := zd20.add 1 13 vx8_0 rfl
  have zd23 := zd22.add 2 14 (.pointer (some ⟨b2, 0, none⟩)) rfl
  have A24 := (BlF.st Bx8_b2 p19 rfl)
  have zd25 := zd23.add 3 15 w0_0 rfl
  have zd26 := zd25.add 4 16 (.int .i64 x8.1) rfl
  have K27 := (Kx8.st p19 rfl)
  have A28 := (A0_0.kp K27)
  refine mg fun hg29 => ?_
  obtain ⟨ad29, es29, he29, ce29, ia29⟩ := ix_e A28 rfl hg29.1 hg29.2
  have h0_29 := hg29.1
  have h1_29 := hg29.2
  obtain ⟨v29_0, rfl, A29_0⟩ := op142 he29
  have zd32 := zd26.add 5 17 (.pointer (some ad29)) rfl
  have zd33 := zd32.add 6 18 (.agg #[(.int .i64 ((at_ a0.Pages x8.1).Lsn)), v29_0]) rfl
  have A35 := (BlF.st Bx8_b6 p19 rfl)
  have A36 := (BlF.st Bx8_b2 p19 rfl)
  refine zstep 7 [some 13, some 12] tb19 zd33 (pq_cons (lca_q ce29 Tryz.underlying142 z142 rfl rfl rfl rfl rfl rfl rfl) rfl (pq_cons (ix_q A28 Tryz.underlying44 z142 hg29.1 hg29.2 ia29 rfl rfl rfl rfl rfl rfl rfl) rfl (pq_cons (pu_q rfl rfl rfl rfl rfl rfl) rfl (pq_cons (ld_q A36 Tryz.underlying44 rfl rfl rfl rfl rfl rfl rfl rfl) rfl (pq_cons (fa_q fa46_0 rfl rfl rfl rfl rfl rfl) rfl (pq_cons (ld_q A35 Tryz.underlying44 rfl rfl rfl rfl rfl rfl rfl rfl) rfl (pq_cons (fa_q fa46_0 rfl rfl rfl rfl rfl rfl) rfl pq_nil))))))) (by kernel_rfl) rfl (fun l34 e34 zd34 => ?_)
  refine cl rfl rfl rfl rfl rfl Tryz.func184 rfl rfl rfl (fun r37 m37 => spec_l7copy.calls (at_ a0.Pages x8.1) s19.w (fun b => memb [0] (s19.g b) = true) v29_0 A29_0 r37 m37) ?_
  rintro r37 _ w37 m37 ⟨v37_0, rfl, f37_0, ky37⟩
  obtain ⟨s38, rfl, p38, n38⟩ := nwx s19 w37 44 ky37
  have A37_0 := f37_0.c n38
  obtain ⟨os37_0, ho37_0, hn37_0, hc37_0⟩ := A37_0
  obtain ⟨u37_0_0, qu37_0_0, e37_0, eo37_0, hu37_0_0⟩ := po142 ho37_0
  have yu37_0_0 : v37_0 = u37_0_0 := congrArg (fun l => (List.drop 1 l).headD undef) e37_0
  subst yu37_0_0
  subst eo37_0
  have Au37_0_0 : OwF (Kd.sl 24 (Kd.sl 5 (Kd.int .u8))) s38 [v37_0] r37.Slots 44 := sp1 hu37_0_0 hn37_0 hc37_0
  refine zdone (L' := [1, 0]) (D' := [2, 3, 4, 5, 6, 7]) zd34 rfl rfl rfl (fun zd40 => ?_)
  have A42 := (BlF.st (BlF.st Bx8_b6 p19 rfl) p38 rfl)
  refine zstep 8 [some 13, some 12] tb19 zd40 (pq_cons (ld_q A42 Tryz.underlying44 rfl rfl rfl rfl rfl rfl rfl rfl) rfl (pq_cons (fa_q fa46_0 rfl rfl rfl rfl rfl rfl) rfl pq_nil)) (by kernel_rfl) rfl (fun l41 e41 zd41 => ?_)
  have A43 : OwF kd142 s38 [(.int .i64 r37.Lsn), v37_0] r37 44 := (ow_isoz (fun x : Page => (x.Lsn, x.Slots)) r37 (ow_l (fz_int .i64 r37.Lsn) Au37_0_0))
  have L45 := lo_one A43
  refine ltO (K := kd142) (cells := [(.int .i64 r37.Lsn), v37_0]) [r37] 44 Tryz.underlying44 z142 o142 L45 rfl rfl rfl rfl rfl rfl rfl rfl rfl rfl (fun v46 s46 p46 A46 => ?_)
  refine zdone (L' := [1, 0]) (D' := [8, 2, 3, 4, 5, 6, 7]) zd41 rfl rfl rfl (fun zd48 => ?_)
  have A49 := (BlF.st (BlF.st (BlF.st Bx8_b6 p19 rfl) p38 rfl) p46 rfl)
  refine zfin [9, 10, 11] tb19 zd48 (pq_cons (ld_q A49 Tryz.underlying44 rfl rfl rfl rfl rfl rfl rfl rfl) rfl (pq_cons (fa_q fa46_0 rfl rfl rfl rfl rfl rfl) rfl pq_nil)) (by kernel_rfl) (by decide) ?_
  have A50 := (((Ax8_0.st p19 rfl).st p38 rfl).st p46 rfl)
  refine apO sl44 A50 A46 rfl rfl rfl rfl rfl rfl rfl rfl rfl (fun v51 s51 p51 A51 => ?_)
  refine fa fa46_0 rfl rfl rfl rfl rfl rfl ?_
  have A53 := (BlF.st (BlF.st (BlF.st (BlF.st Bx8_b6 p19 rfl) p38 rfl) p46 rfl) p51 rfl)
  refine sv A53 z44 rfl rfl rfl rfl rfl rfl A51.rd.one rfl (fun s54 p54 B54 => ?_)
  refine dn ?_
  refine ib ?_
  refine rg ?_
  refine pu rfl rfl rfl rfl rfl ?_
  refine pu rfl rfl rfl rfl rfl ?_
  refine pu rfl rfl rfl rfl rfl ?_
  refine dn ?_
  have A56 := (A51.st p54 rfl)
  have A57 := (BlF.st (BlF.st (BlF.st (BlF.st (BlF.st Bx8_b4 p19 rfl) p38 rfl) p46 rfl) p51 rfl) p54 rfl)
  have A58 := (BlF.st (BlF.st (BlF.st (BlF.st (BlF.st Bx8_b2 p19 rfl) p38 rfl) p46 rfl) p51 rfl) p54 rfl)
  have K59 := ((((K27.st p38 rfl).st p46 rfl).st p51 rfl).st p54 rfl)
  exact lb ih8 ⟨s54, _, v51, rfl, (ue (ue (ue (ue rfl rfl) rfl) rfl) rfl), K59, A56, B54, A57, A58⟩
 ·
  refine xt rfl ?_
  refine sgb ?_
  refine sr ?_
  refine lda (es := [vx8_0]) Bx8_b6 Tryz.underlying46 z46 rfl rfl rfl rfl rfl rfl rfl rfl ?_
  refine sva (vs := [vx8_0]) Bx8_b4 z46 rfl rfl rfl rfl rfl rfl (on_cons Ax8_0.rd.one on_nil) rfl (fun s60 p60 B60 => ?_)
  refine dn ?_
  have A63 := (Ax8_0.st p60 rfl)
  have A62 : OwF kd46 s60 [vx8_0] (Heap.mk x8.2) 43 := (ow_isoz (fun x : Heap => (x.Pages)) (Heap.mk x8.2) A63)
  have K65 := (Kx8.st p60 rfl)
  exact re rfl Tryz.func97 rfl (r_b B60 Tryz.underlying46 rfl z46 rfl r_nil) rfl ⟨_, rfl, vx8_0, rfl, A62.fo K65 rfl z.l, z.ky K65⟩
noncomputable def spec_PagePut.b0 (a1 : Int) (a2 : (List Int)) (a3 : Int) (x52 : (List (List Int))) : Option ((List (List Int)) ⊕ (Page × Bool)) :=
 (if (decide ((x52.length : Int) ≤ a1)) = true then (if x52.length + ([([] : (List Int))]).length ≤ Lim then (some (Sum.inl (x52 ++ [([] : (List Int))]))) else none) else ((if ([] : (List Int)).length + a2.length ≤ Lim then (if 0 ≤ a1 ∧ a1 < (x52.length : Int) then ((spec_PageUsed.f (Page.mk a3 (x52.set (a1).toNat (([] : (List Int)) ++ a2)))).bind fun r104 => (if (decide (r104 < (0 : Int))) = true then (some ((Page.mk (0 : Int) ([] : (List (List Int)))), false)) else (some ((Page.mk a3 (x52.set (a1).toNat (([] : (List Int)) ++ a2))), true)))) else none) else none).bind fun o => some (Sum.inr o)))
noncomputable def spec_PagePut.f (a0 : Page) (a1 : Int) (a2 : (List Int)) (a3 : Int) : Option (Page × Bool) :=
 ((spec_PageUsed.f a0).bind fun r10 => ((if (decide (r10 < (0 : Int))) = true then (some true) else ((spec_l5in.f a1 (0 : Int) (15 : Int)).bind fun r16 => (some (!r16)))).bind fun y12 => ((if ((y12 || ((a2.length : Int) == (0 : Int))) || (decide ((a2.length : Int) > (92 : Int)))) = true then (some true) else ((spec_l5in.f a3 (1 : Int) (1000000 : Int)).bind fun r29 => (some (!r29)))).bind fun y28 => (if y28 = true then (some ((Page.mk (0 : Int) ([] : (List (List Int)))), false)) else ((spec_l7copy.f a0).bind fun r44 => (iter (spec_PagePut.b0 a1 a2 a3) r44.Slots))))))
def spec_PagePut.Q (w : World) (F : Nat → Prop) (r : Page × Bool) (v : Value) (w' : World) : Prop :=
 ∃ (v0 : Value), v = .tuple #[(.agg #[(.int .i64 r.1.Lsn), v0]), (.bool r.2)] ∧ FO kd142 w w' [(.int .i64 r.1.Lsn), v0] r.1 ∧ Ky [] w w'
set_option maxHeartbeats 4000000 in
set_option maxRecDepth 100000 in
theorem spec_PagePut.calls (a0 : Page) (a1 : Int) (a2 : (List Int)) (a3 : Int) (w : World) (F : Nat → Prop) (w0_0 : Value) (w2_0 : Value) (h0_0 : (Kd.sl 24 (Kd.sl 5 (Kd.int .u8))).rd w [w0_0] a0.Slots F) (h2_0 : (Kd.sl 5 (Kd.int .u8)).rd w [w2_0] a2 F) (r : Page × Bool) (m : spec_PagePut.f a0 a1 a2 a3 = some r) :
  Calls Tryz.prog 98 #[(.agg #[(.int .i64 a0.Lsn), w0_0]), (.int .i64 a1), w2_0, (.int .i64 a3)] w fun en w' => ∃ v, en = .returned v ∧ spec_PagePut.Q w F r v w' := by
 obtain ⟨s0, rfl, kp0, z⟩ := start0 w F
 have A0_0 := z.rd h0_0
 have A2_0 := z.rd h2_0
 refine calls_of_TM (args := [(.agg #[(.int .i64 a0.Lsn), w0_0]), (.int .i64 a1), w2_0, (.int .i64 a3)]) (R := fun r en w' => ∃ v, en = .returned v ∧ spec_PagePut.Q s0.w F r v w') Tryz.func98 Tryz.ntmps98 rfl rfl m ?_
 unfold spec_PagePut.f
 refine sr ?_
 refine bx (cs := [(.int .i64 a0.Lsn), w0_0]) 40 rfl rfl rfl rfl rfl rfl (fun b3 s3 p3 B3 => ?_)
 refine al (cs := [(.int .i64 (0 : Int)), (.slice none 0 0)]) 41 rfl rfl rfl rfl rfl o142 rfl (fun b5 s5 p5 B5 => ?_)
 refine pu rfl rfl rfl rfl rfl ?_
 refine dn ?_
 refine sq ?_
 refine sr ?_
 have A7 := (BlF.st B3 p5 rfl)
 refine lda (es := [(.int .i64 a0.Lsn), w0_0]) A7 Tryz.underlying142 z142 rfl rfl rfl rfl rfl rfl rfl rfl ?_
 have K8 := ((kp0.st p3 rfl).st p5 rfl)
 have A9 := (A0_0.kp K8)
 refine cl rfl rfl rfl rfl rfl Tryz.func185 rfl rfl rfl (fun r10 m10 => spec_PageUsed.calls a0 s5.w (fun b => memb [0] (s5.g b) = true) w0_0 A9 r10 m10) ?_
 rintro r10 _ w10 m10 ⟨rfl, ky10⟩
 obtain ⟨s11, rfl, p11, n11⟩ := nwx s5 w10 42 ky10
 refine pu rfl rfl rfl rfl rfl ?_
 refine pu rfl rfl rfl rfl rfl ?_
 refine ji [8, 9, 10, 11, 12, 13, 14, 15, 16, 17, 18, 19, 20, 21, 22] (fun (y12 : Bool) (e : Env) (w : World) => ∃ (s : St) (e0 : Env), w = s.w ∧ e = upd (upd (upd (upd (upd (upd e0 1 (.int .i64 a1)) 2 w2_0) 3 (.int .i64 a3)) 4 (.pointer (some ⟨b3, 0, none⟩))) 8 (.pointer (some ⟨b5, 0, none⟩))) 18 (.bool y12) ∧ Kp s0 s ∧ BlF s b5 142 [(.int .i64 (0 : Int)), (.slice none 0 0)] 41 ∧ BlF s b3 142 [(.int .i64 a0.Lsn), w0_0] 40) (fun Gj12 Kj12 => ?_) ?_
 ·
  rcases Bool.eq_false_or_eq_true (decide (r10 < (0 : Int))) with hb12 | hb12
  ·
   refine sbT hb12 ?_
   rw [if_pos hb12]
   refine uw rfl rfl rfl rfl ?_
   refine uw rfl rfl rfl rfl ?_
   refine uw rfl rfl rfl rfl ?_
   refine pu rfl rfl rfl rfl rfl ?_
   have A13 := (BlF.st B5 p11 rfl)
   have A14 := (BlF.st A7 p11 rfl)
   have K15 := (K8.st p11 rfl)
   exact Kj12 _ _ _ ⟨s11, _, rfl, (ue (ue (ue (ue (ue (ue rfl rfl) rfl) rfl) rfl) rfl) rfl), K15, A13, A14⟩
  ·
   refine sbT hb12 ?_
   rw [if_neg (by rw [hb12]; decide)]
   refine pu rfl rfl rfl rfl rfl ?_
   refine cl rfl rfl rfl rfl rfl Tryz.func96 rfl rfl rfl (fun r16 m16 => spec_l5in.calls a1 (0 : Int) (15 : Int) s11.w (fun b => memb [] (s11.g b) = true)  r16 m16) ?_
   rintro r16 _ w16 m16 ⟨rfl, ky16⟩
   obtain ⟨s17, rfl, p17, n17⟩ := nwx s11 w16 43 ky16
   refine pu rfl rfl rfl rfl rfl ?_
   refine pu rfl rfl rfl rfl rfl ?_
   have A18 := (BlF.st (BlF.st B5 p11 rfl) p17 rfl)
   have A19 := (BlF.st (BlF.st A7 p11 rfl) p17 rfl)
   have K20 := ((K8.st p11 rfl).st p17 rfl)
   exact Kj12 _ _ _ ⟨s17, _, rfl, (ue (ue (ue (ue (ue (ue rfl rfl) rfl) rfl) rfl) rfl) rfl), K20, A18, A19⟩
 rintro y12 _ _ ⟨s21, _, rfl, rfl, Ky12, By12_b5, By12_b3⟩
 refine pu rfl rfl rfl rfl rfl ?_
 refine jy [19, 20, 21, 22, 23] [13, 14, 15, 16, 17, 18, 19, 20, 21, 22] 23 (.bool (y12 || ((a2.length : Int) == (0 : Int)))) rfl (fun Kg24 => ?_) (fun j24 => ?_)
 ·
  rcases Bool.eq_false_or_eq_true y12 with hb24 | hb24
  ·
   refine sbT hb24 ?_
   refine uw rfl rfl rfl rfl ?_
   refine uw rfl rfl rfl rfl ?_
   refine uw rfl rfl rfl rfl ?_
   refine pu rfl rfl rfl rfl rfl ?_
   exact Kg24 _ (Ag.put ((Ag.put ((Ag.put ((Ag.put (Ag.base rfl) rfl)) rfl)) rfl)) rfl) (by rw [hb24]; rfl)
  ·
   refine sbT hb24 ?_
   refine mv w2_0 rfl rfl rfl rfl rfl rfl ?_
   have A25 := (A2_0.kp Ky12)
   refine ln A25 Tryz.underlying24 rfl rfl rfl rfl rfl rfl ?_
   refine pu rfl rfl rfl rfl rfl ?_
   refine pu rfl rfl rfl rfl rfl ?_
   exact Kg24 _ (Ag.put ((Ag.put ((Ag.put ((Ag.put (Ag.base rfl) rfl)) rfl)) rfl)) rfl) (by rw [hb24]; rfl)
 refine pu rfl rfl rfl rfl rfl ?_
 refine jy [24, 25, 26, 27, 28] [18, 19, 20, 21, 22] 28 (.bool ((y12 || ((a2.length : Int) == (0 : Int))) || (decide ((a2.length : Int) > (92 : Int))))) rfl (fun Kg26 => ?_) (fun j26 => ?_)
 ·
  rcases Bool.eq_false_or_eq_true (y12 || ((a2.length : Int) == (0 : Int))) with hb26 | hb26
  ·
   refine sbT hb26 ?_
   refine uw rfl rfl rfl rfl ?_
   refine uw rfl rfl rfl rfl ?_
   refine uw rfl rfl rfl rfl ?_
   refine pu rfl rfl rfl rfl rfl ?_
   exact Kg26 _ (Ag.put ((Ag.put ((Ag.put ((Ag.put (Ag.base rfl) rfl)) rfl)) rfl)) rfl) (by rw [hb26]; rfl)
  ·
   refine sbT hb26 ?_
   refine mv w2_0 rfl rfl rfl rfl rfl rfl ?_
   have A27 := (A2_0.kp Ky12)
   refine ln A27 Tryz.underlying24 rfl rfl rfl rfl rfl rfl ?_
   refine pu rfl rfl rfl rfl rfl ?_
   refine pu rfl rfl rfl rfl rfl ?_
   exact Kg26 _ (Ag.put ((Ag.put ((Ag.put ((Ag.put (Ag.base rfl) rfl)) rfl)) rfl)) rfl) (by rw [hb26]; rfl)
 refine pu rfl rfl rfl rfl rfl ?_
 refine ji [] (fun (y28 : Bool) (e : Env) (w : World) => ∃ (s : St) (e0 : Env), w = s.w ∧ e = upd (upd (upd (upd (upd (upd e0 1 (.int .i64 a1)) 2 w2_0) 3 (.int .i64 a3)) 4 (.pointer (some ⟨b3, 0, none⟩))) 8 (.pointer (some ⟨b5, 0, none⟩))) 33 (.bool y28) ∧ Kp s0 s ∧ BlF s b5 142 [(.int .i64 (0 : Int)), (.slice none 0 0)] 41 ∧ BlF s b3 142 [(.int .i64 a0.Lsn), w0_0] 40) (fun Gj28 Kj28 => ?_) ?_
 ·
  rcases Bool.eq_false_or_eq_true ((y12 || ((a2.length : Int) == (0 : Int))) || (decide ((a2.length : Int) > (92 : Int)))) with hb28 | hb28
  ·
   refine sbT hb28 ?_
   rw [if_pos hb28]
   refine uw rfl rfl rfl rfl ?_
   refine uw rfl rfl rfl rfl ?_
   refine uw rfl rfl rfl rfl ?_
   refine pu rfl rfl rfl rfl rfl ?_
   exact Kj28 _ _ _ ⟨s21, _, rfl, (ue (ue (ue (ue (ue (ue rfl rfl) rfl) rfl) rfl) rfl) rfl), Ky12, By12_b5, By12_b3⟩
  ·
   refine sbT hb28 ?_
   rw [if_neg (by rw [hb28]; decide)]
   refine pu rfl rfl rfl rfl rfl ?_
   refine cl rfl rfl rfl rfl rfl Tryz.func96 rfl rfl rfl (fun r29 m29 => spec_l5in.calls a3 (1 : Int) (1000000 : Int) s21.w (fun b => memb [] (s21.g b) = true)  r29 m29) ?_
   rintro r29 _ w29 m29 ⟨rfl, ky29⟩
   obtain ⟨s30, rfl, p30, n30⟩ := nwx s21 w29 44 ky29
   refine pu rfl rfl rfl rfl rfl ?_
   refine pu rfl rfl rfl rfl rfl ?_
   have A31 := (BlF.st By12_b5 p30 rfl)
   have A32 := (BlF.st By12_b3 p30 rfl)
   have K33 := (Ky12.st p30 rfl)
   exact Kj28 _ _ _ ⟨s30, _, rfl, (ue (ue (ue (ue (ue (ue rfl rfl) rfl) rfl) rfl) rfl) rfl), K33, A31, A32⟩
 rintro y28 _ _ ⟨s34, _, rfl, rfl, Ky28, By28_b5, By28_b3⟩
 refine dn ?_
 refine cd rfl (fun h37 => ?_) (fun h37 => ?_)
 ·
  refine sr ?_
  refine bd (cells := [(.int .i64 (0 : Int)), (.slice none 0 0)]) pl142 o142 rfl rfl rfl rfl rfl rfl ?_
  refine sva (vs := [(.int .i64 (0 : Int)), (.slice none 0 0)]) By28_b5 z142 rfl rfl rfl rfl rfl rfl (on_cons rfl (on_cons rfl on_nil)) rfl (fun s38 p38 B38 => ?_)
  refine pu rfl rfl rfl rfl rfl ?_
  refine dn ?_
  have A40 : OwF kd142 s38 [(.int .i64 (0 : Int)), (.slice none 0 0)] (Page.mk (0 : Int) ([] : (List (List Int)))) 45 := ow_z _ _ (fz_iso (fun x : Page => (x.Lsn, x.Slots)) (Page.mk (0 : Int) ([] : (List (List Int)))) (fz_pair (fz_int .i64 (0 : Int)) (fz_nil 24 (Kd.sl 5 (Kd.int .u8)))))
  have K42 := (Ky28.st p38 rfl)
  exact re rfl Tryz.func98 rfl (r_b B38 Tryz.underlying142 rfl z142 rfl (r_t rfl r_nil)) rfl ⟨_, rfl, (.slice none 0 0), rfl, A40.fo K42 rfl z.l, z.ky K42⟩
 ·
  refine sk ?_
  refine sr ?_
  refine lda (es := [(.int .i64 a0.Lsn), w0_0]) By28_b3 Tryz.underlying142 z142 rfl rfl rfl rfl rfl rfl rfl rfl ?_
  have A43 := (A0_0.kp Ky28)
  refine cl rfl rfl rfl rfl rfl Tryz.func184 rfl rfl rfl (fun r44 m44 => spec_l7copy.calls a0 s34.w (fun b => memb [0] (s34.g b) = true) w0_0 A43 r44 m44) ?_
  rintro r44 _ w44 m44 ⟨v44_0, rfl, f44_0, ky44⟩
  obtain ⟨s45, rfl, p45, n45⟩ := nwx s34 w44 46 ky44
  have A44_0 := f44_0.c n45
  obtain ⟨os44_0, ho44_0, hn44_0, hc44_0⟩ := A44_0
  obtain ⟨u44_0_0, qu44_0_0, e44_0, eo44_0, hu44_0_0⟩ := po142 ho44_0
  have yu44_0_0 : v44_0 = u44_0_0 := congrArg (fun l => (List.drop 1 l).headD undef) e44_0
  subst yu44_0_0
  subst eo44_0
  have Au44_0_0 : OwF (Kd.sl 24 (Kd.sl 5 (Kd.int .u8))) s45 [v44_0] r44.Slots 46 := sp1 hu44_0_0 hn44_0 hc44_0
  refine al (cs := [(.int .i64 (0 : Int)), (.slice none 0 0)]) 47 rfl rfl rfl rfl rfl o142 rfl (fun b47 s47 p47 B47 => ?_)
  have A49 := (Au44_0_0.st p47 rfl)
  refine sva (vs := [(.int .i64 r44.Lsn), v44_0]) B47 z142 rfl rfl rfl rfl rfl rfl (on_cons rfl (on_cons A49.rd.one on_nil)) rfl (fun s50 p50 B50 => ?_)
  refine dn ?_
  refine sq ?_
  refine bl ?_
  have A53 := (A49.st p50 rfl)
  have A54 := (BlF.st (BlF.st (BlF.st By28_b5 p45 rfl) p47 rfl) p50 rfl)
  have K55 := (((Ky28.st p45 rfl).st p47 rfl).st p50 rfl)
  refine lpI (fun (x52 : (List (List Int))) (e : Env) (w : World) => ∃ (s : St) (e0 : Env) (vx52_0 : Value), w = s.w ∧ e = upd (upd (upd (upd (upd e0 1 (.int .i64 a1)) 2 w2_0) 3 (.int .i64 a3)) 8 (.pointer (some ⟨b5, 0, none⟩))) 10 (.pointer (some ⟨b47, 0, none⟩)) ∧ Kp s0 s ∧ OwF (Kd.sl 24 (Kd.sl 5 (Kd.int .u8))) s [vx52_0] x52 46 ∧ BlF s b47 142 [(.int .i64 r44.Lsn), vx52_0] 47 ∧ BlF s b5 142 [(.int .i64 (0 : Int)), (.slice none 0 0)] 41) ⟨s50, _, v44_0, rfl, (ue (ue (ue (ue (ue rfl rfl) rfl) rfl) rfl) rfl), K55, A53, B50, A54⟩ (fun g52 ih52 => ?_)
  rintro x52 _ _ ⟨s56, _, vx52_0, rfl, rfl, Kx52, Ax52_0, Bx52_b47, Bx52_b5⟩
  unfold spec_PagePut.b0
  refine sq ?_
  refine sr ?_
  refine fa fa142_1 rfl rfl rfl rfl rfl rfl ?_
  refine ld Bx52_b47 Tryz.underlying140 rfl rfl rfl rfl rfl rfl rfl rfl ?_
  refine ln Ax52_0.rd Tryz.underlying140 rfl rfl rfl rfl rfl rfl ?_
  refine pu rfl rfl rfl rfl rfl ?_
  refine pu rfl rfl rfl rfl rfl ?_
  refine dn ?_
  refine cd rfl (fun h60 => ?_) (fun h60 => ?_)
  ·
   refine sk ?_
   refine bl ?_
   refine rg ?_
   refine fa fa142_1 rfl rfl rfl rfl rfl rfl ?_
   refine ld Bx52_b47 Tryz.underlying140 rfl rfl rfl rfl rfl rfl rfl rfl ?_
   have A61 : OwF (Kd.sl 5 (Kd.int .u8)) s56 [(.slice none 0 0)] ([] : (List Int)) 49 := ow_z _ _ (fz_nil 5 (Kd.int .u8))
   have L63 := lo_one A61
   refine ltO (K := (Kd.sl 5 (Kd.int .u8))) (cells := [(.slice none 0 0)]) [([] : (List Int))] 49 Tryz.underlying140 z24 o24 L63 rfl rfl rfl rfl rfl rfl rfl rfl rfl rfl (fun v64 s64 p64 A64 => ?_)
   have A66 := (Ax52_0.st p64 rfl)
   refine apO sl140 A66 A64 rfl rfl rfl rfl rfl rfl rfl rfl rfl (fun v67 s67 p67 A67 => ?_)
   refine fa fa142_1 rfl rfl rfl rfl rfl rfl ?_
   have A69 := (BlF.st (BlF.st Bx52_b47 p64 rfl) p67 rfl)
   refine sv A69 z140 rfl rfl rfl rfl rfl rfl A67.rd.one rfl (fun s70 p70 B70 => ?_)
   refine dn ?_
   refine ib ?_
   have A72 := (A67.st p70 rfl)
   have A73 := (BlF.st (BlF.st (BlF.st Bx52_b5 p64 rfl) p67 rfl) p70 rfl)
   have K74 := (((Kx52.st p64 rfl).st p67 rfl).st p70 rfl)
   exact lb ih52 ⟨s70, _, v67, rfl, (ue (ue (ue (ue (ue rfl rfl) rfl) rfl) rfl) rfl), K74, A72, B70, A73⟩
  ·
   refine xt rfl ?_
   refine sgb ?_
   refine sq ?_
   refine zdraw [[], [0], [], [], [], [3, 4], [1, 2, 0, 1, 2, 3, 4, 5], [6, 5, 5, 0, 1, 2, 3, 4, 5]] [some 47, some 48, some 49, some 50, some 51, some 52, some 53, none] [[10], [47], [1], [], [2], [50, 51], [48, 49], [53, 52]] [0, 1, 2, 3, 4, 5, 6, 7] ⟨by kernel_rfl, by kernel_rfl, by kernel_rfl⟩ (by kernel_rfl) (fun s75 p75 l75 tb75 zd75 => ?_)
   have zd76 := zd75.add 0 47 (.pointer (some ⟨b47, 1, none⟩)) rfl
   have A77 := (BlF.st Bx52_b47 p75 rfl)
   have zd78 := zd76.add 1 48 vx52_0 rfl
   have zd79 := zd78.add 2 49 (.int .i64 a1) rfl
   have zd80 := zd79.add 4 51 w2_0 rfl
   have A82 := (BlF.st Bx52_b47 p75 rfl)
   refine zstep 3 [some 51, some 49, some 48, some 47] tb75 zd80 (pq_cons (mv_q w2_0 rfl rfl rfl rfl rfl rfl) rfl (pq_cons (pu_q rfl rfl rfl rfl rfl rfl) rfl (pq_cons (ld_q A82 Tryz.underlying140 rfl rfl rfl rfl rfl rfl rfl rfl) rfl (pq_cons (fa_q fa142_1 rfl rfl rfl rfl rfl rfl) rfl pq_nil)))) (by kernel_rfl) rfl (fun l81 e81 zd81 => ?_)
   refine lt0 (K := (Kd.int .u8)) 50 Tryz.underlying24 z5 rfl rfl rfl rfl rfl (fun v83 s83 p83 A83 => ?_)
   refine zdone (L' := [4, 2, 1, 0]) (D' := [3]) zd81 rfl rfl rfl (fun zd85 => ?_)
   have A87 := (BlF.st (BlF.st Bx52_b47 p75 rfl) p83 rfl)
   refine zstep 5 [some 49, some 48, some 47] tb75 zd85 (pq_cons (mv_q w2_0 rfl rfl rfl rfl rfl rfl) rfl (pq_cons (pu_q rfl rfl rfl rfl rfl rfl) rfl (pq_cons (ld_q A87 Tryz.underlying140 rfl rfl rfl rfl rfl rfl rfl rfl) rfl (pq_cons (fa_q fa142_1 rfl rfl rfl rfl rfl rfl) rfl pq_nil)))) (by kernel_rfl) rfl (fun l86 e86 zd86 => ?_)
   have K88 := ((Kx52.st p75 rfl).st p83 rfl)
   have A89 := (A2_0.kp K88)
   refine apF fl_int sl24 A83 A89 rfl rfl rfl rfl rfl rfl rfl (fun v90 s90 p90 A90 => ?_)
   refine zdone (L' := [2, 1, 0]) (D' := [4, 5, 3]) zd86 rfl rfl rfl (fun zd92 => ?_)
   have A93 := (BlF.st (BlF.st (BlF.st Bx52_b47 p75 rfl) p83 rfl) p90 rfl)
   refine zfin [6, 7] tb75 zd92 (pq_cons (pu_q rfl rfl rfl rfl rfl rfl) rfl (pq_cons (ld_q A93 Tryz.underlying140 rfl rfl rfl rfl rfl rfl rfl rfl) rfl (pq_cons (fa_q fa142_1 rfl rfl rfl rfl rfl rfl) rfl pq_nil))) (by kernel_rfl) (by decide) ?_
   have A94 := (((Ax52_0.st p75 rfl).st p83 rfl).st p90 rfl)
   refine ix A94.rd Tryz.underlying140 z24 rfl rfl rfl rfl rfl rfl rfl rfl (fun ad95 es95 h0_95 h1_95 he95 ce95 ia95 => ?_)
   obtain ⟨v95, rfl, he95'⟩ := he95
   have A95 : RdF (Kd.sl 5 (Kd.int .u8)) s90 [v95] (at_ x52 a1) [46] := ⟨v95, rfl, he95'⟩
   refine sog (x' := (([] : (List Int)) ++ a2)) lg_id A94 ia95 h0_95 h1_95 A90 rfl rfl z24 rfl rfl rfl rfl rfl (oc A90.rd.one) (fun s98 p98 A98 => ?_)
   refine dn ?_
   refine sr ?_
   refine pu rfl rfl rfl rfl rfl ?_
   refine fa fa142_0 rfl rfl rfl rfl rfl rfl ?_
   have A100 := (BlF.st (BlF.st (BlF.st (BlF.st Bx52_b47 p75 rfl) p83 rfl) p90 rfl) p98 rfl)
   refine sv A100 z3 rfl rfl rfl rfl rfl rfl rfl rfl (fun s101 p101 B101 => ?_)
   refine dn ?_
   refine sq ?_
   refine sr ?_
   refine lda (es := [(.int .i64 a3), vx52_0]) B101 Tryz.underlying142 z142 rfl rfl rfl rfl rfl rfl rfl rfl ?_
   have A103 := (A98.st p101 rfl)
   refine cl rfl rfl rfl rfl rfl Tryz.func185 rfl rfl rfl (fun r104 m104 => spec_PageUsed.calls (Page.mk a3 (x52.set (a1).toNat (([] : (List Int)) ++ a2))) s101.w (fun b => memb [46] (s101.g b) = true) vx52_0 A103.rd r104 m104) ?_
   rintro r104 _ w104 m104 ⟨rfl, ky104⟩
   obtain ⟨s105, rfl, p105, n105⟩ := nwx s101 w104 51 ky104
   refine pu rfl rfl rfl rfl rfl ?_
   refine dn ?_
   refine cd rfl (fun h106 => ?_) (fun h106 => ?_)
   ·
    refine sr ?_
    refine bd (cells := [(.int .i64 (0 : Int)), (.slice none 0 0)]) pl142 o142 rfl rfl rfl rfl rfl rfl ?_
    have A107 := (BlF.st (BlF.st (BlF.st (BlF.st (BlF.st (BlF.st Bx52_b5 p75 rfl) p83 rfl) p90 rfl) p98 rfl) p101 rfl) p105 rfl)
    refine sva (vs := [(.int .i64 (0 : Int)), (.slice none 0 0)]) A107 z142 rfl rfl rfl rfl rfl rfl (on_cons rfl (on_cons rfl on_nil)) rfl (fun s108 p108 B108 => ?_)
    refine pu rfl rfl rfl rfl rfl ?_
    refine dn ?_
    have A110 : OwF kd142 s108 [(.int .i64 (0 : Int)), (.slice none 0 0)] (Page.mk (0 : Int) ([] : (List (List Int)))) 52 := ow_z _ _ (fz_iso (fun x : Page => (x.Lsn, x.Slots)) (Page.mk (0 : Int) ([] : (List (List Int)))) (fz_pair (fz_int .i64 (0 : Int)) (fz_nil 24 (Kd.sl 5 (Kd.int .u8)))))
    have K112 := (((((K88.st p90 rfl).st p98 rfl).st p101 rfl).st p105 rfl).st p108 rfl)
    exact re rfl Tryz.func98 rfl (r_b B108 Tryz.underlying142 rfl z142 rfl (r_t rfl r_nil)) rfl ⟨_, rfl, (.slice none 0 0), rfl, A110.fo K112 rfl z.l, z.ky K112⟩
   ·
    refine sk ?_
    refine sr ?_
    have A113 := (BlF.st B101 p105 rfl)
    refine lda (es := [(.int .i64 a3), vx52_0]) A113 Tryz.underlying142 z142 rfl rfl rfl rfl rfl rfl rfl rfl ?_
    have A114 := (BlF.st (BlF.st (BlF.st (BlF.st (BlF.st (BlF.st Bx52_b5 p75 rfl) p83 rfl) p90 rfl) p98 rfl) p101 rfl) p105 rfl)
    have A115 := (A103.st p105 rfl)
    refine sva (vs := [(.int .i64 a3), vx52_0]) A114 z142 rfl rfl rfl rfl rfl rfl (on_cons rfl (on_cons A115.rd.one on_nil)) rfl (fun s116 p116 B116 => ?_)
    refine pu rfl rfl rfl rfl rfl ?_
    refine dn ?_
    have A119 := (A115.st p116 rfl)
    have A118 : OwF kd142 s116 [(.int .i64 a3), vx52_0] (Page.mk a3 (x52.set (a1).toNat (([] : (List Int)) ++ a2))) 46 := (ow_isoz (fun x : Page => (x.Lsn, x.Slots)) (Page.mk a3 (x52.set (a1).toNat (([] : (List Int)) ++ a2))) (ow_l (fz_int .i64 a3) A119))
    have K121 := (((((K88.st p90 rfl).st p98 rfl).st p101 rfl).st p105 rfl).st p116 rfl)
    exact re rfl Tryz.func98 rfl (r_b B116 Tryz.underlying142 rfl z142 rfl (r_t rfl r_nil)) rfl ⟨_, rfl, vx52_0, rfl, A118.fo K121 rfl z.l, z.ky K121⟩
noncomputable def spec_HeapMark.f (a0 : Heap) (a1 : Int) (a2 : Int) (a3 : Int) (a4 : Int) : Option (Heap × Bool) :=
 ((spec_HeapAt.f a0 a1 a2).bind fun r9 => ((if (!r9.2) = true then (some true) else ((spec_l5in.f a3 (0 : Int) (400 : Int)).bind fun r26 => (some (!r26)))).bind fun y20 => ((if y20 = true then (some true) else ((spec_l5in.f a4 (1 : Int) (1000000 : Int)).bind fun r39 => (some (!r39)))).bind fun y38 => (if y38 = true then (some ((Heap.mk ([] : (List Page))), false)) else ((spec_l10copy.f a0).bind fun r62 => (if 0 ≤ a1 ∧ a1 < (r62.Pages.length : Int) then (((spec_TupleBytes.f (Tuple.mk r9.1.Xmin a3 r9.1.Key r9.1.Value)).bind fun r92 => ((spec_PagePut.f (at_ r62.Pages a1) a2 r92 a4).bind fun r102 => (some (r102.1.Lsn, r102.1.Slots, r102.2)))).bind fun y85 => (if 0 ≤ a1 ∧ a1 < (r62.Pages.length : Int) then (some ((Heap.mk (r62.Pages.set (a1).toNat (Page.mk y85.1 y85.2.1))), true)) else none)) else none))))))
def spec_HeapMark.Q (w : World) (F : Nat → Prop) (r : Heap × Bool) (v : Value) (w' : World) : Prop :=
 ∃ (v0 : Value), v = .tuple #[(.agg #[v0]), (.bool r.2)] ∧ FO kd46 w w' [v0] r.1 ∧ Ky [] w w'
set_option maxHeartbeats 4000000 in
set_option maxRecDepth 100000 in
theorem spec_HeapMark.calls (a0 : Heap) (a1 : Int) (a2 : Int) (a3 : Int) (a4 : Int) (w : World) (F : Nat → Prop) (w0_0 : Value) (h0_0 : (Kd.sl 142 kd142).rd w [w0_0] a0.Pages F) (r : Heap × Bool) (m : spec_HeapMark.f a0 a1 a2 a3 a4 = some r) :
  Calls Tryz.prog 22 #[(.agg #[w0_0]), (.int .i64 a1), (.int .i64 a2), (.int .i64 a3), (.int .i64 a4)] w fun en w' => ∃ v, en = .returned v ∧ spec_HeapMark.Q w F r v w' := by
 obtain ⟨s0, rfl, kp0, z⟩ := start0 w F
 have A0_0 := z.rd h0_0
 refine calls_of_TM (args := [(.agg #[w0_0]), (.int .i64 a1), (.int .i64 a2), (.int .i64 a3), (.int .i64 a4)]) (R := fun r en w' => ∃ v, en = .returned v ∧ spec_HeapMark.Q s0.w F r v w') Tryz.func22 Tryz.ntmps22 rfl rfl m ?_
 unfold spec_HeapMark.f
 refine sr ?_
 refine bx (cs := [w0_0]) 40 rfl rfl rfl rfl rfl rfl (fun b2 s2 p2 B2 => ?_)
 refine al (cs := [(.slice none 0 0)]) 41 rfl rfl rfl rfl rfl o46 rfl (fun b4 s4 p4 B4 => ?_)
 refine pu rfl rfl rfl rfl rfl ?_
 refine dn ?_
 refine sr ?_
 have A6 := (BlF.st B2 p4 rfl)
 refine lda (es := [w0_0]) A6 Tryz.underlying46 z46 rfl rfl rfl rfl rfl rfl rfl rfl ?_
 refine pu rfl rfl rfl rfl rfl ?_
 refine pu rfl rfl rfl rfl rfl ?_
 have K7 := ((kp0.st p2 rfl).st p4 rfl)
 have A8 := (A0_0.kp K7)
 refine cl rfl rfl rfl rfl rfl Tryz.func95 rfl rfl rfl (fun r9 m9 => spec_HeapAt.calls a0 a1 a2 s4.w (fun b => memb [0] (s4.g b) = true) w0_0 A8 r9 m9) ?_
 rintro r9 _ w9 m9 ⟨v9_0, v9_1, v9_2, v9_3, rfl, f9_0, ky9⟩
 obtain ⟨s10, rfl, p10, n10⟩ := nwx s4 w9 42 ky9
 have A9_0 := f9_0.c n10
 obtain ⟨os9_0, ho9_0, hn9_0, hc9_0⟩ := A9_0
 obtain ⟨u9_0_0, u9_0_1, u9_0_2, u9_0_3, qu9_0_1, qu9_0_3, e9_0, eo9_0, hu9_0_0, hu9_0_1, hu9_0_2, hu9_0_3⟩ := po58 ho9_0
 have yu9_0_0 : v9_0 = u9_0_0 := congrArg (fun l => (List.drop 4 l).headD undef) e9_0
 have yu9_0_1 : v9_1 = u9_0_1 := congrArg (fun l => (List.drop 5 l).headD undef) e9_0
 have yu9_0_2 : v9_2 = u9_0_2 := congrArg (fun l => (List.drop 8 l).headD undef) e9_0
 have yu9_0_3 : v9_3 = u9_0_3 := congrArg (fun l => (List.drop 9 l).headD undef) e9_0
 subst yu9_0_0
 subst yu9_0_1
 subst yu9_0_2
 subst yu9_0_3
 subst eo9_0
 obtain ⟨s11, hw11, p11, Au9_0_1, hn11, hc11⟩ := sp2 43 hu9_0_1 hn9_0 hc9_0 rfl
 rw [hw11]
 have Au9_0_3 : OwF (Kd.sl 5 (Kd.int .u8)) s11 [v9_3] r9.1.Value.T 43 := sp1 (hw11 ▸ hu9_0_3) hn11 hc11
 refine pu rfl rfl rfl rfl rfl ?_
 refine pu (v := (.agg #[(.int .i64 r9.1.Xmin), (.int .i64 r9.1.Xmax), (.int .i64 r9.1.Key.Kind), (.int .i64 r9.1.Key.N), v9_0, v9_1, (.int .i64 r9.1.Value.Kind), (.int .i64 r9.1.Value.N), v9_2, v9_3])) rfl rfl rfl rfl rfl ?_
 refine pu (v := (.bool r9.2)) rfl rfl rfl rfl rfl ?_
 refine al (cs := [(.int .i64 (0 : Int)), (.int .i64 (0 : Int)), (.int .i64 (0 : Int)), (.int .i64 (0 : Int)), (.float .f64 0), (.slice none 0 0), (.int .i64 (0 : Int)), (.int .i64 (0 : Int)), (.float .f64 0), (.slice none 0 0)]) 44 rfl rfl rfl rfl rfl o58 rfl (fun b14 s14 p14 B14 => ?_)
 have A16 := (Au9_0_3.st p14 rfl)
 have A17 := (Au9_0_1.st p14 rfl)
 refine sva (vs := [(.int .i64 r9.1.Xmin), (.int .i64 r9.1.Xmax), (.int .i64 r9.1.Key.Kind), (.int .i64 r9.1.Key.N), v9_0, v9_1, (.int .i64 r9.1.Value.Kind), (.int .i64 r9.1.Value.N), v9_2, v9_3]) B14 z58 rfl rfl rfl rfl rfl rfl (on_cons rfl (on_cons rfl (on_cons rfl (on_cons rfl (on_cons (FL.one hu9_0_0) (on_cons A17.rd.one (on_cons rfl (on_cons rfl (on_cons (FL.one hu9_0_2) (on_cons A16.rd.one on_nil)))))))))) rfl (fun s18 p18 B18 => ?_)
 refine pu rfl rfl rfl rfl rfl ?_
 refine dn ?_
 refine sq ?_
 refine sr ?_
 refine pu rfl rfl rfl rfl rfl ?_
 refine pu rfl rfl rfl rfl rfl ?_
 refine pu rfl rfl rfl rfl rfl ?_
 refine ji [7, 8, 9, 10, 11] (fun (y20 : Bool) (e : Env) (w : World) => ∃ (s : St) (e0 : Env), w = s.w ∧ e = upd (upd (upd (upd (upd (upd (upd (upd e0 1 (.int .i64 a1)) 2 (.int .i64 a2)) 3 (.int .i64 a3)) 4 (.int .i64 a4)) 5 (.pointer (some ⟨b2, 0, none⟩))) 10 (.pointer (some ⟨b4, 0, none⟩))) 12 (.pointer (some ⟨b14, 0, none⟩))) 30 (.bool y20) ∧ Kp s0 s ∧ BlF s b14 58 [(.int .i64 r9.1.Xmin), (.int .i64 r9.1.Xmax), (.int .i64 r9.1.Key.Kind), (.int .i64 r9.1.Key.N), v9_0, v9_1, (.int .i64 r9.1.Value.Kind), (.int .i64 r9.1.Value.N), v9_2, v9_3] 44 ∧ BlF s b4 46 [(.slice none 0 0)] 41 ∧ BlF s b2 46 [w0_0] 40 ∧ OwF (Kd.sl 5 (Kd.int .u8)) s [v9_1] r9.1.Key.T 42 ∧ OwF (Kd.sl 5 (Kd.int .u8)) s [v9_3] r9.1.Value.T 43) (fun Gj20 Kj20 => ?_) ?_
 ·
  rcases Bool.eq_false_or_eq_true (!r9.2) with hb20 | hb20
  ·
   refine sbT hb20 ?_
   rw [if_pos hb20]
   refine uw rfl rfl rfl rfl ?_
   refine uw rfl rfl rfl rfl ?_
   refine uw rfl rfl rfl rfl ?_
   refine pu rfl rfl rfl rfl rfl ?_
   have A21 := (BlF.st (BlF.st (BlF.st (BlF.st B4 p10 rfl) p11 rfl) p14 rfl) p18 rfl)
   have A22 := (BlF.st (BlF.st (BlF.st (BlF.st A6 p10 rfl) p11 rfl) p14 rfl) p18 rfl)
   have A23 := (A17.st p18 rfl)
   have A24 := (A16.st p18 rfl)
   have K25 := ((((K7.st p10 rfl).st p11 rfl).st p14 rfl).st p18 rfl)
   exact Kj20 _ _ _ ⟨s18, _, rfl, (ue (ue (ue (ue (ue (ue (ue (ue rfl rfl) rfl) rfl) rfl) rfl) rfl) rfl) rfl), K25, B18, A21, A22, A23, A24⟩
  ·
   refine sbT hb20 ?_
   rw [if_neg (by rw [hb20]; decide)]
   refine pu rfl rfl rfl rfl rfl ?_
   refine cl rfl rfl rfl rfl rfl Tryz.func96 rfl rfl rfl (fun r26 m26 => spec_l5in.calls a3 (0 : Int) (400 : Int) s18.w (fun b => memb [] (s18.g b) = true)  r26 m26) ?_
   rintro r26 _ w26 m26 ⟨rfl, ky26⟩
   obtain ⟨s27, rfl, p27, n27⟩ := nwx s18 w26 45 ky26
   refine pu rfl rfl rfl rfl rfl ?_
   refine pu rfl rfl rfl rfl rfl ?_
   have A28 := (BlF.st B18 p27 rfl)
   have A29 := (BlF.st (BlF.st (BlF.st (BlF.st (BlF.st B4 p10 rfl) p11 rfl) p14 rfl) p18 rfl) p27 rfl)
   have A30 := (BlF.st (BlF.st (BlF.st (BlF.st (BlF.st A6 p10 rfl) p11 rfl) p14 rfl) p18 rfl) p27 rfl)
   have A31 := ((A17.st p18 rfl).st p27 rfl)
   have A32 := ((A16.st p18 rfl).st p27 rfl)
   have K33 := (((((K7.st p10 rfl).st p11 rfl).st p14 rfl).st p18 rfl).st p27 rfl)
   exact Kj20 _ _ _ ⟨s27, _, rfl, (ue (ue (ue (ue (ue (ue (ue (ue rfl rfl) rfl) rfl) rfl) rfl) rfl) rfl) rfl), K33, A28, A29, A30, A31, A32⟩
 rintro y20 _ _ ⟨s34, _, rfl, rfl, Ky20, By20_b14, By20_b4, By20_b2, Cy20_12, Cy20_13⟩
 refine pu rfl rfl rfl rfl rfl ?_
 refine ji [] (fun (y38 : Bool) (e : Env) (w : World) => ∃ (s : St) (e0 : Env), w = s.w ∧ e = upd (upd (upd (upd (upd (upd (upd (upd e0 1 (.int .i64 a1)) 2 (.int .i64 a2)) 3 (.int .i64 a3)) 4 (.int .i64 a4)) 5 (.pointer (some ⟨b2, 0, none⟩))) 10 (.pointer (some ⟨b4, 0, none⟩))) 12 (.pointer (some ⟨b14, 0, none⟩))) 35 (.bool y38) ∧ Kp s0 s ∧ BlF s b14 58 [(.int .i64 r9.1.Xmin), (.int .i64 r9.1.Xmax), (.int .i64 r9.1.Key.Kind), (.int .i64 r9.1.Key.N), v9_0, v9_1, (.int .i64 r9.1.Value.Kind), (.int .i64 r9.1.Value.N), v9_2, v9_3] 44 ∧ BlF s b4 46 [(.slice none 0 0)] 41 ∧ BlF s b2 46 [w0_0] 40 ∧ OwF (Kd.sl 5 (Kd.int .u8)) s [v9_1] r9.1.Key.T 42 ∧ OwF (Kd.sl 5 (Kd.int .u8)) s [v9_3] r9.1.Value.T 43) (fun Gj38 Kj38 => ?_) ?_
 ·
  rcases Bool.eq_false_or_eq_true y20 with hb38 | hb38
  ·
   refine sbT hb38 ?_
   rw [if_pos hb38]
   refine uw rfl rfl rfl rfl ?_
   refine uw rfl rfl rfl rfl ?_
   refine uw rfl rfl rfl rfl ?_
   refine pu rfl rfl rfl rfl rfl ?_
   exact Kj38 _ _ _ ⟨s34, _, rfl, (ue (ue (ue (ue (ue (ue (ue (ue rfl rfl) rfl) rfl) rfl) rfl) rfl) rfl) rfl), Ky20, By20_b14, By20_b4, By20_b2, Cy20_12, Cy20_13⟩
  ·
   refine sbT hb38 ?_
   rw [if_neg (by rw [hb38]; decide)]
   refine pu rfl rfl rfl rfl rfl ?_
   refine cl rfl rfl rfl rfl rfl Tryz.func96 rfl rfl rfl (fun r39 m39 => spec_l5in.calls a4 (1 : Int) (1000000 : Int) s34.w (fun b => memb [] (s34.g b) = true)  r39 m39) ?_
   rintro r39 _ w39 m39 ⟨rfl, ky39⟩
   obtain ⟨s40, rfl, p40, n40⟩ := nwx s34 w39 46 ky39
   refine pu rfl rfl rfl rfl rfl ?_
   refine pu rfl rfl rfl rfl rfl ?_
   have A41 := (BlF.st By20_b14 p40 rfl)
   have A42 := (BlF.st By20_b4 p40 rfl)
   have A43 := (BlF.st By20_b2 p40 rfl)
   have A44 := (Cy20_12.st p40 rfl)
   have A45 := (Cy20_13.st p40 rfl)
   have K46 := (Ky20.st p40 rfl)
   exact Kj38 _ _ _ ⟨s40, _, rfl, (ue (ue (ue (ue (ue (ue (ue (ue rfl rfl) rfl) rfl) rfl) rfl) rfl) rfl) rfl), K46, A41, A42, A43, A44, A45⟩
 rintro y38 _ _ ⟨s47, _, rfl, rfl, Ky38, By38_b14, By38_b4, By38_b2, Cy38_12, Cy38_13⟩
 refine dn ?_
 refine cd rfl (fun h51 => ?_) (fun h51 => ?_)
 ·
  refine sr ?_
  refine bd (cells := [(.slice none 0 0)]) pl46 o46 rfl rfl rfl rfl rfl rfl ?_
  refine sva (vs := [(.slice none 0 0)]) By38_b4 z46 rfl rfl rfl rfl rfl rfl (on_cons rfl on_nil) rfl (fun s52 p52 B52 => ?_)
  refine pu rfl rfl rfl rfl rfl ?_
  refine dn ?_
  have A54 : OwF kd46 s52 [(.slice none 0 0)] (Heap.mk ([] : (List Page))) 47 := ow_z _ _ (fz_iso (fun x : Heap => (x.Pages)) (Heap.mk ([] : (List Page))) (fz_nil 142 kd142))
  have K56 := (Ky38.st p52 rfl)
  exact re rfl Tryz.func22 rfl (r_b B52 Tryz.underlying46 rfl z46 rfl (r_t rfl r_nil)) rfl ⟨_, rfl, (.slice none 0 0), rfl, A54.fo K56 rfl z.l, z.ky K56⟩
 ·
  refine sk ?_
  refine sr ?_
  refine pu rfl rfl rfl rfl rfl ?_
  refine fa fa58_1 rfl rfl rfl rfl rfl rfl ?_
  refine sv By38_b14 z3 rfl rfl rfl rfl rfl rfl rfl rfl (fun s57 p57 B57 => ?_)
  refine dn ?_
  refine sr ?_
  have A59 := (BlF.st By38_b2 p57 rfl)
  refine lda (es := [w0_0]) A59 Tryz.underlying46 z46 rfl rfl rfl rfl rfl rfl rfl rfl ?_
  have K60 := (Ky38.st p57 rfl)
  have A61 := (A0_0.kp K60)
  refine cl rfl rfl rfl rfl rfl Tryz.func97 rfl rfl rfl (fun r62 m62 => spec_l10copy.calls a0 s57.w (fun b => memb [0] (s57.g b) = true) w0_0 A61 r62 m62) ?_
  rintro r62 _ w62 m62 ⟨v62_0, rfl, f62_0, ky62⟩
  obtain ⟨s63, rfl, p63, n63⟩ := nwx s57 w62 48 ky62
  have A62_0 := f62_0.c n63
  obtain ⟨os62_0, ho62_0, hn62_0, hc62_0⟩ := A62_0
  obtain ⟨u62_0_0, qu62_0_0, e62_0, eo62_0, hu62_0_0⟩ := po46 ho62_0
  have yu62_0_0 : v62_0 = u62_0_0 := congrArg (fun l => (List.drop 0 l).headD undef) e62_0
  subst yu62_0_0
  subst eo62_0
  have Au62_0_0 : OwF (Kd.sl 142 kd142) s63 [v62_0] r62.Pages 48 := sp1 hu62_0_0 hn62_0 hc62_0
  refine al (cs := [(.slice none 0 0)]) 49 rfl rfl rfl rfl rfl o46 rfl (fun b65 s65 p65 B65 => ?_)
  have A67 := (Au62_0_0.st p65 rfl)
  refine sva (vs := [v62_0]) B65 z46 rfl rfl rfl rfl rfl rfl (on_cons A67.rd.one on_nil) rfl (fun s68 p68 B68 => ?_)
  refine dn ?_
  refine sq ?_
  refine zdraw [[], [0], [], [1, 2], [3], [], [], [6], [], [4, 5, 7, 8, 7], [9], [10], [10], [], [13, 11, 9, 0, 1, 2, 3, 4, 5, 6, 7, 8, 9, 10, 11, 13], [12, 14, 0, 1, 2, 3, 4, 5, 6, 7, 8, 9, 10, 11, 12, 13, 14]] [some 42, some 43, some 44, some 45, some 46, some 47, some 48, some 49, some 50, some 51, some 41, some 52, some 53, some 15, none, some 16] [[14], [42], [1], [43, 44], [45], [2], [12], [48], [4], [46, 47, 49, 50], [51], [41], [41], [], [15, 52], [53]] [0, 1, 2, 3, 4, 5, 6, 7, 8, 9, 10, 11, 14, 12, 13, 15] ⟨by kernel_rfl, by kernel_rfl, by kernel_rfl⟩ (by kernel_rfl) (fun s70 p70 l70 tb70 zd70 => ?_)
  have zd71 := zd70.add 0 42 (.pointer (some ⟨b65, 0, none⟩)) rfl
  have A72 := (BlF.st B68 p70 rfl)
  have zd73 := zd71.add 1 43 v62_0 rfl
  have zd74 := zd73.add 2 44 (.int .i64 a1) rfl
  have A75 := ((A67.st p68 rfl).st p70 rfl)
  refine mg fun hg76 => ?_
  obtain ⟨ad76, es76, he76, ce76, ia76⟩ := ix_e A75.rd rfl hg76.1 hg76.2
  have h0_76 := hg76.1
  have h1_76 := hg76.2
  obtain ⟨v76_0, rfl, A76_0⟩ := op142 he76
  have zd79 := zd74.add 3 45 (.pointer (some ad76)) rfl
  have zd80 := zd79.add 4 46 (.agg #[(.int .i64 ((at_ r62.Pages a1).Lsn)), v76_0]) rfl
  have zd81 := zd80.add 5 47 (.int .i64 a2) rfl
  have A82 := (BlF.st (BlF.st (BlF.st (BlF.st B57 p63 rfl) p65 rfl) p68 rfl) p70 rfl)
  have zd83 := zd81.add 6 48 (.agg #[(.int .i64 r9.1.Xmin), (.int .i64 a3), (.int .i64 r9.1.Key.Kind), (.int .i64 r9.1.Key.N), v9_0, v9_1, (.int .i64 r9.1.Value.Kind), (.int .i64 r9.1.Value.N), v9_2, v9_3]) rfl
  have zd84 := zd83.add 8 50 (.int .i64 a4) rfl
  refine ji [15] (fun (y85 : Int × (List (List Int)) × Bool) (e : Env) (w : World) => ∃ (s : St) (e0 : Env) (vy85_0 : Value) (by85_0 : Nat), w = s.w ∧ e = upd (upd (upd (upd (upd e0 1 (.int .i64 a1)) 10 (.pointer (some ⟨b4, 0, none⟩))) 14 (.pointer (some ⟨b65, 0, none⟩))) 15 (.pointer (some ⟨by85_0, 0, none⟩))) 53 (.bool y85.2.2) ∧ Kp s0 s ∧ OwF (Kd.sl 24 (Kd.sl 5 (Kd.int .u8))) s [vy85_0] y85.2.1 50 ∧ BlF s b65 46 [v62_0] 49 ∧ BlF s b4 46 [(.slice none 0 0)] 41 ∧ BlF s by85_0 142 [(.int .i64 y85.1), vy85_0] 51 ∧ OwF (Kd.sl 142 kd142) s [v62_0] r62.Pages 48) (fun Gj85 Kj85 => ?_) ?_
  ·
   have A88 := (BlF.st B68 p70 rfl)
   have A89 := (BlF.st (BlF.st (BlF.st (BlF.st B57 p63 rfl) p65 rfl) p68 rfl) p70 rfl)
   refine zstep2 7 13 [some 50, some 47, some 46, some 45, some 44, some 43, some 42] [some 50, some 48, some 47, some 46, some 45, some 44, some 43, some 42] tb70 zd84 (pq_cons (pu_q rfl rfl rfl rfl rfl rfl) rfl (pq_cons (lda_q (es := [(.int .i64 r9.1.Xmin), (.int .i64 a3), (.int .i64 r9.1.Key.Kind), (.int .i64 r9.1.Key.N), v9_0, v9_1, (.int .i64 r9.1.Value.Kind), (.int .i64 r9.1.Value.N), v9_2, v9_3]) A89 Tryz.underlying58 z58 rfl rfl rfl rfl rfl rfl rfl rfl) rfl (pq_cons (pu_q rfl rfl rfl rfl rfl rfl) rfl (pq_cons (lca_q ce76 Tryz.underlying142 z142 rfl rfl rfl rfl rfl rfl rfl) rfl (pq_cons (ix_q A75.rd Tryz.underlying44 z142 hg76.1 hg76.2 ia76 rfl rfl rfl rfl rfl rfl rfl) rfl (pq_cons (pu_q rfl rfl rfl rfl rfl rfl) rfl (pq_cons (ld_q A88 Tryz.underlying44 rfl rfl rfl rfl rfl rfl rfl rfl) rfl (pq_cons (fa_q fa46_0 rfl rfl rfl rfl rfl rfl) rfl pq_nil)))))))) (by kernel_rfl) (by kernel_rfl) (fun l86 e86 zd86 => ?_) (fun l87 e87 zd87 => ?_)
   ·
    have A90 := (((((Cy38_12.st p57 rfl).st p63 rfl).st p65 rfl).st p68 rfl).st p70 rfl)
    have A91 := (((((Cy38_13.st p57 rfl).st p63 rfl).st p65 rfl).st p68 rfl).st p70 rfl)
    refine cl rfl rfl rfl rfl rfl Tryz.func99 rfl rfl rfl (fun r92 m92 => spec_TupleBytes.calls (Tuple.mk r9.1.Xmin a3 r9.1.Key r9.1.Value) s70.w (fun b => memb [42, 43] (s70.g b) = true) v9_0 v9_1 v9_2 v9_3 ((fl_rdf (s := s70) hu9_0_0).sub (D := [42, 43]) rfl) (A90.rd.sub (D := [42, 43]) rfl) ((fl_rdf (s := s70) hu9_0_2).sub (D := [42, 43]) rfl) (A91.rd.sub (D := [42, 43]) rfl) r92 m92) ?_
    rintro r92 v92_0 w92 m92 ⟨f92_0, ky92⟩
    obtain ⟨s93, rfl, p93, n93⟩ := nwx s70 w92 52 ky92
    have A92_0 := f92_0.c n93
    refine zdone (L' := [8, 5, 4, 3, 2, 1, 0]) (D' := [6, 7]) zd86 rfl rfl rfl (fun zd95 => ?_)
    have A98 := (BlF.st (BlF.st B68 p70 rfl) p93 rfl)
    have A99 := (A75.st p93 rfl)
    have ce100 := (ce76.st p93 rfl rfl)
    refine zstep2 9 13 [] [some 50, some 47, some 46, some 45, some 44, some 43, some 42] tb70 zd95 (pq_cons (pu_q rfl rfl rfl rfl rfl rfl) rfl (pq_cons (pu_q rfl rfl rfl rfl rfl rfl) rfl (pq_cons (lca_q ce100 Tryz.underlying142 z142 rfl rfl rfl rfl rfl rfl rfl) rfl (pq_cons (ix_q A99.rd Tryz.underlying44 z142 hg76.1 hg76.2 ia76 rfl rfl rfl rfl rfl rfl rfl) rfl (pq_cons (pu_q rfl rfl rfl rfl rfl rfl) rfl (pq_cons (ld_q A98 Tryz.underlying44 rfl rfl rfl rfl rfl rfl rfl rfl) rfl (pq_cons (fa_q fa46_0 rfl rfl rfl rfl rfl rfl) rfl pq_nil))))))) (by kernel_rfl) (by kernel_rfl) (fun l96 e96 zd96 => ?_) (fun l97 e97 zd97 => ?_)
    ·
     have A101 := (A76_0.st p93 rfl)
     refine cl rfl rfl rfl rfl rfl Tryz.func98 rfl rfl rfl (fun r102 m102 => spec_PagePut.calls (at_ r62.Pages a1) a2 r92 a4 s93.w (fun b => memb [48, 52] (s93.g b) = true) v76_0 v92_0 (A101.sub (D := [48, 52]) rfl) (A92_0.rd.sub (D := [48, 52]) rfl) r102 m102) ?_
     rintro r102 _ w102 m102 ⟨v102_0, rfl, f102_0, ky102⟩
     obtain ⟨s103, rfl, p103, n103⟩ := nwx s93 w102 53 ky102
     have A102_0 := f102_0.c n103
     obtain ⟨os102_0, ho102_0, hn102_0, hc102_0⟩ := A102_0
     obtain ⟨u102_0_0, qu102_0_0, e102_0, eo102_0, hu102_0_0⟩ := po142 ho102_0
     have yu102_0_0 : v102_0 = u102_0_0 := congrArg (fun l => (List.drop 1 l).headD undef) e102_0
     subst yu102_0_0
     subst eo102_0
     have Au102_0_0 : OwF (Kd.sl 24 (Kd.sl 5 (Kd.int .u8))) s103 [v102_0] r102.1.Slots 53 := sp1 hu102_0_0 hn102_0 hc102_0
     refine zdone (L' := []) (D' := [0, 1, 2, 3, 4, 5, 8, 9, 6, 7]) zd96 rfl rfl rfl (fun zd105 => ?_)
     have zd106 := zd105.add 10 41 (.tuple #[(.agg #[(.int .i64 r102.1.Lsn), v102_0]), (.bool r102.2)]) rfl
     have zd107 := zd106.add 11 52 (.agg #[(.int .i64 r102.1.Lsn), v102_0]) rfl
     have zd108 := zd107.add 12 53 (.bool r102.2) rfl
     refine zstep 13 [some 53, some 52, some 41] tb70 zd108 (pq_cons (pu_q (v := (.bool r102.2)) rfl rfl rfl rfl rfl rfl) rfl (pq_cons (pu_q (v := (.agg #[(.int .i64 r102.1.Lsn), v102_0])) rfl rfl rfl rfl rfl rfl) rfl (pq_cons (pu_q rfl rfl rfl rfl rfl rfl) rfl pq_nil))) (by kernel_rfl) rfl (fun l109 e109 zd109 => ?_)
     refine al (cs := [(.int .i64 (0 : Int)), (.slice none 0 0)]) 54 rfl rfl rfl rfl rfl o142 rfl (fun b110 s110 p110 B110 => ?_)
     refine zdone (L' := [12, 11, 10]) (D' := [13, 0, 1, 2, 3, 4, 5, 8, 9, 6, 7]) zd109 rfl rfl rfl (fun zd112 => ?_)
     refine zstep 14 [some 53] tb70 zd112 (pq_cons (pu_q (v := (.bool r102.2)) rfl rfl rfl rfl rfl rfl) rfl (pq_cons (pu_q (v := (.agg #[(.int .i64 r102.1.Lsn), v102_0])) rfl rfl rfl rfl rfl rfl) rfl (pq_cons (pu_q rfl rfl rfl rfl rfl rfl) rfl pq_nil))) (by kernel_rfl) rfl (fun l113 e113 zd113 => ?_)
     have A114 := (Au102_0_0.st p110 rfl)
     refine sva (vs := [(.int .i64 r102.1.Lsn), v102_0]) B110 z142 rfl rfl rfl rfl rfl rfl (on_cons rfl (on_cons A114.rd.one on_nil)) rfl (fun s115 p115 B115 => ?_)
     refine zdone0 (L' := [12]) (D' := [11, 10, 11, 14, 13, 0, 1, 2, 3, 4, 5, 8, 9, 6, 7]) zd113 rfl rfl rfl (fun zd117 => ?_)
     refine zfin [15] tb70 zd117 (pq_cons (pu_q (v := (.bool r102.2)) rfl rfl rfl rfl rfl rfl) rfl pq_nil) (by kernel_rfl) (by decide) ?_
     obtain ⟨s118, hw118, p118, D118⟩ := BlF.rc B115 51 rfl
     rw [hw118]
     have A120 := ((A114.st p115 rfl).st p118 rfl)
     obtain ⟨s121, hw121, p121, A121⟩ := A120.rc 50 rfl
     rw [hw121]
     have A122 := (BlF.st (BlF.st (BlF.st (BlF.st (BlF.st (BlF.st (BlF.st B68 p70 rfl) p93 rfl) p103 rfl) p110 rfl) p115 rfl) p118 rfl) p121 rfl)
     have A123 := (BlF.st (BlF.st (BlF.st (BlF.st (BlF.st (BlF.st (BlF.st (BlF.st (BlF.st (BlF.st (BlF.st By38_b4 p57 rfl) p63 rfl) p65 rfl) p68 rfl) p70 rfl) p93 rfl) p103 rfl) p110 rfl) p115 rfl) p118 rfl) p121 rfl)
     have A124 := (BlF.st D118 p121 rfl)
     have A125 := (((((A99.st p103 rfl).st p110 rfl).st p115 rfl).st p118 rfl).st p121 rfl)
     have K126 := ((((((((((K60.st p63 rfl).st p65 rfl).st p68 rfl).st p70 rfl).st p93 rfl).st p103 rfl).st p110 rfl).st p115 rfl).st p118 rfl).st p121 rfl)
     exact Kj85 _ _ _ ⟨s121, _, v102_0, b110, rfl, (ue (ue (ue (ue (ue rfl rfl) rfl) rfl) rfl) rfl), K126, A121, A122, A123, A124, A125⟩
    ·
     refine al (cs := [(.int .i64 (0 : Int)), (.slice none 0 0)]) 55 rfl rfl rfl rfl rfl o142 rfl (fun b127 s127 p127 B127 => ?_)
     refine zdone (L' := [8, 5, 4, 3, 2, 1, 0]) (D' := [13, 6, 7]) zd97 rfl rfl rfl (fun zd129 => ?_)
     have A131 := (BlF.st (BlF.st (BlF.st B68 p70 rfl) p93 rfl) p127 rfl)
     have A132 := (A99.st p127 rfl)
     have ce133 := ((ce76.st p93 rfl rfl).st p127 rfl rfl)
     refine zstep 9 [] tb70 zd129 (pq_cons (pu_q rfl rfl rfl rfl rfl rfl) rfl (pq_cons (pu_q rfl rfl rfl rfl rfl rfl) rfl (pq_cons (lca_q ce133 Tryz.underlying142 z142 rfl rfl rfl rfl rfl rfl rfl) rfl (pq_cons (ix_q A132.rd Tryz.underlying44 z142 hg76.1 hg76.2 ia76 rfl rfl rfl rfl rfl rfl rfl) rfl (pq_cons (pu_q rfl rfl rfl rfl rfl rfl) rfl (pq_cons (ld_q A131 Tryz.underlying44 rfl rfl rfl rfl rfl rfl rfl rfl) rfl (pq_cons (fa_q fa46_0 rfl rfl rfl rfl rfl rfl) rfl pq_nil))))))) (by kernel_rfl) rfl (fun l130 e130 zd130 => ?_)
     have A134 := ((A76_0.st p93 rfl).st p127 rfl)
     have A135 := (A92_0.st p127 rfl)
     refine cl rfl rfl rfl rfl rfl Tryz.func98 rfl rfl rfl (fun r136 m136 => spec_PagePut.calls (at_ r62.Pages a1) a2 r92 a4 s127.w (fun b => memb [48, 52] (s127.g b) = true) v76_0 v92_0 (A134.sub (D := [48, 52]) rfl) (A135.rd.sub (D := [48, 52]) rfl) r136 m136) ?_
     rintro r136 _ w136 m136 ⟨v136_0, rfl, f136_0, ky136⟩
     obtain ⟨s137, rfl, p137, n137⟩ := nwx s127 w136 56 ky136
     have A136_0 := f136_0.c n137
     obtain ⟨os136_0, ho136_0, hn136_0, hc136_0⟩ := A136_0
     obtain ⟨u136_0_0, qu136_0_0, e136_0, eo136_0, hu136_0_0⟩ := po142 ho136_0
     have yu136_0_0 : v136_0 = u136_0_0 := congrArg (fun l => (List.drop 1 l).headD undef) e136_0
     subst yu136_0_0
     subst eo136_0
     have Au136_0_0 : OwF (Kd.sl 24 (Kd.sl 5 (Kd.int .u8))) s137 [v136_0] r136.1.Slots 56 := sp1 hu136_0_0 hn136_0 hc136_0
     refine zdone (L' := []) (D' := [0, 1, 2, 3, 4, 5, 8, 9, 13, 6, 7]) zd130 rfl rfl rfl (fun zd139 => ?_)
     have zd140 := zd139.add 10 41 (.tuple #[(.agg #[(.int .i64 r136.1.Lsn), v136_0]), (.bool r136.2)]) rfl
     have zd141 := zd140.add 11 52 (.agg #[(.int .i64 r136.1.Lsn), v136_0]) rfl
     have zd142 := zd141.add 12 53 (.bool r136.2) rfl
     refine zstep 14 [some 53] tb70 zd142 (pq_cons (pu_q (v := (.bool r136.2)) rfl rfl rfl rfl rfl rfl) rfl (pq_cons (pu_q (v := (.agg #[(.int .i64 r136.1.Lsn), v136_0])) rfl rfl rfl rfl rfl rfl) rfl (pq_cons (pu_q rfl rfl rfl rfl rfl rfl) rfl pq_nil))) (by kernel_rfl) rfl (fun l143 e143 zd143 => ?_)
     have A144 := (BlF.st B127 p137 rfl)
     refine sva (vs := [(.int .i64 r136.1.Lsn), v136_0]) A144 z142 rfl rfl rfl rfl rfl rfl (on_cons rfl (on_cons Au136_0_0.rd.one on_nil)) rfl (fun s145 p145 B145 => ?_)
     refine zdone0 (L' := [12]) (D' := [11, 10, 11, 14, 0, 1, 2, 3, 4, 5, 8, 9, 13, 6, 7]) zd143 rfl rfl rfl (fun zd147 => ?_)
     refine zfin [15] tb70 zd147 (pq_cons (pu_q (v := (.bool r136.2)) rfl rfl rfl rfl rfl rfl) rfl pq_nil) (by kernel_rfl) (by decide) ?_
     obtain ⟨s148, hw148, p148, D148⟩ := BlF.rc B145 51 rfl
     rw [hw148]
     have A150 := ((Au136_0_0.st p145 rfl).st p148 rfl)
     obtain ⟨s151, hw151, p151, A151⟩ := A150.rc 50 rfl
     rw [hw151]
     have A152 := (BlF.st (BlF.st (BlF.st (BlF.st (BlF.st (BlF.st (BlF.st B68 p70 rfl) p93 rfl) p127 rfl) p137 rfl) p145 rfl) p148 rfl) p151 rfl)
     have A153 := (BlF.st (BlF.st (BlF.st (BlF.st (BlF.st (BlF.st (BlF.st (BlF.st (BlF.st (BlF.st (BlF.st By38_b4 p57 rfl) p63 rfl) p65 rfl) p68 rfl) p70 rfl) p93 rfl) p127 rfl) p137 rfl) p145 rfl) p148 rfl) p151 rfl)
     have A154 := (BlF.st D148 p151 rfl)
     have A155 := ((((A132.st p137 rfl).st p145 rfl).st p148 rfl).st p151 rfl)
     have K156 := ((((((((((K60.st p63 rfl).st p65 rfl).st p68 rfl).st p70 rfl).st p93 rfl).st p127 rfl).st p137 rfl).st p145 rfl).st p148 rfl).st p151 rfl)
     exact Kj85 _ _ _ ⟨s151, _, v136_0, b127, rfl, (ue (ue (ue (ue (ue rfl rfl) rfl) rfl) rfl) rfl), K156, A151, A152, A153, A154, A155⟩
   ·
    refine al (cs := [(.int .i64 (0 : Int)), (.slice none 0 0)]) 57 rfl rfl rfl rfl rfl o142 rfl (fun b157 s157 p157 B157 => ?_)
    refine zdone (L' := [8, 6, 5, 4, 3, 2, 1, 0]) (D' := [13]) zd87 rfl rfl rfl (fun zd159 => ?_)
    have A161 := (BlF.st (BlF.st B68 p70 rfl) p157 rfl)
    have A162 := (A75.st p157 rfl)
    have ce163 := (ce76.st p157 rfl rfl)
    have A164 := (BlF.st (BlF.st (BlF.st (BlF.st (BlF.st B57 p63 rfl) p65 rfl) p68 rfl) p70 rfl) p157 rfl)
    refine zstep 7 [some 50, some 47, some 46, some 45, some 44, some 43, some 42] tb70 zd159 (pq_cons (pu_q rfl rfl rfl rfl rfl rfl) rfl (pq_cons (lda_q (es := [(.int .i64 r9.1.Xmin), (.int .i64 a3), (.int .i64 r9.1.Key.Kind), (.int .i64 r9.1.Key.N), v9_0, v9_1, (.int .i64 r9.1.Value.Kind), (.int .i64 r9.1.Value.N), v9_2, v9_3]) A164 Tryz.underlying58 z58 rfl rfl rfl rfl rfl rfl rfl rfl) rfl (pq_cons (pu_q rfl rfl rfl rfl rfl rfl) rfl (pq_cons (lca_q ce163 Tryz.underlying142 z142 rfl rfl rfl rfl rfl rfl rfl) rfl (pq_cons (ix_q A162.rd Tryz.underlying44 z142 hg76.1 hg76.2 ia76 rfl rfl rfl rfl rfl rfl rfl) rfl (pq_cons (pu_q rfl rfl rfl rfl rfl rfl) rfl (pq_cons (ld_q A161 Tryz.underlying44 rfl rfl rfl rfl rfl rfl rfl rfl) rfl (pq_cons (fa_q fa46_0 rfl rfl rfl rfl rfl rfl) rfl pq_nil)))))))) (by kernel_rfl) rfl (fun l160 e160 zd160 => ?_)
    have A165 := ((((((Cy38_12.st p57 rfl).st p63 rfl).st p65 rfl).st p68 rfl).st p70 rfl).st p157 rfl)
    have A166 := ((((((Cy38_13.st p57 rfl).st p63 rfl).st p65 rfl).st p68 rfl).st p70 rfl).st p157 rfl)
    refine cl rfl rfl rfl rfl rfl Tryz.func99 rfl rfl rfl (fun r167 m167 => spec_TupleBytes.calls (Tuple.mk r9.1.Xmin a3 r9.1.Key r9.1.Value) s157.w (fun b => memb [42, 43] (s157.g b) = true) v9_0 v9_1 v9_2 v9_3 ((fl_rdf (s := s157) hu9_0_0).sub (D := [42, 43]) rfl) (A165.rd.sub (D := [42, 43]) rfl) ((fl_rdf (s := s157) hu9_0_2).sub (D := [42, 43]) rfl) (A166.rd.sub (D := [42, 43]) rfl) r167 m167) ?_
    rintro r167 v167_0 w167 m167 ⟨f167_0, ky167⟩
    obtain ⟨s168, rfl, p168, n168⟩ := nwx s157 w167 58 ky167
    have A167_0 := f167_0.c n168
    refine zdone (L' := [8, 5, 4, 3, 2, 1, 0]) (D' := [6, 7, 13]) zd160 rfl rfl rfl (fun zd170 => ?_)
    have A172 := (BlF.st (BlF.st (BlF.st B68 p70 rfl) p157 rfl) p168 rfl)
    have A173 := (A162.st p168 rfl)
    have ce174 := ((ce76.st p157 rfl rfl).st p168 rfl rfl)
    refine zstep 9 [] tb70 zd170 (pq_cons (pu_q rfl rfl rfl rfl rfl rfl) rfl (pq_cons (pu_q rfl rfl rfl rfl rfl rfl) rfl (pq_cons (lca_q ce174 Tryz.underlying142 z142 rfl rfl rfl rfl rfl rfl rfl) rfl (pq_cons (ix_q A173.rd Tryz.underlying44 z142 hg76.1 hg76.2 ia76 rfl rfl rfl rfl rfl rfl rfl) rfl (pq_cons (pu_q rfl rfl rfl rfl rfl rfl) rfl (pq_cons (ld_q A172 Tryz.underlying44 rfl rfl rfl rfl rfl rfl rfl rfl) rfl (pq_cons (fa_q fa46_0 rfl rfl rfl rfl rfl rfl) rfl pq_nil))))))) (by kernel_rfl) rfl (fun l171 e171 zd171 => ?_)
    have A175 := ((A76_0.st p157 rfl).st p168 rfl)
    refine cl rfl rfl rfl rfl rfl Tryz.func98 rfl rfl rfl (fun r176 m176 => spec_PagePut.calls (at_ r62.Pages a1) a2 r167 a4 s168.w (fun b => memb [48, 58] (s168.g b) = true) v76_0 v167_0 (A175.sub (D := [48, 58]) rfl) (A167_0.rd.sub (D := [48, 58]) rfl) r176 m176) ?_
    rintro r176 _ w176 m176 ⟨v176_0, rfl, f176_0, ky176⟩
    obtain ⟨s177, rfl, p177, n177⟩ := nwx s168 w176 59 ky176
    have A176_0 := f176_0.c n177
    obtain ⟨os176_0, ho176_0, hn176_0, hc176_0⟩ := A176_0
    obtain ⟨u176_0_0, qu176_0_0, e176_0, eo176_0, hu176_0_0⟩ := po142 ho176_0
    have yu176_0_0 : v176_0 = u176_0_0 := congrArg (fun l => (List.drop 1 l).headD undef) e176_0
    subst yu176_0_0
    subst eo176_0
    have Au176_0_0 : OwF (Kd.sl 24 (Kd.sl 5 (Kd.int .u8))) s177 [v176_0] r176.1.Slots 59 := sp1 hu176_0_0 hn176_0 hc176_0
    refine zdone (L' := []) (D' := [0, 1, 2, 3, 4, 5, 8, 9, 6, 7, 13]) zd171 rfl rfl rfl (fun zd179 => ?_)
    have zd180 := zd179.add 10 41 (.tuple #[(.agg #[(.int .i64 r176.1.Lsn), v176_0]), (.bool r176.2)]) rfl
    have zd181 := zd180.add 11 52 (.agg #[(.int .i64 r176.1.Lsn), v176_0]) rfl
    have zd182 := zd181.add 12 53 (.bool r176.2) rfl
    refine zstep 14 [some 53] tb70 zd182 (pq_cons (pu_q (v := (.bool r176.2)) rfl rfl rfl rfl rfl rfl) rfl (pq_cons (pu_q (v := (.agg #[(.int .i64 r176.1.Lsn), v176_0])) rfl rfl rfl rfl rfl rfl) rfl (pq_cons (pu_q rfl rfl rfl rfl rfl rfl) rfl pq_nil))) (by kernel_rfl) rfl (fun l183 e183 zd183 => ?_)
    have A184 := (BlF.st (BlF.st B157 p168 rfl) p177 rfl)
    refine sva (vs := [(.int .i64 r176.1.Lsn), v176_0]) A184 z142 rfl rfl rfl rfl rfl rfl (on_cons rfl (on_cons Au176_0_0.rd.one on_nil)) rfl (fun s185 p185 B185 => ?_)
    refine zdone0 (L' := [12]) (D' := [11, 10, 11, 14, 0, 1, 2, 3, 4, 5, 8, 9, 6, 7, 13]) zd183 rfl rfl rfl (fun zd187 => ?_)
    refine zfin [15] tb70 zd187 (pq_cons (pu_q (v := (.bool r176.2)) rfl rfl rfl rfl rfl rfl) rfl pq_nil) (by kernel_rfl) (by decide) ?_
    obtain ⟨s188, hw188, p188, D188⟩ := BlF.rc B185 51 rfl
    rw [hw188]
    have A190 := ((Au176_0_0.st p185 rfl).st p188 rfl)
    obtain ⟨s191, hw191, p191, A191⟩ := A190.rc 50 rfl
    rw [hw191]
    have A192 := (BlF.st (BlF.st (BlF.st (BlF.st (BlF.st (BlF.st (BlF.st B68 p70 rfl) p157 rfl) p168 rfl) p177 rfl) p185 rfl) p188 rfl) p191 rfl)
    have A193 := (BlF.st (BlF.st (BlF.st (BlF.st (BlF.st (BlF.st (BlF.st (BlF.st (BlF.st (BlF.st (BlF.st By38_b4 p57 rfl) p63 rfl) p65 rfl) p68 rfl) p70 rfl) p157 rfl) p168 rfl) p177 rfl) p185 rfl) p188 rfl) p191 rfl)
    have A194 := (BlF.st D188 p191 rfl)
    have A195 := ((((A173.st p177 rfl).st p185 rfl).st p188 rfl).st p191 rfl)
    have K196 := ((((((((((K60.st p63 rfl).st p65 rfl).st p68 rfl).st p70 rfl).st p157 rfl).st p168 rfl).st p177 rfl).st p185 rfl).st p188 rfl).st p191 rfl)
    exact Kj85 _ _ _ ⟨s191, _, v176_0, b157, rfl, (ue (ue (ue (ue (ue rfl rfl) rfl) rfl) rfl) rfl), K196, A191, A192, A193, A194, A195⟩
  rintro y85 _ _ ⟨s197, _, vy85_0, by85_0, rfl, rfl, Ky85, Ay85_0, By85_b65, By85_b4, Dy85_0, Cy85_64⟩
  refine pu rfl rfl rfl rfl rfl ?_
  refine dn ?_
  refine sr ?_
  refine fa fa46_0 rfl rfl rfl rfl rfl rfl ?_
  refine ld By85_b65 Tryz.underlying44 rfl rfl rfl rfl rfl rfl rfl rfl ?_
  refine pu rfl rfl rfl rfl rfl ?_
  refine lda (es := [(.int .i64 y85.1), vy85_0]) Dy85_0 Tryz.underlying142 z142 rfl rfl rfl rfl rfl rfl rfl rfl ?_
  refine ix Cy85_64.rd Tryz.underlying44 z142 rfl rfl rfl rfl rfl rfl rfl rfl (fun ad202 es202 h0_202 h1_202 he202 ce202 ia202 => ?_)
  obtain ⟨v202_0, rfl, A202_0⟩ := op142 he202
  have A205 : OwF kd142 s197 [(.int .i64 y85.1), vy85_0] (Page.mk y85.1 y85.2.1) 50 := (ow_isoz (fun x : Page => (x.Lsn, x.Slots)) (Page.mk y85.1 y85.2.1) (ow_l (fz_int .i64 y85.1) Ay85_0))
  refine som (x' := (Page.mk y85.1 y85.2.1)) Cy85_64 ia202 h0_202 h1_202 A205 rfl rfl z142 rfl rfl rfl rfl rfl rfl (fun s207 p207 A207 => ?_)
  refine dn ?_
  refine sr ?_
  have A209 := (BlF.st By85_b65 p207 rfl)
  refine lda (es := [v62_0]) A209 Tryz.underlying46 z46 rfl rfl rfl rfl rfl rfl rfl rfl ?_
  have A210 := (BlF.st By85_b4 p207 rfl)
  refine sva (vs := [v62_0]) A210 z46 rfl rfl rfl rfl rfl rfl (on_cons A207.rd.one on_nil) rfl (fun s211 p211 B211 => ?_)
  refine pu rfl rfl rfl rfl rfl ?_
  refine dn ?_
  have A214 := (A207.st p211 rfl)
  have A213 : OwF kd46 s211 [v62_0] (Heap.mk (r62.Pages.set (a1).toNat (Page.mk y85.1 y85.2.1))) 48 := (ow_isoz (fun x : Heap => (x.Pages)) (Heap.mk (r62.Pages.set (a1).toNat (Page.mk y85.1 y85.2.1))) A214)
  have K216 := ((Ky85.st p207 rfl).st p211 rfl)
  exact re rfl Tryz.func22 rfl (r_b B211 Tryz.underlying46 rfl z46 rfl (r_t rfl r_nil)) rfl ⟨_, rfl, v62_0, rfl, A213.fo K216 rfl z.l, z.ky K216⟩
noncomputable def impl_areAll_impl_Page_1.f (a0 : Page) (a1 : (Page → Option Bool)) : Option (Bool) :=
 ((a1 a0).bind fun r8 => (some (!r8)))
def impl_areAll_impl_Page_1.Q (w : World) (F : Nat → Prop) (r : Bool) (v : Value) (w' : World) : Prop :=
 v = (.bool r) ∧ Ky [] w w'
set_option maxHeartbeats 4000000 in
set_option maxRecDepth 100000 in
theorem impl_areAll_impl_Page_1.calls (a0 : Page) (a1 : (Page → Option Bool)) (w : World) (F : Nat → Prop) (w0_0 : Value) (c1 : Nat) (f1 : Value) (h0_0 : (Kd.sl 24 (Kd.sl 5 (Kd.int .u8))).rd w [w0_0] a0.Slots F) (hf1 : ∀ (x0 : Page) (u0_0 : Value) (w' : World), Ky [] w w' → (Kd.sl 24 (Kd.sl 5 (Kd.int .u8))).rd w' [u0_0] x0.Slots (fun _ => True) → ∀ r, a1 x0 = some r → CallV Tryz.prog f1 [(.agg #[(.int .i64 x0.Lsn), u0_0])] w' fun en w'' => ∃ v, en = .returned v ∧ v = (.bool r) ∧ Ky [] w' w'') (ho1 : f1.cells = #[f1]) (hb1 : BlW w c1 236 [f1]) (hp1 : F c1) (r : Bool) (m : impl_areAll_impl_Page_1.f a0 a1 = some r) :
  Calls Tryz.prog 272 #[(.agg #[(.int .i64 a0.Lsn), w0_0]), (.pointer (some ⟨c1, 0, none⟩))] w fun en w' => ∃ v, en = .returned v ∧ impl_areAll_impl_Page_1.Q w F r v w' := by
 obtain ⟨s0, rfl, kp0, z⟩ := start0 w F
 have A0_0 := z.rd h0_0
 have B1 := z.b0 hb1 hp1
 refine calls_of_TM (args := [(.agg #[(.int .i64 a0.Lsn), w0_0]), (.pointer (some ⟨c1, 0, none⟩))]) (R := fun r en w' => ∃ v, en = .returned v ∧ impl_areAll_impl_Page_1.Q s0.w F r v w') Tryz.func272 Tryz.ntmps272 rfl rfl m ?_
 unfold impl_areAll_impl_Page_1.f
 refine sr ?_
 refine bx (cs := [(.int .i64 a0.Lsn), w0_0]) 40 rfl rfl rfl rfl rfl rfl (fun b3 s3 p3 B3 => ?_)
 refine pu rfl rfl rfl rfl rfl ?_
 refine dn ?_
 refine sr ?_
 have A5 := (BlF.st B1 p3 rfl)
 refine ld A5 Tryz.underlying236 rfl rfl rfl rfl rfl rfl rfl rfl ?_
 refine lda (es := [(.int .i64 a0.Lsn), w0_0]) B3 Tryz.underlying142 z142 rfl rfl rfl rfl rfl rfl rfl rfl ?_
 have K6 := (kp0.st p3 rfl)
 have A7 := (A0_0.kp K6)
 refine clv rfl rfl rfl rfl rfl rfl rfl (fun r8 m8 => hf1 a0 w0_0 s3.w (z.ky K6) (RdF.top A7) r8 m8) ?_
 rintro r8 _ w8 m8 ⟨rfl, ky8⟩
 obtain ⟨s9, rfl, p9, n9⟩ := nwx s3 w8 41 ky8
 refine pu rfl rfl rfl rfl rfl ?_
 refine pu rfl rfl rfl rfl rfl ?_
 refine dn ?_
 have K10 := (K6.st p9 rfl)
 exact re rfl Tryz.func272 rfl (r_t rfl r_nil) rfl ⟨_, rfl, rfl, z.ky K10⟩
noncomputable def slices_IndexFunc_impl_Page_impl_Page.b0 (a0 : (List Page)) (a1 : (Page → Option Bool)) (x2 : Int) : Option (Int ⊕ Int) :=
 (if (decide (x2 < (a0.length : Int))) = true then (if 0 ≤ x2 ∧ x2 < (a0.length : Int) then ((a1 (at_ a0 x2)).bind fun r9 => (if r9 = true then (some (Sum.inr x2)) else (some (Sum.inl (IntKind.wrap .i64 (x2 + (1 : Int))))))) else none) else ((some (-1 : Int)).bind fun o => some (Sum.inr o)))
noncomputable def slices_IndexFunc_impl_Page_impl_Page.f (a0 : (List Page)) (a1 : (Page → Option Bool)) : Option (Int) :=
 (iter (slices_IndexFunc_impl_Page_impl_Page.b0 a0 a1) (0 : Int))
def slices_IndexFunc_impl_Page_impl_Page.Q (w : World) (F : Nat → Prop) (r : Int) (v : Value) (w' : World) : Prop :=
 v = (.int .i64 r) ∧ Ky [] w w'
set_option maxHeartbeats 4000000 in
set_option maxRecDepth 100000 in
theorem slices_IndexFunc_impl_Page_impl_Page.calls (a0 : (List Page)) (a1 : (Page → Option Bool)) (w : World) (F : Nat → Prop) (w0_0 : Value) (f1 : Value) (h0_0 : (Kd.sl 142 kd142).rd w [w0_0] a0 F) (hf1 : ∀ (x0 : Page) (u0_0 : Value) (w' : World), Ky [] w w' → (Kd.sl 24 (Kd.sl 5 (Kd.int .u8))).rd w' [u0_0] x0.Slots (fun _ => True) → ∀ r, a1 x0 = some r → CallV Tryz.prog f1 [(.agg #[(.int .i64 x0.Lsn), u0_0])] w' fun en w'' => ∃ v, en = .returned v ∧ v = (.bool r) ∧ Ky [] w' w'') (ho1 : f1.cells = #[f1]) (r : Int) (m : slices_IndexFunc_impl_Page_impl_Page.f a0 a1 = some r) :
  Calls Tryz.prog 317 #[w0_0, f1] w fun en w' => ∃ v, en = .returned v ∧ slices_IndexFunc_impl_Page_impl_Page.Q w F r v w' := by
 obtain ⟨s0, rfl, kp0, z⟩ := start0 w F
 have A0_0 := z.rd h0_0
 refine calls_of_TM (args := [w0_0, f1]) (R := fun r en w' => ∃ v, en = .returned v ∧ slices_IndexFunc_impl_Page_impl_Page.Q s0.w F r v w') Tryz.func317 Tryz.ntmps317 rfl rfl m ?_
 unfold slices_IndexFunc_impl_Page_impl_Page.f
 refine sr ?_
 refine pu rfl rfl rfl rfl rfl ?_
 refine dn ?_
 refine sq ?_
 refine sr ?_
 refine mv w0_0 rfl rfl rfl rfl rfl rfl ?_
 refine ln A0_0 Tryz.underlying44 rfl rfl rfl rfl rfl rfl ?_
 refine pu rfl rfl rfl rfl rfl ?_
 refine dn ?_
 refine bl ?_
 refine lpI (fun (x2 : Int) (e : Env) (w : World) => ∃ (s : St) (e0 : Env), w = s.w ∧ e = upd (upd (upd (upd e0 0 w0_0) 1 f1) 7 (.int .i64 (a0.length : Int))) 8 (.int .i64 x2) ∧ Kp s0 s) ⟨s0, _, rfl, (ue (ue (ue (ue rfl rfl) rfl) rfl) rfl), kp0⟩ (fun g2 ih2 => ?_)
 rintro x2 _ _ ⟨s3, _, rfl, rfl, Kx2⟩
 unfold slices_IndexFunc_impl_Page_impl_Page.b0
 refine sr ?_
 refine pu rfl rfl rfl rfl rfl ?_
 refine dn ?_
 refine sq ?_
 refine cd rfl (fun h4 => ?_) (fun h4 => ?_)
 ·
  refine sk ?_
  refine sq ?_
  refine bl ?_
  refine sr ?_
  refine pu rfl rfl rfl rfl rfl ?_
  refine pu rfl rfl rfl rfl rfl ?_
  refine dn ?_
  refine sr ?_
  refine mv f1 rfl rfl rfl rfl rfl rfl ?_
  refine mv w0_0 rfl rfl rfl rfl rfl rfl ?_
  refine pu rfl rfl rfl rfl rfl ?_
  have A5 := (A0_0.kp Kx2)
  refine ix A5 Tryz.underlying44 z142 rfl rfl rfl rfl rfl rfl rfl rfl (fun ad6 es6 h0_6 h1_6 he6 ce6 ia6 => ?_)
  obtain ⟨v6_0, rfl, A6_0⟩ := op142 he6
  refine lca ce6 Tryz.underlying142 z142 rfl rfl rfl rfl rfl rfl rfl ?_
  refine clv rfl rfl rfl rfl rfl rfl rfl (fun r9 m9 => hf1 (at_ a0 x2) v6_0 s3.w (z.ky Kx2) (RdF.top A6_0) r9 m9) ?_
  rintro r9 _ w9 m9 ⟨rfl, ky9⟩
  obtain ⟨s10, rfl, p10, n10⟩ := nwx s3 w9 40 ky9
  refine dn ?_
  refine cd rfl (fun h11 => ?_) (fun h11 => ?_)
  ·
   refine sr ?_
   refine pu rfl rfl rfl rfl rfl ?_
   refine pu rfl rfl rfl rfl rfl ?_
   refine dn ?_
   refine sgi ?_
   have K12 := (Kx2.st p10 rfl)
   exact re rfl Tryz.func317 rfl (r_t rfl r_nil) rfl ⟨_, rfl, rfl, z.ky K12⟩
  ·
   refine sk ?_
   refine ib ?_
   refine rg ?_
   refine pu rfl rfl rfl rfl rfl ?_
   refine pu rfl rfl rfl rfl rfl ?_
   refine dn ?_
   have K13 := (Kx2.st p10 rfl)
   exact lb ih2 ⟨s10, _, rfl, (ue (ue (ue (ue rfl rfl) rfl) rfl) rfl), K13⟩
 ·
  refine xt rfl ?_
  refine sgb ?_
  refine sr ?_
  refine pu rfl rfl rfl rfl rfl ?_
  refine dn ?_
  exact re rfl Tryz.func317 rfl (r_t rfl r_nil) rfl ⟨_, rfl, rfl, z.ky Kx2⟩
noncomputable def slices_ContainsFunc_impl_Page_impl_Page.f (a0 : (List Page)) (a1 : (Page → Option Bool)) : Option (Bool) :=
 ((slices_IndexFunc_impl_Page_impl_Page.f a0 a1).bind fun r2 => (some (decide (r2 ≥ (0 : Int)))))
def slices_ContainsFunc_impl_Page_impl_Page.Q (w : World) (F : Nat → Prop) (r : Bool) (v : Value) (w' : World) : Prop :=
 v = (.bool r) ∧ Ky [] w w'
set_option maxHeartbeats 4000000 in
set_option maxRecDepth 100000 in
theorem slices_ContainsFunc_impl_Page_impl_Page.calls (a0 : (List Page)) (a1 : (Page → Option Bool)) (w : World) (F : Nat → Prop) (w0_0 : Value) (f1 : Value) (h0_0 : (Kd.sl 142 kd142).rd w [w0_0] a0 F) (hf1 : ∀ (x0 : Page) (u0_0 : Value) (w' : World), Ky [] w w' → (Kd.sl 24 (Kd.sl 5 (Kd.int .u8))).rd w' [u0_0] x0.Slots (fun _ => True) → ∀ r, a1 x0 = some r → CallV Tryz.prog f1 [(.agg #[(.int .i64 x0.Lsn), u0_0])] w' fun en w'' => ∃ v, en = .returned v ∧ v = (.bool r) ∧ Ky [] w' w'') (ho1 : f1.cells = #[f1]) (r : Bool) (m : slices_ContainsFunc_impl_Page_impl_Page.f a0 a1 = some r) :
  Calls Tryz.prog 271 #[w0_0, f1] w fun en w' => ∃ v, en = .returned v ∧ slices_ContainsFunc_impl_Page_impl_Page.Q w F r v w' := by
 obtain ⟨s0, rfl, kp0, z⟩ := start0 w F
 have A0_0 := z.rd h0_0
 refine calls_of_TM (args := [w0_0, f1]) (R := fun r en w' => ∃ v, en = .returned v ∧ slices_ContainsFunc_impl_Page_impl_Page.Q s0.w F r v w') Tryz.func271 Tryz.ntmps271 rfl rfl m ?_
 unfold slices_ContainsFunc_impl_Page_impl_Page.f
 refine sr ?_
 refine pu rfl rfl rfl rfl rfl ?_
 refine dn ?_
 refine sr ?_
 refine mv w0_0 rfl rfl rfl rfl rfl rfl ?_
 refine mv f1 rfl rfl rfl rfl rfl rfl ?_
 refine cl rfl rfl rfl rfl rfl Tryz.func317 rfl rfl rfl (fun r2 m2 => slices_IndexFunc_impl_Page_impl_Page.calls a0 a1 s0.w (fun b => memb [0] (s0.g b) = true) w0_0 f1 A0_0 (fun x0 u0_0 w' k h0 r m =>  hf1 x0 u0_0 w' (Ky.trans (z.ky kp0) k) h0 r m) ho1 r2 m2) ?_
 rintro r2 _ w2 m2 ⟨rfl, ky2⟩
 obtain ⟨s3, rfl, p3, n3⟩ := nwx s0 w2 40 ky2
 refine pu rfl rfl rfl rfl rfl ?_
 refine pu rfl rfl rfl rfl rfl ?_
 refine dn ?_
 have K4 := (kp0.st p3 rfl)
 exact re rfl Tryz.func271 rfl (r_t rfl r_nil) rfl ⟨_, rfl, rfl, z.ky K4⟩
noncomputable def impl_areAll_impl_Page.f (a0 : (List Page)) (a1 : (Page → Option Bool)) : Option (Bool) :=
 ((slices_ContainsFunc_impl_Page_impl_Page.f a0 (fun x0 => impl_areAll_impl_Page_1.f x0 a1)).bind fun r6 => (some (!r6)))
def impl_areAll_impl_Page.Q (w : World) (F : Nat → Prop) (r : Bool) (v : Value) (w' : World) : Prop :=
 v = (.bool r) ∧ Ky [] w w'
set_option maxHeartbeats 4000000 in
set_option maxRecDepth 100000 in
theorem impl_areAll_impl_Page.calls (a0 : (List Page)) (a1 : (Page → Option Bool)) (w : World) (F : Nat → Prop) (w0_0 : Value) (f1 : Value) (h0_0 : (Kd.sl 142 kd142).rd w [w0_0] a0 F) (hf1 : ∀ (x0 : Page) (u0_0 : Value) (w' : World), Ky [] w w' → (Kd.sl 24 (Kd.sl 5 (Kd.int .u8))).rd w' [u0_0] x0.Slots (fun _ => True) → ∀ r, a1 x0 = some r → CallV Tryz.prog f1 [(.agg #[(.int .i64 x0.Lsn), u0_0])] w' fun en w'' => ∃ v, en = .returned v ∧ v = (.bool r) ∧ Ky [] w' w'') (ho1 : f1.cells = #[f1]) (r : Bool) (m : impl_areAll_impl_Page.f a0 a1 = some r) :
  Calls Tryz.prog 200 #[w0_0, f1] w fun en w' => ∃ v, en = .returned v ∧ impl_areAll_impl_Page.Q w F r v w' := by
 obtain ⟨s0, rfl, kp0, z⟩ := start0 w F
 have A0_0 := z.rd h0_0
 refine calls_of_TM (args := [w0_0, f1]) (R := fun r en w' => ∃ v, en = .returned v ∧ impl_areAll_impl_Page.Q s0.w F r v w') Tryz.func200 Tryz.ntmps200 rfl rfl m ?_
 unfold impl_areAll_impl_Page.f
 refine sr ?_
 refine bx (cs := [f1]) 40 rfl rfl rfl rfl rfl ho1 (fun b2 s2 p2 B2 => ?_)
 refine pu rfl rfl rfl rfl rfl ?_
 refine dn ?_
 refine sr ?_
 refine mv w0_0 rfl rfl rfl rfl rfl rfl ?_
 refine mkf (fs := []) (cs := [(.pointer (some ⟨b2, 0, none⟩))]) rfl rfl rfl rfl rfl rfl rfl ?_
 have K4 := (kp0.st p2 rfl)
 have A5 := (A0_0.kp K4)
 refine cl rfl rfl rfl rfl rfl Tryz.func271 rfl rfl rfl (fun r6 m6 => slices_ContainsFunc_impl_Page_impl_Page.calls a0 (fun x0 => impl_areAll_impl_Page_1.f x0 a1) s2.w (fun b => memb [0] (s2.g b) = true) w0_0 (.func (.func 272) (List.toArray []) (List.toArray [(.pointer (some ⟨b2, 0, none⟩))])) A5 (fun x0 u0_0 w' k h0 r m =>  ⟨272, _, _, [], [(.pointer (some ⟨b2, 0, none⟩))], rfl, Tryz.func272, rfl, rfl, (impl_areAll_impl_Page_1.calls x0 a1 w' (fun _ => True) u0_0 b2 f1 h0 (fun x0c u0_0c w'c kc h0c r m =>  hf1 x0c u0_0c w'c (Ky.trans (z.ky K4) (Ky.trans k kc)) h0c r m) ho1 (BlF.ky B2 k) trivial r m).mono fun en w2 hq => by obtain ⟨v, e, q⟩ := hq; exact ⟨v, e, q⟩⟩) rfl r6 m6) ?_
 rintro r6 _ w6 m6 ⟨rfl, ky6⟩
 obtain ⟨s7, rfl, p7, n7⟩ := nwx s2 w6 41 ky6
 refine pu rfl rfl rfl rfl rfl ?_
 refine pu rfl rfl rfl rfl rfl ?_
 refine dn ?_
 have K8 := (K4.st p7 rfl)
 exact re rfl Tryz.func200 rfl (r_t rfl r_nil) rfl ⟨_, rfl, rfl, z.ky K8⟩
noncomputable def impl_PageUsed.b0 (a0 : Page) (x15 : Int × Int) : Option ((Int × Int) ⊕ Int) :=
 (if (decide (x15.2 < (a0.Slots.length : Int))) = true then (if 0 ≤ x15.2 ∧ x15.2 < (a0.Slots.length : Int) then (if (decide (((at_ a0.Slots x15.2).length : Int) > (92 : Int))) = true then (some (Sum.inr (-1 : Int))) else (some (Sum.inl ((IntKind.wrap .i64 (x15.1 + ((at_ a0.Slots x15.2).length : Int))), (IntKind.wrap .i64 (x15.2 + (1 : Int))))))) else none) else (((if (decide (x15.1 > (240 : Int))) = true then (some true) else ((if (decide ((a0.Slots.length : Int) > (0 : Int))) = true then (if 0 ≤ (IntKind.wrap .i64 ((a0.Slots.length : Int) - (1 : Int))) ∧ (IntKind.wrap .i64 ((a0.Slots.length : Int) - (1 : Int))) < (a0.Slots.length : Int) then (some (((at_ a0.Slots (IntKind.wrap .i64 ((a0.Slots.length : Int) - (1 : Int)))).length : Int) == (0 : Int))) else none) else (some false)).bind fun y26 => (some y26))).bind fun y24 => (if y24 = true then (some (-1 : Int)) else (some x15.1))).bind fun o => some (Sum.inr o)))
noncomputable def impl_PageUsed.f (a0 : Page) : Option (Int) :=
 ((impl_within.f a0.Lsn (0 : Int) (1000000 : Int)).bind fun r4 => (if ((!r4) || (decide ((a0.Slots.length : Int) > (16 : Int)))) = true then (some (-1 : Int)) else (iter (impl_PageUsed.b0 a0) ((IntKind.wrap .i64 ((1 : Int) + (a0.Slots.length : Int))), (0 : Int)))))
def impl_PageUsed.Q (w : World) (F : Nat → Prop) (r : Int) (v : Value) (w' : World) : Prop :=
 v = (.int .i64 r) ∧ Ky [] w w'
set_option maxHeartbeats 4000000 in
set_option maxRecDepth 100000 in
theorem impl_PageUsed.calls (a0 : Page) (w : World) (F : Nat → Prop) (w0_0 : Value) (h0_0 : (Kd.sl 24 (Kd.sl 5 (Kd.int .u8))).rd w [w0_0] a0.Slots F) (r : Int) (m : impl_PageUsed.f a0 = some r) :
  Calls Tryz.prog 202 #[(.agg #[(.int .i64 a0.Lsn), w0_0])] w fun en w' => ∃ v, en = .returned v ∧ impl_PageUsed.Q w F r v w' := by
 obtain ⟨s0, rfl, kp0, z⟩ := start0 w F
 have A0_0 := z.rd h0_0
 refine calls_of_TM (args := [(.agg #[(.int .i64 a0.Lsn), w0_0])]) (R := fun r en w' => ∃ v, en = .returned v ∧ impl_PageUsed.Q s0.w F r v w') Tryz.func202 Tryz.ntmps202 rfl rfl m ?_
 unfold impl_PageUsed.f
 refine sr ?_
 refine bx (cs := [(.int .i64 a0.Lsn), w0_0]) 40 rfl rfl rfl rfl rfl rfl (fun b2 s2 p2 B2 => ?_)
 refine pu rfl rfl rfl rfl rfl ?_
 refine dn ?_
 refine sq ?_
 refine sr ?_
 refine fa fa142_0 rfl rfl rfl rfl rfl rfl ?_
 refine ld B2 Tryz.underlying3 rfl rfl rfl rfl rfl rfl rfl rfl ?_
 refine cl rfl rfl rfl rfl rfl Tryz.func102 rfl rfl rfl (fun r4 m4 => impl_within.calls a0.Lsn (0 : Int) (1000000 : Int) s2.w (fun b => memb [] (s2.g b) = true)  r4 m4) ?_
 rintro r4 _ w4 m4 ⟨rfl, ky4⟩
 obtain ⟨s5, rfl, p5, n5⟩ := nwx s2 w4 41 ky4
 refine pu rfl rfl rfl rfl rfl ?_
 refine pu rfl rfl rfl rfl rfl ?_
 refine jy [10, 11, 12, 13, 14, 15] [] 15 (.bool ((!r4) || (decide ((a0.Slots.length : Int) > (16 : Int))))) rfl (fun Kg6 => ?_) (fun j6 => ?_)
 ·
  rcases Bool.eq_false_or_eq_true (!r4) with hb6 | hb6
  ·
   refine sbT hb6 ?_
   refine uw rfl rfl rfl rfl ?_
   refine uw rfl rfl rfl rfl ?_
   refine uw rfl rfl rfl rfl ?_
   refine uw rfl rfl rfl rfl ?_
   refine pu rfl rfl rfl rfl rfl ?_
   exact Kg6 _ (Ag.put ((Ag.put ((Ag.put ((Ag.put ((Ag.put (Ag.base rfl) rfl)) rfl)) rfl)) rfl)) rfl) (by rw [hb6]; rfl)
  ·
   refine sbT hb6 ?_
   refine fa fa142_1 rfl rfl rfl rfl rfl rfl ?_
   have A7 := (BlF.st B2 p5 rfl)
   refine ld A7 Tryz.underlying140 rfl rfl rfl rfl rfl rfl rfl rfl ?_
   have K8 := ((kp0.st p2 rfl).st p5 rfl)
   have A9 := (A0_0.kp K8)
   refine ln A9 Tryz.underlying140 rfl rfl rfl rfl rfl rfl ?_
   refine pu rfl rfl rfl rfl rfl ?_
   refine pu rfl rfl rfl rfl rfl ?_
   exact Kg6 _ (Ag.put ((Ag.put ((Ag.put ((Ag.put ((Ag.put (Ag.base rfl) rfl)) rfl)) rfl)) rfl)) rfl) (by rw [hb6]; rfl)
 refine dn ?_
 refine cd rfl (fun h10 => ?_) (fun h10 => ?_)
 ·
  refine sr ?_
  refine pu rfl rfl rfl rfl rfl ?_
  refine dn ?_
  have K11 := ((kp0.st p2 rfl).st p5 rfl)
  exact re rfl Tryz.func202 rfl (r_t rfl r_nil) rfl ⟨_, rfl, rfl, z.ky K11⟩
 ·
  refine sk ?_
  refine sr ?_
  refine fa fa142_1 rfl rfl rfl rfl rfl rfl ?_
  have A12 := (BlF.st B2 p5 rfl)
  refine ld A12 Tryz.underlying140 rfl rfl rfl rfl rfl rfl rfl rfl ?_
  have K13 := ((kp0.st p2 rfl).st p5 rfl)
  have A14 := (A0_0.kp K13)
  refine ln A14 Tryz.underlying140 rfl rfl rfl rfl rfl rfl ?_
  refine pu rfl rfl rfl rfl rfl ?_
  refine pu rfl rfl rfl rfl rfl ?_
  refine dn ?_
  refine sq ?_
  refine sr ?_
  refine fa fa142_1 rfl rfl rfl rfl rfl rfl ?_
  refine ld A12 Tryz.underlying140 rfl rfl rfl rfl rfl rfl rfl rfl ?_
  refine ln A14 Tryz.underlying140 rfl rfl rfl rfl rfl rfl ?_
  refine pu rfl rfl rfl rfl rfl ?_
  refine dn ?_
  refine bl ?_
  refine lpI (fun (x15 : Int × Int) (e : Env) (w : World) => ∃ (s : St) (e0 : Env), w = s.w ∧ e = upd (upd (upd (upd (upd e0 1 (.pointer (some ⟨b2, 0, none⟩))) 3 (.int .i64 x15.1)) 21 w0_0) 22 (.int .i64 (a0.Slots.length : Int))) 23 (.int .i64 x15.2) ∧ Kp s0 s ∧ BlF s b2 142 [(.int .i64 a0.Lsn), w0_0] 40) ⟨s5, _, rfl, (ue (ue (ue (ue (ue rfl rfl) rfl) rfl) rfl) rfl), K13, A12⟩ (fun g15 ih15 => ?_)
  rintro x15 _ _ ⟨s16, _, rfl, rfl, Kx15, Bx15_b2⟩
  unfold impl_PageUsed.b0
  refine sr ?_
  refine pu rfl rfl rfl rfl rfl ?_
  refine dn ?_
  refine sq ?_
  refine cd rfl (fun h18 => ?_) (fun h18 => ?_)
  ·
   refine sk ?_
   refine sq ?_
   refine bl ?_
   refine sr ?_
   have A19 := (A0_0.kp Kx15)
   refine ix A19 Tryz.underlying140 z24 rfl rfl rfl rfl rfl rfl rfl rfl (fun ad20 es20 h0_20 h1_20 he20 ce20 ia20 => ?_)
   obtain ⟨v20, rfl, he20'⟩ := he20
   have A20 : RdF (Kd.sl 5 (Kd.int .u8)) s16 [v20] (at_ a0.Slots x15.2) [0] := ⟨v20, rfl, he20'⟩
   refine lc0 ce20 Tryz.underlying24 rfl rfl rfl rfl rfl rfl rfl rfl ?_
   refine asg v20 rfl rfl rfl rfl rfl rfl ?_
   refine dn ?_
   refine sq ?_
   refine sr ?_
   refine mv v20 rfl rfl rfl rfl rfl rfl ?_
   refine ln A20 Tryz.underlying24 rfl rfl rfl rfl rfl rfl ?_
   refine pu rfl rfl rfl rfl rfl ?_
   refine dn ?_
   refine cd rfl (fun h23 => ?_) (fun h23 => ?_)
   ·
    refine sr ?_
    refine pu rfl rfl rfl rfl rfl ?_
    refine dn ?_
    refine sgi ?_
    exact re rfl Tryz.func202 rfl (r_t rfl r_nil) rfl ⟨_, rfl, rfl, z.ky Kx15⟩
   ·
    refine sk ?_
    refine rg ?_
    refine pu rfl rfl rfl rfl rfl ?_
    refine mv v20 rfl rfl rfl rfl rfl rfl ?_
    refine ln A20 Tryz.underlying24 rfl rfl rfl rfl rfl rfl ?_
    refine pu rfl rfl rfl rfl rfl ?_
    refine pu rfl rfl rfl rfl rfl ?_
    refine dn ?_
    refine ib ?_
    refine rg ?_
    refine pu rfl rfl rfl rfl rfl ?_
    refine pu rfl rfl rfl rfl rfl ?_
    refine dn ?_
    exact lb ih15 ⟨s16, _, rfl, (ue (ue (ue (ue (ue rfl rfl) rfl) rfl) rfl) rfl), Kx15, Bx15_b2⟩
  ·
   refine xt rfl ?_
   refine sgb ?_
   refine sq ?_
   refine sr ?_
   refine pu rfl rfl rfl rfl rfl ?_
   refine pu rfl rfl rfl rfl rfl ?_
   refine pu rfl rfl rfl rfl rfl ?_
   refine ji [] (fun (y24 : Bool) (e : Env) (w : World) => ∃ (s : St) (e0 : Env), w = s.w ∧ e = upd (upd e0 3 (.int .i64 x15.1)) 54 (.bool y24) ∧ Kp s0 s) (fun Gj24 Kj24 => ?_) ?_
   ·
    rcases Bool.eq_false_or_eq_true (decide (x15.1 > (240 : Int))) with hb24 | hb24
    ·
     refine sbT hb24 ?_
     rw [if_pos hb24]
     refine uw rfl rfl rfl rfl ?_
     refine uw rfl rfl rfl rfl ?_
     refine uw rfl rfl rfl rfl ?_
     refine uw rfl rfl rfl rfl ?_
     refine uw rfl rfl rfl rfl ?_
     refine uw rfl rfl rfl rfl ?_
     refine uw rfl rfl rfl rfl ?_
     refine uw rfl rfl rfl rfl ?_
     refine uw rfl rfl rfl rfl ?_
     refine uw rfl rfl rfl rfl ?_
     refine uw rfl rfl rfl rfl ?_
     refine uw rfl rfl rfl rfl ?_
     refine uw rfl rfl rfl rfl ?_
     refine uw rfl rfl rfl rfl ?_
     refine uw rfl rfl rfl rfl ?_
     refine uw rfl rfl rfl rfl ?_
     refine pu rfl rfl rfl rfl rfl ?_
     exact Kj24 _ _ _ ⟨s16, _, rfl, (ue (ue rfl rfl) rfl), Kx15⟩
    ·
     refine sbT hb24 ?_
     rw [if_neg (by rw [hb24]; decide)]
     refine fa fa142_1 rfl rfl rfl rfl rfl rfl ?_
     refine ld Bx15_b2 Tryz.underlying140 rfl rfl rfl rfl rfl rfl rfl rfl ?_
     have A25 := (A0_0.kp Kx15)
     refine ln A25 Tryz.underlying140 rfl rfl rfl rfl rfl rfl ?_
     refine pu rfl rfl rfl rfl rfl ?_
     refine pu rfl rfl rfl rfl rfl ?_
     refine ji [19] (fun (y26 : Bool) (e : Env) (w : World) => ∃ (s : St) (e0 : Env), w = s.w ∧ e = upd (upd (upd e0 3 (.int .i64 x15.1)) 37 (.bool false)) 53 (.bool y26) ∧ Kp s0 s) (fun Gj26 Kj26 => ?_) ?_
     ·
      rcases Bool.eq_false_or_eq_true (decide ((a0.Slots.length : Int) > (0 : Int))) with hb26 | hb26
      ·
       refine sbT hb26 ?_
       rw [if_pos hb26]
       refine fa fa142_1 rfl rfl rfl rfl rfl rfl ?_
       refine ld Bx15_b2 Tryz.underlying140 rfl rfl rfl rfl rfl rfl rfl rfl ?_
       refine fa fa142_1 rfl rfl rfl rfl rfl rfl ?_
       refine ld Bx15_b2 Tryz.underlying140 rfl rfl rfl rfl rfl rfl rfl rfl ?_
       refine ln A25 Tryz.underlying140 rfl rfl rfl rfl rfl rfl ?_
       refine pu rfl rfl rfl rfl rfl ?_
       refine ix A25 Tryz.underlying140 z24 rfl rfl rfl rfl rfl rfl rfl rfl (fun ad27 es27 h0_27 h1_27 he27 ce27 ia27 => ?_)
       obtain ⟨v27, rfl, he27'⟩ := he27
       have A27 : RdF (Kd.sl 5 (Kd.int .u8)) s16 [v27] (at_ a0.Slots (IntKind.wrap .i64 ((a0.Slots.length : Int) - (1 : Int)))) [0] := ⟨v27, rfl, he27'⟩
       refine lc0 ce27 Tryz.underlying24 rfl rfl rfl rfl rfl rfl rfl rfl ?_
       refine ln A27 Tryz.underlying24 rfl rfl rfl rfl rfl rfl ?_
       refine pu rfl rfl rfl rfl rfl ?_
       refine pu rfl rfl rfl rfl rfl ?_
       exact Kj26 _ _ _ ⟨s16, _, rfl, (ue (ue (ue rfl rfl) rfl) rfl), Kx15⟩
      ·
       refine sbT hb26 ?_
       rw [if_neg (by rw [hb26]; decide)]
       refine uw rfl rfl rfl rfl ?_
       refine uw rfl rfl rfl rfl ?_
       refine uw rfl rfl rfl rfl ?_
       refine uw rfl rfl rfl rfl ?_
       refine uw rfl rfl rfl rfl ?_
       refine uw rfl rfl rfl rfl ?_
       refine uw rfl rfl rfl rfl ?_
       refine uw rfl rfl rfl rfl ?_
       refine uw rfl rfl rfl rfl ?_
       refine uw rfl rfl rfl rfl ?_
       refine pu rfl rfl rfl rfl rfl ?_
       exact Kj26 _ _ _ ⟨s16, _, rfl, (ue (ue (ue rfl rfl) rfl) rfl), Kx15⟩
     rintro y26 _ _ ⟨s30, _, rfl, rfl, Ky26⟩
     refine pu rfl rfl rfl rfl rfl ?_
     exact Kj24 _ _ _ ⟨s30, _, rfl, (ue (ue rfl rfl) rfl), Ky26⟩
   rintro y24 _ _ ⟨s31, _, rfl, rfl, Ky24⟩
   refine dn ?_
   refine cd rfl (fun h32 => ?_) (fun h32 => ?_)
   ·
    refine sr ?_
    refine pu rfl rfl rfl rfl rfl ?_
    refine dn ?_
    exact re rfl Tryz.func202 rfl (r_t rfl r_nil) rfl ⟨_, rfl, rfl, z.ky Ky24⟩
   ·
    refine sk ?_
    refine sr ?_
    refine pu rfl rfl rfl rfl rfl ?_
    refine pu rfl rfl rfl rfl rfl ?_
    refine dn ?_
    exact re rfl Tryz.func202 rfl (r_t rfl r_nil) rfl ⟨_, rfl, rfl, z.ky Ky24⟩
noncomputable def impl_areAll_byte_1.f (a0 : (List Int)) (a1 : ((List Int) → Option Bool)) : Option (Bool) :=
 ((a1 a0).bind fun r3 => (some (!r3)))
def impl_areAll_byte_1.Q (w : World) (F : Nat → Prop) (r : Bool) (v : Value) (w' : World) : Prop :=
 v = (.bool r) ∧ Ky [] w w'
set_option maxHeartbeats 4000000 in
set_option maxRecDepth 100000 in
theorem impl_areAll_byte_1.calls (a0 : (List Int)) (a1 : ((List Int) → Option Bool)) (w : World) (F : Nat → Prop) (w0_0 : Value) (c1 : Nat) (f1 : Value) (h0_0 : (Kd.sl 5 (Kd.int .u8)).rd w [w0_0] a0 F) (hf1 : ∀ (x0 : (List Int)) (u0_0 : Value) (w' : World), Ky [] w w' → (Kd.sl 5 (Kd.int .u8)).rd w' [u0_0] x0 (fun _ => True) → ∀ r, a1 x0 = some r → CallV Tryz.prog f1 [u0_0] w' fun en w'' => ∃ v, en = .returned v ∧ v = (.bool r) ∧ Ky [] w' w'') (ho1 : f1.cells = #[f1]) (hb1 : BlW w c1 235 [f1]) (hp1 : F c1) (r : Bool) (m : impl_areAll_byte_1.f a0 a1 = some r) :
  Calls Tryz.prog 274 #[w0_0, (.pointer (some ⟨c1, 0, none⟩))] w fun en w' => ∃ v, en = .returned v ∧ impl_areAll_byte_1.Q w F r v w' := by
 obtain ⟨s0, rfl, kp0, z⟩ := start0 w F
 have A0_0 := z.rd h0_0
 have B1 := z.b0 hb1 hp1
 refine calls_of_TM (args := [w0_0, (.pointer (some ⟨c1, 0, none⟩))]) (R := fun r en w' => ∃ v, en = .returned v ∧ impl_areAll_byte_1.Q s0.w F r v w') Tryz.func274 Tryz.ntmps274 rfl rfl m ?_
 unfold impl_areAll_byte_1.f
 refine sr ?_
 refine pu rfl rfl rfl rfl rfl ?_
 refine dn ?_
 refine sr ?_
 refine ld B1 Tryz.underlying235 rfl rfl rfl rfl rfl rfl rfl rfl ?_
 refine mv w0_0 rfl rfl rfl rfl rfl rfl ?_
 refine clv rfl rfl rfl rfl rfl rfl rfl (fun r3 m3 => hf1 a0 w0_0 s0.w (z.ky kp0) (RdF.top A0_0) r3 m3) ?_
 rintro r3 _ w3 m3 ⟨rfl, ky3⟩
 obtain ⟨s4, rfl, p4, n4⟩ := nwx s0 w3 40 ky3
 refine pu rfl rfl rfl rfl rfl ?_
 refine pu rfl rfl rfl rfl rfl ?_
 refine dn ?_
 have K5 := (kp0.st p4 rfl)
 exact re rfl Tryz.func274 rfl (r_t rfl r_nil) rfl ⟨_, rfl, rfl, z.ky K5⟩
noncomputable def slices_IndexFunc_byte_byte.b0 (a0 : (List (List Int))) (a1 : ((List Int) → Option Bool)) (x2 : Int) : Option (Int ⊕ Int) :=
 (if (decide (x2 < (a0.length : Int))) = true then (if 0 ≤ x2 ∧ x2 < (a0.length : Int) then ((a1 (at_ a0 x2)).bind fun r9 => (if r9 = true then (some (Sum.inr x2)) else (some (Sum.inl (IntKind.wrap .i64 (x2 + (1 : Int))))))) else none) else ((some (-1 : Int)).bind fun o => some (Sum.inr o)))
noncomputable def slices_IndexFunc_byte_byte.f (a0 : (List (List Int))) (a1 : ((List Int) → Option Bool)) : Option (Int) :=
 (iter (slices_IndexFunc_byte_byte.b0 a0 a1) (0 : Int))
def slices_IndexFunc_byte_byte.Q (w : World) (F : Nat → Prop) (r : Int) (v : Value) (w' : World) : Prop :=
 v = (.int .i64 r) ∧ Ky [] w w'
set_option maxHeartbeats 4000000 in
set_option maxRecDepth 100000 in
theorem slices_IndexFunc_byte_byte.calls (a0 : (List (List Int))) (a1 : ((List Int) → Option Bool)) (w : World) (F : Nat → Prop) (w0_0 : Value) (f1 : Value) (h0_0 : (Kd.sl 24 (Kd.sl 5 (Kd.int .u8))).rd w [w0_0] a0 F) (hf1 : ∀ (x0 : (List Int)) (u0_0 : Value) (w' : World), Ky [] w w' → (Kd.sl 5 (Kd.int .u8)).rd w' [u0_0] x0 (fun _ => True) → ∀ r, a1 x0 = some r → CallV Tryz.prog f1 [u0_0] w' fun en w'' => ∃ v, en = .returned v ∧ v = (.bool r) ∧ Ky [] w' w'') (ho1 : f1.cells = #[f1]) (r : Int) (m : slices_IndexFunc_byte_byte.f a0 a1 = some r) :
  Calls Tryz.prog 318 #[w0_0, f1] w fun en w' => ∃ v, en = .returned v ∧ slices_IndexFunc_byte_byte.Q w F r v w' := by
 obtain ⟨s0, rfl, kp0, z⟩ := start0 w F
 have A0_0 := z.rd h0_0
 refine calls_of_TM (args := [w0_0, f1]) (R := fun r en w' => ∃ v, en = .returned v ∧ slices_IndexFunc_byte_byte.Q s0.w F r v w') Tryz.func318 Tryz.ntmps318 rfl rfl m ?_
 unfold slices_IndexFunc_byte_byte.f
 refine sr ?_
 refine pu rfl rfl rfl rfl rfl ?_
 refine dn ?_
 refine sq ?_
 refine sr ?_
 refine mv w0_0 rfl rfl rfl rfl rfl rfl ?_
 refine ln A0_0 Tryz.underlying140 rfl rfl rfl rfl rfl rfl ?_
 refine pu rfl rfl rfl rfl rfl ?_
 refine dn ?_
 refine bl ?_
 refine lpI (fun (x2 : Int) (e : Env) (w : World) => ∃ (s : St) (e0 : Env), w = s.w ∧ e = upd (upd (upd (upd e0 0 w0_0) 1 f1) 7 (.int .i64 (a0.length : Int))) 8 (.int .i64 x2) ∧ Kp s0 s) ⟨s0, _, rfl, (ue (ue (ue (ue rfl rfl) rfl) rfl) rfl), kp0⟩ (fun g2 ih2 => ?_)
 rintro x2 _ _ ⟨s3, _, rfl, rfl, Kx2⟩
 unfold slices_IndexFunc_byte_byte.b0
 refine sr ?_
 refine pu rfl rfl rfl rfl rfl ?_
 refine dn ?_
 refine sq ?_
 refine cd rfl (fun h4 => ?_) (fun h4 => ?_)
 ·
  refine sk ?_
  refine sq ?_
  refine bl ?_
  refine sr ?_
  refine pu rfl rfl rfl rfl rfl ?_
  refine pu rfl rfl rfl rfl rfl ?_
  refine dn ?_
  refine sr ?_
  refine mv f1 rfl rfl rfl rfl rfl rfl ?_
  refine mv w0_0 rfl rfl rfl rfl rfl rfl ?_
  refine pu rfl rfl rfl rfl rfl ?_
  have A5 := (A0_0.kp Kx2)
  refine ix A5 Tryz.underlying140 z24 rfl rfl rfl rfl rfl rfl rfl rfl (fun ad6 es6 h0_6 h1_6 he6 ce6 ia6 => ?_)
  obtain ⟨v6, rfl, he6'⟩ := he6
  have A6 : RdF (Kd.sl 5 (Kd.int .u8)) s3 [v6] (at_ a0 x2) [0] := ⟨v6, rfl, he6'⟩
  refine lc0 ce6 Tryz.underlying24 rfl rfl rfl rfl rfl rfl rfl rfl ?_
  refine clv rfl rfl rfl rfl rfl rfl rfl (fun r9 m9 => hf1 (at_ a0 x2) v6 s3.w (z.ky Kx2) (RdF.top A6) r9 m9) ?_
  rintro r9 _ w9 m9 ⟨rfl, ky9⟩
  obtain ⟨s10, rfl, p10, n10⟩ := nwx s3 w9 40 ky9
  refine dn ?_
  refine cd rfl (fun h11 => ?_) (fun h11 => ?_)
  ·
   refine sr ?_
   refine pu rfl rfl rfl rfl rfl ?_
   refine pu rfl rfl rfl rfl rfl ?_
   refine dn ?_
   refine sgi ?_
   have K12 := (Kx2.st p10 rfl)
   exact re rfl Tryz.func318 rfl (r_t rfl r_nil) rfl ⟨_, rfl, rfl, z.ky K12⟩
  ·
   refine sk ?_
   refine ib ?_
   refine rg ?_
   refine pu rfl rfl rfl rfl rfl ?_
   refine pu rfl rfl rfl rfl rfl ?_
   refine dn ?_
   have K13 := (Kx2.st p10 rfl)
   exact lb ih2 ⟨s10, _, rfl, (ue (ue (ue (ue rfl rfl) rfl) rfl) rfl), K13⟩
 ·
  refine xt rfl ?_
  refine sgb ?_
  refine sr ?_
  refine pu rfl rfl rfl rfl rfl ?_
  refine dn ?_
  exact re rfl Tryz.func318 rfl (r_t rfl r_nil) rfl ⟨_, rfl, rfl, z.ky Kx2⟩
noncomputable def slices_ContainsFunc_byte_byte.f (a0 : (List (List Int))) (a1 : ((List Int) → Option Bool)) : Option (Bool) :=
 ((slices_IndexFunc_byte_byte.f a0 a1).bind fun r2 => (some (decide (r2 ≥ (0 : Int)))))
def slices_ContainsFunc_byte_byte.Q (w : World) (F : Nat → Prop) (r : Bool) (v : Value) (w' : World) : Prop :=
 v = (.bool r) ∧ Ky [] w w'
set_option maxHeartbeats 4000000 in
set_option maxRecDepth 100000 in
theorem slices_ContainsFunc_byte_byte.calls (a0 : (List (List Int))) (a1 : ((List Int) → Option Bool)) (w : World) (F : Nat → Prop) (w0_0 : Value) (f1 : Value) (h0_0 : (Kd.sl 24 (Kd.sl 5 (Kd.int .u8))).rd w [w0_0] a0 F) (hf1 : ∀ (x0 : (List Int)) (u0_0 : Value) (w' : World), Ky [] w w' → (Kd.sl 5 (Kd.int .u8)).rd w' [u0_0] x0 (fun _ => True) → ∀ r, a1 x0 = some r → CallV Tryz.prog f1 [u0_0] w' fun en w'' => ∃ v, en = .returned v ∧ v = (.bool r) ∧ Ky [] w' w'') (ho1 : f1.cells = #[f1]) (r : Bool) (m : slices_ContainsFunc_byte_byte.f a0 a1 = some r) :
  Calls Tryz.prog 273 #[w0_0, f1] w fun en w' => ∃ v, en = .returned v ∧ slices_ContainsFunc_byte_byte.Q w F r v w' := by
 obtain ⟨s0, rfl, kp0, z⟩ := start0 w F
 have A0_0 := z.rd h0_0
 refine calls_of_TM (args := [w0_0, f1]) (R := fun r en w' => ∃ v, en = .returned v ∧ slices_ContainsFunc_byte_byte.Q s0.w F r v w') Tryz.func273 Tryz.ntmps273 rfl rfl m ?_
 unfold slices_ContainsFunc_byte_byte.f
 refine sr ?_
 refine pu rfl rfl rfl rfl rfl ?_
 refine dn ?_
 refine sr ?_
 refine mv w0_0 rfl rfl rfl rfl rfl rfl ?_
 refine mv f1 rfl rfl rfl rfl rfl rfl ?_
 refine cl rfl rfl rfl rfl rfl Tryz.func318 rfl rfl rfl (fun r2 m2 => slices_IndexFunc_byte_byte.calls a0 a1 s0.w (fun b => memb [0] (s0.g b) = true) w0_0 f1 A0_0 (fun x0 u0_0 w' k h0 r m =>  hf1 x0 u0_0 w' (Ky.trans (z.ky kp0) k) h0 r m) ho1 r2 m2) ?_
 rintro r2 _ w2 m2 ⟨rfl, ky2⟩
 obtain ⟨s3, rfl, p3, n3⟩ := nwx s0 w2 40 ky2
 refine pu rfl rfl rfl rfl rfl ?_
 refine pu rfl rfl rfl rfl rfl ?_
 refine dn ?_
 have K4 := (kp0.st p3 rfl)
 exact re rfl Tryz.func273 rfl (r_t rfl r_nil) rfl ⟨_, rfl, rfl, z.ky K4⟩
noncomputable def impl_areAll_byte.f (a0 : (List (List Int))) (a1 : ((List Int) → Option Bool)) : Option (Bool) :=
 ((slices_ContainsFunc_byte_byte.f a0 (fun x0 => impl_areAll_byte_1.f x0 a1)).bind fun r6 => (some (!r6)))
def impl_areAll_byte.Q (w : World) (F : Nat → Prop) (r : Bool) (v : Value) (w' : World) : Prop :=
 v = (.bool r) ∧ Ky [] w w'
set_option maxHeartbeats 4000000 in
set_option maxRecDepth 100000 in
theorem impl_areAll_byte.calls (a0 : (List (List Int))) (a1 : ((List Int) → Option Bool)) (w : World) (F : Nat → Prop) (w0_0 : Value) (f1 : Value) (h0_0 : (Kd.sl 24 (Kd.sl 5 (Kd.int .u8))).rd w [w0_0] a0 F) (hf1 : ∀ (x0 : (List Int)) (u0_0 : Value) (w' : World), Ky [] w w' → (Kd.sl 5 (Kd.int .u8)).rd w' [u0_0] x0 (fun _ => True) → ∀ r, a1 x0 = some r → CallV Tryz.prog f1 [u0_0] w' fun en w'' => ∃ v, en = .returned v ∧ v = (.bool r) ∧ Ky [] w' w'') (ho1 : f1.cells = #[f1]) (r : Bool) (m : impl_areAll_byte.f a0 a1 = some r) :
  Calls Tryz.prog 203 #[w0_0, f1] w fun en w' => ∃ v, en = .returned v ∧ impl_areAll_byte.Q w F r v w' := by
 obtain ⟨s0, rfl, kp0, z⟩ := start0 w F
 have A0_0 := z.rd h0_0
 refine calls_of_TM (args := [w0_0, f1]) (R := fun r en w' => ∃ v, en = .returned v ∧ impl_areAll_byte.Q s0.w F r v w') Tryz.func203 Tryz.ntmps203 rfl rfl m ?_
 unfold impl_areAll_byte.f
 refine sr ?_
 refine bx (cs := [f1]) 40 rfl rfl rfl rfl rfl ho1 (fun b2 s2 p2 B2 => ?_)
 refine pu rfl rfl rfl rfl rfl ?_
 refine dn ?_
 refine sr ?_
 refine mv w0_0 rfl rfl rfl rfl rfl rfl ?_
 refine mkf (fs := []) (cs := [(.pointer (some ⟨b2, 0, none⟩))]) rfl rfl rfl rfl rfl rfl rfl ?_
 have K4 := (kp0.st p2 rfl)
 have A5 := (A0_0.kp K4)
 refine cl rfl rfl rfl rfl rfl Tryz.func273 rfl rfl rfl (fun r6 m6 => slices_ContainsFunc_byte_byte.calls a0 (fun x0 => impl_areAll_byte_1.f x0 a1) s2.w (fun b => memb [0] (s2.g b) = true) w0_0 (.func (.func 274) (List.toArray []) (List.toArray [(.pointer (some ⟨b2, 0, none⟩))])) A5 (fun x0 u0_0 w' k h0 r m =>  ⟨274, _, _, [], [(.pointer (some ⟨b2, 0, none⟩))], rfl, Tryz.func274, rfl, rfl, (impl_areAll_byte_1.calls x0 a1 w' (fun _ => True) u0_0 b2 f1 h0 (fun x0c u0_0c w'c kc h0c r m =>  hf1 x0c u0_0c w'c (Ky.trans (z.ky K4) (Ky.trans k kc)) h0c r m) ho1 (BlF.ky B2 k) trivial r m).mono fun en w2 hq => by obtain ⟨v, e, q⟩ := hq; exact ⟨v, e, q⟩⟩) rfl r6 m6) ?_
 rintro r6 _ w6 m6 ⟨rfl, ky6⟩
 obtain ⟨s7, rfl, p7, n7⟩ := nwx s2 w6 41 ky6
 refine pu rfl rfl rfl rfl rfl ?_
 refine pu rfl rfl rfl rfl rfl ?_
 refine dn ?_
 have K8 := (K4.st p7 rfl)
 exact re rfl Tryz.func203 rfl (r_t rfl r_nil) rfl ⟨_, rfl, rfl, z.ky K8⟩
noncomputable def impl_hasBytes.f (a0 : (List Int)) (a1 : Int) (a2 : Int) : Option (Bool) :=
 ((impl_within.f a1 (0 : Int) (a0.length : Int)).bind fun r2 => (some (r2 && (decide (a2 ≤ (IntKind.wrap .i64 ((a0.length : Int) - a1)))))))
def impl_hasBytes.Q (w : World) (F : Nat → Prop) (r : Bool) (v : Value) (w' : World) : Prop :=
 v = (.bool r) ∧ Ky [] w w'
set_option maxHeartbeats 4000000 in
set_option maxRecDepth 100000 in
theorem impl_hasBytes.calls (a0 : (List Int)) (a1 : Int) (a2 : Int) (w : World) (F : Nat → Prop) (w0_0 : Value) (h0_0 : (Kd.sl 5 (Kd.int .u8)).rd w [w0_0] a0 F) (r : Bool) (m : impl_hasBytes.f a0 a1 a2 = some r) :
  Calls Tryz.prog 302 #[w0_0, (.int .i64 a1), (.int .i64 a2)] w fun en w' => ∃ v, en = .returned v ∧ impl_hasBytes.Q w F r v w' := by
 obtain ⟨s0, rfl, kp0, z⟩ := start0 w F
 have A0_0 := z.rd h0_0
 refine calls_of_TM (args := [w0_0, (.int .i64 a1), (.int .i64 a2)]) (R := fun r en w' => ∃ v, en = .returned v ∧ impl_hasBytes.Q s0.w F r v w') Tryz.func302 Tryz.ntmps302 rfl rfl m ?_
 unfold impl_hasBytes.f
 refine sr ?_
 refine pu rfl rfl rfl rfl rfl ?_
 refine dn ?_
 refine sr ?_
 refine pu rfl rfl rfl rfl rfl ?_
 refine mv w0_0 rfl rfl rfl rfl rfl rfl ?_
 refine ln A0_0 Tryz.underlying24 rfl rfl rfl rfl rfl rfl ?_
 refine cl rfl rfl rfl rfl rfl Tryz.func102 rfl rfl rfl (fun r2 m2 => impl_within.calls a1 (0 : Int) (a0.length : Int) s0.w (fun b => memb [] (s0.g b) = true)  r2 m2) ?_
 rintro r2 _ w2 m2 ⟨rfl, ky2⟩
 obtain ⟨s3, rfl, p3, n3⟩ := nwx s0 w2 40 ky2
 refine pu rfl rfl rfl rfl rfl ?_
 refine jy [11, 12, 13, 14, 15, 16, 17, 18] [12] 18 (.bool (r2 && (decide (a2 ≤ (IntKind.wrap .i64 ((a0.length : Int) - a1)))))) rfl (fun Kg4 => ?_) (fun j4 => ?_)
 ·
  rcases Bool.eq_false_or_eq_true r2 with hb4 | hb4
  ·
   refine sbT hb4 ?_
   refine pu rfl rfl rfl rfl rfl ?_
   refine mv w0_0 rfl rfl rfl rfl rfl rfl ?_
   have K5 := (kp0.st p3 rfl)
   have A6 := (A0_0.kp K5)
   refine ln A6 Tryz.underlying24 rfl rfl rfl rfl rfl rfl ?_
   refine pu rfl rfl rfl rfl rfl ?_
   refine pu rfl rfl rfl rfl rfl ?_
   refine pu rfl rfl rfl rfl rfl ?_
   refine pu rfl rfl rfl rfl rfl ?_
   exact Kg4 _ (Ag.put ((Ag.put ((Ag.put ((Ag.put ((Ag.put ((Ag.put ((Ag.put (Ag.base rfl) rfl)) rfl)) rfl)) rfl)) rfl)) rfl)) rfl) (by rw [hb4]; rfl)
  ·
   refine sbT hb4 ?_
   refine uw rfl rfl rfl rfl ?_
   refine uw rfl rfl rfl rfl ?_
   refine uw rfl rfl rfl rfl ?_
   refine uw rfl rfl rfl rfl ?_
   refine uw rfl rfl rfl rfl ?_
   refine uw rfl rfl rfl rfl ?_
   refine pu rfl rfl rfl rfl rfl ?_
   exact Kg4 _ (Ag.put ((Ag.put ((Ag.put ((Ag.put ((Ag.put ((Ag.put ((Ag.put (Ag.base rfl) rfl)) rfl)) rfl)) rfl)) rfl)) rfl)) rfl) (by rw [hb4]; rfl)
 refine pu rfl rfl rfl rfl rfl ?_
 refine dn ?_
 have K7 := (kp0.st p3 rfl)
 exact re rfl Tryz.func302 rfl (r_t rfl r_nil) rfl ⟨_, rfl, rfl, z.ky K7⟩
noncomputable def impl_GetNum.b0 (a0 : (List Int)) (a1 : Int) (x13 : Int × Int) : Option ((Int × Int) ⊕ (Int × Bool)) :=
 (if (decide (x13.2 ≥ (0 : Int))) = true then (if 0 ≤ (IntKind.wrap .i64 (a1 + x13.2)) ∧ (IntKind.wrap .i64 (a1 + x13.2)) < (a0.length : Int) then (some (Sum.inl ((ior .u64 (ishl .u64 x13.1 (8 : Int)) (IntKind.wrap .u64 (at_ a0 (IntKind.wrap .i64 (a1 + x13.2))))), (IntKind.wrap .i64 (x13.2 - (1 : Int)))))) else none) else ((if (decide (x13.1 ≥ (9223372036854775808 : Int))) = true then (some ((0 : Int), false)) else (some ((IntKind.wrap .i64 x13.1), true))).bind fun o => some (Sum.inr o)))
noncomputable def impl_GetNum.f (a0 : (List Int)) (a1 : Int) (a2 : Int) : Option (Int × Bool) :=
 ((impl_within.f a2 (1 : Int) (8 : Int)).bind fun r2 => ((if (!r2) = true then (some true) else ((impl_hasBytes.f a0 a1 a2).bind fun r8 => (some (!r8)))).bind fun y4 => (if y4 = true then (some ((0 : Int), false)) else (iter (impl_GetNum.b0 a0 a1) ((0 : Int), (IntKind.wrap .i64 (a2 - (1 : Int))))))))
def impl_GetNum.Q (w : World) (F : Nat → Prop) (r : Int × Bool) (v : Value) (w' : World) : Prop :=
 v = .tuple #[(.int .i64 r.1), (.bool r.2)] ∧ Ky [] w w'
set_option maxHeartbeats 4000000 in
set_option maxRecDepth 100000 in
theorem impl_GetNum.calls (a0 : (List Int)) (a1 : Int) (a2 : Int) (w : World) (F : Nat → Prop) (w0_0 : Value) (h0_0 : (Kd.sl 5 (Kd.int .u8)).rd w [w0_0] a0 F) (r : Int × Bool) (m : impl_GetNum.f a0 a1 a2 = some r) :
  Calls Tryz.prog 267 #[w0_0, (.int .i64 a1), (.int .i64 a2)] w fun en w' => ∃ v, en = .returned v ∧ impl_GetNum.Q w F r v w' := by
 obtain ⟨s0, rfl, kp0, z⟩ := start0 w F
 have A0_0 := z.rd h0_0
 refine calls_of_TM (args := [w0_0, (.int .i64 a1), (.int .i64 a2)]) (R := fun r en w' => ∃ v, en = .returned v ∧ impl_GetNum.Q s0.w F r v w') Tryz.func267 Tryz.ntmps267 rfl rfl m ?_
 unfold impl_GetNum.f
 refine sr ?_
 refine pu rfl rfl rfl rfl rfl ?_
 refine pu rfl rfl rfl rfl rfl ?_
 refine dn ?_
 refine sq ?_
 refine sr ?_
 refine pu rfl rfl rfl rfl rfl ?_
 refine cl rfl rfl rfl rfl rfl Tryz.func102 rfl rfl rfl (fun r2 m2 => impl_within.calls a2 (1 : Int) (8 : Int) s0.w (fun b => memb [] (s0.g b) = true)  r2 m2) ?_
 rintro r2 _ w2 m2 ⟨rfl, ky2⟩
 obtain ⟨s3, rfl, p3, n3⟩ := nwx s0 w2 40 ky2
 refine pu rfl rfl rfl rfl rfl ?_
 refine pu rfl rfl rfl rfl rfl ?_
 refine ji [] (fun (y4 : Bool) (e : Env) (w : World) => ∃ (s : St) (e0 : Env), w = s.w ∧ e = upd (upd (upd (upd e0 0 w0_0) 1 (.int .i64 a1)) 2 (.int .i64 a2)) 19 (.bool y4) ∧ Kp s0 s) (fun Gj4 Kj4 => ?_) ?_
 ·
  rcases Bool.eq_false_or_eq_true (!r2) with hb4 | hb4
  ·
   refine sbT hb4 ?_
   rw [if_pos hb4]
   refine uw rfl rfl rfl rfl ?_
   refine uw rfl rfl rfl rfl ?_
   refine uw rfl rfl rfl rfl ?_
   refine uw rfl rfl rfl rfl ?_
   refine uw rfl rfl rfl rfl ?_
   refine pu rfl rfl rfl rfl rfl ?_
   have K5 := (kp0.st p3 rfl)
   exact Kj4 _ _ _ ⟨s3, _, rfl, (ue (ue (ue (ue rfl rfl) rfl) rfl) rfl), K5⟩
  ·
   refine sbT hb4 ?_
   rw [if_neg (by rw [hb4]; decide)]
   refine mv w0_0 rfl rfl rfl rfl rfl rfl ?_
   refine pu rfl rfl rfl rfl rfl ?_
   refine pu rfl rfl rfl rfl rfl ?_
   have K6 := (kp0.st p3 rfl)
   have A7 := (A0_0.kp K6)
   refine cl rfl rfl rfl rfl rfl Tryz.func302 rfl rfl rfl (fun r8 m8 => impl_hasBytes.calls a0 a1 a2 s3.w (fun b => memb [0] (s3.g b) = true) w0_0 A7 r8 m8) ?_
   rintro r8 _ w8 m8 ⟨rfl, ky8⟩
   obtain ⟨s9, rfl, p9, n9⟩ := nwx s3 w8 41 ky8
   refine pu rfl rfl rfl rfl rfl ?_
   refine pu rfl rfl rfl rfl rfl ?_
   have K10 := (K6.st p9 rfl)
   exact Kj4 _ _ _ ⟨s9, _, rfl, (ue (ue (ue (ue rfl rfl) rfl) rfl) rfl), K10⟩
 rintro y4 _ _ ⟨s11, _, rfl, rfl, Ky4⟩
 refine dn ?_
 refine cd rfl (fun h12 => ?_) (fun h12 => ?_)
 ·
  refine sr ?_
  refine pu rfl rfl rfl rfl rfl ?_
  refine pu rfl rfl rfl rfl rfl ?_
  refine dn ?_
  exact re rfl Tryz.func267 rfl (r_t rfl (r_t rfl r_nil)) rfl ⟨_, rfl, rfl, z.ky Ky4⟩
 ·
  refine sk ?_
  refine sr ?_
  refine pu rfl rfl rfl rfl rfl ?_
  refine dn ?_
  refine sq ?_
  refine sr ?_
  refine pu rfl rfl rfl rfl rfl ?_
  refine pu rfl rfl rfl rfl rfl ?_
  refine pu rfl rfl rfl rfl rfl ?_
  refine dn ?_
  refine bl ?_
  refine lpI (fun (x13 : Int × Int) (e : Env) (w : World) => ∃ (s : St) (e0 : Env), w = s.w ∧ e = upd (upd (upd (upd e0 0 w0_0) 1 (.int .i64 a1)) 8 (.int .u64 x13.1)) 9 (.int .i64 x13.2) ∧ Kp s0 s) ⟨s11, _, rfl, (ue (ue (ue (ue rfl rfl) rfl) rfl) rfl), Ky4⟩ (fun g13 ih13 => ?_)
  rintro x13 _ _ ⟨s14, _, rfl, rfl, Kx13⟩
  unfold impl_GetNum.b0
  refine sq ?_
  refine sr ?_
  refine pu rfl rfl rfl rfl rfl ?_
  refine pu rfl rfl rfl rfl rfl ?_
  refine dn ?_
  refine cd rfl (fun h15 => ?_) (fun h15 => ?_)
  ·
   refine sk ?_
   refine sq ?_
   refine bl ?_
   refine rg ?_
   refine pu rfl rfl rfl rfl rfl ?_
   refine shlK rfl rfl rfl rfl rfl rfl rfl rfl ?_
   refine mv w0_0 rfl rfl rfl rfl rfl rfl ?_
   refine pu rfl rfl rfl rfl rfl ?_
   refine pu rfl rfl rfl rfl rfl ?_
   refine pu rfl rfl rfl rfl rfl ?_
   have A16 := (A0_0.kp Kx13)
   refine ix A16 Tryz.underlying24 z5 rfl rfl rfl rfl rfl rfl rfl rfl (fun ad17 es17 h0_17 h1_17 he17 ce17 ia17 => ?_)
   obtain rfl := he17
   refine lc0 ce17 Tryz.underlying5 rfl rfl rfl rfl rfl rfl rfl rfl ?_
   refine cv Tryz.underlying201 Tryz.underlying5 rfl rfl rfl rfl rfl rfl ?_
   refine pu rfl rfl rfl rfl rfl ?_
   refine pu rfl rfl rfl rfl rfl ?_
   refine dn ?_
   refine ib ?_
   refine rg ?_
   refine pu rfl rfl rfl rfl rfl ?_
   refine pu rfl rfl rfl rfl rfl ?_
   refine pu rfl rfl rfl rfl rfl ?_
   refine dn ?_
   exact lb ih13 ⟨s14, _, rfl, (ue (ue (ue (ue rfl rfl) rfl) rfl) rfl), Kx13⟩
  ·
   refine xt rfl ?_
   refine sgb ?_
   refine sq ?_
   refine sr ?_
   refine pu rfl rfl rfl rfl rfl ?_
   refine pu rfl rfl rfl rfl rfl ?_
   refine dn ?_
   refine cd rfl (fun h19 => ?_) (fun h19 => ?_)
   ·
    refine sr ?_
    refine pu rfl rfl rfl rfl rfl ?_
    refine pu rfl rfl rfl rfl rfl ?_
    refine dn ?_
    exact re rfl Tryz.func267 rfl (r_t rfl (r_t rfl r_nil)) rfl ⟨_, rfl, rfl, z.ky Kx13⟩
   ·
    refine sk ?_
    refine sr ?_
    refine pu rfl rfl rfl rfl rfl ?_
    refine cv Tryz.underlying3 Tryz.underlying201 rfl rfl rfl rfl rfl rfl ?_
    refine pu rfl rfl rfl rfl rfl ?_
    refine pu rfl rfl rfl rfl rfl ?_
    refine dn ?_
    exact re rfl Tryz.func267 rfl (r_t rfl (r_t rfl r_nil)) rfl ⟨_, rfl, rfl, z.ky Kx13⟩
noncomputable def impl_fromHigh.b0 (a0 : (List Int)) (x2 : Int × Int) : Option ((Int × Int) ⊕ Int) :=
 (if (decide (x2.2 < (a0.length : Int))) = true then (if 0 ≤ x2.2 ∧ x2.2 < (a0.length : Int) then (some (Sum.inl ((ior .u64 (ishl .u64 x2.1 (8 : Int)) (IntKind.wrap .u64 (at_ a0 x2.2))), (IntKind.wrap .i64 (x2.2 + (1 : Int)))))) else none) else ((some x2.1).bind fun o => some (Sum.inr o)))
noncomputable def impl_fromHigh.f (a0 : (List Int)) : Option (Int) :=
 (iter (impl_fromHigh.b0 a0) ((0 : Int), (0 : Int)))
def impl_fromHigh.Q (w : World) (F : Nat → Prop) (r : Int) (v : Value) (w' : World) : Prop :=
 v = (.int .u64 r) ∧ Ky [] w w'
set_option maxHeartbeats 4000000 in
set_option maxRecDepth 100000 in
theorem impl_fromHigh.calls (a0 : (List Int)) (w : World) (F : Nat → Prop) (w0_0 : Value) (h0_0 : (Kd.sl 5 (Kd.int .u8)).rd w [w0_0] a0 F) (r : Int) (m : impl_fromHigh.f a0 = some r) :
  Calls Tryz.prog 334 #[w0_0] w fun en w' => ∃ v, en = .returned v ∧ impl_fromHigh.Q w F r v w' := by
 obtain ⟨s0, rfl, kp0, z⟩ := start0 w F
 have A0_0 := z.rd h0_0
 refine calls_of_TM (args := [w0_0]) (R := fun r en w' => ∃ v, en = .returned v ∧ impl_fromHigh.Q s0.w F r v w') Tryz.func334 Tryz.ntmps334 rfl rfl m ?_
 unfold impl_fromHigh.f
 refine sr ?_
 refine pu rfl rfl rfl rfl rfl ?_
 refine dn ?_
 refine sr ?_
 refine pu rfl rfl rfl rfl rfl ?_
 refine dn ?_
 refine sq ?_
 refine sr ?_
 refine mv w0_0 rfl rfl rfl rfl rfl rfl ?_
 refine ln A0_0 Tryz.underlying24 rfl rfl rfl rfl rfl rfl ?_
 refine pu rfl rfl rfl rfl rfl ?_
 refine dn ?_
 refine bl ?_
 refine lpI (fun (x2 : Int × Int) (e : Env) (w : World) => ∃ (s : St) (e0 : Env), w = s.w ∧ e = upd (upd (upd (upd e0 3 (.int .u64 x2.1)) 6 w0_0) 7 (.int .i64 (a0.length : Int))) 8 (.int .i64 x2.2) ∧ Kp s0 s) ⟨s0, _, rfl, (ue (ue (ue (ue rfl rfl) rfl) rfl) rfl), kp0⟩ (fun g2 ih2 => ?_)
 rintro x2 _ _ ⟨s3, _, rfl, rfl, Kx2⟩
 unfold impl_fromHigh.b0
 refine sr ?_
 refine pu rfl rfl rfl rfl rfl ?_
 refine dn ?_
 refine sq ?_
 refine cd rfl (fun h4 => ?_) (fun h4 => ?_)
 ·
  refine sk ?_
  refine sq ?_
  refine bl ?_
  refine sr ?_
  have A5 := (A0_0.kp Kx2)
  refine ix A5 Tryz.underlying24 z5 rfl rfl rfl rfl rfl rfl rfl rfl (fun ad6 es6 h0_6 h1_6 he6 ce6 ia6 => ?_)
  obtain rfl := he6
  refine lc0 ce6 Tryz.underlying5 rfl rfl rfl rfl rfl rfl rfl rfl ?_
  refine pu rfl rfl rfl rfl rfl ?_
  refine dn ?_
  refine rg ?_
  refine pu rfl rfl rfl rfl rfl ?_
  refine shlK rfl rfl rfl rfl rfl rfl rfl rfl ?_
  refine pu rfl rfl rfl rfl rfl ?_
  refine cv Tryz.underlying201 Tryz.underlying5 rfl rfl rfl rfl rfl rfl ?_
  refine pu rfl rfl rfl rfl rfl ?_
  refine pu rfl rfl rfl rfl rfl ?_
  refine dn ?_
  refine ib ?_
  refine rg ?_
  refine pu rfl rfl rfl rfl rfl ?_
  refine pu rfl rfl rfl rfl rfl ?_
  refine dn ?_
  exact lb ih2 ⟨s3, _, rfl, (ue (ue (ue (ue rfl rfl) rfl) rfl) rfl), Kx2⟩
 ·
  refine xt rfl ?_
  refine sgb ?_
  refine sr ?_
  refine pu rfl rfl rfl rfl rfl ?_
  refine pu rfl rfl rfl rfl rfl ?_
  refine dn ?_
  exact re rfl Tryz.func334 rfl (r_t rfl r_nil) rfl ⟨_, rfl, rfl, z.ky Kx2⟩
noncomputable def impl_readItem.f (a0 : (List Int)) (a1 : (Int → Option Nat)) : Option (Item) :=
 (if ((a0.length : Int) == (0 : Int)) = true then (some (Item.mk (0 : Int) (0 : Int) (0 : Nat) ([] : (List Int)))) else (if 0 ≤ (0 : Int) ∧ (0 : Int) < (a0.length : Int) then (if 0 ≤ (1 : Int) ∧ (1 : Int) ≤ (a0.length : Int) then ((if ((IntKind.wrap .i64 (at_ a0 (0 : Int))) == (3 : Int)) = true then ((slices_Clone_byte_byte.f (a0.drop ((1 : Int)).toNat)).bind fun r24 => (some (Sum.inl ((0 : Int), (0 : Nat), r24)))) else (if (((a0.drop ((1 : Int)).toNat).length : Int) != (8 : Int)) = true then (some (Sum.inr (Item.mk (0 : Int) (0 : Int) (0 : Nat) ([] : (List Int))))) else ((if ((IntKind.wrap .i64 (at_ a0 (0 : Int))) == (1 : Int)) = true then ((impl_fromHigh.f (a0.drop ((1 : Int)).toNat)).bind fun r42 => (some ((IntKind.wrap .i64 (IntKind.wrap .u64 (r42 - (9223372036854775808 : Int)))), (0 : Nat)))) else ((if ((IntKind.wrap .i64 (at_ a0 (0 : Int))) == (2 : Int)) = true then ((impl_fromHigh.f (a0.drop ((1 : Int)).toNat)).bind fun r51 => ((a1 r51).bind fun r54 => (some r54))) else (some (0 : Nat))).bind fun y49 => (some ((0 : Int), y49)))).bind fun y40 => (some (Sum.inl (y40.1, y40.2, ([] : (List Int)))))))).bind (sel fun y22 => (some (Item.mk (IntKind.wrap .i64 (at_ a0 (0 : Int))) y22.1 y22.2.1 y22.2.2)))) else none) else none))
def impl_readItem.Q (w : World) (F : Nat → Prop) (r : Item) (v : Value) (w' : World) : Prop :=
 ∃ (v0 : Value) (v1 : Value), v = (.agg #[(.int .i64 r.Kind), (.int .i64 r.N), v0, v1]) ∧ FO kd33 w w' [(.int .i64 r.Kind), (.int .i64 r.N), v0, v1] r ∧ Ky [] w w'
set_option maxHeartbeats 4000000 in
set_option maxRecDepth 100000 in
theorem impl_readItem.calls (a0 : (List Int)) (a1 : (Int → Option Nat)) (w : World) (F : Nat → Prop) (w0_0 : Value) (f1 : Value) (h0_0 : (Kd.sl 5 (Kd.int .u8)).rd w [w0_0] a0 F) (hf1 : ∀ (x0 : Int) (w' : World), Ky [] w w' → ∀ r, a1 x0 = some r → CallV Tryz.prog f1 [(.int .u64 x0)] w' fun en w'' => ∃ v, en = .returned v ∧ FL v r ∧ Ky [] w' w'') (ho1 : f1.cells = #[f1]) (r : Item) (m : impl_readItem.f a0 a1 = some r) :
  Calls Tryz.prog 313 #[w0_0, f1] w fun en w' => ∃ v, en = .returned v ∧ impl_readItem.Q w F r v w' := by
 obtain ⟨s0, rfl, kp0, z⟩ := start0 w F
 have A0_0 := z.rd h0_0
 refine calls_of_TM (args := [w0_0, f1]) (R := fun r en w' => ∃ v, en = .returned v ∧ impl_readItem.Q s0.w F r v w') Tryz.func313 Tryz.ntmps313 rfl rfl m ?_
 unfold impl_readItem.f
 refine sr ?_
 refine al (cs := [(.int .i64 (0 : Int)), (.int .i64 (0 : Int)), (.float .f64 0), (.slice none 0 0)]) 40 rfl rfl rfl rfl rfl o33 rfl (fun b2 s2 p2 B2 => ?_)
 refine dn ?_
 refine sq ?_
 refine sr ?_
 refine mv w0_0 rfl rfl rfl rfl rfl rfl ?_
 have K4 := (kp0.st p2 rfl)
 have A5 := (A0_0.kp K4)
 refine ln A5 Tryz.underlying24 rfl rfl rfl rfl rfl rfl ?_
 refine pu rfl rfl rfl rfl rfl ?_
 refine dn ?_
 refine cd rfl (fun h6 => ?_) (fun h6 => ?_)
 ·
  refine sr ?_
  refine bd (cells := [(.int .i64 (0 : Int)), (.int .i64 (0 : Int)), (.float .f64 0), (.slice none 0 0)]) pl33 o33 rfl rfl rfl rfl rfl rfl ?_
  refine sva (vs := [(.int .i64 (0 : Int)), (.int .i64 (0 : Int)), (.float .f64 0), (.slice none 0 0)]) B2 z33 rfl rfl rfl rfl rfl rfl (on_cons rfl (on_cons rfl (on_cons (FL.one (fl_c rfl)) (on_cons rfl on_nil)))) rfl (fun s7 p7 B7 => ?_)
  refine dn ?_
  have A9 : OwF kd33 s7 [(.int .i64 (0 : Int)), (.int .i64 (0 : Int)), (.float .f64 0), (.slice none 0 0)] (Item.mk (0 : Int) (0 : Int) (0 : Nat) ([] : (List Int))) 41 := ow_z _ _ (fz_iso (fun x : Item => (x.Kind, x.N, x.F, x.T)) (Item.mk (0 : Int) (0 : Int) (0 : Nat) ([] : (List Int))) (fz_pair (fz_int .i64 (0 : Int)) (fz_pair (fz_int .i64 (0 : Int)) (fz_pair (fz_flt (fl_c rfl)) (fz_nil 5 (Kd.int .u8))))))
  have K11 := (K4.st p7 rfl)
  exact re rfl Tryz.func313 rfl (r_b B7 Tryz.underlying33 rfl z33 rfl r_nil) rfl ⟨_, rfl, (.float .f64 0), (.slice none 0 0), rfl, A9.fo K11 rfl z.l, z.ky K11⟩
 ·
  refine sk ?_
  refine sr ?_
  refine mv w0_0 rfl rfl rfl rfl rfl rfl ?_
  refine ix A5 Tryz.underlying24 z5 rfl rfl rfl rfl rfl rfl rfl rfl (fun ad12 es12 h0_12 h1_12 he12 ce12 ia12 => ?_)
  obtain rfl := he12
  refine lc0 ce12 Tryz.underlying5 rfl rfl rfl rfl rfl rfl rfl rfl ?_
  refine cv Tryz.underlying3 Tryz.underlying5 rfl rfl rfl rfl rfl rfl ?_
  refine bd (cells := [(.int .i64 (IntKind.wrap .i64 (at_ a0 (0 : Int)))), (.int .i64 (0 : Int)), (.float .f64 0), (.slice none 0 0)]) pl33 o33 rfl rfl rfl rfl rfl rfl ?_
  refine al (cs := [(.int .i64 (0 : Int)), (.int .i64 (0 : Int)), (.float .f64 0), (.slice none 0 0)]) 42 rfl rfl rfl rfl rfl o33 rfl (fun b14 s14 p14 B14 => ?_)
  refine sva (vs := [(.int .i64 (IntKind.wrap .i64 (at_ a0 (0 : Int)))), (.int .i64 (0 : Int)), (.float .f64 0), (.slice none 0 0)]) B14 z33 rfl rfl rfl rfl rfl rfl (on_cons rfl (on_cons rfl (on_cons (FL.one (fl_c rfl)) (on_cons rfl on_nil)))) rfl (fun s16 p16 B16 => ?_)
  refine dn ?_
  refine sr ?_
  refine mv w0_0 rfl rfl rfl rfl rfl rfl ?_
  have K18 := ((K4.st p14 rfl).st p16 rfl)
  have A19 := (A0_0.kp K18)
  refine sla A19 Tryz.underlying24 z5 rfl rfl rfl rfl rfl rfl rfl (fun v20 A20 => ?_)
  refine asg v20 rfl rfl rfl rfl rfl rfl ?_
  refine dn ?_
  refine sq ?_
  refine bl ?_
  refine sr ?_
  refine fa fa33_0 rfl rfl rfl rfl rfl rfl ?_
  refine ld B16 Tryz.underlying3 rfl rfl rfl rfl rfl rfl rfl rfl ?_
  refine pu rfl rfl rfl rfl rfl ?_
  refine pu rfl rfl rfl rfl rfl ?_
  refine dn ?_
  refine jr (fun (y22 : Int × Nat × (List Int)) (e : Env) (w : World) => ∃ (s : St) (e0 : Env) (vy22_0 uy22_0 : Value), w = s.w ∧ e = upd (upd e0 4 (.pointer (some ⟨b2, 0, none⟩))) 5 (.pointer (some ⟨b14, 0, none⟩)) ∧ Kp s0 s ∧ OwF (Kd.sl 5 (Kd.int .u8)) s [vy22_0] y22.2.2 43 ∧ FL uy22_0 y22.2.1 ∧ BlF s b14 33 [(.int .i64 (IntKind.wrap .i64 (at_ a0 (0 : Int)))), (.int .i64 y22.1), uy22_0, vy22_0] 42 ∧ BlF s b2 33 [(.int .i64 (0 : Int)), (.int .i64 (0 : Int)), (.float .f64 0), (.slice none 0 0)] 40) (fun Gj22 Kj22 hG22 => ?_) ?_
  ·
   refine cd rfl (fun h23 => ?_) (fun h23 => ?_)
   ·
    refine rg ?_
    refine mv v20 rfl rfl rfl rfl rfl rfl ?_
    refine cl rfl rfl rfl rfl rfl Tryz.func174 rfl rfl rfl (fun r24 m24 => slices_Clone_byte_byte.calls (a0.drop ((1 : Int)).toNat) s16.w (fun b => memb [0] (s16.g b) = true) v20 A20 r24 m24) ?_
    rintro r24 v24_0 w24 m24 ⟨f24_0, ky24⟩
    obtain ⟨s25, rfl, p25, n25⟩ := nwx s16 w24 43 ky24
    have A24_0 := f24_0.c n25
    refine fa fa33_3 rfl rfl rfl rfl rfl rfl ?_
    have A27 := (BlF.st B16 p25 rfl)
    refine sv A27 z24 rfl rfl rfl rfl rfl rfl A24_0.rd.one rfl (fun s28 p28 B28 => ?_)
    refine dn ?_
    have A30 := (A24_0.st p28 rfl)
    have A31 := (BlF.st (BlF.st (BlF.st (BlF.st B2 p14 rfl) p16 rfl) p25 rfl) p28 rfl)
    have K32 := ((K18.st p25 rfl).st p28 rfl)
    exact Kj22 _ _ _ ⟨s28, _, v24_0, (.float .f64 0), rfl, (ue (ue rfl rfl) rfl), K32, A30, (fl_c rfl), B28, A31⟩
   ·
    refine sr ?_
    refine mv v20 rfl rfl rfl rfl rfl rfl ?_
    refine ln A20 Tryz.underlying24 rfl rfl rfl rfl rfl rfl ?_
    refine pu rfl rfl rfl rfl rfl ?_
    refine pu rfl rfl rfl rfl rfl ?_
    refine dn ?_
    refine cd rfl (fun h33 => ?_) (fun h33 => ?_)
    ·
     refine sr ?_
     refine bd (cells := [(.int .i64 (0 : Int)), (.int .i64 (0 : Int)), (.float .f64 0), (.slice none 0 0)]) pl33 o33 rfl rfl rfl rfl rfl rfl ?_
     have A34 := (BlF.st (BlF.st B2 p14 rfl) p16 rfl)
     refine sva (vs := [(.int .i64 (0 : Int)), (.int .i64 (0 : Int)), (.float .f64 0), (.slice none 0 0)]) A34 z33 rfl rfl rfl rfl rfl rfl (on_cons rfl (on_cons rfl (on_cons (FL.one (fl_c rfl)) (on_cons rfl on_nil)))) rfl (fun s35 p35 B35 => ?_)
     refine dn ?_
     refine jri hG22 ?_
     have A37 : OwF kd33 s35 [(.int .i64 (0 : Int)), (.int .i64 (0 : Int)), (.float .f64 0), (.slice none 0 0)] (Item.mk (0 : Int) (0 : Int) (0 : Nat) ([] : (List Int))) 44 := ow_z _ _ (fz_iso (fun x : Item => (x.Kind, x.N, x.F, x.T)) (Item.mk (0 : Int) (0 : Int) (0 : Nat) ([] : (List Int))) (fz_pair (fz_int .i64 (0 : Int)) (fz_pair (fz_int .i64 (0 : Int)) (fz_pair (fz_flt (fl_c rfl)) (fz_nil 5 (Kd.int .u8))))))
     have K39 := (K18.st p35 rfl)
     exact re rfl Tryz.func313 rfl (r_b B35 Tryz.underlying33 rfl z33 rfl r_nil) rfl ⟨_, rfl, (.float .f64 0), (.slice none 0 0), rfl, A37.fo K39 rfl z.l, z.ky K39⟩
    ·
     refine sr ?_
     refine fa fa33_0 rfl rfl rfl rfl rfl rfl ?_
     refine ld B16 Tryz.underlying3 rfl rfl rfl rfl rfl rfl rfl rfl ?_
     refine pu rfl rfl rfl rfl rfl ?_
     refine pu rfl rfl rfl rfl rfl ?_
     refine dn ?_
     refine jc (fun (y40 : Int × Nat) (e : Env) (w : World) => ∃ (s : St) (e0 : Env) (uy40_0 : Value), w = s.w ∧ e = upd (upd e0 4 (.pointer (some ⟨b2, 0, none⟩))) 5 (.pointer (some ⟨b14, 0, none⟩)) ∧ Kp s0 s ∧ FL uy40_0 y40.2 ∧ BlF s b14 33 [(.int .i64 (IntKind.wrap .i64 (at_ a0 (0 : Int)))), (.int .i64 y40.1), uy40_0, (.slice none 0 0)] 42 ∧ BlF s b2 33 [(.int .i64 (0 : Int)), (.int .i64 (0 : Int)), (.float .f64 0), (.slice none 0 0)] 40) (fun Gj40 Kj40 => ?_) ?_
     ·
      refine cd rfl (fun h41 => ?_) (fun h41 => ?_)
      ·
       refine rg ?_
       refine mv v20 rfl rfl rfl rfl rfl rfl ?_
       refine cl rfl rfl rfl rfl rfl Tryz.func334 rfl rfl rfl (fun r42 m42 => impl_fromHigh.calls (a0.drop ((1 : Int)).toNat) s16.w (fun b => memb [0] (s16.g b) = true) v20 A20 r42 m42) ?_
       rintro r42 _ w42 m42 ⟨rfl, ky42⟩
       obtain ⟨s43, rfl, p43, n43⟩ := nwx s16 w42 45 ky42
       refine pu rfl rfl rfl rfl rfl ?_
       refine cv Tryz.underlying3 Tryz.underlying201 rfl rfl rfl rfl rfl rfl ?_
       refine fa fa33_1 rfl rfl rfl rfl rfl rfl ?_
       have A44 := (BlF.st B16 p43 rfl)
       refine sv A44 z3 rfl rfl rfl rfl rfl rfl rfl rfl (fun s45 p45 B45 => ?_)
       refine dn ?_
       have A47 := (BlF.st (BlF.st (BlF.st (BlF.st B2 p14 rfl) p16 rfl) p43 rfl) p45 rfl)
       have K48 := ((K18.st p43 rfl).st p45 rfl)
       exact Kj40 _ _ _ ⟨s45, _, (.float .f64 0), rfl, (ue (ue rfl rfl) rfl), K48, (fl_c rfl), B45, A47⟩
      ·
       refine sr ?_
       refine fa fa33_0 rfl rfl rfl rfl rfl rfl ?_
       refine ld B16 Tryz.underlying3 rfl rfl rfl rfl rfl rfl rfl rfl ?_
       refine pu rfl rfl rfl rfl rfl ?_
       refine pu rfl rfl rfl rfl rfl ?_
       refine dn ?_
       refine jc (fun (y49 : Nat) (e : Env) (w : World) => ∃ (s : St) (e0 : Env) (uy49_0 : Value), w = s.w ∧ e = upd (upd e0 4 (.pointer (some ⟨b2, 0, none⟩))) 5 (.pointer (some ⟨b14, 0, none⟩)) ∧ Kp s0 s ∧ FL uy49_0 y49 ∧ BlF s b14 33 [(.int .i64 (IntKind.wrap .i64 (at_ a0 (0 : Int)))), (.int .i64 (0 : Int)), uy49_0, (.slice none 0 0)] 42 ∧ BlF s b2 33 [(.int .i64 (0 : Int)), (.int .i64 (0 : Int)), (.float .f64 0), (.slice none 0 0)] 40) (fun Gj49 Kj49 => ?_) ?_
       ·
        refine cd rfl (fun h50 => ?_) (fun h50 => ?_)
        ·
         refine rg ?_
         refine mv f1 rfl rfl rfl rfl rfl rfl ?_
         refine mv v20 rfl rfl rfl rfl rfl rfl ?_
         refine cl rfl rfl rfl rfl rfl Tryz.func334 rfl rfl rfl (fun r51 m51 => impl_fromHigh.calls (a0.drop ((1 : Int)).toNat) s16.w (fun b => memb [0] (s16.g b) = true) v20 A20 r51 m51) ?_
         rintro r51 _ w51 m51 ⟨rfl, ky51⟩
         obtain ⟨s52, rfl, p52, n52⟩ := nwx s16 w51 46 ky51
         have K53 := (K18.st p52 rfl)
         refine clv rfl rfl rfl rfl rfl rfl rfl (fun r54 m54 => hf1 r51 s52.w (z.ky K53)  r54 m54) ?_
         rintro r54 v54_0 w54 m54 ⟨f54_0, ky54⟩
         obtain ⟨s55, rfl, p55, n55⟩ := nwx s52 w54 47 ky54
         refine fa fa33_2 rfl rfl rfl rfl rfl rfl ?_
         have A56 := (BlF.st (BlF.st B16 p52 rfl) p55 rfl)
         refine sv A56 z23 rfl rfl rfl rfl rfl rfl (FL.one f54_0) rfl (fun s57 p57 B57 => ?_)
         refine dn ?_
         have A59 := (BlF.st (BlF.st (BlF.st (BlF.st (BlF.st B2 p14 rfl) p16 rfl) p52 rfl) p55 rfl) p57 rfl)
         have K60 := ((K53.st p55 rfl).st p57 rfl)
         exact Kj49 _ _ _ ⟨s57, _, v54_0, rfl, (ue (ue rfl rfl) rfl), K60, f54_0, B57, A59⟩
        ·
         refine sk ?_
         have A61 := (BlF.st (BlF.st B2 p14 rfl) p16 rfl)
         exact Kj49 _ _ _ ⟨s16, _, (.float .f64 0), rfl, (ue (ue rfl rfl) rfl), K18, (fl_c rfl), B16, A61⟩
       rintro y49 _ _ ⟨s62, _, uy49_0, rfl, rfl, Ky49, Fy49_0, By49_b14, By49_b2⟩
       exact Kj40 _ _ _ ⟨s62, _, uy49_0, rfl, (ue (ue rfl rfl) rfl), Ky49, Fy49_0, By49_b14, By49_b2⟩
     rintro y40 _ _ ⟨s65, _, uy40_0, rfl, rfl, Ky40, Fy40_0, By40_b14, By40_b2⟩
     exact Kj22 _ _ _ ⟨s65, _, (.slice none 0 0), uy40_0, rfl, (ue (ue rfl rfl) rfl), Ky40, (ow_nil 5 (Kd.int .u8) _ 43), Fy40_0, By40_b14, By40_b2⟩
  rintro y22 _ _ ⟨s68, _, vy22_0, uy22_0, rfl, rfl, Ky22, Ay22_0, Fy22_0, By22_b14, By22_b2⟩
  refine ib ?_
  refine sr ?_
  refine lda (es := [(.int .i64 (IntKind.wrap .i64 (at_ a0 (0 : Int)))), (.int .i64 y22.1), uy22_0, vy22_0]) By22_b14 Tryz.underlying33 z33 rfl rfl rfl rfl rfl rfl rfl rfl ?_
  refine sva (vs := [(.int .i64 (IntKind.wrap .i64 (at_ a0 (0 : Int)))), (.int .i64 y22.1), uy22_0, vy22_0]) By22_b2 z33 rfl rfl rfl rfl rfl rfl (on_cons rfl (on_cons rfl (on_cons (FL.one Fy22_0) (on_cons Ay22_0.rd.one on_nil)))) rfl (fun s72 p72 B72 => ?_)
  refine dn ?_
  have A75 := (Ay22_0.st p72 rfl)
  have A74 : OwF kd33 s72 [(.int .i64 (IntKind.wrap .i64 (at_ a0 (0 : Int)))), (.int .i64 y22.1), uy22_0, vy22_0] (Item.mk (IntKind.wrap .i64 (at_ a0 (0 : Int))) y22.1 y22.2.1 y22.2.2) 43 := (ow_isoz (fun x : Item => (x.Kind, x.N, x.F, x.T)) (Item.mk (IntKind.wrap .i64 (at_ a0 (0 : Int))) y22.1 y22.2.1 y22.2.2) (ow_l (fz_int .i64 (IntKind.wrap .i64 (at_ a0 (0 : Int)))) (ow_l (fz_int .i64 y22.1) (ow_l (fz_flt Fy22_0) A75))))
  have K77 := (Ky22.st p72 rfl)
  exact re rfl Tryz.func313 rfl (r_b B72 Tryz.underlying33 rfl z33 rfl r_nil) rfl ⟨_, rfl, uy22_0, vy22_0, rfl, A74.fo K77 rfl z.l, z.ky K77⟩
noncomputable def math_NaN.f  : Option (Nat) :=
 (some (cn ((9221120237041090561 : Int)).toNat))
def math_NaN.Q (w : World) (F : Nat → Prop) (r : Nat) (v : Value) (w' : World) : Prop :=
 FL v r ∧ Ky [] w w'
set_option maxHeartbeats 4000000 in
set_option maxRecDepth 100000 in
theorem math_NaN.calls  (w : World) (F : Nat → Prop)   (r : Nat) (m : math_NaN.f  = some r) :
  Calls Tryz.prog 336 #[] w fun en w' => ∃ v, en = .returned v ∧ math_NaN.Q w F r v w' := by
 obtain ⟨s0, rfl, kp0, z⟩ := start0 w F
 refine calls_of_TM (args := []) (R := fun r en w' => ∃ v, en = .returned v ∧ math_NaN.Q s0.w F r v w') Tryz.func336 Tryz.ntmps336 rfl rfl m ?_
 unfold math_NaN.f
 refine sr ?_
 refine asg (.float .f64 0) rfl rfl rfl rfl rfl rfl ?_
 refine dn ?_
 refine sr ?_
 refine ffb rfl rfl rfl rfl rfl Tryz.func335 rfl rfl xn335 xf335 rfl (fun v1 A1 => ?_)
 refine asg v1 rfl rfl rfl rfl rfl rfl ?_
 refine dn ?_
 exact re rfl Tryz.func336 rfl (r_t rfl r_nil) rfl ⟨_, rfl, A1, z.ky kp0⟩
noncomputable def impl_FloatUnrank.f (a0 : Int) : Option (Nat × Bool) :=
 ((if (decide (a0 < (9223372036854775808 : Int))) = true then (some (ixor .u64 (IntKind.max .u64) a0)) else (some (iandn .u64 a0 (9223372036854775808 : Int)))).bind fun y1 => (if (a0 == (18446744073709551615 : Int)) = true then ((math_NaN.f).bind fun r6 => (some (r6, true))) else ((if (fcmp .f64 (cn (y1).toNat) (cn (y1).toNat) != some .eq) = true then (some true) else ((impl_FloatRank.f (cn (y1).toNat)).bind fun r10 => (some (r10 != a0)))).bind fun y9 => (if y9 = true then (some ((0 : Nat), false)) else (some ((cn (y1).toNat), true))))))
def impl_FloatUnrank.Q (w : World) (F : Nat → Prop) (r : Nat × Bool) (v : Value) (w' : World) : Prop :=
 ∃ (v0 : Value), v = .tuple #[v0, (.bool r.2)] ∧ FL v0 r.1 ∧ Ky [] w w'
set_option maxHeartbeats 4000000 in
set_option maxRecDepth 100000 in
theorem impl_FloatUnrank.calls (a0 : Int) (w : World) (F : Nat → Prop)   (r : Nat × Bool) (m : impl_FloatUnrank.f a0 = some r) :
  Calls Tryz.prog 315 #[(.int .u64 a0)] w fun en w' => ∃ v, en = .returned v ∧ impl_FloatUnrank.Q w F r v w' := by
 obtain ⟨s0, rfl, kp0, z⟩ := start0 w F
 refine calls_of_TM (args := [(.int .u64 a0)]) (R := fun r en w' => ∃ v, en = .returned v ∧ impl_FloatUnrank.Q s0.w F r v w') Tryz.func315 Tryz.ntmps315 rfl rfl m ?_
 unfold impl_FloatUnrank.f
 refine sr ?_
 refine asg (.float .f64 0) rfl rfl rfl rfl rfl rfl ?_
 refine pu rfl rfl rfl rfl rfl ?_
 refine dn ?_
 refine sr ?_
 refine pu rfl rfl rfl rfl rfl ?_
 refine pu rfl rfl rfl rfl rfl ?_
 refine pu rfl rfl rfl rfl rfl ?_
 refine dn ?_
 refine sq ?_
 refine sr ?_
 refine pu rfl rfl rfl rfl rfl ?_
 refine pu rfl rfl rfl rfl rfl ?_
 refine dn ?_
 refine jc (fun (y1 : Int) (e : Env) (w : World) => ∃ (s : St) (e0 : Env), w = s.w ∧ e = upd (upd e0 0 (.int .u64 a0)) 4 (.int .u64 y1) ∧ Kp s0 s) (fun Gj1 Kj1 => ?_) ?_
 ·
  refine cd rfl (fun h2 => ?_) (fun h2 => ?_)
  ·
   refine rg ?_
   refine pu rfl rfl rfl rfl rfl ?_
   refine pu rfl rfl rfl rfl rfl ?_
   refine pu rfl rfl rfl rfl rfl ?_
   refine dn ?_
   exact Kj1 _ _ _ ⟨s0, _, rfl, (ue (ue rfl rfl) rfl), kp0⟩
  ·
   refine sk ?_
   exact Kj1 _ _ _ ⟨s0, _, rfl, (ue (ue rfl rfl) rfl), kp0⟩
 rintro y1 _ _ ⟨s3, _, rfl, rfl, Ky1⟩
 refine sr ?_
 refine pu rfl rfl rfl rfl rfl ?_
 refine ffb rfl rfl rfl rfl rfl Tryz.func335 rfl rfl xn335 xf335 rfl (fun v4 A4 => ?_)
 refine asg v4 rfl rfl rfl rfl rfl rfl ?_
 refine dn ?_
 refine sq ?_
 refine bl ?_
 refine sr ?_
 refine pu rfl rfl rfl rfl rfl ?_
 refine pu rfl rfl rfl rfl rfl ?_
 refine pu rfl rfl rfl rfl rfl ?_
 refine dn ?_
 refine cd rfl (fun h5 => ?_) (fun h5 => ?_)
 ·
  refine sr ?_
  refine cl rfl rfl rfl rfl rfl Tryz.func336 rfl rfl rfl (fun r6 m6 => math_NaN.calls  s3.w (fun b => memb [] (s3.g b) = true)  r6 m6) ?_
  rintro r6 v6_0 w6 m6 ⟨f6_0, ky6⟩
  obtain ⟨s7, rfl, p7, n7⟩ := nwx s3 w6 40 ky6
  refine asg v6_0 rfl rfl rfl rfl rfl rfl ?_
  refine pu rfl rfl rfl rfl rfl ?_
  refine dn ?_
  have K8 := (Ky1.st p7 rfl)
  exact re rfl Tryz.func315 rfl (r_t rfl (r_t rfl r_nil)) rfl ⟨_, rfl, v6_0, rfl, f6_0, z.ky K8⟩
 ·
  refine sr ?_
  refine mv v4 rfl rfl rfl rfl rfl rfl ?_
  refine mv v4 rfl rfl rfl rfl rfl rfl ?_
  refine fq_ A4 A4 rfl rfl rfl rfl rfl rfl rfl rfl ?_
  refine pu rfl rfl rfl rfl rfl ?_
  refine ji [9] (fun (y9 : Bool) (e : Env) (w : World) => ∃ (s : St) (e0 : Env), w = s.w ∧ e = upd (upd e0 5 v4) 27 (.bool y9) ∧ Kp s0 s) (fun Gj9 Kj9 => ?_) ?_
  ·
   rcases Bool.eq_false_or_eq_true (fcmp .f64 (cn (y1).toNat) (cn (y1).toNat) != some .eq) with hb9 | hb9
   ·
    refine sbT hb9 ?_
    rw [if_pos hb9]
    refine uw rfl rfl rfl rfl ?_
    refine uw rfl rfl rfl rfl ?_
    refine uw rfl rfl rfl rfl ?_
    refine uw rfl rfl rfl rfl ?_
    refine pu rfl rfl rfl rfl rfl ?_
    exact Kj9 _ _ _ ⟨s3, _, rfl, (ue (ue rfl rfl) rfl), Ky1⟩
   ·
    refine sbT hb9 ?_
    rw [if_neg (by rw [hb9]; decide)]
    refine mv v4 rfl rfl rfl rfl rfl rfl ?_
    refine cl rfl rfl rfl rfl rfl Tryz.func252 rfl rfl rfl (fun r10 m10 => impl_FloatRank.calls (cn (y1).toNat) s3.w (fun b => memb [] (s3.g b) = true) v4 (fl_rdf (s := s3) A4) r10 m10) ?_
    rintro r10 _ w10 m10 ⟨rfl, ky10⟩
    obtain ⟨s11, rfl, p11, n11⟩ := nwx s3 w10 41 ky10
    refine pu rfl rfl rfl rfl rfl ?_
    refine pu rfl rfl rfl rfl rfl ?_
    refine pu rfl rfl rfl rfl rfl ?_
    have K12 := (Ky1.st p11 rfl)
    exact Kj9 _ _ _ ⟨s11, _, rfl, (ue (ue rfl rfl) rfl), K12⟩
  rintro y9 _ _ ⟨s13, _, rfl, rfl, Ky9⟩
  refine pu rfl rfl rfl rfl rfl ?_
  refine dn ?_
  refine cd rfl (fun h14 => ?_) (fun h14 => ?_)
  ·
   refine sr ?_
   refine asg (.float .f64 0) rfl rfl rfl rfl rfl rfl ?_
   refine pu rfl rfl rfl rfl rfl ?_
   refine dn ?_
   exact re rfl Tryz.func315 rfl (r_t rfl (r_t rfl r_nil)) rfl ⟨_, rfl, (.float .f64 0), rfl, (fl_c rfl), z.ky Ky9⟩
  ·
   refine sk ?_
   refine ib ?_
   refine sr ?_
   refine mv v4 rfl rfl rfl rfl rfl rfl ?_
   refine asg v4 rfl rfl rfl rfl rfl rfl ?_
   refine pu rfl rfl rfl rfl rfl ?_
   refine dn ?_
   exact re rfl Tryz.func315 rfl (r_t rfl (r_t rfl r_nil)) rfl ⟨_, rfl, v4, rfl, A4, z.ky Ky9⟩
noncomputable def impl_KeyRead_1.f (a0 : Int) : Option (Nat) :=
 ((impl_FloatUnrank.f a0).bind fun r1 => (some r1.1))
def impl_KeyRead_1.Q (w : World) (F : Nat → Prop) (r : Nat) (v : Value) (w' : World) : Prop :=
 FL v r ∧ Ky [] w w'
set_option maxHeartbeats 4000000 in
set_option maxRecDepth 100000 in
theorem impl_KeyRead_1.calls (a0 : Int) (w : World) (F : Nat → Prop)   (r : Nat) (m : impl_KeyRead_1.f a0 = some r) :
  Calls Tryz.prog 314 #[(.int .u64 a0)] w fun en w' => ∃ v, en = .returned v ∧ impl_KeyRead_1.Q w F r v w' := by
 obtain ⟨s0, rfl, kp0, z⟩ := start0 w F
 refine calls_of_TM (args := [(.int .u64 a0)]) (R := fun r en w' => ∃ v, en = .returned v ∧ impl_KeyRead_1.Q s0.w F r v w') Tryz.func314 Tryz.ntmps314 rfl rfl m ?_
 unfold impl_KeyRead_1.f
 refine sr ?_
 refine asg (.float .f64 0) rfl rfl rfl rfl rfl rfl ?_
 refine dn ?_
 refine sr ?_
 refine pu rfl rfl rfl rfl rfl ?_
 refine cl rfl rfl rfl rfl rfl Tryz.func315 rfl rfl rfl (fun r1 m1 => impl_FloatUnrank.calls a0 s0.w (fun b => memb [] (s0.g b) = true)  r1 m1) ?_
 rintro r1 _ w1 m1 ⟨v1_0, rfl, f1_0, ky1⟩
 obtain ⟨s2, rfl, p2, n2⟩ := nwx s0 w1 40 ky1
 refine pu rfl rfl rfl rfl rfl ?_
 refine pu (v := v1_0) rfl rfl rfl rfl rfl ?_
 refine pu (v := (.bool r1.2)) rfl rfl rfl rfl rfl ?_
 refine asg v1_0 rfl rfl rfl rfl rfl rfl ?_
 refine pu rfl rfl rfl rfl rfl ?_
 refine dn ?_
 refine sr ?_
 refine mv v1_0 rfl rfl rfl rfl rfl rfl ?_
 refine asg v1_0 rfl rfl rfl rfl rfl rfl ?_
 refine dn ?_
 have K3 := (kp0.st p2 rfl)
 exact re rfl Tryz.func314 rfl (r_t rfl r_nil) rfl ⟨_, rfl, f1_0, z.ky K3⟩
noncomputable def impl_highFirst.b0 (a0 : Int) (x1 : (List Int) × Int) : Option (((List Int) × Int) ⊕ (List Int)) :=
 (if (decide (x1.2 ≥ (0 : Int))) = true then (if 0 ≤ x1.2 then (if x1.1.length + ([(IntKind.wrap .u8 (ishr .u64 a0 x1.2))]).length ≤ Lim then (some (Sum.inl ((x1.1 ++ [(IntKind.wrap .u8 (ishr .u64 a0 x1.2))]), (IntKind.wrap .i64 (x1.2 - (8 : Int)))))) else none) else none) else ((some x1.1).bind fun o => some (Sum.inr o)))
noncomputable def impl_highFirst.f (a0 : Int) : Option ((List Int)) :=
 (iter (impl_highFirst.b0 a0) (([] : (List Int)), (56 : Int)))
def impl_highFirst.Q (w : World) (F : Nat → Prop) (r : (List Int)) (v : Value) (w' : World) : Prop :=
 FO (Kd.sl 5 (Kd.int .u8)) w w' [v] r ∧ Ky [] w w'
set_option maxHeartbeats 4000000 in
set_option maxRecDepth 100000 in
theorem impl_highFirst.calls (a0 : Int) (w : World) (F : Nat → Prop)   (r : (List Int)) (m : impl_highFirst.f a0 = some r) :
  Calls Tryz.prog 312 #[(.int .u64 a0)] w fun en w' => ∃ v, en = .returned v ∧ impl_highFirst.Q w F r v w' := by
 obtain ⟨s0, rfl, kp0, z⟩ := start0 w F
 refine calls_of_TM (args := [(.int .u64 a0)]) (R := fun r en w' => ∃ v, en = .returned v ∧ impl_highFirst.Q s0.w F r v w') Tryz.func312 Tryz.ntmps312 rfl rfl m ?_
 unfold impl_highFirst.f
 refine sr ?_
 refine pu rfl rfl rfl rfl rfl ?_
 refine dn ?_
 refine sr ?_
 refine pu rfl rfl rfl rfl rfl ?_
 refine dn ?_
 refine sq ?_
 refine sr ?_
 refine pu rfl rfl rfl rfl rfl ?_
 refine dn ?_
 refine bl ?_
 refine lpI (fun (x1 : (List Int) × Int) (e : Env) (w : World) => ∃ (s : St) (e0 : Env) (vx1_0 : Value), w = s.w ∧ e = upd (upd (upd e0 0 (.int .u64 a0)) 3 vx1_0) 4 (.int .i64 x1.2) ∧ Kp s0 s ∧ OwF (Kd.sl 5 (Kd.int .u8)) s [vx1_0] x1.1 40) ⟨s0, _, (.slice none 0 0), rfl, (ue (ue (ue rfl rfl) rfl) rfl), kp0, (ow_nil 5 (Kd.int .u8) _ 40)⟩ (fun g1 ih1 => ?_)
 rintro x1 _ _ ⟨s2, _, vx1_0, rfl, rfl, Kx1, Ax1_0⟩
 unfold impl_highFirst.b0
 refine sq ?_
 refine sr ?_
 refine pu rfl rfl rfl rfl rfl ?_
 refine pu rfl rfl rfl rfl rfl ?_
 refine dn ?_
 refine cd rfl (fun h4 => ?_) (fun h4 => ?_)
 ·
  refine sk ?_
  refine sq ?_
  refine bl ?_
  refine rg ?_
  refine mv vx1_0 rfl rfl rfl rfl rfl rfl ?_
  refine pu rfl rfl rfl rfl rfl ?_
  refine pu rfl rfl rfl rfl rfl ?_
  refine shr_ rfl rfl rfl rfl rfl rfl rfl ?_
  refine cv Tryz.underlying5 Tryz.underlying201 rfl rfl rfl rfl rfl rfl ?_
  refine ltF (K := (Kd.int .u8)) (cells := [(.int .u8 (IntKind.wrap .u8 (ishr .u64 a0 x1.2)))]) [(IntKind.wrap .u8 (ishr .u64 a0 x1.2))] 41 fl_int Tryz.underlying24 z5 o5 (fun w => (els_flat _ _ _)) rfl rfl rfl rfl rfl rfl rfl rfl rfl rfl (fun v5 s5 p5 A5 => ?_)
  have A7 := (Ax1_0.st p5 rfl)
  refine apF fl_int sl24 A7 A5.rd rfl rfl rfl rfl rfl rfl rfl (fun v8 s8 p8 A8 => ?_)
  refine asg v8 rfl rfl rfl rfl rfl rfl ?_
  refine dn ?_
  refine ib ?_
  refine rg ?_
  refine pu rfl rfl rfl rfl rfl ?_
  refine pu rfl rfl rfl rfl rfl ?_
  refine pu rfl rfl rfl rfl rfl ?_
  refine dn ?_
  have K10 := ((Kx1.st p5 rfl).st p8 rfl)
  exact lb ih1 ⟨s8, _, v8, rfl, (ue (ue (ue rfl rfl) rfl) rfl), K10, A8⟩
 ·
  refine xt rfl ?_
  refine sgb ?_
  refine sr ?_
  refine mv vx1_0 rfl rfl rfl rfl rfl rfl ?_
  refine asg vx1_0 rfl rfl rfl rfl rfl rfl ?_
  refine dn ?_
  exact re rfl Tryz.func312 rfl (r_t rfl r_nil) rfl ⟨_, rfl, Ax1_0.fo Kx1 rfl z.l, z.ky Kx1⟩
noncomputable def impl_itemBytes.f (a0 : Item) (a1 : Int) : Option ((List Int)) :=
 (if (a0.Kind == (1 : Int)) = true then ((impl_highFirst.f (IntKind.wrap .u64 ((IntKind.wrap .u64 a0.N) + (9223372036854775808 : Int)))).bind fun r8 => (if ([(IntKind.wrap .u8 a0.Kind)]).length + r8.length ≤ Lim then (some ([(IntKind.wrap .u8 a0.Kind)] ++ r8)) else none)) else (if (a0.Kind == (2 : Int)) = true then ((impl_highFirst.f a1).bind fun r16 => (if ([(IntKind.wrap .u8 a0.Kind)]).length + r16.length ≤ Lim then (some ([(IntKind.wrap .u8 a0.Kind)] ++ r16)) else none)) else (if ([(IntKind.wrap .u8 a0.Kind)]).length + a0.T.length ≤ Lim then (some ([(IntKind.wrap .u8 a0.Kind)] ++ a0.T)) else none)))
def impl_itemBytes.Q (w : World) (F : Nat → Prop) (r : (List Int)) (v : Value) (w' : World) : Prop :=
 FO (Kd.sl 5 (Kd.int .u8)) w w' [v] r ∧ Ky [] w w'
set_option maxHeartbeats 4000000 in
set_option maxRecDepth 100000 in
theorem impl_itemBytes.calls (a0 : Item) (a1 : Int) (w : World) (F : Nat → Prop) (w0_0 : Value) (w0_1 : Value) (h0_0 : Kd.flt.rd w [w0_0] a0.F F) (h0_1 : (Kd.sl 5 (Kd.int .u8)).rd w [w0_1] a0.T F) (r : (List Int)) (m : impl_itemBytes.f a0 a1 = some r) :
  Calls Tryz.prog 263 #[(.agg #[(.int .i64 a0.Kind), (.int .i64 a0.N), w0_0, w0_1]), (.int .u64 a1)] w fun en w' => ∃ v, en = .returned v ∧ impl_itemBytes.Q w F r v w' := by
 obtain ⟨s0, rfl, kp0, z⟩ := start0 w F
 have A0_0 := fl_of h0_0
 have A0_1 := z.rd h0_1
 refine calls_of_TM (args := [(.agg #[(.int .i64 a0.Kind), (.int .i64 a0.N), w0_0, w0_1]), (.int .u64 a1)]) (R := fun r en w' => ∃ v, en = .returned v ∧ impl_itemBytes.Q s0.w F r v w') Tryz.func263 Tryz.ntmps263 rfl rfl m ?_
 unfold impl_itemBytes.f
 refine sr ?_
 refine bx (cs := [(.int .i64 a0.Kind), (.int .i64 a0.N), w0_0, w0_1]) 40 rfl rfl rfl rfl rfl rfl (fun b2 s2 p2 B2 => ?_)
 refine pu rfl rfl rfl rfl rfl ?_
 refine dn ?_
 refine sr ?_
 refine fa fa33_0 rfl rfl rfl rfl rfl rfl ?_
 refine ld B2 Tryz.underlying3 rfl rfl rfl rfl rfl rfl rfl rfl ?_
 refine cv Tryz.underlying5 Tryz.underlying3 rfl rfl rfl rfl rfl rfl ?_
 refine ltF (K := (Kd.int .u8)) (cells := [(.int .u8 (IntKind.wrap .u8 a0.Kind))]) [(IntKind.wrap .u8 a0.Kind)] 41 fl_int Tryz.underlying24 z5 o5 (fun w => (els_flat _ _ _)) rfl rfl rfl rfl rfl rfl rfl rfl rfl rfl (fun v4 s4 p4 A4 => ?_)
 refine asg v4 rfl rfl rfl rfl rfl rfl ?_
 refine dn ?_
 refine sq ?_
 refine sr ?_
 refine fa fa33_0 rfl rfl rfl rfl rfl rfl ?_
 have A6 := (BlF.st B2 p4 rfl)
 refine ld A6 Tryz.underlying3 rfl rfl rfl rfl rfl rfl rfl rfl ?_
 refine dn ?_
 refine bl ?_
 refine sr ?_
 refine pu rfl rfl rfl rfl rfl ?_
 refine pu rfl rfl rfl rfl rfl ?_
 refine dn ?_
 refine cd rfl (fun h7 => ?_) (fun h7 => ?_)
 ·
  refine sr ?_
  refine mv v4 rfl rfl rfl rfl rfl rfl ?_
  refine fa fa33_1 rfl rfl rfl rfl rfl rfl ?_
  refine ld A6 Tryz.underlying3 rfl rfl rfl rfl rfl rfl rfl rfl ?_
  refine cv Tryz.underlying201 Tryz.underlying3 rfl rfl rfl rfl rfl rfl ?_
  refine pu rfl rfl rfl rfl rfl ?_
  refine cl rfl rfl rfl rfl rfl Tryz.func312 rfl rfl rfl (fun r8 m8 => impl_highFirst.calls (IntKind.wrap .u64 ((IntKind.wrap .u64 a0.N) + (9223372036854775808 : Int))) s4.w (fun b => memb [] (s4.g b) = true)  r8 m8) ?_
  rintro r8 v8_0 w8 m8 ⟨f8_0, ky8⟩
  obtain ⟨s9, rfl, p9, n9⟩ := nwx s4 w8 42 ky8
  have A8_0 := f8_0.c n9
  have A11 := (A4.st p9 rfl)
  refine apF fl_int sl24 A11 A8_0.rd rfl rfl rfl rfl rfl rfl rfl (fun v12 s12 p12 A12 => ?_)
  refine asg v12 rfl rfl rfl rfl rfl rfl ?_
  refine dn ?_
  have K14 := ((((kp0.st p2 rfl).st p4 rfl).st p9 rfl).st p12 rfl)
  exact re rfl Tryz.func263 rfl (r_t rfl r_nil) rfl ⟨_, rfl, A12.fo K14 rfl z.l, z.ky K14⟩
 ·
  refine sr ?_
  refine pu rfl rfl rfl rfl rfl ?_
  refine pu rfl rfl rfl rfl rfl ?_
  refine dn ?_
  refine cd rfl (fun h15 => ?_) (fun h15 => ?_)
  ·
   refine sr ?_
   refine mv v4 rfl rfl rfl rfl rfl rfl ?_
   refine pu rfl rfl rfl rfl rfl ?_
   refine cl rfl rfl rfl rfl rfl Tryz.func312 rfl rfl rfl (fun r16 m16 => impl_highFirst.calls a1 s4.w (fun b => memb [] (s4.g b) = true)  r16 m16) ?_
   rintro r16 v16_0 w16 m16 ⟨f16_0, ky16⟩
   obtain ⟨s17, rfl, p17, n17⟩ := nwx s4 w16 43 ky16
   have A16_0 := f16_0.c n17
   have A19 := (A4.st p17 rfl)
   refine apF fl_int sl24 A19 A16_0.rd rfl rfl rfl rfl rfl rfl rfl (fun v20 s20 p20 A20 => ?_)
   refine asg v20 rfl rfl rfl rfl rfl rfl ?_
   refine dn ?_
   have K22 := ((((kp0.st p2 rfl).st p4 rfl).st p17 rfl).st p20 rfl)
   exact re rfl Tryz.func263 rfl (r_t rfl r_nil) rfl ⟨_, rfl, A20.fo K22 rfl z.l, z.ky K22⟩
  ·
   refine sk ?_
   refine ib ?_
   refine sr ?_
   refine mv v4 rfl rfl rfl rfl rfl rfl ?_
   refine fa fa33_3 rfl rfl rfl rfl rfl rfl ?_
   refine ld A6 Tryz.underlying24 rfl rfl rfl rfl rfl rfl rfl rfl ?_
   have K23 := ((kp0.st p2 rfl).st p4 rfl)
   have A24 := (A0_1.kp K23)
   refine apF fl_int sl24 A4 A24 rfl rfl rfl rfl rfl rfl rfl (fun v25 s25 p25 A25 => ?_)
   refine asg v25 rfl rfl rfl rfl rfl rfl ?_
   refine dn ?_
   have K27 := (K23.st p25 rfl)
   exact re rfl Tryz.func263 rfl (r_t rfl r_nil) rfl ⟨_, rfl, A25.fo K27 rfl z.l, z.ky K27⟩
noncomputable def impl_KeyBytes.f (a0 : Item) : Option ((List Int)) :=
 ((impl_KeyOk.f a0).bind fun r6 => (if (!r6) = true then (some ([] : (List Int))) else ((impl_FloatRank.f a0.F).bind fun r19 => ((impl_itemBytes.f a0 r19).bind fun r25 => (some r25)))))
def impl_KeyBytes.Q (w : World) (F : Nat → Prop) (r : (List Int)) (v : Value) (w' : World) : Prop :=
 FO (Kd.sl 5 (Kd.int .u8)) w w' [v] r ∧ Ky [] w w'
set_option maxHeartbeats 4000000 in
set_option maxRecDepth 100000 in
theorem impl_KeyBytes.calls (a0 : Item) (w : World) (F : Nat → Prop) (w0_0 : Value) (w0_1 : Value) (h0_0 : Kd.flt.rd w [w0_0] a0.F F) (h0_1 : (Kd.sl 5 (Kd.int .u8)).rd w [w0_1] a0.T F) (r : (List Int)) (m : impl_KeyBytes.f a0 = some r) :
  Calls Tryz.prog 192 #[(.agg #[(.int .i64 a0.Kind), (.int .i64 a0.N), w0_0, w0_1])] w fun en w' => ∃ v, en = .returned v ∧ impl_KeyBytes.Q w F r v w' := by
 obtain ⟨s0, rfl, kp0, z⟩ := start0 w F
 have A0_0 := fl_of h0_0
 have A0_1 := z.rd h0_1
 refine calls_of_TM (args := [(.agg #[(.int .i64 a0.Kind), (.int .i64 a0.N), w0_0, w0_1])]) (R := fun r en w' => ∃ v, en = .returned v ∧ impl_KeyBytes.Q s0.w F r v w') Tryz.func192 Tryz.ntmps192 rfl rfl m ?_
 unfold impl_KeyBytes.f
 refine sr ?_
 refine bx (cs := [(.int .i64 a0.Kind), (.int .i64 a0.N), w0_0, w0_1]) 40 rfl rfl rfl rfl rfl rfl (fun b2 s2 p2 B2 => ?_)
 refine pu rfl rfl rfl rfl rfl ?_
 refine dn ?_
 refine sq ?_
 refine sr ?_
 refine lda (es := [(.int .i64 a0.Kind), (.int .i64 a0.N), w0_0, w0_1]) B2 Tryz.underlying33 z33 rfl rfl rfl rfl rfl rfl rfl rfl ?_
 have K4 := (kp0.st p2 rfl)
 have A5 := (A0_1.kp K4)
 refine cl rfl rfl rfl rfl rfl Tryz.func76 rfl rfl rfl (fun r6 m6 => impl_KeyOk.calls a0 s2.w (fun b => memb [0] (s2.g b) = true) w0_0 w0_1 ((fl_rdf (s := s2) A0_0).sub (D := [0]) rfl) A5 r6 m6) ?_
 rintro r6 _ w6 m6 ⟨rfl, ky6⟩
 obtain ⟨s7, rfl, p7, n7⟩ := nwx s2 w6 41 ky6
 refine pu rfl rfl rfl rfl rfl ?_
 refine dn ?_
 refine cd rfl (fun h8 => ?_) (fun h8 => ?_)
 ·
  refine sr ?_
  refine pu rfl rfl rfl rfl rfl ?_
  refine dn ?_
  have K9 := (K4.st p7 rfl)
  exact re rfl Tryz.func192 rfl (r_t rfl r_nil) rfl ⟨_, rfl, (ow_nil 5 (Kd.int .u8) s7 40).fo K9 rfl z.l, z.ky K9⟩
 ·
  refine sk ?_
  refine sq ?_
  refine zdraw [[], [], [1], [2], [0, 3, 3], [4, 4, 0, 1, 2, 3, 4]] [some 6, some 7, some 8, some 9, some 10, some 2] [[1], [1], [7], [8], [6, 9], [10]] [0, 1, 2, 3, 4, 5] ⟨by kernel_rfl, by kernel_rfl, by kernel_rfl⟩ (by kernel_rfl) (fun s10 p10 l10 tb10 zd10 => ?_)
  have A11 := (BlF.st (BlF.st B2 p7 rfl) p10 rfl)
  have zd12 := zd10.add 0 6 (.agg #[(.int .i64 a0.Kind), (.int .i64 a0.N), w0_0, w0_1]) rfl
  have zd13 := zd12.add 1 7 (.pointer (some ⟨b2, 2, none⟩)) rfl
  have A14 := (BlF.st (BlF.st B2 p7 rfl) p10 rfl)
  have zd15 := zd13.add 2 8 w0_0 rfl
  have A17 := (BlF.st (BlF.st B2 p7 rfl) p10 rfl)
  have A18 := (BlF.st (BlF.st B2 p7 rfl) p10 rfl)
  refine zstep 3 [some 6] tb10 zd15 (pq_cons (ld_q A18 Tryz.underlying23 rfl rfl rfl rfl rfl rfl rfl rfl) rfl (pq_cons (fa_q fa33_2 rfl rfl rfl rfl rfl rfl) rfl (pq_cons (lda_q (es := [(.int .i64 a0.Kind), (.int .i64 a0.N), w0_0, w0_1]) A17 Tryz.underlying33 z33 rfl rfl rfl rfl rfl rfl rfl rfl) rfl pq_nil))) (by kernel_rfl) rfl (fun l16 e16 zd16 => ?_)
  refine cl rfl rfl rfl rfl rfl Tryz.func252 rfl rfl rfl (fun r19 m19 => impl_FloatRank.calls a0.F s10.w (fun b => memb [] (s10.g b) = true) w0_0 (fl_rdf (s := s10) A0_0) r19 m19) ?_
  rintro r19 _ w19 m19 ⟨rfl, ky19⟩
  obtain ⟨s20, rfl, p20, n20⟩ := nwx s10 w19 42 ky19
  refine zdone (L' := [0]) (D' := [1, 2, 3]) zd16 rfl rfl rfl (fun zd21 => ?_)
  have A22 := (BlF.st (BlF.st (BlF.st B2 p7 rfl) p10 rfl) p20 rfl)
  refine zfin [4, 5] tb10 zd21 (pq_cons (lda_q (es := [(.int .i64 a0.Kind), (.int .i64 a0.N), w0_0, w0_1]) A22 Tryz.underlying33 z33 rfl rfl rfl rfl rfl rfl rfl rfl) rfl pq_nil) (by kernel_rfl) (by decide) ?_
  have K23 := (((K4.st p7 rfl).st p10 rfl).st p20 rfl)
  have A24 := (A0_1.kp K23)
  refine cl rfl rfl rfl rfl rfl Tryz.func263 rfl rfl rfl (fun r25 m25 => impl_itemBytes.calls a0 r19 s20.w (fun b => memb [0] (s20.g b) = true) w0_0 w0_1 ((fl_rdf (s := s20) A0_0).sub (D := [0]) rfl) A24 r25 m25) ?_
  rintro r25 v25_0 w25 m25 ⟨f25_0, ky25⟩
  obtain ⟨s26, rfl, p26, n26⟩ := nwx s20 w25 43 ky25
  have A25_0 := f25_0.c n26
  refine asg v25_0 rfl rfl rfl rfl rfl rfl ?_
  refine dn ?_
  have K28 := (K23.st p26 rfl)
  exact re rfl Tryz.func192 rfl (r_t rfl r_nil) rfl ⟨_, rfl, A25_0.fo K28 rfl z.l, z.ky K28⟩
noncomputable def bytes_Equal.f (a0 : (List Int)) (a1 : (List Int)) : Option (Bool) :=
 (some ((str a0).toList == (str a1).toList))
def bytes_Equal.Q (w : World) (F : Nat → Prop) (r : Bool) (v : Value) (w' : World) : Prop :=
 v = (.bool r) ∧ Ky [] w w'
set_option maxHeartbeats 4000000 in
set_option maxRecDepth 100000 in
theorem bytes_Equal.calls (a0 : (List Int)) (a1 : (List Int)) (w : World) (F : Nat → Prop) (w0_0 : Value) (w1_0 : Value) (h0_0 : (Kd.sl 5 (Kd.int .u8)).rd w [w0_0] a0 F) (h1_0 : (Kd.sl 5 (Kd.int .u8)).rd w [w1_0] a1 F) (r : Bool) (m : bytes_Equal.f a0 a1 = some r) :
  Calls Tryz.prog 270 #[w0_0, w1_0] w fun en w' => ∃ v, en = .returned v ∧ bytes_Equal.Q w F r v w' := by
 obtain ⟨s0, rfl, kp0, z⟩ := start0 w F
 have A0_0 := z.rd h0_0
 have A1_0 := z.rd h1_0
 refine calls_of_TM (args := [w0_0, w1_0]) (R := fun r en w' => ∃ v, en = .returned v ∧ bytes_Equal.Q s0.w F r v w') Tryz.func270 Tryz.ntmps270 rfl rfl m ?_
 unfold bytes_Equal.f
 refine sr ?_
 refine pu rfl rfl rfl rfl rfl ?_
 refine dn ?_
 refine sr ?_
 refine mv w0_0 rfl rfl rfl rfl rfl rfl ?_
 refine b2s A0_0 Tryz.underlying24 Tryz.underlying9 Tryz.underlying5 rfl rfl rfl rfl rfl rfl ?_
 refine mv w1_0 rfl rfl rfl rfl rfl rfl ?_
 refine b2s A1_0 Tryz.underlying24 Tryz.underlying9 Tryz.underlying5 rfl rfl rfl rfl rfl rfl ?_
 refine pu rfl rfl rfl rfl rfl ?_
 refine pu rfl rfl rfl rfl rfl ?_
 refine dn ?_
 exact re rfl Tryz.func270 rfl (r_t rfl r_nil) rfl ⟨_, rfl, rfl, z.ky kp0⟩
noncomputable def impl_KeyRead.f (a0 : (List Int)) : Option (Item × Bool) :=
 ((impl_readItem.f a0 impl_KeyRead_1.f).bind fun r6 => ((impl_KeyOk.f r6).bind fun r15 => ((if (!r15) = true then (some true) else ((impl_KeyBytes.f r6).bind fun r24 => ((bytes_Equal.f r24 a0).bind fun r29 => (some (!r29))))).bind fun y17 => (if y17 = true then (some ((Item.mk (0 : Int) (0 : Int) (0 : Nat) ([] : (List Int))), false)) else (some (r6, true))))))
def impl_KeyRead.Q (w : World) (F : Nat → Prop) (r : Item × Bool) (v : Value) (w' : World) : Prop :=
 ∃ (v0 : Value) (v1 : Value), v = .tuple #[(.agg #[(.int .i64 r.1.Kind), (.int .i64 r.1.N), v0, v1]), (.bool r.2)] ∧ FO kd33 w w' [(.int .i64 r.1.Kind), (.int .i64 r.1.N), v0, v1] r.1 ∧ Ky [] w w'
set_option maxHeartbeats 4000000 in
set_option maxRecDepth 100000 in
theorem impl_KeyRead.calls (a0 : (List Int)) (w : World) (F : Nat → Prop) (w0_0 : Value) (h0_0 : (Kd.sl 5 (Kd.int .u8)).rd w [w0_0] a0 F) (r : Item × Bool) (m : impl_KeyRead.f a0 = some r) :
  Calls Tryz.prog 268 #[w0_0] w fun en w' => ∃ v, en = .returned v ∧ impl_KeyRead.Q w F r v w' := by
 obtain ⟨s0, rfl, kp0, z⟩ := start0 w F
 have A0_0 := z.rd h0_0
 refine calls_of_TM (args := [w0_0]) (R := fun r en w' => ∃ v, en = .returned v ∧ impl_KeyRead.Q s0.w F r v w') Tryz.func268 Tryz.ntmps268 rfl rfl m ?_
 unfold impl_KeyRead.f
 refine sr ?_
 refine al (cs := [(.int .i64 (0 : Int)), (.int .i64 (0 : Int)), (.float .f64 0), (.slice none 0 0)]) 40 rfl rfl rfl rfl rfl o33 rfl (fun b2 s2 p2 B2 => ?_)
 refine pu rfl rfl rfl rfl rfl ?_
 refine dn ?_
 refine sr ?_
 refine mv w0_0 rfl rfl rfl rfl rfl rfl ?_
 have K4 := (kp0.st p2 rfl)
 have A5 := (A0_0.kp K4)
 refine cl rfl rfl rfl rfl rfl Tryz.func313 rfl rfl rfl (fun r6 m6 => impl_readItem.calls a0 impl_KeyRead_1.f s2.w (fun b => memb [0] (s2.g b) = true) w0_0 (.func (.func 314) #[] #[]) A5 (fun x0 w' k  r m =>  ⟨314, _, _, [], [], rfl, Tryz.func314, rfl, rfl, (impl_KeyRead_1.calls x0 w' (fun _ => True)  r m).mono fun en w2 hq => by obtain ⟨v, e, q⟩ := hq; exact ⟨v, e, q⟩⟩) rfl r6 m6) ?_
 rintro r6 _ w6 m6 ⟨v6_0, v6_1, rfl, f6_0, ky6⟩
 obtain ⟨s7, rfl, p7, n7⟩ := nwx s2 w6 41 ky6
 have A6_0 := f6_0.c n7
 obtain ⟨os6_0, ho6_0, hn6_0, hc6_0⟩ := A6_0
 obtain ⟨u6_0_0, u6_0_1, qu6_0_1, e6_0, eo6_0, hu6_0_0, hu6_0_1⟩ := po33 ho6_0
 have yu6_0_0 : v6_0 = u6_0_0 := congrArg (fun l => (List.drop 2 l).headD undef) e6_0
 have yu6_0_1 : v6_1 = u6_0_1 := congrArg (fun l => (List.drop 3 l).headD undef) e6_0
 subst yu6_0_0
 subst yu6_0_1
 subst eo6_0
 have Au6_0_1 : OwF (Kd.sl 5 (Kd.int .u8)) s7 [v6_1] r6.T 41 := sp1 hu6_0_1 hn6_0 hc6_0
 refine al (cs := [(.int .i64 (0 : Int)), (.int .i64 (0 : Int)), (.float .f64 0), (.slice none 0 0)]) 42 rfl rfl rfl rfl rfl o33 rfl (fun b9 s9 p9 B9 => ?_)
 have A11 := (Au6_0_1.st p9 rfl)
 refine sva (vs := [(.int .i64 r6.Kind), (.int .i64 r6.N), v6_0, v6_1]) B9 z33 rfl rfl rfl rfl rfl rfl (on_cons rfl (on_cons rfl (on_cons (FL.one hu6_0_0) (on_cons A11.rd.one on_nil)))) rfl (fun s12 p12 B12 => ?_)
 refine dn ?_
 refine sq ?_
 refine sr ?_
 refine lda (es := [(.int .i64 r6.Kind), (.int .i64 r6.N), v6_0, v6_1]) B12 Tryz.underlying33 z33 rfl rfl rfl rfl rfl rfl rfl rfl ?_
 have A14 := (A11.st p12 rfl)
 refine cl rfl rfl rfl rfl rfl Tryz.func76 rfl rfl rfl (fun r15 m15 => impl_KeyOk.calls r6 s12.w (fun b => memb [41] (s12.g b) = true) v6_0 v6_1 ((fl_rdf (s := s12) hu6_0_0).sub (D := [41]) rfl) A14.rd r15 m15) ?_
 rintro r15 _ w15 m15 ⟨rfl, ky15⟩
 obtain ⟨s16, rfl, p16, n16⟩ := nwx s12 w15 43 ky15
 refine pu rfl rfl rfl rfl rfl ?_
 refine pu rfl rfl rfl rfl rfl ?_
 refine ji [] (fun (y17 : Bool) (e : Env) (w : World) => ∃ (s : St) (e0 : Env), w = s.w ∧ e = upd (upd (upd e0 2 (.pointer (some ⟨b2, 0, none⟩))) 4 (.pointer (some ⟨b9, 0, none⟩))) 16 (.bool y17) ∧ Kp s0 s ∧ BlF s b9 33 [(.int .i64 r6.Kind), (.int .i64 r6.N), v6_0, v6_1] 42 ∧ BlF s b2 33 [(.int .i64 (0 : Int)), (.int .i64 (0 : Int)), (.float .f64 0), (.slice none 0 0)] 40 ∧ OwF (Kd.sl 5 (Kd.int .u8)) s [v6_1] r6.T 41) (fun Gj17 Kj17 => ?_) ?_
 ·
  rcases Bool.eq_false_or_eq_true (!r15) with hb17 | hb17
  ·
   refine sbT hb17 ?_
   rw [if_pos hb17]
   refine uw rfl rfl rfl rfl ?_
   refine uw rfl rfl rfl rfl ?_
   refine uw rfl rfl rfl rfl ?_
   refine uw rfl rfl rfl rfl ?_
   refine uw rfl rfl rfl rfl ?_
   refine pu rfl rfl rfl rfl rfl ?_
   have A18 := (BlF.st B12 p16 rfl)
   have A19 := (BlF.st (BlF.st (BlF.st (BlF.st B2 p7 rfl) p9 rfl) p12 rfl) p16 rfl)
   have A20 := (A14.st p16 rfl)
   have K21 := ((((K4.st p7 rfl).st p9 rfl).st p12 rfl).st p16 rfl)
   exact Kj17 _ _ _ ⟨s16, _, rfl, (ue (ue (ue rfl rfl) rfl) rfl), K21, A18, A19, A20⟩
  ·
   refine sbT hb17 ?_
   rw [if_neg (by rw [hb17]; decide)]
   have A22 := (BlF.st B12 p16 rfl)
   refine lda (es := [(.int .i64 r6.Kind), (.int .i64 r6.N), v6_0, v6_1]) A22 Tryz.underlying33 z33 rfl rfl rfl rfl rfl rfl rfl rfl ?_
   have A23 := (A14.st p16 rfl)
   refine cl rfl rfl rfl rfl rfl Tryz.func192 rfl rfl rfl (fun r24 m24 => impl_KeyBytes.calls r6 s16.w (fun b => memb [41] (s16.g b) = true) v6_0 v6_1 ((fl_rdf (s := s16) hu6_0_0).sub (D := [41]) rfl) A23.rd r24 m24) ?_
   rintro r24 v24_0 w24 m24 ⟨f24_0, ky24⟩
   obtain ⟨s25, rfl, p25, n25⟩ := nwx s16 w24 44 ky24
   have A24_0 := f24_0.c n25
   refine mv w0_0 rfl rfl rfl rfl rfl rfl ?_
   have K27 := (((((K4.st p7 rfl).st p9 rfl).st p12 rfl).st p16 rfl).st p25 rfl)
   have A28 := (A0_0.kp K27)
   refine cl rfl rfl rfl rfl rfl Tryz.func270 rfl rfl rfl (fun r29 m29 => bytes_Equal.calls r24 a0 s25.w (fun b => memb [44, 0] (s25.g b) = true) v24_0 w0_0 (A24_0.rd.sub (D := [44, 0]) rfl) (A28.sub (D := [44, 0]) rfl) r29 m29) ?_
   rintro r29 _ w29 m29 ⟨rfl, ky29⟩
   obtain ⟨s30, rfl, p30, n30⟩ := nwx s25 w29 45 ky29
   refine pu rfl rfl rfl rfl rfl ?_
   refine pu rfl rfl rfl rfl rfl ?_
   have A31 := (BlF.st (BlF.st A22 p25 rfl) p30 rfl)
   have A32 := (BlF.st (BlF.st (BlF.st (BlF.st (BlF.st (BlF.st B2 p7 rfl) p9 rfl) p12 rfl) p16 rfl) p25 rfl) p30 rfl)
   have A33 := ((A23.st p25 rfl).st p30 rfl)
   have K34 := (K27.st p30 rfl)
   exact Kj17 _ _ _ ⟨s30, _, rfl, (ue (ue (ue rfl rfl) rfl) rfl), K34, A31, A32, A33⟩
 rintro y17 _ _ ⟨s35, _, rfl, rfl, Ky17, By17_b9, By17_b2, Cy17_8⟩
 refine dn ?_
 refine cd rfl (fun h38 => ?_) (fun h38 => ?_)
 ·
  refine sr ?_
  refine bd (cells := [(.int .i64 (0 : Int)), (.int .i64 (0 : Int)), (.float .f64 0), (.slice none 0 0)]) pl33 o33 rfl rfl rfl rfl rfl rfl ?_
  refine sva (vs := [(.int .i64 (0 : Int)), (.int .i64 (0 : Int)), (.float .f64 0), (.slice none 0 0)]) By17_b2 z33 rfl rfl rfl rfl rfl rfl (on_cons rfl (on_cons rfl (on_cons (FL.one (fl_c rfl)) (on_cons rfl on_nil)))) rfl (fun s39 p39 B39 => ?_)
  refine pu rfl rfl rfl rfl rfl ?_
  refine dn ?_
  have A41 : OwF kd33 s39 [(.int .i64 (0 : Int)), (.int .i64 (0 : Int)), (.float .f64 0), (.slice none 0 0)] (Item.mk (0 : Int) (0 : Int) (0 : Nat) ([] : (List Int))) 46 := ow_z _ _ (fz_iso (fun x : Item => (x.Kind, x.N, x.F, x.T)) (Item.mk (0 : Int) (0 : Int) (0 : Nat) ([] : (List Int))) (fz_pair (fz_int .i64 (0 : Int)) (fz_pair (fz_int .i64 (0 : Int)) (fz_pair (fz_flt (fl_c rfl)) (fz_nil 5 (Kd.int .u8))))))
  have K43 := (Ky17.st p39 rfl)
  exact re rfl Tryz.func268 rfl (r_b B39 Tryz.underlying33 rfl z33 rfl (r_t rfl r_nil)) rfl ⟨_, rfl, (.float .f64 0), (.slice none 0 0), rfl, A41.fo K43 rfl z.l, z.ky K43⟩
 ·
  refine sk ?_
  refine sr ?_
  refine lda (es := [(.int .i64 r6.Kind), (.int .i64 r6.N), v6_0, v6_1]) By17_b9 Tryz.underlying33 z33 rfl rfl rfl rfl rfl rfl rfl rfl ?_
  refine sva (vs := [(.int .i64 r6.Kind), (.int .i64 r6.N), v6_0, v6_1]) By17_b2 z33 rfl rfl rfl rfl rfl rfl (on_cons rfl (on_cons rfl (on_cons (FL.one hu6_0_0) (on_cons Cy17_8.rd.one on_nil)))) rfl (fun s44 p44 B44 => ?_)
  refine pu rfl rfl rfl rfl rfl ?_
  refine dn ?_
  have A47 := (Cy17_8.st p44 rfl)
  have A46 : OwF kd33 s44 [(.int .i64 r6.Kind), (.int .i64 r6.N), v6_0, v6_1] r6 41 := (ow_isoz (fun x : Item => (x.Kind, x.N, x.F, x.T)) r6 (ow_l (fz_int .i64 r6.Kind) (ow_l (fz_int .i64 r6.N) (ow_l (fz_flt hu6_0_0) A47))))
  have K49 := (Ky17.st p44 rfl)
  exact re rfl Tryz.func268 rfl (r_b B44 Tryz.underlying33 rfl z33 rfl (r_t rfl r_nil)) rfl ⟨_, rfl, v6_0, v6_1, rfl, A46.fo K49 rfl z.l, z.ky K49⟩
noncomputable def impl_FloatOf.f (a0 : Int) : Option (Nat) :=
 (some (cn (a0).toNat))
def impl_FloatOf.Q (w : World) (F : Nat → Prop) (r : Nat) (v : Value) (w' : World) : Prop :=
 FL v r ∧ Ky [] w w'
set_option maxHeartbeats 4000000 in
set_option maxRecDepth 100000 in
theorem impl_FloatOf.calls (a0 : Int) (w : World) (F : Nat → Prop)   (r : Nat) (m : impl_FloatOf.f a0 = some r) :
  Calls Tryz.prog 316 #[(.int .u64 a0)] w fun en w' => ∃ v, en = .returned v ∧ impl_FloatOf.Q w F r v w' := by
 obtain ⟨s0, rfl, kp0, z⟩ := start0 w F
 refine calls_of_TM (args := [(.int .u64 a0)]) (R := fun r en w' => ∃ v, en = .returned v ∧ impl_FloatOf.Q s0.w F r v w') Tryz.func316 Tryz.ntmps316 rfl rfl m ?_
 unfold impl_FloatOf.f
 refine sr ?_
 refine asg (.float .f64 0) rfl rfl rfl rfl rfl rfl ?_
 refine dn ?_
 refine sr ?_
 refine pu rfl rfl rfl rfl rfl ?_
 refine ffb rfl rfl rfl rfl rfl Tryz.func335 rfl rfl xn335 xf335 rfl (fun v1 A1 => ?_)
 refine asg v1 rfl rfl rfl rfl rfl rfl ?_
 refine dn ?_
 exact re rfl Tryz.func316 rfl (r_t rfl r_nil) rfl ⟨_, rfl, A1, z.ky kp0⟩
noncomputable def impl_FloatBits.f (a0 : Nat) : Option (Int) :=
 (if (fcmp .f64 a0 a0 != some .eq) = true then (some (9221120237041090560 : Int)) else (if isN a0 = false then (some (a0 : Int)) else none))
def impl_FloatBits.Q (w : World) (F : Nat → Prop) (r : Int) (v : Value) (w' : World) : Prop :=
 v = (.int .u64 r) ∧ Ky [] w w'
set_option maxHeartbeats 4000000 in
set_option maxRecDepth 100000 in
theorem impl_FloatBits.calls (a0 : Nat) (w : World) (F : Nat → Prop) (w0_0 : Value) (h0_0 : Kd.flt.rd w [w0_0] a0 F) (r : Int) (m : impl_FloatBits.f a0 = some r) :
  Calls Tryz.prog 264 #[w0_0] w fun en w' => ∃ v, en = .returned v ∧ impl_FloatBits.Q w F r v w' := by
 obtain ⟨s0, rfl, kp0, z⟩ := start0 w F
 have A0_0 := fl_of h0_0
 refine calls_of_TM (args := [w0_0]) (R := fun r en w' => ∃ v, en = .returned v ∧ impl_FloatBits.Q s0.w F r v w') Tryz.func264 Tryz.ntmps264 rfl rfl m ?_
 unfold impl_FloatBits.f
 refine sr ?_
 refine pu rfl rfl rfl rfl rfl ?_
 refine dn ?_
 refine sq ?_
 refine sr ?_
 refine mv w0_0 rfl rfl rfl rfl rfl rfl ?_
 refine mv w0_0 rfl rfl rfl rfl rfl rfl ?_
 refine fq_ A0_0 A0_0 rfl rfl rfl rfl rfl rfl rfl rfl ?_
 refine dn ?_
 refine cd rfl (fun h1 => ?_) (fun h1 => ?_)
 ·
  refine sr ?_
  refine pu rfl rfl rfl rfl rfl ?_
  refine dn ?_
  exact re rfl Tryz.func264 rfl (r_t rfl r_nil) rfl ⟨_, rfl, rfl, z.ky kp0⟩
 ·
  refine sk ?_
  refine sr ?_
  refine mv w0_0 rfl rfl rfl rfl rfl rfl ?_
  refine fb_ A0_0 rfl rfl rfl rfl rfl Tryz.func166 rfl rfl xn166 xf166 rfl ?_
  refine pu rfl rfl rfl rfl rfl ?_
  refine dn ?_
  exact re rfl Tryz.func264 rfl (r_t rfl r_nil) rfl ⟨_, rfl, rfl, z.ky kp0⟩
noncomputable def impl_ValueBytes.f (a0 : Item) : Option ((List Int)) :=
 ((impl_ItemOk.f a0).bind fun r6 => (if ((!r6) || (a0.Kind == (0 : Int))) = true then (some ([] : (List Int))) else ((impl_FloatBits.f a0.F).bind fun r21 => ((impl_itemBytes.f a0 r21).bind fun r27 => (some r27)))))
def impl_ValueBytes.Q (w : World) (F : Nat → Prop) (r : (List Int)) (v : Value) (w' : World) : Prop :=
 FO (Kd.sl 5 (Kd.int .u8)) w w' [v] r ∧ Ky [] w w'
set_option maxHeartbeats 4000000 in
set_option maxRecDepth 100000 in
theorem impl_ValueBytes.calls (a0 : Item) (w : World) (F : Nat → Prop) (w0_0 : Value) (w0_1 : Value) (h0_0 : Kd.flt.rd w [w0_0] a0.F F) (h0_1 : (Kd.sl 5 (Kd.int .u8)).rd w [w0_1] a0.T F) (r : (List Int)) (m : impl_ValueBytes.f a0 = some r) :
  Calls Tryz.prog 193 #[(.agg #[(.int .i64 a0.Kind), (.int .i64 a0.N), w0_0, w0_1])] w fun en w' => ∃ v, en = .returned v ∧ impl_ValueBytes.Q w F r v w' := by
 obtain ⟨s0, rfl, kp0, z⟩ := start0 w F
 have A0_0 := fl_of h0_0
 have A0_1 := z.rd h0_1
 refine calls_of_TM (args := [(.agg #[(.int .i64 a0.Kind), (.int .i64 a0.N), w0_0, w0_1])]) (R := fun r en w' => ∃ v, en = .returned v ∧ impl_ValueBytes.Q s0.w F r v w') Tryz.func193 Tryz.ntmps193 rfl rfl m ?_
 unfold impl_ValueBytes.f
 refine sr ?_
 refine bx (cs := [(.int .i64 a0.Kind), (.int .i64 a0.N), w0_0, w0_1]) 40 rfl rfl rfl rfl rfl rfl (fun b2 s2 p2 B2 => ?_)
 refine pu rfl rfl rfl rfl rfl ?_
 refine dn ?_
 refine sq ?_
 refine sr ?_
 refine lda (es := [(.int .i64 a0.Kind), (.int .i64 a0.N), w0_0, w0_1]) B2 Tryz.underlying33 z33 rfl rfl rfl rfl rfl rfl rfl rfl ?_
 have K4 := (kp0.st p2 rfl)
 have A5 := (A0_1.kp K4)
 refine cl rfl rfl rfl rfl rfl Tryz.func165 rfl rfl rfl (fun r6 m6 => impl_ItemOk.calls a0 s2.w (fun b => memb [0] (s2.g b) = true) w0_0 w0_1 ((fl_rdf (s := s2) A0_0).sub (D := [0]) rfl) A5 r6 m6) ?_
 rintro r6 _ w6 m6 ⟨rfl, ky6⟩
 obtain ⟨s7, rfl, p7, n7⟩ := nwx s2 w6 41 ky6
 refine pu rfl rfl rfl rfl rfl ?_
 refine pu rfl rfl rfl rfl rfl ?_
 refine jy [6, 7, 8, 9, 10] [] 10 (.bool ((!r6) || (a0.Kind == (0 : Int)))) rfl (fun Kg8 => ?_) (fun j8 => ?_)
 ·
  rcases Bool.eq_false_or_eq_true (!r6) with hb8 | hb8
  ·
   refine sbT hb8 ?_
   refine uw rfl rfl rfl rfl ?_
   refine uw rfl rfl rfl rfl ?_
   refine uw rfl rfl rfl rfl ?_
   refine pu rfl rfl rfl rfl rfl ?_
   exact Kg8 _ (Ag.put ((Ag.put ((Ag.put ((Ag.put (Ag.base rfl) rfl)) rfl)) rfl)) rfl) (by rw [hb8]; rfl)
  ·
   refine sbT hb8 ?_
   refine fa fa33_0 rfl rfl rfl rfl rfl rfl ?_
   have A9 := (BlF.st B2 p7 rfl)
   refine ld A9 Tryz.underlying3 rfl rfl rfl rfl rfl rfl rfl rfl ?_
   refine pu rfl rfl rfl rfl rfl ?_
   refine pu rfl rfl rfl rfl rfl ?_
   exact Kg8 _ (Ag.put ((Ag.put ((Ag.put ((Ag.put (Ag.base rfl) rfl)) rfl)) rfl)) rfl) (by rw [hb8]; rfl)
 refine dn ?_
 refine cd rfl (fun h10 => ?_) (fun h10 => ?_)
 ·
  refine sr ?_
  refine pu rfl rfl rfl rfl rfl ?_
  refine dn ?_
  have K11 := (K4.st p7 rfl)
  exact re rfl Tryz.func193 rfl (r_t rfl r_nil) rfl ⟨_, rfl, (ow_nil 5 (Kd.int .u8) s7 40).fo K11 rfl z.l, z.ky K11⟩
 ·
  refine sk ?_
  refine sq ?_
  refine zdraw [[], [], [1], [2], [0, 3, 3], [4, 4, 0, 1, 2, 3, 4]] [some 11, some 12, some 13, some 14, some 15, some 2] [[1], [1], [12], [13], [11, 14], [15]] [0, 1, 2, 3, 4, 5] ⟨by kernel_rfl, by kernel_rfl, by kernel_rfl⟩ (by kernel_rfl) (fun s12 p12 l12 tb12 zd12 => ?_)
  have A13 := (BlF.st (BlF.st B2 p7 rfl) p12 rfl)
  have zd14 := zd12.add 0 11 (.agg #[(.int .i64 a0.Kind), (.int .i64 a0.N), w0_0, w0_1]) rfl
  have zd15 := zd14.add 1 12 (.pointer (some ⟨b2, 2, none⟩)) rfl
  have A16 := (BlF.st (BlF.st B2 p7 rfl) p12 rfl)
  have zd17 := zd15.add 2 13 w0_0 rfl
  have A19 := (BlF.st (BlF.st B2 p7 rfl) p12 rfl)
  have A20 := (BlF.st (BlF.st B2 p7 rfl) p12 rfl)
  refine zstep 3 [some 11] tb12 zd17 (pq_cons (ld_q A20 Tryz.underlying23 rfl rfl rfl rfl rfl rfl rfl rfl) rfl (pq_cons (fa_q fa33_2 rfl rfl rfl rfl rfl rfl) rfl (pq_cons (lda_q (es := [(.int .i64 a0.Kind), (.int .i64 a0.N), w0_0, w0_1]) A19 Tryz.underlying33 z33 rfl rfl rfl rfl rfl rfl rfl rfl) rfl pq_nil))) (by kernel_rfl) rfl (fun l18 e18 zd18 => ?_)
  refine cl rfl rfl rfl rfl rfl Tryz.func264 rfl rfl rfl (fun r21 m21 => impl_FloatBits.calls a0.F s12.w (fun b => memb [] (s12.g b) = true) w0_0 (fl_rdf (s := s12) A0_0) r21 m21) ?_
  rintro r21 _ w21 m21 ⟨rfl, ky21⟩
  obtain ⟨s22, rfl, p22, n22⟩ := nwx s12 w21 42 ky21
  refine zdone (L' := [0]) (D' := [1, 2, 3]) zd18 rfl rfl rfl (fun zd23 => ?_)
  have A24 := (BlF.st (BlF.st (BlF.st B2 p7 rfl) p12 rfl) p22 rfl)
  refine zfin [4, 5] tb12 zd23 (pq_cons (lda_q (es := [(.int .i64 a0.Kind), (.int .i64 a0.N), w0_0, w0_1]) A24 Tryz.underlying33 z33 rfl rfl rfl rfl rfl rfl rfl rfl) rfl pq_nil) (by kernel_rfl) (by decide) ?_
  have K25 := (((K4.st p7 rfl).st p12 rfl).st p22 rfl)
  have A26 := (A0_1.kp K25)
  refine cl rfl rfl rfl rfl rfl Tryz.func263 rfl rfl rfl (fun r27 m27 => impl_itemBytes.calls a0 r21 s22.w (fun b => memb [0] (s22.g b) = true) w0_0 w0_1 ((fl_rdf (s := s22) A0_0).sub (D := [0]) rfl) A26 r27 m27) ?_
  rintro r27 v27_0 w27 m27 ⟨f27_0, ky27⟩
  obtain ⟨s28, rfl, p28, n28⟩ := nwx s22 w27 43 ky27
  have A27_0 := f27_0.c n28
  refine asg v27_0 rfl rfl rfl rfl rfl rfl ?_
  refine dn ?_
  have K30 := (K25.st p28 rfl)
  exact re rfl Tryz.func193 rfl (r_t rfl r_nil) rfl ⟨_, rfl, A27_0.fo K30 rfl z.l, z.ky K30⟩
noncomputable def impl_ValueRead.f (a0 : (List Int)) : Option (Item × Bool) :=
 ((impl_readItem.f a0 impl_FloatOf.f).bind fun r6 => ((impl_ItemOk.f r6).bind fun r15 => ((if ((!r15) || (r6.Kind == (0 : Int))) = true then (some true) else ((impl_ValueBytes.f r6).bind fun r26 => ((bytes_Equal.f r26 a0).bind fun r31 => (some (!r31))))).bind fun y19 => (if y19 = true then (some ((Item.mk (0 : Int) (0 : Int) (0 : Nat) ([] : (List Int))), false)) else (some (r6, true))))))
def impl_ValueRead.Q (w : World) (F : Nat → Prop) (r : Item × Bool) (v : Value) (w' : World) : Prop :=
 ∃ (v0 : Value) (v1 : Value), v = .tuple #[(.agg #[(.int .i64 r.1.Kind), (.int .i64 r.1.N), v0, v1]), (.bool r.2)] ∧ FO kd33 w w' [(.int .i64 r.1.Kind), (.int .i64 r.1.N), v0, v1] r.1 ∧ Ky [] w w'
set_option maxHeartbeats 4000000 in
set_option maxRecDepth 100000 in
theorem impl_ValueRead.calls (a0 : (List Int)) (w : World) (F : Nat → Prop) (w0_0 : Value) (h0_0 : (Kd.sl 5 (Kd.int .u8)).rd w [w0_0] a0 F) (r : Item × Bool) (m : impl_ValueRead.f a0 = some r) :
  Calls Tryz.prog 269 #[w0_0] w fun en w' => ∃ v, en = .returned v ∧ impl_ValueRead.Q w F r v w' := by
 obtain ⟨s0, rfl, kp0, z⟩ := start0 w F
 have A0_0 := z.rd h0_0
 refine calls_of_TM (args := [w0_0]) (R := fun r en w' => ∃ v, en = .returned v ∧ impl_ValueRead.Q s0.w F r v w') Tryz.func269 Tryz.ntmps269 rfl rfl m ?_
 unfold impl_ValueRead.f
 refine sr ?_
 refine al (cs := [(.int .i64 (0 : Int)), (.int .i64 (0 : Int)), (.float .f64 0), (.slice none 0 0)]) 40 rfl rfl rfl rfl rfl o33 rfl (fun b2 s2 p2 B2 => ?_)
 refine pu rfl rfl rfl rfl rfl ?_
 refine dn ?_
 refine sr ?_
 refine mv w0_0 rfl rfl rfl rfl rfl rfl ?_
 have K4 := (kp0.st p2 rfl)
 have A5 := (A0_0.kp K4)
 refine cl rfl rfl rfl rfl rfl Tryz.func313 rfl rfl rfl (fun r6 m6 => impl_readItem.calls a0 impl_FloatOf.f s2.w (fun b => memb [0] (s2.g b) = true) w0_0 (.func (.func 316) #[] #[]) A5 (fun x0 w' k  r m =>  ⟨316, _, _, [], [], rfl, Tryz.func316, rfl, rfl, (impl_FloatOf.calls x0 w' (fun _ => True)  r m).mono fun en w2 hq => by obtain ⟨v, e, q⟩ := hq; exact ⟨v, e, q⟩⟩) rfl r6 m6) ?_
 rintro r6 _ w6 m6 ⟨v6_0, v6_1, rfl, f6_0, ky6⟩
 obtain ⟨s7, rfl, p7, n7⟩ := nwx s2 w6 41 ky6
 have A6_0 := f6_0.c n7
 obtain ⟨os6_0, ho6_0, hn6_0, hc6_0⟩ := A6_0
 obtain ⟨u6_0_0, u6_0_1, qu6_0_1, e6_0, eo6_0, hu6_0_0, hu6_0_1⟩ := po33 ho6_0
 have yu6_0_0 : v6_0 = u6_0_0 := congrArg (fun l => (List.drop 2 l).headD undef) e6_0
 have yu6_0_1 : v6_1 = u6_0_1 := congrArg (fun l => (List.drop 3 l).headD undef) e6_0
 subst yu6_0_0
 subst yu6_0_1
 subst eo6_0
 have Au6_0_1 : OwF (Kd.sl 5 (Kd.int .u8)) s7 [v6_1] r6.T 41 := sp1 hu6_0_1 hn6_0 hc6_0
 refine al (cs := [(.int .i64 (0 : Int)), (.int .i64 (0 : Int)), (.float .f64 0), (.slice none 0 0)]) 42 rfl rfl rfl rfl rfl o33 rfl (fun b9 s9 p9 B9 => ?_)
 have A11 := (Au6_0_1.st p9 rfl)
 refine sva (vs := [(.int .i64 r6.Kind), (.int .i64 r6.N), v6_0, v6_1]) B9 z33 rfl rfl rfl rfl rfl rfl (on_cons rfl (on_cons rfl (on_cons (FL.one hu6_0_0) (on_cons A11.rd.one on_nil)))) rfl (fun s12 p12 B12 => ?_)
 refine dn ?_
 refine sq ?_
 refine sr ?_
 refine lda (es := [(.int .i64 r6.Kind), (.int .i64 r6.N), v6_0, v6_1]) B12 Tryz.underlying33 z33 rfl rfl rfl rfl rfl rfl rfl rfl ?_
 have A14 := (A11.st p12 rfl)
 refine cl rfl rfl rfl rfl rfl Tryz.func165 rfl rfl rfl (fun r15 m15 => impl_ItemOk.calls r6 s12.w (fun b => memb [41] (s12.g b) = true) v6_0 v6_1 ((fl_rdf (s := s12) hu6_0_0).sub (D := [41]) rfl) A14.rd r15 m15) ?_
 rintro r15 _ w15 m15 ⟨rfl, ky15⟩
 obtain ⟨s16, rfl, p16, n16⟩ := nwx s12 w15 43 ky15
 refine pu rfl rfl rfl rfl rfl ?_
 refine pu rfl rfl rfl rfl rfl ?_
 refine jy [10, 11, 12, 13, 14] [8, 9, 10, 11, 12, 13, 14] 14 (.bool ((!r15) || (r6.Kind == (0 : Int)))) rfl (fun Kg17 => ?_) (fun j17 => ?_)
 ·
  rcases Bool.eq_false_or_eq_true (!r15) with hb17 | hb17
  ·
   refine sbT hb17 ?_
   refine uw rfl rfl rfl rfl ?_
   refine uw rfl rfl rfl rfl ?_
   refine uw rfl rfl rfl rfl ?_
   refine pu rfl rfl rfl rfl rfl ?_
   exact Kg17 _ (Ag.put ((Ag.put ((Ag.put ((Ag.put (Ag.base rfl) rfl)) rfl)) rfl)) rfl) (by rw [hb17]; rfl)
  ·
   refine sbT hb17 ?_
   refine fa fa33_0 rfl rfl rfl rfl rfl rfl ?_
   have A18 := (BlF.st B12 p16 rfl)
   refine ld A18 Tryz.underlying3 rfl rfl rfl rfl rfl rfl rfl rfl ?_
   refine pu rfl rfl rfl rfl rfl ?_
   refine pu rfl rfl rfl rfl rfl ?_
   exact Kg17 _ (Ag.put ((Ag.put ((Ag.put ((Ag.put (Ag.base rfl) rfl)) rfl)) rfl)) rfl) (by rw [hb17]; rfl)
 refine pu rfl rfl rfl rfl rfl ?_
 refine ji [] (fun (y19 : Bool) (e : Env) (w : World) => ∃ (s : St) (e0 : Env), w = s.w ∧ e = upd (upd (upd e0 2 (.pointer (some ⟨b2, 0, none⟩))) 4 (.pointer (some ⟨b9, 0, none⟩))) 21 (.bool y19) ∧ Kp s0 s ∧ BlF s b9 33 [(.int .i64 r6.Kind), (.int .i64 r6.N), v6_0, v6_1] 42 ∧ BlF s b2 33 [(.int .i64 (0 : Int)), (.int .i64 (0 : Int)), (.float .f64 0), (.slice none 0 0)] 40 ∧ OwF (Kd.sl 5 (Kd.int .u8)) s [v6_1] r6.T 41) (fun Gj19 Kj19 => ?_) ?_
 ·
  rcases Bool.eq_false_or_eq_true ((!r15) || (r6.Kind == (0 : Int))) with hb19 | hb19
  ·
   refine sbT hb19 ?_
   rw [if_pos hb19]
   refine uw rfl rfl rfl rfl ?_
   refine uw rfl rfl rfl rfl ?_
   refine uw rfl rfl rfl rfl ?_
   refine uw rfl rfl rfl rfl ?_
   refine uw rfl rfl rfl rfl ?_
   refine pu rfl rfl rfl rfl rfl ?_
   have A20 := (BlF.st B12 p16 rfl)
   have A21 := (BlF.st (BlF.st (BlF.st (BlF.st B2 p7 rfl) p9 rfl) p12 rfl) p16 rfl)
   have A22 := (A14.st p16 rfl)
   have K23 := ((((K4.st p7 rfl).st p9 rfl).st p12 rfl).st p16 rfl)
   exact Kj19 _ _ _ ⟨s16, _, rfl, (ue (ue (ue rfl rfl) rfl) rfl), K23, A20, A21, A22⟩
  ·
   refine sbT hb19 ?_
   rw [if_neg (by rw [hb19]; decide)]
   have A24 := (BlF.st B12 p16 rfl)
   refine lda (es := [(.int .i64 r6.Kind), (.int .i64 r6.N), v6_0, v6_1]) A24 Tryz.underlying33 z33 rfl rfl rfl rfl rfl rfl rfl rfl ?_
   have A25 := (A14.st p16 rfl)
   refine cl rfl rfl rfl rfl rfl Tryz.func193 rfl rfl rfl (fun r26 m26 => impl_ValueBytes.calls r6 s16.w (fun b => memb [41] (s16.g b) = true) v6_0 v6_1 ((fl_rdf (s := s16) hu6_0_0).sub (D := [41]) rfl) A25.rd r26 m26) ?_
   rintro r26 v26_0 w26 m26 ⟨f26_0, ky26⟩
   obtain ⟨s27, rfl, p27, n27⟩ := nwx s16 w26 44 ky26
   have A26_0 := f26_0.c n27
   refine mv w0_0 rfl rfl rfl rfl rfl rfl ?_
   have K29 := (((((K4.st p7 rfl).st p9 rfl).st p12 rfl).st p16 rfl).st p27 rfl)
   have A30 := (A0_0.kp K29)
   refine cl rfl rfl rfl rfl rfl Tryz.func270 rfl rfl rfl (fun r31 m31 => bytes_Equal.calls r26 a0 s27.w (fun b => memb [44, 0] (s27.g b) = true) v26_0 w0_0 (A26_0.rd.sub (D := [44, 0]) rfl) (A30.sub (D := [44, 0]) rfl) r31 m31) ?_
   rintro r31 _ w31 m31 ⟨rfl, ky31⟩
   obtain ⟨s32, rfl, p32, n32⟩ := nwx s27 w31 45 ky31
   refine pu rfl rfl rfl rfl rfl ?_
   refine pu rfl rfl rfl rfl rfl ?_
   have A33 := (BlF.st (BlF.st A24 p27 rfl) p32 rfl)
   have A34 := (BlF.st (BlF.st (BlF.st (BlF.st (BlF.st (BlF.st B2 p7 rfl) p9 rfl) p12 rfl) p16 rfl) p27 rfl) p32 rfl)
   have A35 := ((A25.st p27 rfl).st p32 rfl)
   have K36 := (K29.st p32 rfl)
   exact Kj19 _ _ _ ⟨s32, _, rfl, (ue (ue (ue rfl rfl) rfl) rfl), K36, A33, A34, A35⟩
 rintro y19 _ _ ⟨s37, _, rfl, rfl, Ky19, By19_b9, By19_b2, Cy19_8⟩
 refine dn ?_
 refine cd rfl (fun h40 => ?_) (fun h40 => ?_)
 ·
  refine sr ?_
  refine bd (cells := [(.int .i64 (0 : Int)), (.int .i64 (0 : Int)), (.float .f64 0), (.slice none 0 0)]) pl33 o33 rfl rfl rfl rfl rfl rfl ?_
  refine sva (vs := [(.int .i64 (0 : Int)), (.int .i64 (0 : Int)), (.float .f64 0), (.slice none 0 0)]) By19_b2 z33 rfl rfl rfl rfl rfl rfl (on_cons rfl (on_cons rfl (on_cons (FL.one (fl_c rfl)) (on_cons rfl on_nil)))) rfl (fun s41 p41 B41 => ?_)
  refine pu rfl rfl rfl rfl rfl ?_
  refine dn ?_
  have A43 : OwF kd33 s41 [(.int .i64 (0 : Int)), (.int .i64 (0 : Int)), (.float .f64 0), (.slice none 0 0)] (Item.mk (0 : Int) (0 : Int) (0 : Nat) ([] : (List Int))) 46 := ow_z _ _ (fz_iso (fun x : Item => (x.Kind, x.N, x.F, x.T)) (Item.mk (0 : Int) (0 : Int) (0 : Nat) ([] : (List Int))) (fz_pair (fz_int .i64 (0 : Int)) (fz_pair (fz_int .i64 (0 : Int)) (fz_pair (fz_flt (fl_c rfl)) (fz_nil 5 (Kd.int .u8))))))
  have K45 := (Ky19.st p41 rfl)
  exact re rfl Tryz.func269 rfl (r_b B41 Tryz.underlying33 rfl z33 rfl (r_t rfl r_nil)) rfl ⟨_, rfl, (.float .f64 0), (.slice none 0 0), rfl, A43.fo K45 rfl z.l, z.ky K45⟩
 ·
  refine sk ?_
  refine sr ?_
  refine lda (es := [(.int .i64 r6.Kind), (.int .i64 r6.N), v6_0, v6_1]) By19_b9 Tryz.underlying33 z33 rfl rfl rfl rfl rfl rfl rfl rfl ?_
  refine sva (vs := [(.int .i64 r6.Kind), (.int .i64 r6.N), v6_0, v6_1]) By19_b2 z33 rfl rfl rfl rfl rfl rfl (on_cons rfl (on_cons rfl (on_cons (FL.one hu6_0_0) (on_cons Cy19_8.rd.one on_nil)))) rfl (fun s46 p46 B46 => ?_)
  refine pu rfl rfl rfl rfl rfl ?_
  refine dn ?_
  have A49 := (Cy19_8.st p46 rfl)
  have A48 : OwF kd33 s46 [(.int .i64 r6.Kind), (.int .i64 r6.N), v6_0, v6_1] r6 41 := (ow_isoz (fun x : Item => (x.Kind, x.N, x.F, x.T)) r6 (ow_l (fz_int .i64 r6.Kind) (ow_l (fz_int .i64 r6.N) (ow_l (fz_flt hu6_0_0) A49))))
  have K51 := (Ky19.st p46 rfl)
  exact re rfl Tryz.func269 rfl (r_b B46 Tryz.underlying33 rfl z33 rfl (r_t rfl r_nil)) rfl ⟨_, rfl, v6_0, v6_1, rfl, A48.fo K51 rfl z.l, z.ky K51⟩
noncomputable def impl_TupleOk.f (a0 : Tuple) : Option (Bool) :=
 ((impl_isXid.f a0.Xmin).bind fun r5 => ((if r5 = true then ((impl_within.f a0.Xmax (0 : Int) (400 : Int)).bind fun r9 => (some r9)) else (some false)).bind fun y7 => ((if y7 = true then ((impl_KeyOk.f a0.Key).bind fun r19 => (some r19)) else (some false)).bind fun y17 => ((if y17 = true then ((impl_ItemOk.f a0.Value).bind fun r27 => (some r27)) else (some false)).bind fun y25 => (some (y25 && (a0.Value.Kind != (0 : Int))))))))
def impl_TupleOk.Q (w : World) (F : Nat → Prop) (r : Bool) (v : Value) (w' : World) : Prop :=
 v = (.bool r) ∧ Ky [] w w'
set_option maxHeartbeats 4000000 in
set_option maxRecDepth 100000 in
theorem impl_TupleOk.calls (a0 : Tuple) (w : World) (F : Nat → Prop) (w0_0 : Value) (w0_1 : Value) (w0_2 : Value) (w0_3 : Value) (h0_0 : Kd.flt.rd w [w0_0] a0.Key.F F) (h0_1 : (Kd.sl 5 (Kd.int .u8)).rd w [w0_1] a0.Key.T F) (h0_2 : Kd.flt.rd w [w0_2] a0.Value.F F) (h0_3 : (Kd.sl 5 (Kd.int .u8)).rd w [w0_3] a0.Value.T F) (r : Bool) (m : impl_TupleOk.f a0 = some r) :
  Calls Tryz.prog 112 #[(.agg #[(.int .i64 a0.Xmin), (.int .i64 a0.Xmax), (.int .i64 a0.Key.Kind), (.int .i64 a0.Key.N), w0_0, w0_1, (.int .i64 a0.Value.Kind), (.int .i64 a0.Value.N), w0_2, w0_3])] w fun en w' => ∃ v, en = .returned v ∧ impl_TupleOk.Q w F r v w' := by
 obtain ⟨s0, rfl, kp0, z⟩ := start0 w F
 have A0_0 := fl_of h0_0
 have A0_1 := z.rd h0_1
 have A0_2 := fl_of h0_2
 have A0_3 := z.rd h0_3
 refine calls_of_TM (args := [(.agg #[(.int .i64 a0.Xmin), (.int .i64 a0.Xmax), (.int .i64 a0.Key.Kind), (.int .i64 a0.Key.N), w0_0, w0_1, (.int .i64 a0.Value.Kind), (.int .i64 a0.Value.N), w0_2, w0_3])]) (R := fun r en w' => ∃ v, en = .returned v ∧ impl_TupleOk.Q s0.w F r v w') Tryz.func112 Tryz.ntmps112 rfl rfl m ?_
 unfold impl_TupleOk.f
 refine sr ?_
 refine bx (cs := [(.int .i64 a0.Xmin), (.int .i64 a0.Xmax), (.int .i64 a0.Key.Kind), (.int .i64 a0.Key.N), w0_0, w0_1, (.int .i64 a0.Value.Kind), (.int .i64 a0.Value.N), w0_2, w0_3]) 40 rfl rfl rfl rfl rfl rfl (fun b3 s3 p3 B3 => ?_)
 refine pu rfl rfl rfl rfl rfl ?_
 refine dn ?_
 refine sr ?_
 refine fa fa58_0 rfl rfl rfl rfl rfl rfl ?_
 refine ld B3 Tryz.underlying3 rfl rfl rfl rfl rfl rfl rfl rfl ?_
 refine cl rfl rfl rfl rfl rfl Tryz.func205 rfl rfl rfl (fun r5 m5 => impl_isXid.calls a0.Xmin s3.w (fun b => memb [] (s3.g b) = true)  r5 m5) ?_
 rintro r5 _ w5 m5 ⟨rfl, ky5⟩
 obtain ⟨s6, rfl, p6, n6⟩ := nwx s3 w5 41 ky5
 refine pu rfl rfl rfl rfl rfl ?_
 refine ji [8, 9, 10, 11, 12, 13, 14, 15, 16, 17, 18, 19, 20, 21, 22, 23, 24] (fun (y7 : Bool) (e : Env) (w : World) => ∃ (s : St) (e0 : Env), w = s.w ∧ e = upd (upd e0 1 (.pointer (some ⟨b3, 0, none⟩))) 10 (.bool y7) ∧ Kp s0 s ∧ BlF s b3 58 [(.int .i64 a0.Xmin), (.int .i64 a0.Xmax), (.int .i64 a0.Key.Kind), (.int .i64 a0.Key.N), w0_0, w0_1, (.int .i64 a0.Value.Kind), (.int .i64 a0.Value.N), w0_2, w0_3] 40) (fun Gj7 Kj7 => ?_) ?_
 ·
  rcases Bool.eq_false_or_eq_true r5 with hb7 | hb7
  ·
   refine sbT hb7 ?_
   rw [if_pos hb7]
   refine fa fa58_1 rfl rfl rfl rfl rfl rfl ?_
   have A8 := (BlF.st B3 p6 rfl)
   refine ld A8 Tryz.underlying3 rfl rfl rfl rfl rfl rfl rfl rfl ?_
   refine cl rfl rfl rfl rfl rfl Tryz.func102 rfl rfl rfl (fun r9 m9 => impl_within.calls a0.Xmax (0 : Int) (400 : Int) s6.w (fun b => memb [] (s6.g b) = true)  r9 m9) ?_
   rintro r9 _ w9 m9 ⟨rfl, ky9⟩
   obtain ⟨s10, rfl, p10, n10⟩ := nwx s6 w9 42 ky9
   refine pu rfl rfl rfl rfl rfl ?_
   have A11 := (BlF.st A8 p10 rfl)
   have K12 := (((kp0.st p3 rfl).st p6 rfl).st p10 rfl)
   exact Kj7 _ _ _ ⟨s10, _, rfl, (ue (ue rfl rfl) rfl), K12, A11⟩
  ·
   refine sbT hb7 ?_
   rw [if_neg (by rw [hb7]; decide)]
   refine uw rfl rfl rfl rfl ?_
   refine uw rfl rfl rfl rfl ?_
   refine uw rfl rfl rfl rfl ?_
   refine pu rfl rfl rfl rfl rfl ?_
   have A13 := (BlF.st B3 p6 rfl)
   have K14 := ((kp0.st p3 rfl).st p6 rfl)
   exact Kj7 _ _ _ ⟨s6, _, rfl, (ue (ue rfl rfl) rfl), K14, A13⟩
 rintro y7 _ _ ⟨s15, _, rfl, rfl, Ky7, By7_b3⟩
 refine pu rfl rfl rfl rfl rfl ?_
 refine ji [13, 14, 15, 16, 17, 18, 19, 20, 21, 22, 23, 24] (fun (y17 : Bool) (e : Env) (w : World) => ∃ (s : St) (e0 : Env), w = s.w ∧ e = upd (upd e0 1 (.pointer (some ⟨b3, 0, none⟩))) 15 (.bool y17) ∧ Kp s0 s ∧ BlF s b3 58 [(.int .i64 a0.Xmin), (.int .i64 a0.Xmax), (.int .i64 a0.Key.Kind), (.int .i64 a0.Key.N), w0_0, w0_1, (.int .i64 a0.Value.Kind), (.int .i64 a0.Value.N), w0_2, w0_3] 40) (fun Gj17 Kj17 => ?_) ?_
 ·
  rcases Bool.eq_false_or_eq_true y7 with hb17 | hb17
  ·
   refine sbT hb17 ?_
   rw [if_pos hb17]
   refine fa fa58_2 rfl rfl rfl rfl rfl rfl ?_
   refine lda (es := [(.int .i64 a0.Key.Kind), (.int .i64 a0.Key.N), w0_0, w0_1]) By7_b3 Tryz.underlying33 z33 rfl rfl rfl rfl rfl rfl rfl rfl ?_
   have A18 := (A0_1.kp Ky7)
   refine cl rfl rfl rfl rfl rfl Tryz.func76 rfl rfl rfl (fun r19 m19 => impl_KeyOk.calls a0.Key s15.w (fun b => memb [0] (s15.g b) = true) w0_0 w0_1 ((fl_rdf (s := s15) A0_0).sub (D := [0]) rfl) A18 r19 m19) ?_
   rintro r19 _ w19 m19 ⟨rfl, ky19⟩
   obtain ⟨s20, rfl, p20, n20⟩ := nwx s15 w19 43 ky19
   refine pu rfl rfl rfl rfl rfl ?_
   have A21 := (BlF.st By7_b3 p20 rfl)
   have K22 := (Ky7.st p20 rfl)
   exact Kj17 _ _ _ ⟨s20, _, rfl, (ue (ue rfl rfl) rfl), K22, A21⟩
  ·
   refine sbT hb17 ?_
   rw [if_neg (by rw [hb17]; decide)]
   refine uw rfl rfl rfl rfl ?_
   refine uw rfl rfl rfl rfl ?_
   refine uw rfl rfl rfl rfl ?_
   refine pu rfl rfl rfl rfl rfl ?_
   exact Kj17 _ _ _ ⟨s15, _, rfl, (ue (ue rfl rfl) rfl), Ky7, By7_b3⟩
 rintro y17 _ _ ⟨s23, _, rfl, rfl, Ky17, By17_b3⟩
 refine pu rfl rfl rfl rfl rfl ?_
 refine ji [18, 19, 20, 21, 22, 23, 24] (fun (y25 : Bool) (e : Env) (w : World) => ∃ (s : St) (e0 : Env), w = s.w ∧ e = upd (upd e0 1 (.pointer (some ⟨b3, 0, none⟩))) 20 (.bool y25) ∧ Kp s0 s ∧ BlF s b3 58 [(.int .i64 a0.Xmin), (.int .i64 a0.Xmax), (.int .i64 a0.Key.Kind), (.int .i64 a0.Key.N), w0_0, w0_1, (.int .i64 a0.Value.Kind), (.int .i64 a0.Value.N), w0_2, w0_3] 40) (fun Gj25 Kj25 => ?_) ?_
 ·
  rcases Bool.eq_false_or_eq_true y17 with hb25 | hb25
  ·
   refine sbT hb25 ?_
   rw [if_pos hb25]
   refine fa fa58_3 rfl rfl rfl rfl rfl rfl ?_
   refine lda (es := [(.int .i64 a0.Value.Kind), (.int .i64 a0.Value.N), w0_2, w0_3]) By17_b3 Tryz.underlying33 z33 rfl rfl rfl rfl rfl rfl rfl rfl ?_
   have A26 := (A0_3.kp Ky17)
   refine cl rfl rfl rfl rfl rfl Tryz.func165 rfl rfl rfl (fun r27 m27 => impl_ItemOk.calls a0.Value s23.w (fun b => memb [0] (s23.g b) = true) w0_2 w0_3 ((fl_rdf (s := s23) A0_2).sub (D := [0]) rfl) A26 r27 m27) ?_
   rintro r27 _ w27 m27 ⟨rfl, ky27⟩
   obtain ⟨s28, rfl, p28, n28⟩ := nwx s23 w27 44 ky27
   refine pu rfl rfl rfl rfl rfl ?_
   have A29 := (BlF.st By17_b3 p28 rfl)
   have K30 := (Ky17.st p28 rfl)
   exact Kj25 _ _ _ ⟨s28, _, rfl, (ue (ue rfl rfl) rfl), K30, A29⟩
  ·
   refine sbT hb25 ?_
   rw [if_neg (by rw [hb25]; decide)]
   refine uw rfl rfl rfl rfl ?_
   refine uw rfl rfl rfl rfl ?_
   refine uw rfl rfl rfl rfl ?_
   refine pu rfl rfl rfl rfl rfl ?_
   exact Kj25 _ _ _ ⟨s23, _, rfl, (ue (ue rfl rfl) rfl), Ky17, By17_b3⟩
 rintro y25 _ _ ⟨s31, _, rfl, rfl, Ky25, By25_b3⟩
 refine pu rfl rfl rfl rfl rfl ?_
 refine jy [21, 22, 23, 24, 25, 26] [24] 26 (.bool (y25 && (a0.Value.Kind != (0 : Int)))) rfl (fun Kg33 => ?_) (fun j33 => ?_)
 ·
  rcases Bool.eq_false_or_eq_true y25 with hb33 | hb33
  ·
   refine sbT hb33 ?_
   refine fa fa58_3 rfl rfl rfl rfl rfl rfl ?_
   refine fa fa33_0 rfl rfl rfl rfl rfl rfl ?_
   refine ld By25_b3 Tryz.underlying3 rfl rfl rfl rfl rfl rfl rfl rfl ?_
   refine pu rfl rfl rfl rfl rfl ?_
   refine pu rfl rfl rfl rfl rfl ?_
   exact Kg33 _ (Ag.put ((Ag.put ((Ag.put ((Ag.put ((Ag.put (Ag.base rfl) rfl)) rfl)) rfl)) rfl)) rfl) (by rw [hb33]; rfl)
  ·
   refine sbT hb33 ?_
   refine uw rfl rfl rfl rfl ?_
   refine uw rfl rfl rfl rfl ?_
   refine uw rfl rfl rfl rfl ?_
   refine uw rfl rfl rfl rfl ?_
   refine pu rfl rfl rfl rfl rfl ?_
   exact Kg33 _ (Ag.put ((Ag.put ((Ag.put ((Ag.put ((Ag.put (Ag.base rfl) rfl)) rfl)) rfl)) rfl)) rfl) (by rw [hb33]; rfl)
 refine pu rfl rfl rfl rfl rfl ?_
 refine dn ?_
 exact re rfl Tryz.func112 rfl (r_t rfl r_nil) rfl ⟨_, rfl, rfl, z.ky Ky25⟩
noncomputable def impl_PutNum.b0 (a1 : Int) (x12 : Int × (List Int) × Int) : Option ((Int × (List Int) × Int) ⊕ (List Int)) :=
 (if (decide (x12.2.2 < a1)) = true then (if x12.2.1.length + ([(IntKind.wrap .u8 x12.1)]).length ≤ Lim then (some (Sum.inl ((ishr .i64 x12.1 (8 : Int)), (x12.2.1 ++ [(IntKind.wrap .u8 x12.1)]), (IntKind.wrap .i64 (x12.2.2 + (1 : Int)))))) else none) else ((some x12.2.1).bind fun o => some (Sum.inr o)))
noncomputable def impl_PutNum.f (a0 : Int) (a1 : Int) : Option ((List Int)) :=
 ((impl_within.f a1 (1 : Int) (8 : Int)).bind fun r1 => ((if ((!r1) || (decide (a0 < (0 : Int)))) = true then (some true) else ((if (decide (a1 < (8 : Int))) = true then (if 0 ≤ (IntKind.wrap .i64 ((8 : Int) * a1)) then (some ((ishr .i64 a0 (IntKind.wrap .i64 ((8 : Int) * a1))) != (0 : Int))) else none) else (some false)).bind fun y6 => (some y6))).bind fun y4 => (if y4 = true then (some ([] : (List Int))) else (iter (impl_PutNum.b0 a1) (a0, ([] : (List Int)), (0 : Int))))))
def impl_PutNum.Q (w : World) (F : Nat → Prop) (r : (List Int)) (v : Value) (w' : World) : Prop :=
 FO (Kd.sl 5 (Kd.int .u8)) w w' [v] r ∧ Ky [] w w'
set_option maxHeartbeats 4000000 in
set_option maxRecDepth 100000 in
theorem impl_PutNum.calls (a0 : Int) (a1 : Int) (w : World) (F : Nat → Prop)   (r : (List Int)) (m : impl_PutNum.f a0 a1 = some r) :
  Calls Tryz.prog 195 #[(.int .i64 a0), (.int .i64 a1)] w fun en w' => ∃ v, en = .returned v ∧ impl_PutNum.Q w F r v w' := by
 obtain ⟨s0, rfl, kp0, z⟩ := start0 w F
 refine calls_of_TM (args := [(.int .i64 a0), (.int .i64 a1)]) (R := fun r en w' => ∃ v, en = .returned v ∧ impl_PutNum.Q s0.w F r v w') Tryz.func195 Tryz.ntmps195 rfl rfl m ?_
 unfold impl_PutNum.f
 refine sr ?_
 refine pu rfl rfl rfl rfl rfl ?_
 refine dn ?_
 refine sq ?_
 refine sr ?_
 refine pu rfl rfl rfl rfl rfl ?_
 refine cl rfl rfl rfl rfl rfl Tryz.func102 rfl rfl rfl (fun r1 m1 => impl_within.calls a1 (1 : Int) (8 : Int) s0.w (fun b => memb [] (s0.g b) = true)  r1 m1) ?_
 rintro r1 _ w1 m1 ⟨rfl, ky1⟩
 obtain ⟨s2, rfl, p2, n2⟩ := nwx s0 w1 40 ky1
 refine pu rfl rfl rfl rfl rfl ?_
 refine pu rfl rfl rfl rfl rfl ?_
 refine jy [9, 10, 11, 12] [7, 8, 9, 10, 11, 12, 13, 14, 15, 16, 17] 12 (.bool ((!r1) || (decide (a0 < (0 : Int))))) rfl (fun Kg3 => ?_) (fun j3 => ?_)
 ·
  rcases Bool.eq_false_or_eq_true (!r1) with hb3 | hb3
  ·
   refine sbT hb3 ?_
   refine uw rfl rfl rfl rfl ?_
   refine uw rfl rfl rfl rfl ?_
   refine pu rfl rfl rfl rfl rfl ?_
   exact Kg3 _ (Ag.put ((Ag.put ((Ag.put (Ag.base rfl) rfl)) rfl)) rfl) (by rw [hb3]; rfl)
  ·
   refine sbT hb3 ?_
   refine pu rfl rfl rfl rfl rfl ?_
   refine pu rfl rfl rfl rfl rfl ?_
   refine pu rfl rfl rfl rfl rfl ?_
   exact Kg3 _ (Ag.put ((Ag.put ((Ag.put (Ag.base rfl) rfl)) rfl)) rfl) (by rw [hb3]; rfl)
 refine pu rfl rfl rfl rfl rfl ?_
 refine ji [] (fun (y4 : Bool) (e : Env) (w : World) => ∃ (s : St) (e0 : Env), w = s.w ∧ e = upd (upd (upd e0 0 (.int .i64 a0)) 1 (.int .i64 a1)) 23 (.bool y4) ∧ Kp s0 s) (fun Gj4 Kj4 => ?_) ?_
 ·
  rcases Bool.eq_false_or_eq_true ((!r1) || (decide (a0 < (0 : Int)))) with hb4 | hb4
  ·
   refine sbT hb4 ?_
   rw [if_pos hb4]
   refine uw rfl rfl rfl rfl ?_
   refine uw rfl rfl rfl rfl ?_
   refine uw rfl rfl rfl rfl ?_
   refine uw rfl rfl rfl rfl ?_
   refine uw rfl rfl rfl rfl ?_
   refine uw rfl rfl rfl rfl ?_
   refine uw rfl rfl rfl rfl ?_
   refine uw rfl rfl rfl rfl ?_
   refine uw rfl rfl rfl rfl ?_
   refine pu rfl rfl rfl rfl rfl ?_
   have K5 := (kp0.st p2 rfl)
   exact Kj4 _ _ _ ⟨s2, _, rfl, (ue (ue (ue rfl rfl) rfl) rfl), K5⟩
  ·
   refine sbT hb4 ?_
   rw [if_neg (by rw [hb4]; decide)]
   refine pu rfl rfl rfl rfl rfl ?_
   refine pu rfl rfl rfl rfl rfl ?_
   refine pu rfl rfl rfl rfl rfl ?_
   refine ji [17] (fun (y6 : Bool) (e : Env) (w : World) => ∃ (s : St) (e0 : Env), w = s.w ∧ e = upd (upd (upd (upd e0 0 (.int .i64 a0)) 1 (.int .i64 a1)) 13 (.bool false)) 22 (.bool y6) ∧ Kp s0 s) (fun Gj6 Kj6 => ?_) ?_
   ·
    rcases Bool.eq_false_or_eq_true (decide (a1 < (8 : Int))) with hb6 | hb6
    ·
     refine sbT hb6 ?_
     rw [if_pos hb6]
     refine pu rfl rfl rfl rfl rfl ?_
     refine pu rfl rfl rfl rfl rfl ?_
     refine pu rfl rfl rfl rfl rfl ?_
     refine shr_ rfl rfl rfl rfl rfl rfl rfl ?_
     refine pu rfl rfl rfl rfl rfl ?_
     refine pu rfl rfl rfl rfl rfl ?_
     have K7 := (kp0.st p2 rfl)
     exact Kj6 _ _ _ ⟨s2, _, rfl, (ue (ue (ue (ue rfl rfl) rfl) rfl) rfl), K7⟩
    ·
     refine sbT hb6 ?_
     rw [if_neg (by rw [hb6]; decide)]
     refine uw rfl rfl rfl rfl ?_
     refine uw rfl rfl rfl rfl ?_
     refine uw rfl rfl rfl rfl ?_
     refine uw rfl rfl rfl rfl ?_
     refine uw rfl rfl rfl rfl ?_
     refine pu rfl rfl rfl rfl rfl ?_
     have K8 := (kp0.st p2 rfl)
     exact Kj6 _ _ _ ⟨s2, _, rfl, (ue (ue (ue (ue rfl rfl) rfl) rfl) rfl), K8⟩
   rintro y6 _ _ ⟨s9, _, rfl, rfl, Ky6⟩
   refine pu rfl rfl rfl rfl rfl ?_
   exact Kj4 _ _ _ ⟨s9, _, rfl, (ue (ue (ue rfl rfl) rfl) rfl), Ky6⟩
 rintro y4 _ _ ⟨s10, _, rfl, rfl, Ky4⟩
 refine dn ?_
 refine cd rfl (fun h11 => ?_) (fun h11 => ?_)
 ·
  refine sr ?_
  refine pu rfl rfl rfl rfl rfl ?_
  refine dn ?_
  exact re rfl Tryz.func195 rfl (r_t rfl r_nil) rfl ⟨_, rfl, (ow_nil 5 (Kd.int .u8) s10 40).fo Ky4 rfl z.l, z.ky Ky4⟩
 ·
  refine sk ?_
  refine sr ?_
  refine pu rfl rfl rfl rfl rfl ?_
  refine dn ?_
  refine sq ?_
  refine sr ?_
  refine pu rfl rfl rfl rfl rfl ?_
  refine pu rfl rfl rfl rfl rfl ?_
  refine dn ?_
  refine bl ?_
  refine lpI (fun (x12 : Int × (List Int) × Int) (e : Env) (w : World) => ∃ (s : St) (e0 : Env) (vx12_0 : Value), w = s.w ∧ e = upd (upd (upd (upd e0 0 (.int .i64 x12.1)) 5 vx12_0) 24 (.int .i64 a1)) 25 (.int .i64 x12.2.2) ∧ Kp s0 s ∧ OwF (Kd.sl 5 (Kd.int .u8)) s [vx12_0] x12.2.1 41) ⟨s10, _, (.slice none 0 0), rfl, (ue (ue (ue (ue rfl rfl) rfl) rfl) rfl), Ky4, (ow_nil 5 (Kd.int .u8) _ 41)⟩ (fun g12 ih12 => ?_)
  rintro x12 _ _ ⟨s13, _, vx12_0, rfl, rfl, Kx12, Ax12_0⟩
  unfold impl_PutNum.b0
  refine sr ?_
  refine pu rfl rfl rfl rfl rfl ?_
  refine dn ?_
  refine sq ?_
  refine cd rfl (fun h15 => ?_) (fun h15 => ?_)
  ·
   refine sk ?_
   refine sq ?_
   refine bl ?_
   refine sr ?_
   refine mv vx12_0 rfl rfl rfl rfl rfl rfl ?_
   refine pu rfl rfl rfl rfl rfl ?_
   refine cv Tryz.underlying5 Tryz.underlying3 rfl rfl rfl rfl rfl rfl ?_
   refine ltF (K := (Kd.int .u8)) (cells := [(.int .u8 (IntKind.wrap .u8 x12.1))]) [(IntKind.wrap .u8 x12.1)] 42 fl_int Tryz.underlying24 z5 o5 (fun w => (els_flat _ _ _)) rfl rfl rfl rfl rfl rfl rfl rfl rfl rfl (fun v16 s16 p16 A16 => ?_)
   have A18 := (Ax12_0.st p16 rfl)
   refine apF fl_int sl24 A18 A16.rd rfl rfl rfl rfl rfl rfl rfl (fun v19 s19 p19 A19 => ?_)
   refine asg v19 rfl rfl rfl rfl rfl rfl ?_
   refine dn ?_
   refine rg ?_
   refine pu rfl rfl rfl rfl rfl ?_
   refine shrK rfl rfl rfl rfl rfl rfl rfl rfl ?_
   refine pu rfl rfl rfl rfl rfl ?_
   refine dn ?_
   refine ib ?_
   refine rg ?_
   refine pu rfl rfl rfl rfl rfl ?_
   refine pu rfl rfl rfl rfl rfl ?_
   refine dn ?_
   have K21 := ((Kx12.st p16 rfl).st p19 rfl)
   exact lb ih12 ⟨s19, _, v19, rfl, (ue (ue (ue (ue rfl rfl) rfl) rfl) rfl), K21, A19⟩
  ·
   refine xt rfl ?_
   refine sgb ?_
   refine sr ?_
   refine mv vx12_0 rfl rfl rfl rfl rfl rfl ?_
   refine asg vx12_0 rfl rfl rfl rfl rfl rfl ?_
   refine dn ?_
   exact re rfl Tryz.func195 rfl (r_t rfl r_nil) rfl ⟨_, rfl, Ax12_0.fo Kx12 rfl z.l, z.ky Kx12⟩
noncomputable def slices_Grow_byte_byte_nil.f (a1 : Int) : Option ((List Int)) :=
 (if (decide (a1 < (0 : Int))) = true then none else ((if (decide ((IntKind.wrap .i64 (a1 - (IntKind.wrap .i64 ((0 : Int) - (([] : (List Int)).length : Int))))) > (0 : Int))) = true then (if 0 ≤ (IntKind.wrap .i64 (a1 - (IntKind.wrap .i64 ((0 : Int) - (([] : (List Int)).length : Int))))) ∧ (([] : (List Int)).length : Int) + (IntKind.wrap .i64 (a1 - (IntKind.wrap .i64 ((0 : Int) - (([] : (List Int)).length : Int))))) ≤ (Lim : Int) then (if 0 ≤ (([] : (List Int)).length : Int) ∧ (([] : (List Int)).length : Int) ≤ ((([] : (List Int)) ++ List.replicate ((IntKind.wrap .i64 (a1 - (IntKind.wrap .i64 ((0 : Int) - (([] : (List Int)).length : Int)))))).toNat (0 : Int)).length : Int) then (some ((([] : (List Int)) ++ List.replicate ((IntKind.wrap .i64 (a1 - (IntKind.wrap .i64 ((0 : Int) - (([] : (List Int)).length : Int)))))).toNat (0 : Int)).take ((([] : (List Int)).length : Int)).toNat)) else none) else none) else (some ([] : (List Int)))).bind fun y2 => (some y2)))
def slices_Grow_byte_byte_nil.Q (w : World) (F : Nat → Prop) (r : (List Int)) (v : Value) (w' : World) : Prop :=
 FO (Kd.sl 5 (Kd.int .u8)) w w' [v] r ∧ Ky [] w w'
set_option maxHeartbeats 4000000 in
set_option maxRecDepth 100000 in
theorem slices_Grow_byte_byte_nil.calls (a1 : Int) (w : World) (F : Nat → Prop)   (r : (List Int)) (m : slices_Grow_byte_byte_nil.f a1 = some r) :
  Calls Tryz.prog 265 #[(.slice none 0 0), (.int .i64 a1)] w fun en w' => ∃ v, en = .returned v ∧ slices_Grow_byte_byte_nil.Q w F r v w' := by
 obtain ⟨s0, rfl, kp0, z⟩ := start0 w F
 refine calls_of_TM (args := [(.slice none 0 0), (.int .i64 a1)]) (R := fun r en w' => ∃ v, en = .returned v ∧ slices_Grow_byte_byte_nil.Q s0.w F r v w') Tryz.func265 Tryz.ntmps265 rfl rfl m ?_
 unfold slices_Grow_byte_byte_nil.f
 refine sr ?_
 refine pu rfl rfl rfl rfl rfl ?_
 refine dn ?_
 refine sq ?_
 refine sr ?_
 refine pu rfl rfl rfl rfl rfl ?_
 refine pu rfl rfl rfl rfl rfl ?_
 refine dn ?_
 refine cd rfl (fun h1 => ?_) (fun h1 => ?_)
 ·
  refine rg ?_
  exact mn
 ·
  refine sk ?_
  refine sq ?_
  refine sr ?_
  refine pu rfl rfl rfl rfl rfl ?_
  refine pu rfl rfl rfl rfl rfl ?_
  refine cpn Tryz.underlying24 rfl rfl rfl rfl rfl rfl ?_
  refine pu rfl rfl rfl rfl rfl ?_
  refine ln (rd_nil 5 (Kd.int .u8) s0 []) Tryz.underlying24 rfl rfl rfl rfl rfl rfl ?_
  refine pu rfl rfl rfl rfl rfl ?_
  refine pu rfl rfl rfl rfl rfl ?_
  refine pu rfl rfl rfl rfl rfl ?_
  refine dn ?_
  refine sr ?_
  refine pu rfl rfl rfl rfl rfl ?_
  refine pu rfl rfl rfl rfl rfl ?_
  refine dn ?_
  refine jc (fun (y2 : (List Int)) (e : Env) (w : World) => ∃ (s : St) (e0 : Env) (vy2_0 : Value), w = s.w ∧ e = upd e0 0 vy2_0 ∧ Kp s0 s ∧ OwF (Kd.sl 5 (Kd.int .u8)) s [vy2_0] y2 40) (fun Gj2 Kj2 => ?_) ?_
  ·
   refine cd rfl (fun h3 => ?_) (fun h3 => ?_)
   ·
    refine rg ?_
    refine pu rfl rfl rfl rfl rfl ?_
    refine pu rfl rfl rfl rfl rfl ?_
    refine cpn Tryz.underlying24 rfl rfl rfl rfl rfl rfl ?_
    refine nlh Tryz.underlying24 z5 rfl rfl rfl rfl rfl rfl rfl ?_
    refine pu rfl rfl rfl rfl rfl ?_
    refine apZ (x0 := (0 : Int)) fl_int sl24 o5 (fun _ => ⟨rfl, rfl⟩) Tryz.underlying3 (ow_nil 5 (Kd.int .u8) s0 40) rfl rfl rfl rfl rfl rfl rfl (fun v4 s4 p4 A4 => ?_)
    refine pu rfl rfl rfl rfl rfl ?_
    refine ln (rd_nil 5 (Kd.int .u8) s4 []) Tryz.underlying24 rfl rfl rfl rfl rfl rfl ?_
    refine slo fl_int A4 Tryz.underlying24 z5 rfl rfl rfl rfl rfl rfl rfl (fun v6 A6 => ?_)
    refine asg v6 rfl rfl rfl rfl rfl rfl ?_
    refine dn ?_
    have K8 := (kp0.st p4 rfl)
    exact Kj2 _ _ _ ⟨s4, _, v6, rfl, (ue rfl rfl), K8, A6⟩
   ·
    refine sk ?_
    exact Kj2 _ _ _ ⟨s0, _, (.slice none 0 0), rfl, (ue rfl rfl), kp0, (ow_nil 5 (Kd.int .u8) _ 40)⟩
  rintro y2 _ _ ⟨s9, _, vy2_0, rfl, rfl, Ky2, Ay2_0⟩
  refine sr ?_
  refine mv vy2_0 rfl rfl rfl rfl rfl rfl ?_
  refine asg vy2_0 rfl rfl rfl rfl rfl rfl ?_
  refine dn ?_
  exact re rfl Tryz.func265 rfl (r_t rfl r_nil) rfl ⟨_, rfl, Ay2_0.fo Ky2 rfl z.l, z.ky Ky2⟩
noncomputable def slices_Concat_byte_byte.b1 (a0 : (List (List Int))) (x15 : (List Int) × Int) : Option (((List Int) × Int) ⊕ (List Int)) :=
 (if (decide (x15.2 < (a0.length : Int))) = true then (if 0 ≤ x15.2 ∧ x15.2 < (a0.length : Int) then (if x15.1.length + (at_ a0 x15.2).length ≤ Lim then (some (Sum.inl ((x15.1 ++ (at_ a0 x15.2)), (IntKind.wrap .i64 (x15.2 + (1 : Int)))))) else none) else none) else ((some x15.1).bind fun o => some (Sum.inr o)))
noncomputable def slices_Concat_byte_byte.b0 (a0 : (List (List Int))) (x2 : Int × Int) : Option ((Int × Int) ⊕ (List Int)) :=
 (if (decide (x2.2 < (a0.length : Int))) = true then (if 0 ≤ x2.2 ∧ x2.2 < (a0.length : Int) then (if (decide ((IntKind.wrap .i64 (x2.1 + ((at_ a0 x2.2).length : Int))) < (0 : Int))) = true then none else (some (Sum.inl ((IntKind.wrap .i64 (x2.1 + ((at_ a0 x2.2).length : Int))), (IntKind.wrap .i64 (x2.2 + (1 : Int))))))) else none) else (((slices_Grow_byte_byte_nil.f x2.1).bind fun r10 => (iter (slices_Concat_byte_byte.b1 a0) (r10, (0 : Int)))).bind fun o => some (Sum.inr o)))
noncomputable def slices_Concat_byte_byte.f (a0 : (List (List Int))) : Option ((List Int)) :=
 (iter (slices_Concat_byte_byte.b0 a0) ((0 : Int), (0 : Int)))
def slices_Concat_byte_byte.Q (w : World) (F : Nat → Prop) (r : (List Int)) (v : Value) (w' : World) : Prop :=
 FO (Kd.sl 5 (Kd.int .u8)) w w' [v] r ∧ Ky [] w w'
set_option maxHeartbeats 4000000 in
set_option maxRecDepth 100000 in
theorem slices_Concat_byte_byte.calls (a0 : (List (List Int))) (w : World) (F : Nat → Prop) (w0_0 : Value) (h0_0 : (Kd.sl 24 (Kd.sl 5 (Kd.int .u8))).rd w [w0_0] a0 F) (r : (List Int)) (m : slices_Concat_byte_byte.f a0 = some r) :
  Calls Tryz.prog 194 #[w0_0] w fun en w' => ∃ v, en = .returned v ∧ slices_Concat_byte_byte.Q w F r v w' := by
 obtain ⟨s0, rfl, kp0, z⟩ := start0 w F
 have A0_0 := z.rd h0_0
 refine calls_of_TM (args := [w0_0]) (R := fun r en w' => ∃ v, en = .returned v ∧ slices_Concat_byte_byte.Q s0.w F r v w') Tryz.func194 Tryz.ntmps194 rfl rfl m ?_
 unfold slices_Concat_byte_byte.f
 refine sr ?_
 refine pu rfl rfl rfl rfl rfl ?_
 refine dn ?_
 refine sr ?_
 refine pu rfl rfl rfl rfl rfl ?_
 refine dn ?_
 refine sq ?_
 refine sr ?_
 refine mv w0_0 rfl rfl rfl rfl rfl rfl ?_
 refine ln A0_0 Tryz.underlying140 rfl rfl rfl rfl rfl rfl ?_
 refine pu rfl rfl rfl rfl rfl ?_
 refine dn ?_
 refine bl ?_
 refine lpI (fun (x2 : Int × Int) (e : Env) (w : World) => ∃ (s : St) (e0 : Env), w = s.w ∧ e = upd (upd (upd (upd (upd e0 0 w0_0) 3 (.int .i64 x2.1)) 9 w0_0) 10 (.int .i64 (a0.length : Int))) 11 (.int .i64 x2.2) ∧ Kp s0 s) ⟨s0, _, rfl, (ue (ue (ue (ue (ue rfl rfl) rfl) rfl) rfl) rfl), kp0⟩ (fun g2 ih2 => ?_)
 rintro x2 _ _ ⟨s3, _, rfl, rfl, Kx2⟩
 unfold slices_Concat_byte_byte.b0
 refine sr ?_
 refine pu rfl rfl rfl rfl rfl ?_
 refine dn ?_
 refine sq ?_
 refine cd rfl (fun h4 => ?_) (fun h4 => ?_)
 ·
  refine sk ?_
  refine sq ?_
  refine bl ?_
  refine sr ?_
  have A5 := (A0_0.kp Kx2)
  refine ix A5 Tryz.underlying140 z24 rfl rfl rfl rfl rfl rfl rfl rfl (fun ad6 es6 h0_6 h1_6 he6 ce6 ia6 => ?_)
  obtain ⟨v6, rfl, he6'⟩ := he6
  have A6 : RdF (Kd.sl 5 (Kd.int .u8)) s3 [v6] (at_ a0 x2.2) [0] := ⟨v6, rfl, he6'⟩
  refine lc0 ce6 Tryz.underlying24 rfl rfl rfl rfl rfl rfl rfl rfl ?_
  refine asg v6 rfl rfl rfl rfl rfl rfl ?_
  refine dn ?_
  refine sr ?_
  refine pu rfl rfl rfl rfl rfl ?_
  refine mv v6 rfl rfl rfl rfl rfl rfl ?_
  refine ln A6 Tryz.underlying24 rfl rfl rfl rfl rfl rfl ?_
  refine pu rfl rfl rfl rfl rfl ?_
  refine pu rfl rfl rfl rfl rfl ?_
  refine dn ?_
  refine sr ?_
  refine pu rfl rfl rfl rfl rfl ?_
  refine pu rfl rfl rfl rfl rfl ?_
  refine dn ?_
  refine cd rfl (fun h9 => ?_) (fun h9 => ?_)
  ·
   refine rg ?_
   exact mn
  ·
   refine sk ?_
   refine ib ?_
   refine rg ?_
   refine pu rfl rfl rfl rfl rfl ?_
   refine pu rfl rfl rfl rfl rfl ?_
   refine dn ?_
   exact lb ih2 ⟨s3, _, rfl, (ue (ue (ue (ue (ue rfl rfl) rfl) rfl) rfl) rfl), Kx2⟩
 ·
  refine xt rfl ?_
  refine sgb ?_
  refine sr ?_
  refine pu rfl rfl rfl rfl rfl ?_
  refine cl rfl rfl rfl rfl rfl Tryz.func265 rfl rfl rfl (fun r10 m10 => slices_Grow_byte_byte_nil.calls x2.1 s3.w (fun b => memb [] (s3.g b) = true)  r10 m10) ?_
  rintro r10 v10_0 w10 m10 ⟨f10_0, ky10⟩
  obtain ⟨s11, rfl, p11, n11⟩ := nwx s3 w10 40 ky10
  have A10_0 := f10_0.c n11
  refine asg v10_0 rfl rfl rfl rfl rfl rfl ?_
  refine dn ?_
  refine sq ?_
  refine sr ?_
  refine mv w0_0 rfl rfl rfl rfl rfl rfl ?_
  have K13 := (Kx2.st p11 rfl)
  have A14 := (A0_0.kp K13)
  refine ln A14 Tryz.underlying140 rfl rfl rfl rfl rfl rfl ?_
  refine pu rfl rfl rfl rfl rfl ?_
  refine dn ?_
  refine bl ?_
  refine lpI (fun (x15 : (List Int) × Int) (e : Env) (w : World) => ∃ (s : St) (e0 : Env) (vx15_0 : Value), w = s.w ∧ e = upd (upd (upd (upd e0 6 vx15_0) 25 w0_0) 26 (.int .i64 (a0.length : Int))) 27 (.int .i64 x15.2) ∧ Kp s0 s ∧ OwF (Kd.sl 5 (Kd.int .u8)) s [vx15_0] x15.1 40) ⟨s11, _, v10_0, rfl, (ue (ue (ue (ue rfl rfl) rfl) rfl) rfl), K13, A10_0⟩ (fun g15 ih15 => ?_)
  rintro x15 _ _ ⟨s16, _, vx15_0, rfl, rfl, Kx15, Ax15_0⟩
  unfold slices_Concat_byte_byte.b1
  refine sr ?_
  refine pu rfl rfl rfl rfl rfl ?_
  refine dn ?_
  refine sq ?_
  refine cd rfl (fun h18 => ?_) (fun h18 => ?_)
  ·
   refine sk ?_
   refine sq ?_
   refine bl ?_
   refine sr ?_
   have A19 := (A0_0.kp Kx15)
   refine ix A19 Tryz.underlying140 z24 rfl rfl rfl rfl rfl rfl rfl rfl (fun ad20 es20 h0_20 h1_20 he20 ce20 ia20 => ?_)
   obtain ⟨v20, rfl, he20'⟩ := he20
   have A20 : RdF (Kd.sl 5 (Kd.int .u8)) s16 [v20] (at_ a0 x15.2) [0] := ⟨v20, rfl, he20'⟩
   refine lc0 ce20 Tryz.underlying24 rfl rfl rfl rfl rfl rfl rfl rfl ?_
   refine asg v20 rfl rfl rfl rfl rfl rfl ?_
   refine dn ?_
   refine rg ?_
   refine mv vx15_0 rfl rfl rfl rfl rfl rfl ?_
   refine mv v20 rfl rfl rfl rfl rfl rfl ?_
   refine apF fl_int sl24 Ax15_0 A20 rfl rfl rfl rfl rfl rfl rfl (fun v23 s23 p23 A23 => ?_)
   refine asg v23 rfl rfl rfl rfl rfl rfl ?_
   refine dn ?_
   refine ib ?_
   refine rg ?_
   refine pu rfl rfl rfl rfl rfl ?_
   refine pu rfl rfl rfl rfl rfl ?_
   refine dn ?_
   have K25 := (Kx15.st p23 rfl)
   exact lb ih15 ⟨s23, _, v23, rfl, (ue (ue (ue (ue rfl rfl) rfl) rfl) rfl), K25, A23⟩
  ·
   refine xt rfl ?_
   refine sgb ?_
   refine sr ?_
   refine mv vx15_0 rfl rfl rfl rfl rfl rfl ?_
   refine asg vx15_0 rfl rfl rfl rfl rfl rfl ?_
   refine dn ?_
   exact re rfl Tryz.func194 rfl (r_t rfl r_nil) rfl ⟨_, rfl, Ax15_0.fo Kx15 rfl z.l, z.ky Kx15⟩
end Go.Proofs.YtcagjdngannneaaGreat
