/- The functions as models, and that the calls come to what the models tell. -/
import Derived.Test.YtegicanjlefmdaaGreatGsc
set_option linter.unusedVariables false
set_option linter.unusedSimpArgs false
set_option maxHeartbeats 4000000
set_option maxRecDepth 100000
noncomputable section
namespace Go.Proofs.YtegicanjlefmdaaGreat
open Go V Tryz
def laws_FnHeaps.b0 (r28 : (List Row)) (r205 : (List Row)) (x212 : Int) : Option (Int ⊕ Bool) :=
 (if (decide (x212 < (r28.length : Int))) = true then (if 0 ≤ x212 ∧ x212 < (r205.length : Int) then (if 0 ≤ x212 ∧ x212 < (r28.length : Int) then ((if ((at_ r205 x212).Page != (at_ r28 x212).Page) = true then (some true) else (if 0 ≤ x212 ∧ x212 < (r205.length : Int) then (if 0 ≤ x212 ∧ x212 < (r28.length : Int) then ((if ((at_ r205 x212).Slot != (at_ r28 x212).Slot) = true then (some (true, true)) else (if 0 ≤ x212 ∧ x212 < (r205.length : Int) then (if 0 ≤ x212 ∧ x212 < (r28.length : Int) then ((laws_sameTuple.f (Tuple.mk (((at_ r205 x212).Tuple).Xmin) (((at_ r205 x212).Tuple).Xmax) (((at_ r205 x212).Tuple).Key) (((at_ r205 x212).Tuple).Value)) (Tuple.mk (((at_ r28 x212).Tuple).Xmin) (((at_ r28 x212).Tuple).Xmax) (((at_ r28 x212).Tuple).Key) (((at_ r28 x212).Tuple).Value))).bind fun r316 => (some (false, (!r316)))) else none) else none)).bind fun y286 => (some y286.2)) else none) else none)).bind fun y240 => (if y240 = true then (some (Sum.inr false)) else (some (Sum.inl (IntKind.wrap .i64 (x212 + (1 : Int))))))) else none) else none) else ((some true).bind fun o => some (Sum.inr o)))
def laws_FnHeaps.f (a0 : (List Int)) : Option (Bool) :=
 ((laws_big.f a0).bind fun r2 => (if r2 = true then (some true) else ((spec_DrawHeapPut.f a0).bind fun r8 => ((spec_HeapRows.f r8.1).bind fun r28 => ((impl_HeapPut.f r8.1 r8.2.1 r8.2.2.1 r8.2.2.2.1 r8.2.2.2.2).bind fun r36 => ((spec_HeapPut.f r8.1 r8.2.1 r8.2.2.1 r8.2.2.2.1 r8.2.2.2.2).bind fun r49 => (if (!(r36.2 == r49.2)) = true then (some false) else (if (!r36.2) = true then (some ((r36.1.Pages.length : Int) == (0 : Int))) else ((impl_HeapAt.f r36.1 r8.2.1 r8.2.2.1).bind fun r65 => ((if (!r65.2) = true then (some true) else ((laws_sameTuple.f r8.2.2.2.1 r65.1).bind fun r89 => (some (!r89)))).bind fun y76 => ((if y76 = true then (some true) else ((impl_HeapRows.f r36.1).bind fun r102 => (some ((r102.length : Int) != (IntKind.wrap .i64 ((r28.length : Int) + (1 : Int))))))).bind fun y101 => ((if y101 = true then (some true) else ((impl_HeapOk.f r36.1).bind fun r116 => (some (!r116)))).bind fun y115 => (if y115 = true then (some false) else ((laws_at.f a0 (0 : Int)).bind fun r130 => ((impl_HeapMark.f r36.1 r8.2.1 r8.2.2.1 (IntKind.wrap .i64 ((1 : Int) + (r130.tmod (9 : Int)))) r8.2.2.2.2).bind fun r134 => ((impl_HeapAt.f r134.1 r8.2.1 r8.2.2.1).bind fun r143 => ((if (((!r134.2) || (r143.1.Xmax != (IntKind.wrap .i64 ((1 : Int) + (r130.tmod (9 : Int)))))) || (r143.1.Xmin != r8.2.2.2.1.Xmin)) = true then (some true) else ((laws_sameItem.f r143.1.Key r8.2.2.2.1.Key).bind fun r170 => (some (!r170)))).bind fun y157 => ((if y157 = true then (some true) else ((laws_sameItem.f r143.1.Value r8.2.2.2.1.Value).bind fun r187 => (some (!r187)))).bind fun y186 => (if y186 = true then (some false) else ((impl_HeapClear.f r134.1 r8.2.1 r8.2.2.1 r8.2.2.2.2).bind fun r196 => ((impl_HeapRows.f r196.1).bind fun r205 => (if ((!r196.2) || ((r205.length : Int) != (r28.length : Int))) = true then (some false) else (iter (laws_FnHeaps.b0 r28 r205) (0 : Int))))))))))))))))))))))))
def laws_FnHeaps.Q (w : World) (F : Nat → Prop) (r : Bool) (v : Value) (w' : World) : Prop :=
 v = (.bool r) ∧ Ky [] w w'
theorem laws_FnHeaps.calls (a0 : (List Int)) (w : World) (F : Nat → Prop) (w0_0 : Value) (h0_0 : Yq.rd w [w0_0] a0 F) (r : Bool) (m : laws_FnHeaps.f a0 = some r) :
  Calls prog 3 #[w0_0] w (RT (laws_FnHeaps.Q w F) r) := by
 obtain ⟨s0, rfl, kp0, z⟩ := Xm w F
 have A0_0 := z.rd h0_0
 refine Xd (args := [w0_0]) func3 ntmps3 rfl rfl m ?_
 unfold laws_FnHeaps.f
 refine sr (Xc rfl (dn (sq (sr (Yi w0_0 rfl (clV 40 rfl func9 rfl (laws_big.calls a0 s0.w (mm [0] s0) w0_0 A0_0) (fun r2 s3 p3 n3 => ?_)))))))
 refine dn (cd rfl (fun h4 => ?_) (fun h4 => ?_))
 ·
  refine sr (Xc rfl (dn ?_))
  exact re rfl func3 rfl (Ya rfl Xh) rfl ⟨_, rfl, rfl, z.ky (kp0.st p3 rfl)⟩
 refine sk (sr (Yi w0_0 rfl ?_))
 have K6 := kp0.st p3 rfl
 refine cl' rfl func10 rfl (spec_DrawHeapPut.calls a0 s3.w (mm [0] s3) w0_0 (A0_0.kp K6)) ?_
 rintro r8 _ w8 m8 ⟨v8_0, v8_1, v8_2, v8_3, v8_4, rfl, f8_0, f8_1, ky8⟩
 obtain ⟨s9, rfl, p9, n9⟩ := nwx s3 w8 41 ky8
 have Au8_0_0 := ap26 (f8_0.c n9)
 obtain ⟨u8_1_0, u8_1_1, u8_1_2, u8_1_3, e8_1, hu8_1_0, hu8_1_1, hu8_1_2, hu8_1_3⟩ := op31 (OwF.rd (f8_1.c n9))
 have yu8_1_0 : v8_1 = u8_1_0 := congrArg (fun l => (List.drop 4 l).headD undef) e8_1
 have yu8_1_1 : v8_2 = u8_1_1 := congrArg (fun l => (List.drop 5 l).headD undef) e8_1
 have yu8_1_2 : v8_3 = u8_1_2 := congrArg (fun l => (List.drop 8 l).headD undef) e8_1
 have yu8_1_3 : v8_4 = u8_1_3 := congrArg (fun l => (List.drop 9 l).headD undef) e8_1
 subst yu8_1_0
 subst yu8_1_1
 subst yu8_1_2
 subst yu8_1_3
 refine Xc rfl (Xc (v := (.agg #[v8_0])) rfl (Xc (v := (iI r8.2.1)) rfl (Xc (v := (iI r8.2.2.1)) rfl (Xc (v := (.agg #[(iI r8.2.2.2.1.Xmin), (iI r8.2.2.2.1.Xmax), (iI r8.2.2.2.1.Key.Kind), (iI r8.2.2.2.1.Key.N), v8_1, v8_2, (iI r8.2.2.2.1.Value.Kind), (iI r8.2.2.2.1.Value.N), v8_3, v8_4])) rfl (Xc (v := (iI r8.2.2.2.2)) rfl (al' (cs := [(.slice none 0 0)]) 42 rfl o26 rfl (fun b13 s13 p13 B13 => ?_)))))))
 refine al' (cs := [(iI 0), (iI 0), (iI 0), (iI 0), (.float .f64 0), (.slice none 0 0), (iI 0), (iI 0), (.float .f64 0), (.slice none 0 0)]) 43 rfl o31 rfl (fun b15 s15 p15 B15 => ?_)
 have A18 := Au8_0_0.st (Xo p13 p15) rfl
 refine Xu (vs := [v8_0]) (B13.st p15 rfl) z26 rfl (Xb A18.rd.one Xj) rfl (fun s19 p19 B19 => ?_)
 refine Xc rfl (Xc rfl ?_)
 have A22 := hu8_1_3.st (Yj p13 p15 p19) rfl
 have A23 := hu8_1_1.st (Yj p13 p15 p19) rfl
 refine Xu (vs := [(iI r8.2.2.2.1.Xmin), (iI r8.2.2.2.1.Xmax), (iI r8.2.2.2.1.Key.Kind), (iI r8.2.2.2.1.Key.N), v8_1, v8_2, (iI r8.2.2.2.1.Value.Kind), (iI r8.2.2.2.1.Value.N), v8_3, v8_4]) (B15.st p19 rfl) z31 rfl (Xb rfl (Xb rfl (Xb rfl (Xb rfl (Xb (FL.one hu8_1_0) (Xb A23.one (Xb rfl (Xb rfl (Xb (FL.one hu8_1_2) (Xb A22.one Xj)))))))))) rfl (fun s24 p24 B24 => ?_)
 refine Xc rfl (dn (sr ?_))
 have A26 := B19.st p24 rfl
 refine Xw (es := [v8_0]) A26 u26 z26 rfl ?_
 have A27 := A18.st (Xo p19 p24) rfl
 refine clO 44 rfl func11 rfl (spec_HeapRows.calls r8.1 s24.w (mm [41] s24) v8_0 A27.rd) (fun r28 v28_0 s29 p29 A28_0 => ?_)
 refine Yk v28_0 rfl (dn (sr ?_))
 have A31 := A26.st p29 rfl
 refine Xw (es := [v8_0]) A31 u26 z26 rfl (Xc rfl (Xc rfl ?_))
 have A32 := B24.st p29 rfl
 refine Xw (es := [(iI r8.2.2.2.1.Xmin), (iI r8.2.2.2.1.Xmax), (iI r8.2.2.2.1.Key.Kind), (iI r8.2.2.2.1.Key.N), v8_1, v8_2, (iI r8.2.2.2.1.Value.Kind), (iI r8.2.2.2.1.Value.N), v8_3, v8_4]) A32 u31 z31 rfl (Xc rfl ?_)
 have A33 := A27.st p29 rfl
 have A34 := A23.st (Xo p24 p29) rfl
 have A35 := A22.st (Xo p24 p29) rfl
 refine cl' rfl func12 rfl (impl_HeapPut.calls r8.1 r8.2.1 r8.2.2.1 r8.2.2.2.1 r8.2.2.2.2 s29.w (mm [41] s29) v8_0 v8_1 v8_2 v8_3 v8_4 A33.rd ((Xp (s := s29) hu8_1_0).sub (D := [41]) rfl) A34 ((Xp (s := s29) hu8_1_2).sub (D := [41]) rfl) A35) ?_
 rintro r36 _ w36 m36 ⟨v36_0, rfl, f36_0, ky36⟩
 obtain ⟨s37, rfl, p37, n37⟩ := nwx s29 w36 45 ky36
 refine Xc rfl (Xc (v := (.agg #[v36_0])) rfl (Xc (v := (.bool r36.2)) rfl (al' (cs := [(.slice none 0 0)]) 46 rfl o26 rfl (fun b39 s39 p39 B39 => ?_))))
 have A41 := (ap26 (f36_0.c n37)).st p39 rfl
 refine Xu (vs := [v36_0]) B39 z26 rfl (Xb A41.rd.one Xj) rfl (fun s42 p42 B42 => ?_)
 refine Xc rfl (dn (sr ?_))
 refine Xw (es := [v8_0]) (A31.st (Yj p37 p39 p42) rfl) u26 z26 rfl (Xc rfl (Xc rfl ?_))
 have A45 := A32.st (Yj p37 p39 p42) rfl
 refine Xw (es := [(iI r8.2.2.2.1.Xmin), (iI r8.2.2.2.1.Xmax), (iI r8.2.2.2.1.Key.Kind), (iI r8.2.2.2.1.Key.N), v8_1, v8_2, (iI r8.2.2.2.1.Value.Kind), (iI r8.2.2.2.1.Value.N), v8_3, v8_4]) A45 u31 z31 rfl (Xc rfl ?_)
 have A47 := A34.st (Yj p37 p39 p42) rfl
 have A48 := A35.st (Yj p37 p39 p42) rfl
 refine cl' rfl func13 rfl (spec_HeapPut.calls r8.1 r8.2.1 r8.2.2.1 r8.2.2.2.1 r8.2.2.2.2 s42.w (mm [41] s42) v8_0 v8_1 v8_2 v8_3 v8_4 (A33.st (Yj p37 p39 p42) rfl).rd ((Xp (s := s42) hu8_1_0).sub (D := [41]) rfl) A47 ((Xp (s := s42) hu8_1_2).sub (D := [41]) rfl) A48) ?_
 rintro r49 _ w49 m49 ⟨v49_0, rfl, f49_0, ky49⟩
 obtain ⟨s50, rfl, p50, n50⟩ := nwx s42 w49 47 ky49
 refine Xc rfl (Xc (v := (.agg #[v49_0])) rfl (Xc (v := (.bool r49.2)) rfl (al' (cs := [(.slice none 0 0)]) 48 rfl o26 rfl (fun b52 s52 p52 B52 => ?_))))
 refine Xu (vs := [v49_0]) B52 z26 rfl (Xb ((ap26 (f49_0.c n50)).st p52 rfl).rd.one Xj) rfl (fun s55 p55 B55 => ?_)
 refine Xc rfl (dn (sq (sr (Xc rfl (Xc rfl (bne_ u4 rfl rfl rfl rfl rfl rfl rfl (dn (cd rfl (fun h57 => ?_) (fun h57 => ?_)))))))))
 ·
  refine sr (Xc rfl (dn ?_))
  exact re rfl func3 rfl (Ya rfl Xh) rfl ⟨_, rfl, rfl, z.ky (K6.st (tr12 p9 p13 p15 p19 p24 p29 p37 p39 p42 p50 p52 p55) rfl)⟩
 refine sk (sq (sr (Xc rfl (Xc rfl (dn (cd rfl (fun h59 => ?_) (fun h59 => ?_)))))))
 ·
  refine sr (Yd fa26_0 rfl ?_)
  refine Ym (B42.st (Yj p50 p52 p55) rfl) u24 rfl (ln' (A41.st (Yl p42 p50 p52 p55) rfl).rd u24 rfl (Xc rfl (Xc rfl (dn ?_))))
  exact re rfl func3 rfl (Ya rfl Xh) rfl ⟨_, rfl, rfl, z.ky (K6.st (tr12 p9 p13 p15 p19 p24 p29 p37 p39 p42 p50 p52 p55) rfl)⟩
 refine sk (sr ?_)
 have A63 := B42.st (Yj p50 p52 p55) rfl
 refine Xw (es := [v36_0]) A63 u26 z26 rfl (Xc rfl (Xc rfl ?_))
 have A64 := A41.st (Yl p42 p50 p52 p55) rfl
 refine cl' rfl func14 rfl (impl_HeapAt.calls r36.1 r8.2.1 r8.2.2.1 s55.w (mm [45] s55) v36_0 A64.rd) ?_
 rintro r65 _ w65 m65 ⟨v65_0, v65_1, v65_2, v65_3, rfl, f65_0, ky65⟩
 obtain ⟨s66, rfl, p66, n66⟩ := nwx s55 w65 49 ky65
 obtain ⟨s67, hw67, p67, hu65_0_0, Au65_0_1, hu65_0_2, Au65_0_3⟩ := ap31 50 (f65_0.c n66) rfl
 rw [hw67]
 refine Xc rfl (Xc (v := (.agg #[(iI r65.1.Xmin), (iI r65.1.Xmax), (iI r65.1.Key.Kind), (iI r65.1.Key.N), v65_0, v65_1, (iI r65.1.Value.Kind), (iI r65.1.Value.N), v65_2, v65_3])) rfl (Xc (v := (.bool r65.2)) rfl (al' (cs := [(iI 0), (iI 0), (iI 0), (iI 0), (.float .f64 0), (.slice none 0 0), (iI 0), (iI 0), (.float .f64 0), (.slice none 0 0)]) 51 rfl o31 rfl (fun b70 s70 p70 B70 => ?_))))
 have A72 := Au65_0_3.st p70 rfl
 have A73 := Au65_0_1.st p70 rfl
 refine Xu (vs := [(iI r65.1.Xmin), (iI r65.1.Xmax), (iI r65.1.Key.Kind), (iI r65.1.Key.N), v65_0, v65_1, (iI r65.1.Value.Kind), (iI r65.1.Value.N), v65_2, v65_3]) B70 z31 rfl (Xb rfl (Xb rfl (Xb rfl (Xb rfl (Xb (FL.one hu65_0_0) (Xb A73.rd.one (Xb rfl (Xb rfl (Xb (FL.one hu65_0_2) (Xb A72.rd.one Xj)))))))))) rfl (fun s74 p74 B74 => ?_)
 refine Xc rfl (dn (sq (sr (Xc rfl (Xc rfl (Xc rfl (ji [8, 9, 10, 11, 12, 13, 14, 15, 16, 17, 18, 19, 20, 21] (fun (y76 : Bool) e w => ∃ (s : St) (e0 : Env), w = s.w ∧ e = upd (upd (upd (upd (upd (upd (upd (upd e0 0 w0_0) 4 (iI r8.2.1)) 5 (iI r8.2.2.1)) 6 (pB b15)) 7 (iI r8.2.2.2.2)) 8 v28_0) 9 (pB b39)) 77 (.bool y76) ∧ Kp s0 s ∧ BlF s b39 26 [v36_0] 46 ∧ BlF s b15 31 [(iI r8.2.2.2.1.Xmin), (iI r8.2.2.2.1.Xmax), (iI r8.2.2.2.1.Key.Kind), (iI r8.2.2.2.1.Key.N), v8_1, v8_2, (iI r8.2.2.2.1.Value.Kind), (iI r8.2.2.2.1.Value.N), v8_3, v8_4] 43 ∧ OwF Yt s [v28_0] r28 44 ∧ OwF Ys s [v36_0] r36.1.Pages 45 ∧ RdF Yq s [v8_2] r8.2.2.2.1.Key.T [41] ∧ RdF Yq s [v8_4] r8.2.2.2.1.Value.T [41]) (fun Gj76 Kj76 => ?_) ?_)))))))
 ·
  rcases bft (!r65.2) with hb76 | hb76
  ·
   refine Yc hb76 ?_
   rw [if_pos hb76]
   refine Xk rfl (Xk rfl (Xk rfl (Xk rfl (Xc rfl ?_))))
   exact Kj76 _ _ _ ⟨s74, _, rfl, (ue (ue (ue (ue (ue (ue (ue (ue rfl rfl) rfl) rfl) rfl) rfl) rfl) rfl) rfl), (K6.st (tr5 (tr12 p9 p13 p15 p19 p24 p29 p37 p39 p42 p50 p52 p55) p66 p67 p70 p74) rfl), (A63.st (Yl p66 p67 p70 p74) rfl), (A45.st (tr7 p50 p52 p55 p66 p67 p70 p74) rfl), (A28_0.st (tr10 p37 p39 p42 p50 p52 p55 p66 p67 p70 p74) rfl), (A64.st (Yl p66 p67 p70 p74) rfl), (A47.st (tr7 p50 p52 p55 p66 p67 p70 p74) rfl), (A48.st (tr7 p50 p52 p55 p66 p67 p70 p74) rfl)⟩
  refine Yc hb76 ?_
  rw [if_neg (by rw [hb76]; decide)]
  have A84 := A45.st (tr7 p50 p52 p55 p66 p67 p70 p74) rfl
  refine Xw (es := [(iI r8.2.2.2.1.Xmin), (iI r8.2.2.2.1.Xmax), (iI r8.2.2.2.1.Key.Kind), (iI r8.2.2.2.1.Key.N), v8_1, v8_2, (iI r8.2.2.2.1.Value.Kind), (iI r8.2.2.2.1.Value.N), v8_3, v8_4]) A84 u31 z31 rfl (Xw (es := [(iI r65.1.Xmin), (iI r65.1.Xmax), (iI r65.1.Key.Kind), (iI r65.1.Key.N), v65_0, v65_1, (iI r65.1.Value.Kind), (iI r65.1.Value.N), v65_2, v65_3]) B74 u31 z31 rfl ?_)
  have A85 := A47.st (tr7 p50 p52 p55 p66 p67 p70 p74) rfl
  have A86 := A48.st (tr7 p50 p52 p55 p66 p67 p70 p74) rfl
  refine clV 52 rfl func15 rfl (laws_sameTuple.calls r8.2.2.2.1 r65.1 s74.w (mm [41, 49, 50] s74) v8_1 v8_2 v8_3 v8_4 v65_0 v65_1 v65_2 v65_3 ((Xp (s := s74) hu8_1_0).sub (D := [41, 49, 50]) rfl) (A85.sub (D := [41, 49, 50]) rfl) ((Xp (s := s74) hu8_1_2).sub (D := [41, 49, 50]) rfl) (A86.sub (D := [41, 49, 50]) rfl) ((Xp (s := s74) hu65_0_0).sub (D := [41, 49, 50]) rfl) ((A73.st p74 rfl).rd.sub (D := [41, 49, 50]) rfl) ((Xp (s := s74) hu65_0_2).sub (D := [41, 49, 50]) rfl) ((A72.st p74 rfl).rd.sub (D := [41, 49, 50]) rfl)) (fun r89 s90 p90 n90 => ?_)
  refine Xc rfl (Xc rfl ?_)
  exact Kj76 _ _ _ ⟨s90, _, rfl, (ue (ue (ue (ue (ue (ue (ue (ue rfl rfl) rfl) rfl) rfl) rfl) rfl) rfl) rfl), (K6.st (tr6 (tr12 p9 p13 p15 p19 p24 p29 p37 p39 p42 p50 p52 p55) p66 p67 p70 p74 p90) rfl), (A63.st (tr5 p66 p67 p70 p74 p90) rfl), (A84.st p90 rfl), (A28_0.st (tr11 p37 p39 p42 p50 p52 p55 p66 p67 p70 p74 p90) rfl), (A64.st (tr5 p66 p67 p70 p74 p90) rfl), (A85.st p90 rfl), (A86.st p90 rfl)⟩
 rintro y76 _ _ ⟨s98, _, rfl, rfl, Ky76, By76_b39, By76_b15, Cy76_30, Cy76_38, Cy76_11, Cy76_12⟩
 refine Xc rfl (ji [17, 18, 19, 20, 21] (fun (y101 : Bool) e w => ∃ (s : St) (e0 : Env), w = s.w ∧ e = upd (upd (upd (upd (upd (upd (upd (upd e0 0 w0_0) 4 (iI r8.2.1)) 5 (iI r8.2.2.1)) 6 (pB b15)) 7 (iI r8.2.2.2.2)) 8 v28_0) 9 (pB b39)) 86 (.bool y101) ∧ Kp s0 s ∧ BlF s b39 26 [v36_0] 46 ∧ BlF s b15 31 [(iI r8.2.2.2.1.Xmin), (iI r8.2.2.2.1.Xmax), (iI r8.2.2.2.1.Key.Kind), (iI r8.2.2.2.1.Key.N), v8_1, v8_2, (iI r8.2.2.2.1.Value.Kind), (iI r8.2.2.2.1.Value.N), v8_3, v8_4] 43 ∧ OwF Yt s [v28_0] r28 44 ∧ OwF Ys s [v36_0] r36.1.Pages 45 ∧ RdF Yq s [v8_2] r8.2.2.2.1.Key.T [41] ∧ RdF Yq s [v8_4] r8.2.2.2.1.Value.T [41]) (fun Gj101 Kj101 => ?_) ?_)
 ·
  rcases bft y76 with hb101 | hb101
  ·
   refine Yc hb101 ?_
   rw [if_pos hb101]
   exact Xk rfl (Xk rfl (Xk rfl (Xk rfl (Xk rfl (Xk rfl (Xk rfl (Xc rfl (Kj101 _ _ _ ⟨s98, _, rfl, (ue (ue (ue (ue (ue (ue (ue (ue rfl rfl) rfl) rfl) rfl) rfl) rfl) rfl) rfl), Ky76, By76_b39, By76_b15, Cy76_30, Cy76_38, Cy76_11, Cy76_12⟩))))))))
  refine Yc hb101 ?_
  rw [if_neg (by rw [hb101]; decide)]
  refine Xw (es := [v36_0]) By76_b39 u26 z26 rfl (clO 53 rfl func16 rfl (impl_HeapRows.calls r36.1 s98.w (mm [45] s98) v36_0 Cy76_38.rd) (fun r102 v102_0 s103 p103 A102_0 => ?_))
  refine ln' A102_0.rd u34 rfl (Yi v28_0 rfl ?_)
  have A105 := Cy76_30.st p103 rfl
  refine ln' A105.rd u34 rfl (Xc rfl (Xc rfl (Xc rfl ?_)))
  exact Kj101 _ _ _ ⟨s103, _, rfl, (ue (ue (ue (ue (ue (ue (ue (ue rfl rfl) rfl) rfl) rfl) rfl) rfl) rfl) rfl), (Ky76.st p103 rfl), (By76_b39.st p103 rfl), (By76_b15.st p103 rfl), A105, (Cy76_38.st p103 rfl), (Cy76_11.st p103 rfl), (Cy76_12.st p103 rfl)⟩
 rintro y101 _ _ ⟨s112, _, rfl, rfl, Ky101, By101_b39, By101_b15, Cy101_30, Cy101_38, Cy101_11, Cy101_12⟩
 refine Xc rfl (ji [] (fun (y115 : Bool) e w => ∃ (s : St) (e0 : Env), w = s.w ∧ e = upd (upd (upd (upd (upd (upd (upd (upd e0 0 w0_0) 4 (iI r8.2.1)) 5 (iI r8.2.2.1)) 6 (pB b15)) 7 (iI r8.2.2.2.2)) 8 v28_0) 9 (pB b39)) 91 (.bool y115) ∧ Kp s0 s ∧ BlF s b39 26 [v36_0] 46 ∧ BlF s b15 31 [(iI r8.2.2.2.1.Xmin), (iI r8.2.2.2.1.Xmax), (iI r8.2.2.2.1.Key.Kind), (iI r8.2.2.2.1.Key.N), v8_1, v8_2, (iI r8.2.2.2.1.Value.Kind), (iI r8.2.2.2.1.Value.N), v8_3, v8_4] 43 ∧ OwF Yt s [v28_0] r28 44 ∧ OwF Ys s [v36_0] r36.1.Pages 45 ∧ RdF Yq s [v8_2] r8.2.2.2.1.Key.T [41] ∧ RdF Yq s [v8_4] r8.2.2.2.1.Value.T [41]) (fun Gj115 Kj115 => ?_) ?_)
 ·
  rcases bft y101 with hb115 | hb115
  ·
   refine Yc hb115 ?_
   rw [if_pos hb115]
   exact Xk rfl (Xk rfl (Xk rfl (Xc rfl (Kj115 _ _ _ ⟨s112, _, rfl, (ue (ue (ue (ue (ue (ue (ue (ue rfl rfl) rfl) rfl) rfl) rfl) rfl) rfl) rfl), Ky101, By101_b39, By101_b15, Cy101_30, Cy101_38, Cy101_11, Cy101_12⟩))))
  refine Yc hb115 ?_
  rw [if_neg (by rw [hb115]; decide)]
  refine Xw (es := [v36_0]) By101_b39 u26 z26 rfl (clV 54 rfl func17 rfl (impl_HeapOk.calls r36.1 s112.w (mm [45] s112) v36_0 Cy101_38.rd) (fun r116 s117 p117 n117 => ?_))
  refine Xc rfl (Xc rfl ?_)
  exact Kj115 _ _ _ ⟨s117, _, rfl, (ue (ue (ue (ue (ue (ue (ue (ue rfl rfl) rfl) rfl) rfl) rfl) rfl) rfl) rfl), (Ky101.st p117 rfl), (By101_b39.st p117 rfl), (By101_b15.st p117 rfl), (Cy101_30.st p117 rfl), (Cy101_38.st p117 rfl), (Cy101_11.st p117 rfl), (Cy101_12.st p117 rfl)⟩
 rintro y115 _ _ ⟨s125, _, rfl, rfl, Ky115, By115_b39, By115_b15, Cy115_30, Cy115_38, Cy115_11, Cy115_12⟩
 refine dn (cd rfl (fun h128 => ?_) (fun h128 => ?_))
 ·
  exact sr (Xc rfl (dn (re rfl func3 rfl (Ya rfl Xh) rfl ⟨_, rfl, rfl, z.ky Ky115⟩)))
 refine sk (sr (Yi w0_0 rfl ?_))
 refine clV 55 rfl func18 rfl (laws_at.calls a0 (0 : Int) s125.w (mm [0] s125) w0_0 (A0_0.kp Ky115)) (fun r130 s131 p131 n131 => ?_)
 refine remK rfl rfl rfl rfl rfl rfl rfl rfl (Xc rfl (Xc rfl (dn (sr ?_))))
 refine Xw (es := [v36_0]) (By115_b39.st p131 rfl) u26 z26 rfl (Xc rfl (Xc rfl (Xc rfl (Xc rfl ?_))))
 refine cl' rfl func19 rfl (impl_HeapMark.calls r36.1 r8.2.1 r8.2.2.1 (IntKind.wrap .i64 ((1 : Int) + (r130.tmod (9 : Int)))) r8.2.2.2.2 s131.w (mm [45] s131) v36_0 (Cy115_38.st p131 rfl).rd) ?_
 rintro r134 _ w134 m134 ⟨v134_0, rfl, f134_0, ky134⟩
 obtain ⟨s135, rfl, p135, n135⟩ := nwx s131 w134 56 ky134
 refine Xc rfl (Xc (v := (.agg #[v134_0])) rfl (Xc (v := (.bool r134.2)) rfl (al' (cs := [(.slice none 0 0)]) 57 rfl o26 rfl (fun b137 s137 p137 B137 => ?_))))
 have A139 := (ap26 (f134_0.c n135)).st p137 rfl
 refine Xu (vs := [v134_0]) B137 z26 rfl (Xb A139.rd.one Xj) rfl (fun s140 p140 B140 => ?_)
 refine Xc rfl (dn (sr (Xw (es := [v134_0]) B140 u26 z26 rfl (Xc rfl (Xc rfl ?_)))))
 have A142 := A139.st p140 rfl
 refine cl' rfl func14 rfl (impl_HeapAt.calls r134.1 r8.2.1 r8.2.2.1 s140.w (mm [56] s140) v134_0 A142.rd) ?_
 rintro r143 _ w143 m143 ⟨v143_0, v143_1, v143_2, v143_3, rfl, f143_0, ky143⟩
 obtain ⟨s144, rfl, p144, n144⟩ := nwx s140 w143 58 ky143
 obtain ⟨s145, hw145, p145, hu143_0_0, Au143_0_1, hu143_0_2, Au143_0_3⟩ := ap31 59 (f143_0.c n144) rfl
 rw [hw145]
 refine Xc rfl (Xc (v := (.agg #[(iI r143.1.Xmin), (iI r143.1.Xmax), (iI r143.1.Key.Kind), (iI r143.1.Key.N), v143_0, v143_1, (iI r143.1.Value.Kind), (iI r143.1.Value.N), v143_2, v143_3])) rfl (Xc (v := (.bool r143.2)) rfl (al' (cs := [(iI 0), (iI 0), (iI 0), (iI 0), (.float .f64 0), (.slice none 0 0), (iI 0), (iI 0), (.float .f64 0), (.slice none 0 0)]) 60 rfl o31 rfl (fun b148 s148 p148 B148 => ?_))))
 have A150 := Au143_0_3.st p148 rfl
 have A151 := Au143_0_1.st p148 rfl
 refine Xu (vs := [(iI r143.1.Xmin), (iI r143.1.Xmax), (iI r143.1.Key.Kind), (iI r143.1.Key.N), v143_0, v143_1, (iI r143.1.Value.Kind), (iI r143.1.Value.N), v143_2, v143_3]) B148 z31 rfl (Xb rfl (Xb rfl (Xb rfl (Xb rfl (Xb (FL.one hu143_0_0) (Xb A151.rd.one (Xb rfl (Xb rfl (Xb (FL.one hu143_0_2) (Xb A150.rd.one Xj)))))))))) rfl (fun s152 p152 B152 => ?_)
 refine Xc rfl (dn (sq (sr (Xc rfl (Xc rfl (Xc rfl (jy [114, 115, 116, 117, 118, 119] [8, 9, 10, 11, 12, 13, 14, 15, 16, 17, 18, 19, 20, 21, 22, 23, 24, 25, 26, 27, 28, 29, 30] 119 (.bool ((!r134.2) || (r143.1.Xmax != (IntKind.wrap .i64 ((1 : Int) + (r130.tmod (9 : Int))))))) rfl (fun Kg154 => ?_) (fun j154 => ?_))))))))
 ·
  rcases bft (!r134.2) with hb154 | hb154
  ·
   exact Yc hb154 (Xk rfl (Xk rfl (Xk rfl (Xk rfl (Xc rfl (Kg154 _ (Ag.put ((Ag.put ((Ag.put ((Ag.put ((Ag.put (Ag.base rfl) rfl)) rfl)) rfl)) rfl)) rfl) (by rw [hb154]; rfl)))))))
  exact Yc hb154 (Yd fa31_1 rfl (Ym B152 u3 rfl (Xc rfl (Xc rfl (Xc rfl (Kg154 _ (Ag.put ((Ag.put ((Ag.put ((Ag.put ((Ag.put (Ag.base rfl) rfl)) rfl)) rfl)) rfl)) rfl) (by rw [hb154]; rfl)))))))
 refine Xc rfl (jy [120, 121, 122, 123, 124, 125, 126] [15, 16, 17, 18, 19, 20, 21, 22, 23, 24, 25, 26, 27, 28, 29, 30] 126 (.bool (((!r134.2) || (r143.1.Xmax != (IntKind.wrap .i64 ((1 : Int) + (r130.tmod (9 : Int)))))) || (r143.1.Xmin != r8.2.2.2.1.Xmin))) rfl (fun Kg155 => ?_) (fun j155 => ?_))
 ·
  rcases bft ((!r134.2) || (r143.1.Xmax != (IntKind.wrap .i64 ((1 : Int) + (r130.tmod (9 : Int)))))) with hb155 | hb155
  ·
   exact Yc hb155 (Xk rfl (Xk rfl (Xk rfl (Xk rfl (Xk rfl (Xc rfl (Kg155 _ (Ag.put ((Ag.put ((Ag.put ((Ag.put ((Ag.put ((Ag.put (Ag.base rfl) rfl)) rfl)) rfl)) rfl)) rfl)) rfl) (by rw [hb155]; rfl))))))))
  refine Yc hb155 (Yd fa31_0 rfl (Ym B152 u3 rfl (Yd fa31_0 rfl ?_)))
  exact Ym (By115_b15.st (tr8 p131 p135 p137 p140 p144 p145 p148 p152) rfl) u3 rfl (Xc rfl (Xc rfl (Kg155 _ (Ag.put ((Ag.put ((Ag.put ((Ag.put ((Ag.put ((Ag.put (Ag.base rfl) rfl)) rfl)) rfl)) rfl)) rfl)) rfl) (by rw [hb155]; rfl))))
 refine Xc rfl (ji [23, 24, 25, 26, 27, 28, 29, 30] (fun (y157 : Bool) e w => ∃ (s : St) (e0 : Env), w = s.w ∧ e = upd (upd (upd (upd (upd (upd (upd (upd e0 4 (iI r8.2.1)) 5 (iI r8.2.2.1)) 6 (pB b15)) 7 (iI r8.2.2.2.2)) 8 v28_0) 16 (pB b137)) 18 (pB b148)) 134 (.bool y157) ∧ Kp s0 s ∧ BlF s b148 31 [(iI r143.1.Xmin), (iI r143.1.Xmax), (iI r143.1.Key.Kind), (iI r143.1.Key.N), v143_0, v143_1, (iI r143.1.Value.Kind), (iI r143.1.Value.N), v143_2, v143_3] 60 ∧ BlF s b137 26 [v134_0] 57 ∧ BlF s b15 31 [(iI r8.2.2.2.1.Xmin), (iI r8.2.2.2.1.Xmax), (iI r8.2.2.2.1.Key.Kind), (iI r8.2.2.2.1.Key.N), v8_1, v8_2, (iI r8.2.2.2.1.Value.Kind), (iI r8.2.2.2.1.Value.N), v8_3, v8_4] 43 ∧ OwF Yt s [v28_0] r28 44 ∧ OwF Yq s [v143_1] r143.1.Key.T 58 ∧ OwF Yq s [v143_3] r143.1.Value.T 59 ∧ OwF Ys s [v134_0] r134.1.Pages 56 ∧ RdF Yq s [v8_2] r8.2.2.2.1.Key.T [41] ∧ RdF Yq s [v8_4] r8.2.2.2.1.Value.T [41]) (fun Gj157 Kj157 => ?_) ?_)
 ·
  rcases bft (((!r134.2) || (r143.1.Xmax != (IntKind.wrap .i64 ((1 : Int) + (r130.tmod (9 : Int)))))) || (r143.1.Xmin != r8.2.2.2.1.Xmin)) with hb157 | hb157
  ·
   refine Yc hb157 ?_
   rw [if_pos hb157]
   refine Xk rfl (Xk rfl (Xk rfl (Xk rfl (Xk rfl (Xk rfl (Xc rfl ?_))))))
   exact Kj157 _ _ _ ⟨s152, _, rfl, (ue (ue (ue (ue (ue (ue (ue (ue rfl rfl) rfl) rfl) rfl) rfl) rfl) rfl) rfl), (Ky115.st (tr8 p131 p135 p137 p140 p144 p145 p148 p152) rfl), B152, (B140.st (Yl p144 p145 p148 p152) rfl), (By115_b15.st (tr8 p131 p135 p137 p140 p144 p145 p148 p152) rfl), (Cy115_30.st (tr8 p131 p135 p137 p140 p144 p145 p148 p152) rfl), (A151.st p152 rfl), (A150.st p152 rfl), (A142.st (Yl p144 p145 p148 p152) rfl), (Cy115_11.st (tr8 p131 p135 p137 p140 p144 p145 p148 p152) rfl), (Cy115_12.st (tr8 p131 p135 p137 p140 p144 p145 p148 p152) rfl)⟩
  refine Yc hb157 ?_
  rw [if_neg (by rw [hb157]; decide)]
  refine Yd fa31_2 rfl (Xw (es := [(iI r143.1.Key.Kind), (iI r143.1.Key.N), v143_0, v143_1]) B152 u29 z29 rfl (Yd fa31_2 rfl ?_))
  have A167 := By115_b15.st (tr8 p131 p135 p137 p140 p144 p145 p148 p152) rfl
  refine Xw (es := [(iI r8.2.2.2.1.Key.Kind), (iI r8.2.2.2.1.Key.N), v8_1, v8_2]) A167 u29 z29 rfl ?_
  have A168 := A151.st p152 rfl
  have A169 := Cy115_11.st (tr8 p131 p135 p137 p140 p144 p145 p148 p152) rfl
  refine clV 61 rfl func20 rfl (laws_sameItem.calls r143.1.Key r8.2.2.2.1.Key s152.w (mm [58, 41] s152) v143_0 v143_1 v8_1 v8_2 ((Xp (s := s152) hu143_0_0).sub (D := [58, 41]) rfl) (A168.rd.sub (D := [58, 41]) rfl) ((Xp (s := s152) hu8_1_0).sub (D := [58, 41]) rfl) (A169.sub (D := [58, 41]) rfl)) (fun r170 s171 p171 n171 => ?_)
  refine Xc rfl (Xc rfl ?_)
  exact Kj157 _ _ _ ⟨s171, _, rfl, (ue (ue (ue (ue (ue (ue (ue (ue rfl rfl) rfl) rfl) rfl) rfl) rfl) rfl) rfl), (Ky115.st (tr9 p131 p135 p137 p140 p144 p145 p148 p152 p171) rfl), (B152.st p171 rfl), (B140.st (tr5 p144 p145 p148 p152 p171) rfl), (A167.st p171 rfl), (Cy115_30.st (tr9 p131 p135 p137 p140 p144 p145 p148 p152 p171) rfl), (A168.st p171 rfl), (A150.st (Xo p152 p171) rfl), (A142.st (tr5 p144 p145 p148 p152 p171) rfl), (A169.st p171 rfl), (Cy115_12.st (tr9 p131 p135 p137 p140 p144 p145 p148 p152 p171) rfl)⟩
 rintro y157 _ _ ⟨s182, _, rfl, rfl, Ky157, By157_b148, By157_b137, By157_b15, Cy157_30, Cy157_146, Cy157_147, Cy157_136, Cy157_11, Cy157_12⟩
 refine Xc rfl (ji [] (fun (y186 : Bool) e w => ∃ (s : St) (e0 : Env), w = s.w ∧ e = upd (upd (upd (upd (upd (upd e0 4 (iI r8.2.1)) 5 (iI r8.2.2.1)) 7 (iI r8.2.2.2.2)) 8 v28_0) 16 (pB b137)) 142 (.bool y186) ∧ Kp s0 s ∧ BlF s b137 26 [v134_0] 57 ∧ OwF Yt s [v28_0] r28 44 ∧ OwF Ys s [v134_0] r134.1.Pages 56) (fun Gj186 Kj186 => ?_) ?_)
 ·
  rcases bft y157 with hb186 | hb186
  ·
   refine Yc hb186 ?_
   rw [if_pos hb186]
   exact Xk rfl (Xk rfl (Xk rfl (Xk rfl (Xk rfl (Xk rfl (Xc rfl (Kj186 _ _ _ ⟨s182, _, rfl, (ue (ue (ue (ue (ue (ue rfl rfl) rfl) rfl) rfl) rfl) rfl), Ky157, By157_b137, Cy157_30, Cy157_136⟩)))))))
  refine Yc hb186 ?_
  rw [if_neg (by rw [hb186]; decide)]
  refine Yd fa31_3 rfl (Xw (es := [(iI r143.1.Value.Kind), (iI r143.1.Value.N), v143_2, v143_3]) By157_b148 u29 z29 rfl (Yd fa31_3 rfl (Xw (es := [(iI r8.2.2.2.1.Value.Kind), (iI r8.2.2.2.1.Value.N), v8_3, v8_4]) By157_b15 u29 z29 rfl (clV 62 rfl func20 rfl (laws_sameItem.calls r143.1.Value r8.2.2.2.1.Value s182.w (mm [59, 41] s182) v143_2 v143_3 v8_3 v8_4 ((Xp (s := s182) hu143_0_2).sub (D := [59, 41]) rfl) (Cy157_147.rd.sub (D := [59, 41]) rfl) ((Xp (s := s182) hu8_1_2).sub (D := [59, 41]) rfl) (Cy157_12.sub (D := [59, 41]) rfl)) (fun r187 s188 p188 n188 => ?_)))))
  refine Xc rfl (Xc rfl ?_)
  exact Kj186 _ _ _ ⟨s188, _, rfl, (ue (ue (ue (ue (ue (ue rfl rfl) rfl) rfl) rfl) rfl) rfl), (Ky157.st p188 rfl), (By157_b137.st p188 rfl), (Cy157_30.st p188 rfl), (Cy157_136.st p188 rfl)⟩
 rintro y186 _ _ ⟨s193, _, rfl, rfl, Ky186, By186_b137, Cy186_30, Cy186_136⟩
 refine dn (cd rfl (fun h195 => ?_) (fun h195 => ?_))
 ·
  exact sr (Xc rfl (dn (re rfl func3 rfl (Ya rfl Xh) rfl ⟨_, rfl, rfl, z.ky Ky186⟩)))
 refine sk (sr (Xw (es := [v134_0]) By186_b137 u26 z26 rfl (Xc rfl (Xc rfl (Xc rfl (cl' rfl func21 rfl (impl_HeapClear.calls r134.1 r8.2.1 r8.2.2.1 r8.2.2.2.2 s193.w (mm [56] s193) v134_0 Cy186_136.rd) ?_))))))
 rintro r196 _ w196 m196 ⟨v196_0, rfl, f196_0, ky196⟩
 obtain ⟨s197, rfl, p197, n197⟩ := nwx s193 w196 63 ky196
 refine Xc rfl (Xc (v := (.agg #[v196_0])) rfl (Xc (v := (.bool r196.2)) rfl (al' (cs := [(.slice none 0 0)]) 64 rfl o26 rfl (fun b199 s199 p199 B199 => ?_))))
 have A201 := (ap26 (f196_0.c n197)).st p199 rfl
 refine Xu (vs := [v196_0]) B199 z26 rfl (Xb A201.rd.one Xj) rfl (fun s202 p202 B202 => ?_)
 refine Xc rfl (dn (sr (Xw (es := [v196_0]) B202 u26 z26 rfl ?_)))
 refine clO 65 rfl func16 rfl (impl_HeapRows.calls r196.1 s202.w (mm [63] s202) v196_0 (A201.st p202 rfl).rd) (fun r205 v205_0 s206 p206 A205_0 => ?_)
 refine Yk v205_0 rfl (dn (sq (sr (Xc rfl (Xc rfl (Xc rfl (jy [155, 156, 157, 158, 159, 160, 161] [] 161 (.bool ((!r196.2) || ((r205.length : Int) != (r28.length : Int)))) rfl (fun Kg208 => ?_) (fun j208 => ?_))))))))
 ·
  rcases bft (!r196.2) with hb208 | hb208
  ·
   exact Yc hb208 (Xk rfl (Xk rfl (Xk rfl (Xk rfl (Xk rfl (Xc rfl (Kg208 _ (Ag.put ((Ag.put ((Ag.put ((Ag.put ((Ag.put ((Ag.put (Ag.base rfl) rfl)) rfl)) rfl)) rfl)) rfl)) rfl) (by rw [hb208]; rfl))))))))
  refine Yc hb208 (Yi v205_0 rfl (ln' A205_0.rd u34 rfl (Yi v28_0 rfl ?_)))
  exact ln' (Cy186_30.st (Yl p197 p199 p202 p206) rfl).rd u34 rfl (Xc rfl (Xc rfl (Kg208 _ (Ag.put ((Ag.put ((Ag.put ((Ag.put ((Ag.put ((Ag.put (Ag.base rfl) rfl)) rfl)) rfl)) rfl)) rfl)) rfl) (by rw [hb208]; rfl))))
 refine dn (cd rfl (fun h210 => ?_) (fun h210 => ?_))
 ·
  refine sr (Xc rfl (dn ?_))
  exact re rfl func3 rfl (Ya rfl Xh) rfl ⟨_, rfl, rfl, z.ky (Ky186.st (Yl p197 p199 p202 p206) rfl)⟩
 refine sk (sq (sr (Xc rfl (dn (bl ?_)))))
 refine lpI (fun (x212 : Int) e w => ∃ (s : St) (e0 : Env), w = s.w ∧ e = upd (upd (upd e0 8 v28_0) 22 v205_0) 23 (iI x212) ∧ Kp s0 s ∧ OwF Yt s [v28_0] r28 44 ∧ OwF Yt s [v205_0] r205 65) ⟨s206, _, rfl, (ue (ue (ue rfl rfl) rfl) rfl), (Ky186.st (Yl p197 p199 p202 p206) rfl), (Cy186_30.st (Yl p197 p199 p202 p206) rfl), A205_0⟩ (fun g212 ih212 => ?_)
 rintro x212 _ _ ⟨s215, _, rfl, rfl, Kx212, Cx212_30, Cx212_207⟩
 unfold laws_FnHeaps.b0
 refine sq (sr (Xc rfl (Yi v28_0 rfl (ln' Cx212_30.rd u34 rfl (Xc rfl (dn (cd rfl (fun h216 => ?_) (fun h216 => ?_))))))))
 ·
  refine sk (sq (bl (sq (zdraw [[], [], [0, 1], [2], [3], [], [], [5, 6], [7], [8], [4, 9], [10], [11], [11], [12, 13, 11], [14, 11], [15, 11], [11], [11], [17, 18, 11], [19, 11], [20, 11], [16, 21, 11], [11, 22], [23, 11], [24], [24], [25, 26, 24], [27, 24], [28, 24], [24], [24], [30, 31, 24], [32, 24], [33, 24], [29, 34, 24, 24], [35, 24], [24, 36]] [some 168, some 169, some 170, some 171, some 172, some 173, some 174, some 175, some 176, some 177, some 178, some 179, some 180, some 181, some 182, some 183, some 184, some 185, some 186, some 187, some 188, some 189, some 190, some 191, some 192, some 193, some 194, some 195, some 196, some 197, some 198, some 199, some 200, some 201, some 202, some 203, some 204, some 205] [[22], [23], [168, 169], [170], [171], [8], [23], [173, 174], [175], [176], [172, 177], [178], [22, 179], [23, 179], [180, 181, 179], [182, 179], [183, 179], [8, 179], [23, 179], [185, 186, 179], [187, 179], [188, 179], [184, 189, 179], [179, 190], [191], [22, 192], [23, 192], [193, 194, 192], [195, 192], [196, 192], [8, 192], [23, 192], [198, 199, 192], [200, 192], [201, 192], [197, 202, 192], [203, 192], [192, 204]] [0, 1, 2, 3, 4, 5, 6, 7, 8, 9, 10, 11, 12, 13, 14, 15, 16, 17, 18, 19, 20, 21, 22, 23, 24, 25, 26, 27, 28, 29, 30, 31, 32, 33, 34, 35, 36, 37] ⟨by kernel_rfl, by kernel_rfl, by kernel_rfl⟩ (by kernel_rfl) (fun s217 p217 l217 tb217 zd217 => ?_)))))
  have A220 := Cx212_207.st p217 rfl
  refine mg fun hg221 => ?_
  obtain ⟨ad221, es221, he221, ce221, ia221⟩ := ix_e A220.rd rfl hg221.1 hg221.2
  obtain ⟨v221_0, v221_1, v221_2, v221_3, rfl, A221_0, A221_1, A221_2, A221_3⟩ := op47 he221
  have A230 := Cx212_30.st p217 rfl
  refine mg fun hg231 => ?_
  obtain ⟨ad231, es231, he231, ce231, ia231⟩ := ix_e A230.rd rfl hg231.1 hg231.2
  obtain ⟨v231_0, v231_1, v231_2, v231_3, rfl, A231_0, A231_1, A231_2, A231_3⟩ := op47 he231
  have zd239 := (((((((((((zd217.add 0 168 v205_0 rfl).add 1 169 (iI x212) rfl).add 2 170 (.pointer (some ad221)) rfl).add 3 171 (.pointer (some ad221)) rfl).add 4 172 (iI ((at_ r205 x212).Page)) rfl).add 5 173 v28_0 rfl).add 6 174 (iI x212) rfl).add 7 175 (.pointer (some ad231)) rfl).add 8 176 (.pointer (some ad231)) rfl).add 9 177 (iI ((at_ r28 x212).Page)) rfl).add 10 178 (.bool ((at_ r205 x212).Page != (at_ r28 x212).Page)) rfl).add 11 179 (.bool ((at_ r205 x212).Page != (at_ r28 x212).Page)) rfl
  refine ji [] (fun (y240 : Bool) e w => ∃ (s : St) (e0 : Env), w = s.w ∧ e = upd (upd (upd (upd e0 8 v28_0) 22 v205_0) 23 (iI x212)) 205 (.bool y240) ∧ Kp s0 s ∧ OwF Yt s [v28_0] r28 44 ∧ OwF Yt s [v205_0] r205 65) (fun Gj240 Kj240 => ?_) ?_
  ·
   rcases bft ((at_ r205 x212).Page != (at_ r28 x212).Page) with hb240 | hb240
   ·
    rw [if_pos hb240]
    rw [hb240] at zd239
    try rw [hb240]
    have zd253 := ((((((((((((zd239.add 12 180 undef rfl).add 13 181 undef rfl).add 14 182 undef rfl).add 15 183 undef rfl).add 16 184 undef rfl).add 17 185 undef rfl).add 18 186 undef rfl).add 19 187 undef rfl).add 20 188 undef rfl).add 21 189 undef rfl).add 22 190 undef rfl).add 23 191 (.bool true) rfl).add 24 192 (.bool true) rfl
    refine Yo [35, 36, 37] tb217 ((((((((((zd253.add 25 193 undef rfl).add 26 194 undef rfl).add 27 195 undef rfl).add 28 196 undef rfl).add 29 197 undef rfl).add 30 198 undef rfl).add 31 199 undef rfl).add 32 200 undef rfl).add 33 201 undef rfl).add 34 202 undef rfl) (Xa (Xz rfl) rfl (Xa (Xz rfl) rfl (Xa (Xz rfl) rfl (Xa (Xz rfl) rfl (Xa (Xz rfl) rfl (Xa (Xz rfl) rfl (Xa (Xz rfl) rfl (Xa (Xz rfl) rfl (Xa (Xz rfl) rfl (Xa (Xz rfl) rfl (Xa (Xe rfl) rfl (Xa (Xe rfl) rfl (Xa (Xz rfl) rfl (Xa (Xz rfl) rfl (Xa (Xz rfl) rfl (Xa (Xz rfl) rfl (Xa (Xz rfl) rfl (Xa (Xz rfl) rfl (Xa (Xz rfl) rfl (Xa (Xz rfl) rfl (Xa (Xz rfl) rfl (Xa (Xz rfl) rfl (Xa (Xz rfl) rfl (Xa (Xe rfl) rfl (Xa (qv_b (Xe rfl) hb240) rfl (Xa (lc0_q ce231 u3 rfl rfl rfl rfl rfl rfl rfl rfl) rfl (Xa (Xn fa47_0 rfl) rfl (Xa (ix_q' A230.rd u34 z47 hg231.1 hg231.2 ia231 rfl) rfl (Xa (Xe rfl) rfl (Xa (Xq v28_0 rfl) rfl (Xa (lc0_q ce221 u3 rfl rfl rfl rfl rfl rfl rfl rfl) rfl (Xa (Xn fa47_0 rfl) rfl (Xa (ix_q' A220.rd u34 z47 hg221.1 hg221.2 ia221 rfl) rfl (Xa (Xe rfl) rfl (Xa (Xq v205_0 rfl) rfl Xg))))))))))))))))))))))))))))))))))) (by kernel_rfl) (by decide) (Xk rfl ?_)
    refine Xk rfl (Xc rfl ?_)
    exact Kj240 _ _ _ ⟨s217, _, rfl, (ue (ue (ue (ue rfl rfl) rfl) rfl) rfl), (Kx212.st p217 rfl), A230, A220⟩
   rw [if_neg (by rw [hb240]; decide)]
   rw [hb240] at zd239
   try rw [hb240]
   refine mg fun hg267 => ?_
   obtain ⟨ad267, es267, he267, ce267, ia267⟩ := ix_e A220.rd rfl hg267.1 hg267.2
   obtain ⟨v267_0, v267_1, v267_2, v267_3, rfl, A267_0, A267_1, A267_2, A267_3⟩ := op47 he267
   refine mg fun hg276 => ?_
   obtain ⟨ad276, es276, he276, ce276, ia276⟩ := ix_e A230.rd rfl hg276.1 hg276.2
   obtain ⟨v276_0, v276_1, v276_2, v276_3, rfl, A276_0, A276_1, A276_2, A276_3⟩ := op47 he276
   have zd285 := ((((((((((((zd239.add 12 180 v205_0 rfl).add 13 181 (iI x212) rfl).add 14 182 (.pointer (some ad267)) rfl).add 15 183 (.pointer (some (ad267.add 1))) rfl).add 16 184 (iI ((at_ r205 x212).Slot)) rfl).add 17 185 v28_0 rfl).add 18 186 (iI x212) rfl).add 19 187 (.pointer (some ad276)) rfl).add 20 188 (.pointer (some (ad276.add 1))) rfl).add 21 189 (iI ((at_ r28 x212).Slot)) rfl).add 22 190 (.bool ((at_ r205 x212).Slot != (at_ r28 x212).Slot)) rfl).add 23 191 (.bool ((at_ r205 x212).Slot != (at_ r28 x212).Slot)) rfl).add 24 192 (.bool ((at_ r205 x212).Slot != (at_ r28 x212).Slot)) rfl
   refine ji [] (fun (y286 : Bool × Bool) e w => ∃ (s : St) (e0 : Env), w = s.w ∧ e = upd (upd (upd (upd (upd (upd (upd (upd (upd (upd (upd (upd (upd (upd (upd e0 8 v28_0) 22 v205_0) 23 (iI x212)) 180 v205_0) 181 (iI x212)) 182 (.pointer (some ad267))) 183 (.pointer (some (ad267.add 1)))) 184 (iI ((at_ r205 x212).Slot))) 185 v28_0) 186 (iI x212)) 187 (.pointer (some ad276))) 188 (.pointer (some (ad276.add 1)))) 189 (iI ((at_ r28 x212).Slot))) 190 (.bool y286.1)) 205 (.bool y286.2) ∧ Kp s0 s ∧ OwF Yt s [v28_0] r28 44 ∧ OwF Yt s [v205_0] r205 65) (fun Gj286 Kj286 => ?_) ?_
   ·
    rcases bft ((at_ r205 x212).Slot != (at_ r28 x212).Slot) with hb286 | hb286
    ·
     rw [if_pos hb286]
     rw [hb286] at zd285
     try rw [hb286]
     have zd296 := (((((((((zd285.add 25 193 undef rfl).add 26 194 undef rfl).add 27 195 undef rfl).add 28 196 undef rfl).add 29 197 undef rfl).add 30 198 undef rfl).add 31 199 undef rfl).add 32 200 undef rfl).add 33 201 undef rfl).add 34 202 undef rfl
     refine Yo [35, 36, 37] tb217 zd296 (Xa (Xz rfl) rfl (Xa (Xz rfl) rfl (Xa (Xz rfl) rfl (Xa (Xz rfl) rfl (Xa (Xz rfl) rfl (Xa (Xz rfl) rfl (Xa (Xz rfl) rfl (Xa (Xz rfl) rfl (Xa (Xz rfl) rfl (Xa (Xz rfl) rfl (Xa (Xe rfl) rfl (Xa (Xe rfl) rfl (Xa (qv_b (Xe rfl) hb286) rfl (Xa (lc_q ce276 u3 rfl rfl rfl rfl rfl rfl rfl rfl) rfl (Xa (Xn fa47_1 rfl) rfl (Xa (ix_q' A230.rd u34 z47 hg276.1 hg276.2 ia276 rfl) rfl (Xa (Xe rfl) rfl (Xa (Xq v28_0 rfl) rfl (Xa (lc_q ce267 u3 rfl rfl rfl rfl rfl rfl rfl rfl) rfl (Xa (Xn fa47_1 rfl) rfl (Xa (ix_q' A220.rd u34 z47 hg267.1 hg267.2 ia267 rfl) rfl (Xa (Xe rfl) rfl (Xa (Xq v205_0 rfl) rfl (Xa (Xe rfl) rfl (Xa (qv_b (Xe rfl) hb240) rfl (Xa (lc0_q ce231 u3 rfl rfl rfl rfl rfl rfl rfl rfl) rfl (Xa (Xn fa47_0 rfl) rfl (Xa (ix_q' A230.rd u34 z47 hg231.1 hg231.2 ia231 rfl) rfl (Xa (Xe rfl) rfl (Xa (Xq v28_0 rfl) rfl (Xa (lc0_q ce221 u3 rfl rfl rfl rfl rfl rfl rfl rfl) rfl (Xa (Xn fa47_0 rfl) rfl (Xa (ix_q' A220.rd u34 z47 hg221.1 hg221.2 ia221 rfl) rfl (Xa (Xe rfl) rfl (Xa (Xq v205_0 rfl) rfl Xg))))))))))))))))))))))))))))))))))) (by kernel_rfl) (by decide) (Xk rfl ?_)
     refine Xk rfl (Xc rfl ?_)
     exact Kj286 _ _ _ ⟨s217, _, rfl, (ue (ue (ue (ue (ue (ue (ue (ue (ue (ue (ue (ue (ue (ue (ue rfl rfl) rfl) rfl) rfl) rfl) rfl) rfl) rfl) rfl) rfl) rfl) rfl) rfl) rfl) rfl), (Kx212.st p217 rfl), A230, A220⟩
    rw [if_neg (by rw [hb286]; decide)]
    rw [hb286] at zd285
    try rw [hb286]
    refine mg fun hg300 => ?_
    obtain ⟨ad300, es300, he300, ce300, ia300⟩ := ix_e A220.rd rfl hg300.1 hg300.2
    obtain ⟨v300_0, v300_1, v300_2, v300_3, rfl, A300_0, A300_1, A300_2, A300_3⟩ := op47 he300
    refine mg fun hg309 => ?_
    obtain ⟨ad309, es309, he309, ce309, ia309⟩ := ix_e A230.rd rfl hg309.1 hg309.2
    obtain ⟨v309_0, v309_1, v309_2, v309_3, rfl, A309_0, A309_1, A309_2, A309_3⟩ := op47 he309
    have zd315 := (((((((((zd285.add 25 193 v205_0 rfl).add 26 194 (iI x212) rfl).add 27 195 (.pointer (some ad300)) rfl).add 28 196 (.pointer (some (ad300.add 2))) rfl).add 29 197 (.agg #[(iI (((at_ r205 x212).Tuple).Xmin)), (iI (((at_ r205 x212).Tuple).Xmax)), (iI ((((at_ r205 x212).Tuple).Key).Kind)), (iI ((((at_ r205 x212).Tuple).Key).N)), v300_0, v300_1, (iI ((((at_ r205 x212).Tuple).Value).Kind)), (iI ((((at_ r205 x212).Tuple).Value).N)), v300_2, v300_3]) rfl).add 30 198 v28_0 rfl).add 31 199 (iI x212) rfl).add 32 200 (.pointer (some ad309)) rfl).add 33 201 (.pointer (some (ad309.add 2))) rfl).add 34 202 (.agg #[(iI (((at_ r28 x212).Tuple).Xmin)), (iI (((at_ r28 x212).Tuple).Xmax)), (iI ((((at_ r28 x212).Tuple).Key).Kind)), (iI ((((at_ r28 x212).Tuple).Key).N)), v309_0, v309_1, (iI ((((at_ r28 x212).Tuple).Value).Kind)), (iI ((((at_ r28 x212).Tuple).Value).N)), v309_2, v309_3]) rfl
    refine Yo [35, 36, 37] tb217 zd315 (Xa (lcq_q (q := 2) (es' := [(iI (((at_ r28 x212).Tuple).Xmin)), (iI (((at_ r28 x212).Tuple).Xmax)), (iI ((((at_ r28 x212).Tuple).Key).Kind)), (iI ((((at_ r28 x212).Tuple).Key).N)), v309_0, v309_1, (iI ((((at_ r28 x212).Tuple).Value).Kind)), (iI ((((at_ r28 x212).Tuple).Value).N)), v309_2, v309_3]) ce309 u31 z31 rfl rfl rfl rfl rfl rfl rfl rfl) rfl (Xa (Xn fa47_2 rfl) rfl (Xa (ix_q' A230.rd u34 z47 hg309.1 hg309.2 ia309 rfl) rfl (Xa (Xe rfl) rfl (Xa (Xq v28_0 rfl) rfl (Xa (lcq_q (q := 2) (es' := [(iI (((at_ r205 x212).Tuple).Xmin)), (iI (((at_ r205 x212).Tuple).Xmax)), (iI ((((at_ r205 x212).Tuple).Key).Kind)), (iI ((((at_ r205 x212).Tuple).Key).N)), v300_0, v300_1, (iI ((((at_ r205 x212).Tuple).Value).Kind)), (iI ((((at_ r205 x212).Tuple).Value).N)), v300_2, v300_3]) ce300 u31 z31 rfl rfl rfl rfl rfl rfl rfl rfl) rfl (Xa (Xn fa47_2 rfl) rfl (Xa (ix_q' A220.rd u34 z47 hg300.1 hg300.2 ia300 rfl) rfl (Xa (Xe rfl) rfl (Xa (Xq v205_0 rfl) rfl (Xa (Xe rfl) rfl (Xa (Xe rfl) rfl (Xa (qv_b (Xe rfl) hb286) rfl (Xa (lc_q ce276 u3 rfl rfl rfl rfl rfl rfl rfl rfl) rfl (Xa (Xn fa47_1 rfl) rfl (Xa (ix_q' A230.rd u34 z47 hg276.1 hg276.2 ia276 rfl) rfl (Xa (Xe rfl) rfl (Xa (Xq v28_0 rfl) rfl (Xa (lc_q ce267 u3 rfl rfl rfl rfl rfl rfl rfl rfl) rfl (Xa (Xn fa47_1 rfl) rfl (Xa (ix_q' A220.rd u34 z47 hg267.1 hg267.2 ia267 rfl) rfl (Xa (Xe rfl) rfl (Xa (Xq v205_0 rfl) rfl (Xa (Xe rfl) rfl (Xa (qv_b (Xe rfl) hb240) rfl (Xa (lc0_q ce231 u3 rfl rfl rfl rfl rfl rfl rfl rfl) rfl (Xa (Xn fa47_0 rfl) rfl (Xa (ix_q' A230.rd u34 z47 hg231.1 hg231.2 ia231 rfl) rfl (Xa (Xe rfl) rfl (Xa (Xq v28_0 rfl) rfl (Xa (lc0_q ce221 u3 rfl rfl rfl rfl rfl rfl rfl rfl) rfl (Xa (Xn fa47_0 rfl) rfl (Xa (ix_q' A220.rd u34 z47 hg221.1 hg221.2 ia221 rfl) rfl (Xa (Xe rfl) rfl (Xa (Xq v205_0 rfl) rfl Xg))))))))))))))))))))))))))))))))))) (by kernel_rfl) (by decide) (clV 66 rfl func15 rfl (laws_sameTuple.calls (Tuple.mk (((at_ r205 x212).Tuple).Xmin) (((at_ r205 x212).Tuple).Xmax) (((at_ r205 x212).Tuple).Key) (((at_ r205 x212).Tuple).Value)) (Tuple.mk (((at_ r28 x212).Tuple).Xmin) (((at_ r28 x212).Tuple).Xmax) (((at_ r28 x212).Tuple).Key) (((at_ r28 x212).Tuple).Value)) s217.w (mm [65, 44] s217) v300_0 v300_1 v300_2 v300_3 v309_0 v309_1 v309_2 v309_3 ((Xp (s := s217) A300_0).sub (D := [65, 44]) rfl) (A300_1.sub (D := [65, 44]) rfl) ((Xp (s := s217) A300_2).sub (D := [65, 44]) rfl) (A300_3.sub (D := [65, 44]) rfl) ((Xp (s := s217) A309_0).sub (D := [65, 44]) rfl) (A309_1.sub (D := [65, 44]) rfl) ((Xp (s := s217) A309_2).sub (D := [65, 44]) rfl) (A309_3.sub (D := [65, 44]) rfl)) (fun r316 s317 p317 n317 => ?_))
    refine Xc rfl (Xc rfl ?_)
    exact Kj286 _ _ _ ⟨s317, _, rfl, (ue (ue (ue (ue (ue (ue (ue (ue (ue (ue (ue (ue (ue (ue (ue rfl rfl) rfl) rfl) rfl) rfl) rfl) rfl) rfl) rfl) rfl) rfl) rfl) rfl) rfl) rfl), (Kx212.st (Xo p217 p317) rfl), (A230.st p317 rfl), (A220.st p317 rfl)⟩
   rintro y286 _ _ ⟨s321, _, rfl, rfl, Ky286, Cy286_30, Cy286_207⟩
   exact Kj240 _ _ _ ⟨s321, _, rfl, (ue (ue (ue (ue rfl rfl) rfl) rfl) rfl), Ky286, Cy286_30, Cy286_207⟩
  rintro y240 _ _ ⟨s322, _, rfl, rfl, Ky240, Cy240_30, Cy240_207⟩
  refine dn (cd rfl (fun h323 => ?_) (fun h323 => ?_))
  ·
   exact sr (Xc rfl (dn (sgi (re rfl func3 rfl (Ya rfl Xh) rfl ⟨_, rfl, rfl, z.ky Ky240⟩))))
  exact sk (ib (rg (Xc rfl (Xc rfl (Xc rfl (dn (lb ih212 ⟨s322, _, rfl, (ue (ue (ue rfl rfl) rfl) rfl), Ky240, Cy240_30, Cy240_207⟩)))))))
 exact xt rfl (sgb (sr (Xc rfl (dn (re rfl func3 rfl (Ya rfl Xh) rfl ⟨_, rfl, rfl, z.ky Kx212⟩)))))
def spec_HeapMark.f (a0 : Heap) (a1 : Int) (a2 : Int) (a3 : Int) (a4 : Int) : Option (Heap × Bool) :=
 ((spec_HeapAt.f a0 a1 a2).bind fun r9 => ((if (!r9.2) = true then (some true) else ((spec_l5in.f a3 (0 : Int) (400 : Int)).bind fun r26 => (some (!r26)))).bind fun y20 => ((if y20 = true then (some true) else ((spec_l5in.f a4 (1 : Int) (1000000 : Int)).bind fun r39 => (some (!r39)))).bind fun y38 => (if y38 = true then (some ((Heap.mk ([] : (List Page))), false)) else ((spec_l10copy.f a0).bind fun r62 => (if 0 ≤ a1 ∧ a1 < (r62.Pages.length : Int) then (((spec_TupleBytes.f (Tuple.mk r9.1.Xmin a3 r9.1.Key r9.1.Value)).bind fun r92 => ((spec_PagePut.f (at_ r62.Pages a1) a2 r92 a4).bind fun r102 => (some (r102.1.Lsn, r102.1.Slots, r102.2)))).bind fun y85 => (if 0 ≤ a1 ∧ a1 < (r62.Pages.length : Int) then (some ((Heap.mk (r62.Pages.set (a1).toNat (Page.mk y85.1 y85.2.1))), true)) else none)) else none))))))
def spec_HeapMark.Q (w : World) (F : Nat → Prop) (r : Heap × Bool) (v : Value) (w' : World) : Prop :=
 ∃ (v0 : Value), v = .tuple #[(.agg #[v0]), (.bool r.2)] ∧ FO kd26 w w' [v0] r.1 ∧ Ky [] w w'
theorem spec_HeapMark.calls (a0 : Heap) (a1 : Int) (a2 : Int) (a3 : Int) (a4 : Int) (w : World) (F : Nat → Prop) (w0_0 : Value) (h0_0 : Ys.rd w [w0_0] a0.Pages F) (r : Heap × Bool) (m : spec_HeapMark.f a0 a1 a2 a3 a4 = some r) :
  Calls prog 140 #[(.agg #[w0_0]), (iI a1), (iI a2), (iI a3), (iI a4)] w (RT (spec_HeapMark.Q w F) r) := by
 obtain ⟨s0, rfl, kp0, z⟩ := Xm w F
 have A0_0 := z.rd h0_0
 refine Xd (args := [(.agg #[w0_0]), (iI a1), (iI a2), (iI a3), (iI a4)]) func140 ntmps140 rfl rfl m ?_
 unfold spec_HeapMark.f
 refine sr (bx' (cs := [w0_0]) 40 rfl rfl (fun b2 s2 p2 B2 => ?_))
 refine al' (cs := [(.slice none 0 0)]) 41 rfl o26 rfl (fun b4 s4 p4 B4 => ?_)
 refine Xc rfl (dn (sr ?_))
 have A6 := B2.st p4 rfl
 refine Xw (es := [w0_0]) A6 u26 z26 rfl (Xc rfl (Xc rfl ?_))
 have K7 := kp0.st (Xo p2 p4) rfl
 refine cl' rfl func82 rfl (spec_HeapAt.calls a0 a1 a2 s4.w (mm [0] s4) w0_0 (A0_0.kp K7)) ?_
 rintro r9 _ w9 m9 ⟨v9_0, v9_1, v9_2, v9_3, rfl, f9_0, ky9⟩
 obtain ⟨s10, rfl, p10, n10⟩ := nwx s4 w9 42 ky9
 obtain ⟨s11, hw11, p11, hu9_0_0, Au9_0_1, hu9_0_2, Au9_0_3⟩ := ap31 43 (f9_0.c n10) rfl
 rw [hw11]
 refine Xc rfl (Xc (v := (.agg #[(iI r9.1.Xmin), (iI r9.1.Xmax), (iI r9.1.Key.Kind), (iI r9.1.Key.N), v9_0, v9_1, (iI r9.1.Value.Kind), (iI r9.1.Value.N), v9_2, v9_3])) rfl (Xc (v := (.bool r9.2)) rfl (al' (cs := [(iI 0), (iI 0), (iI 0), (iI 0), (.float .f64 0), (.slice none 0 0), (iI 0), (iI 0), (.float .f64 0), (.slice none 0 0)]) 44 rfl o31 rfl (fun b14 s14 p14 B14 => ?_))))
 have A16 := Au9_0_3.st p14 rfl
 have A17 := Au9_0_1.st p14 rfl
 refine Xu (vs := [(iI r9.1.Xmin), (iI r9.1.Xmax), (iI r9.1.Key.Kind), (iI r9.1.Key.N), v9_0, v9_1, (iI r9.1.Value.Kind), (iI r9.1.Value.N), v9_2, v9_3]) B14 z31 rfl (Xb rfl (Xb rfl (Xb rfl (Xb rfl (Xb (FL.one hu9_0_0) (Xb A17.rd.one (Xb rfl (Xb rfl (Xb (FL.one hu9_0_2) (Xb A16.rd.one Xj)))))))))) rfl (fun s18 p18 B18 => ?_)
 refine Xc rfl (dn (sq (sr (Xc rfl (Xc rfl (Xc rfl (ji [7, 8, 9, 10, 11] (fun (y20 : Bool) e w => ∃ (s : St) (e0 : Env), w = s.w ∧ e = upd (upd (upd (upd (upd (upd (upd (upd e0 1 (iI a1)) 2 (iI a2)) 3 (iI a3)) 4 (iI a4)) 5 (pB b2)) 10 (pB b4)) 12 (pB b14)) 30 (.bool y20) ∧ Kp s0 s ∧ BlF s b14 31 [(iI r9.1.Xmin), (iI r9.1.Xmax), (iI r9.1.Key.Kind), (iI r9.1.Key.N), v9_0, v9_1, (iI r9.1.Value.Kind), (iI r9.1.Value.N), v9_2, v9_3] 44 ∧ BlF s b4 26 [(.slice none 0 0)] 41 ∧ BlF s b2 26 [w0_0] 40 ∧ OwF Yq s [v9_1] r9.1.Key.T 42 ∧ OwF Yq s [v9_3] r9.1.Value.T 43) (fun Gj20 Kj20 => ?_) ?_)))))))
 ·
  rcases bft (!r9.2) with hb20 | hb20
  ·
   refine Yc hb20 ?_
   rw [if_pos hb20]
   refine Xk rfl (Xk rfl (Xk rfl (Xc rfl ?_)))
   exact Kj20 _ _ _ ⟨s18, _, rfl, (ue (ue (ue (ue (ue (ue (ue (ue rfl rfl) rfl) rfl) rfl) rfl) rfl) rfl) rfl), (K7.st (Yl p10 p11 p14 p18) rfl), B18, (B4.st (Yl p10 p11 p14 p18) rfl), (A6.st (Yl p10 p11 p14 p18) rfl), (A17.st p18 rfl), (A16.st p18 rfl)⟩
  refine Yc hb20 ?_
  rw [if_neg (by rw [hb20]; decide)]
  refine Xc rfl (clV 45 rfl func83 rfl (spec_l5in.calls a3 (0 : Int) (400 : Int) s18.w (mm [] s18)) (fun r26 s27 p27 n27 => ?_))
  refine Xc rfl (Xc rfl ?_)
  exact Kj20 _ _ _ ⟨s27, _, rfl, (ue (ue (ue (ue (ue (ue (ue (ue rfl rfl) rfl) rfl) rfl) rfl) rfl) rfl) rfl), (K7.st (tr5 p10 p11 p14 p18 p27) rfl), (B18.st p27 rfl), (B4.st (tr5 p10 p11 p14 p18 p27) rfl), (A6.st (tr5 p10 p11 p14 p18 p27) rfl), (A17.st (Xo p18 p27) rfl), (A16.st (Xo p18 p27) rfl)⟩
 rintro y20 _ _ ⟨s34, _, rfl, rfl, Ky20, By20_b14, By20_b4, By20_b2, Cy20_12, Cy20_13⟩
 refine Xc rfl (ji [] (fun (y38 : Bool) e w => ∃ (s : St) (e0 : Env), w = s.w ∧ e = upd (upd (upd (upd (upd (upd (upd (upd e0 1 (iI a1)) 2 (iI a2)) 3 (iI a3)) 4 (iI a4)) 5 (pB b2)) 10 (pB b4)) 12 (pB b14)) 35 (.bool y38) ∧ Kp s0 s ∧ BlF s b14 31 [(iI r9.1.Xmin), (iI r9.1.Xmax), (iI r9.1.Key.Kind), (iI r9.1.Key.N), v9_0, v9_1, (iI r9.1.Value.Kind), (iI r9.1.Value.N), v9_2, v9_3] 44 ∧ BlF s b4 26 [(.slice none 0 0)] 41 ∧ BlF s b2 26 [w0_0] 40 ∧ OwF Yq s [v9_1] r9.1.Key.T 42 ∧ OwF Yq s [v9_3] r9.1.Value.T 43) (fun Gj38 Kj38 => ?_) ?_)
 ·
  rcases bft y20 with hb38 | hb38
  ·
   refine Yc hb38 ?_
   rw [if_pos hb38]
   exact Xk rfl (Xk rfl (Xk rfl (Xc rfl (Kj38 _ _ _ ⟨s34, _, rfl, (ue (ue (ue (ue (ue (ue (ue (ue rfl rfl) rfl) rfl) rfl) rfl) rfl) rfl) rfl), Ky20, By20_b14, By20_b4, By20_b2, Cy20_12, Cy20_13⟩))))
  refine Yc hb38 ?_
  rw [if_neg (by rw [hb38]; decide)]
  refine Xc rfl (clV 46 rfl func83 rfl (spec_l5in.calls a4 (1 : Int) (1000000 : Int) s34.w (mm [] s34)) (fun r39 s40 p40 n40 => ?_))
  refine Xc rfl (Xc rfl ?_)
  exact Kj38 _ _ _ ⟨s40, _, rfl, (ue (ue (ue (ue (ue (ue (ue (ue rfl rfl) rfl) rfl) rfl) rfl) rfl) rfl) rfl), (Ky20.st p40 rfl), (By20_b14.st p40 rfl), (By20_b4.st p40 rfl), (By20_b2.st p40 rfl), (Cy20_12.st p40 rfl), (Cy20_13.st p40 rfl)⟩
 rintro y38 _ _ ⟨s47, _, rfl, rfl, Ky38, By38_b14, By38_b4, By38_b2, Cy38_12, Cy38_13⟩
 refine dn (cd rfl (fun h51 => ?_) (fun h51 => ?_))
 ·
  refine sr (bd' (cells := [(.slice none 0 0)]) pl26 o26 rfl rfl (Xu (vs := [(.slice none 0 0)]) By38_b4 z26 rfl (Xb rfl Xj) rfl (fun s52 p52 B52 => ?_)))
  refine Xc rfl (dn ?_)
  have A54 : OwF kd26 s52 [(.slice none 0 0)] (Heap.mk ([] : (List Page))) 47 := ow_z _ _ (Yb (fun x : Heap => (x.Pages)) (Heap.mk ([] : (List Page))) (Yg 116 kd116))
  have K56 := Ky38.st p52 rfl
  exact re rfl func140 rfl (r_b B52 u26 rfl z26 rfl (Ya rfl Xh)) rfl ⟨_, rfl, (.slice none 0 0), rfl, A54.fo K56 rfl z.l, z.ky K56⟩
 refine sk (sr (Xc rfl (Yd fa31_1 rfl (sv' By38_b14 z3 rfl rfl rfl (fun s57 p57 B57 => ?_)))))
 refine dn (sr ?_)
 refine Xw (es := [w0_0]) (By38_b2.st p57 rfl) u26 z26 rfl ?_
 have K60 := Ky38.st p57 rfl
 refine cl' rfl func84 rfl (spec_l10copy.calls a0 s57.w (mm [0] s57) w0_0 (A0_0.kp K60)) ?_
 rintro r62 _ w62 m62 ⟨v62_0, rfl, f62_0, ky62⟩
 obtain ⟨s63, rfl, p63, n63⟩ := nwx s57 w62 48 ky62
 refine al' (cs := [(.slice none 0 0)]) 49 rfl o26 rfl (fun b65 s65 p65 B65 => ?_)
 have A67 := (ap26 (f62_0.c n63)).st p65 rfl
 refine Xu (vs := [v62_0]) B65 z26 rfl (Xb A67.rd.one Xj) rfl (fun s68 p68 B68 => ?_)
 refine dn (sq (zdraw [[], [0], [], [1, 2], [3], [], [], [6], [], [4, 5, 7, 8, 7], [9], [10], [10], [], [13, 11, 9, 0, 1, 2, 3, 4, 5, 6, 7, 8, 9, 10, 11, 13], [12, 14, 0, 1, 2, 3, 4, 5, 6, 7, 8, 9, 10, 11, 12, 13, 14]] [some 42, some 43, some 44, some 45, some 46, some 47, some 48, some 49, some 50, some 51, some 41, some 52, some 53, some 15, none, some 16] [[14], [42], [1], [43, 44], [45], [2], [12], [48], [4], [46, 47, 49, 50], [51], [41], [41], [], [15, 52], [53]] [0, 1, 2, 3, 4, 5, 6, 7, 8, 9, 10, 11, 14, 12, 13, 15] ⟨by kernel_rfl, by kernel_rfl, by kernel_rfl⟩ (by kernel_rfl) (fun s70 p70 l70 tb70 zd70 => ?_)))
 have A75 := A67.st (Xo p68 p70) rfl
 refine mg fun hg76 => ?_
 obtain ⟨ad76, es76, he76, ce76, ia76⟩ := ix_e A75.rd rfl hg76.1 hg76.2
 obtain ⟨v76_0, rfl, A76_0⟩ := op116 he76
 refine ji [15] (fun (y85 : Int × (List (List Int)) × Bool) e w => ∃ (s : St) (e0 : Env) (vy85_0 : Value) (by85_0 : Nat), w = s.w ∧ e = upd (upd (upd (upd (upd e0 1 (iI a1)) 10 (pB b4)) 14 (pB b65)) 15 (pB by85_0)) 53 (.bool y85.2.2) ∧ Kp s0 s ∧ OwF (Kd.sl 22 Yq) s [vy85_0] y85.2.1 50 ∧ BlF s b65 26 [v62_0] 49 ∧ BlF s b4 26 [(.slice none 0 0)] 41 ∧ BlF s by85_0 116 [(iI y85.1), vy85_0] 51 ∧ OwF Ys s [v62_0] r62.Pages 48) (fun Gj85 Kj85 => ?_) ?_
 ·
  refine zstep2 7 13 [some 50, some 47, some 46, some 45, some 44, some 43, some 42] [some 50, some 48, some 47, some 46, some 45, some 44, some 43, some 42] tb70 ((((((((zd70.add 0 42 (pB b65) rfl).add 1 43 v62_0 rfl).add 2 44 (iI a1) rfl).add 3 45 (.pointer (some ad76)) rfl).add 4 46 (.agg #[(iI ((at_ r62.Pages a1).Lsn)), v76_0]) rfl).add 5 47 (iI a2) rfl).add 6 48 (.agg #[(iI r9.1.Xmin), (iI a3), (iI r9.1.Key.Kind), (iI r9.1.Key.N), v9_0, v9_1, (iI r9.1.Value.Kind), (iI r9.1.Value.N), v9_2, v9_3]) rfl).add 8 50 (iI a4) rfl) (Xa (Xe rfl) rfl (Xa (Ye (es := [(iI r9.1.Xmin), (iI a3), (iI r9.1.Key.Kind), (iI r9.1.Key.N), v9_0, v9_1, (iI r9.1.Value.Kind), (iI r9.1.Value.N), v9_2, v9_3]) (B57.st (Yl p63 p65 p68 p70) rfl) u31 z31 rfl) rfl (Xa (Xe rfl) rfl (Xa (lca_q ce76 u116 z116 rfl rfl rfl rfl rfl rfl rfl) rfl (Xa (ix_q' A75.rd u24 z116 hg76.1 hg76.2 ia76 rfl) rfl (Xa (Xe rfl) rfl (Xa (Xs (B68.st p70 rfl) u24 rfl) rfl (Xa (Xn fa26_0 rfl) rfl Xg)))))))) (by kernel_rfl) (by kernel_rfl) (fun l86 e86 zd86 => ?_) (fun l87 e87 zd87 => ?_)
  ·
   refine clO 52 rfl func32 rfl (spec_TupleBytes.calls (Tuple.mk r9.1.Xmin a3 r9.1.Key r9.1.Value) s70.w (mm [42, 43] s70) v9_0 v9_1 v9_2 v9_3 ((Xp (s := s70) hu9_0_0).sub (D := [42, 43]) rfl) ((Cy38_12.st (tr5 p57 p63 p65 p68 p70) rfl).rd.sub (D := [42, 43]) rfl) ((Xp (s := s70) hu9_0_2).sub (D := [42, 43]) rfl) ((Cy38_13.st (tr5 p57 p63 p65 p68 p70) rfl).rd.sub (D := [42, 43]) rfl)) (fun r92 v92_0 s93 p93 A92_0 => ?_)
   refine Xl (L' := [8, 5, 4, 3, 2, 1, 0]) (D' := [6, 7]) zd86 rfl (fun zd95 => ?_)
   have A99 := A75.st p93 rfl
   refine zstep2 9 13 [] [some 50, some 47, some 46, some 45, some 44, some 43, some 42] tb70 zd95 (Xa (Xe rfl) rfl (Xa (Xe rfl) rfl (Xa (lca_q (ce76.st p93 rfl rfl) u116 z116 rfl rfl rfl rfl rfl rfl rfl) rfl (Xa (ix_q' A99.rd u24 z116 hg76.1 hg76.2 ia76 rfl) rfl (Xa (Xe rfl) rfl (Xa (Xs (B68.st (Xo p70 p93) rfl) u24 rfl) rfl (Xa (Xn fa26_0 rfl) rfl Xg))))))) (by kernel_rfl) (by kernel_rfl) (fun l96 e96 zd96 => ?_) (fun l97 e97 zd97 => ?_)
   ·
    refine cl' rfl func85 rfl (spec_PagePut.calls (at_ r62.Pages a1) a2 r92 a4 s93.w (mm [48, 52] s93) v76_0 v92_0 ((A76_0.st p93 rfl).sub (D := [48, 52]) rfl) (A92_0.rd.sub (D := [48, 52]) rfl)) ?_
    rintro r102 _ w102 m102 ⟨v102_0, rfl, f102_0, ky102⟩
    obtain ⟨s103, rfl, p103, n103⟩ := nwx s93 w102 53 ky102
    refine Xl (L' := []) (D' := [0, 1, 2, 3, 4, 5, 8, 9, 6, 7]) zd96 rfl (fun zd105 => ?_)
    refine Xt 13 [some 53, some 52, some 41] tb70 (((zd105.add 10 41 (.tuple #[(.agg #[(iI r102.1.Lsn), v102_0]), (.bool r102.2)]) rfl).add 11 52 (.agg #[(iI r102.1.Lsn), v102_0]) rfl).add 12 53 (.bool r102.2) rfl) (Xa (Xe (v := (.bool r102.2)) rfl) rfl (Xa (Xe (v := (.agg #[(iI r102.1.Lsn), v102_0])) rfl) rfl (Xa (Xe rfl) rfl Xg))) (by kernel_rfl) rfl (fun l109 e109 zd109 => ?_)
    refine al' (cs := [(iI 0), (.slice none 0 0)]) 54 rfl o116 rfl (fun b110 s110 p110 B110 => ?_)
    refine Xl (L' := [12, 11, 10]) (D' := [13, 0, 1, 2, 3, 4, 5, 8, 9, 6, 7]) zd109 rfl (fun zd112 => ?_)
    refine Xt 14 [some 53] tb70 zd112 (Xa (Xe (v := (.bool r102.2)) rfl) rfl (Xa (Xe (v := (.agg #[(iI r102.1.Lsn), v102_0])) rfl) rfl (Xa (Xe rfl) rfl Xg))) (by kernel_rfl) rfl (fun l113 e113 zd113 => ?_)
    have A114 := (ap116 (f102_0.c n103)).st p110 rfl
    refine Xu (vs := [(iI r102.1.Lsn), v102_0]) B110 z116 rfl (Xb rfl (Xb A114.rd.one Xj)) rfl (fun s115 p115 B115 => ?_)
    refine zdone0 (L' := [12]) (D' := [11, 10, 11, 14, 13, 0, 1, 2, 3, 4, 5, 8, 9, 6, 7]) zd113 rfl rfl rfl (fun zd117 => ?_)
    refine Yo [15] tb70 zd117 (Xa (Xe (v := (.bool r102.2)) rfl) rfl Xg) (by kernel_rfl) (by decide) ?_
    obtain ⟨s118, hw118, p118, D118⟩ := BlF.rc B115 51 rfl
    rw [hw118]
    obtain ⟨s121, hw121, p121, A121⟩ := (A114.st (Xo p115 p118) rfl).rc 50 rfl
    rw [hw121]
    exact Kj85 _ _ _ ⟨s121, _, v102_0, b110, rfl, (ue (ue (ue (ue (ue rfl rfl) rfl) rfl) rfl) rfl), (K60.st (tr10 p63 p65 p68 p70 p93 p103 p110 p115 p118 p121) rfl), A121, (B68.st (tr7 p70 p93 p103 p110 p115 p118 p121) rfl), (By38_b4.st (tr11 p57 p63 p65 p68 p70 p93 p103 p110 p115 p118 p121) rfl), (D118.st p121 rfl), (A99.st (tr5 p103 p110 p115 p118 p121) rfl)⟩
   refine al' (cs := [(iI 0), (.slice none 0 0)]) 55 rfl o116 rfl (fun b127 s127 p127 B127 => ?_)
   refine Xl (L' := [8, 5, 4, 3, 2, 1, 0]) (D' := [13, 6, 7]) zd97 rfl (fun zd129 => ?_)
   have A132 := A99.st p127 rfl
   refine Xt 9 [] tb70 zd129 (Xa (Xe rfl) rfl (Xa (Xe rfl) rfl (Xa (lca_q (ce76.st (Xo p93 p127) rfl rfl) u116 z116 rfl rfl rfl rfl rfl rfl rfl) rfl (Xa (ix_q' A132.rd u24 z116 hg76.1 hg76.2 ia76 rfl) rfl (Xa (Xe rfl) rfl (Xa (Xs (B68.st (Yj p70 p93 p127) rfl) u24 rfl) rfl (Xa (Xn fa26_0 rfl) rfl Xg))))))) (by kernel_rfl) rfl (fun l130 e130 zd130 => ?_)
   refine cl' rfl func85 rfl (spec_PagePut.calls (at_ r62.Pages a1) a2 r92 a4 s127.w (mm [48, 52] s127) v76_0 v92_0 ((A76_0.st (Xo p93 p127) rfl).sub (D := [48, 52]) rfl) ((A92_0.st p127 rfl).rd.sub (D := [48, 52]) rfl)) ?_
   rintro r136 _ w136 m136 ⟨v136_0, rfl, f136_0, ky136⟩
   obtain ⟨s137, rfl, p137, n137⟩ := nwx s127 w136 56 ky136
   have Au136_0_0 := ap116 (f136_0.c n137)
   refine Xl (L' := []) (D' := [0, 1, 2, 3, 4, 5, 8, 9, 13, 6, 7]) zd130 rfl (fun zd139 => ?_)
   refine Xt 14 [some 53] tb70 (((zd139.add 10 41 (.tuple #[(.agg #[(iI r136.1.Lsn), v136_0]), (.bool r136.2)]) rfl).add 11 52 (.agg #[(iI r136.1.Lsn), v136_0]) rfl).add 12 53 (.bool r136.2) rfl) (Xa (Xe (v := (.bool r136.2)) rfl) rfl (Xa (Xe (v := (.agg #[(iI r136.1.Lsn), v136_0])) rfl) rfl (Xa (Xe rfl) rfl Xg))) (by kernel_rfl) rfl (fun l143 e143 zd143 => ?_)
   refine Xu (vs := [(iI r136.1.Lsn), v136_0]) (B127.st p137 rfl) z116 rfl (Xb rfl (Xb Au136_0_0.rd.one Xj)) rfl (fun s145 p145 B145 => ?_)
   refine zdone0 (L' := [12]) (D' := [11, 10, 11, 14, 0, 1, 2, 3, 4, 5, 8, 9, 13, 6, 7]) zd143 rfl rfl rfl (fun zd147 => ?_)
   refine Yo [15] tb70 zd147 (Xa (Xe (v := (.bool r136.2)) rfl) rfl Xg) (by kernel_rfl) (by decide) ?_
   obtain ⟨s148, hw148, p148, D148⟩ := BlF.rc B145 51 rfl
   rw [hw148]
   obtain ⟨s151, hw151, p151, A151⟩ := (Au136_0_0.st (Xo p145 p148) rfl).rc 50 rfl
   rw [hw151]
   exact Kj85 _ _ _ ⟨s151, _, v136_0, b127, rfl, (ue (ue (ue (ue (ue rfl rfl) rfl) rfl) rfl) rfl), (K60.st (tr10 p63 p65 p68 p70 p93 p127 p137 p145 p148 p151) rfl), A151, (B68.st (tr7 p70 p93 p127 p137 p145 p148 p151) rfl), (By38_b4.st (tr11 p57 p63 p65 p68 p70 p93 p127 p137 p145 p148 p151) rfl), (D148.st p151 rfl), (A132.st (Yl p137 p145 p148 p151) rfl)⟩
  refine al' (cs := [(iI 0), (.slice none 0 0)]) 57 rfl o116 rfl (fun b157 s157 p157 B157 => ?_)
  refine Xl (L' := [8, 6, 5, 4, 3, 2, 1, 0]) (D' := [13]) zd87 rfl (fun zd159 => ?_)
  have A162 := A75.st p157 rfl
  refine Xt 7 [some 50, some 47, some 46, some 45, some 44, some 43, some 42] tb70 zd159 (Xa (Xe rfl) rfl (Xa (Ye (es := [(iI r9.1.Xmin), (iI a3), (iI r9.1.Key.Kind), (iI r9.1.Key.N), v9_0, v9_1, (iI r9.1.Value.Kind), (iI r9.1.Value.N), v9_2, v9_3]) (B57.st (tr5 p63 p65 p68 p70 p157) rfl) u31 z31 rfl) rfl (Xa (Xe rfl) rfl (Xa (lca_q (ce76.st p157 rfl rfl) u116 z116 rfl rfl rfl rfl rfl rfl rfl) rfl (Xa (ix_q' A162.rd u24 z116 hg76.1 hg76.2 ia76 rfl) rfl (Xa (Xe rfl) rfl (Xa (Xs (B68.st (Xo p70 p157) rfl) u24 rfl) rfl (Xa (Xn fa26_0 rfl) rfl Xg)))))))) (by kernel_rfl) rfl (fun l160 e160 zd160 => ?_)
  refine clO 58 rfl func32 rfl (spec_TupleBytes.calls (Tuple.mk r9.1.Xmin a3 r9.1.Key r9.1.Value) s157.w (mm [42, 43] s157) v9_0 v9_1 v9_2 v9_3 ((Xp (s := s157) hu9_0_0).sub (D := [42, 43]) rfl) ((Cy38_12.st (tr6 p57 p63 p65 p68 p70 p157) rfl).rd.sub (D := [42, 43]) rfl) ((Xp (s := s157) hu9_0_2).sub (D := [42, 43]) rfl) ((Cy38_13.st (tr6 p57 p63 p65 p68 p70 p157) rfl).rd.sub (D := [42, 43]) rfl)) (fun r167 v167_0 s168 p168 A167_0 => ?_)
  refine Xl (L' := [8, 5, 4, 3, 2, 1, 0]) (D' := [6, 7, 13]) zd160 rfl (fun zd170 => ?_)
  have A173 := A162.st p168 rfl
  refine Xt 9 [] tb70 zd170 (Xa (Xe rfl) rfl (Xa (Xe rfl) rfl (Xa (lca_q (ce76.st (Xo p157 p168) rfl rfl) u116 z116 rfl rfl rfl rfl rfl rfl rfl) rfl (Xa (ix_q' A173.rd u24 z116 hg76.1 hg76.2 ia76 rfl) rfl (Xa (Xe rfl) rfl (Xa (Xs (B68.st (Yj p70 p157 p168) rfl) u24 rfl) rfl (Xa (Xn fa26_0 rfl) rfl Xg))))))) (by kernel_rfl) rfl (fun l171 e171 zd171 => ?_)
  refine cl' rfl func85 rfl (spec_PagePut.calls (at_ r62.Pages a1) a2 r167 a4 s168.w (mm [48, 58] s168) v76_0 v167_0 ((A76_0.st (Xo p157 p168) rfl).sub (D := [48, 58]) rfl) (A167_0.rd.sub (D := [48, 58]) rfl)) ?_
  rintro r176 _ w176 m176 ⟨v176_0, rfl, f176_0, ky176⟩
  obtain ⟨s177, rfl, p177, n177⟩ := nwx s168 w176 59 ky176
  have Au176_0_0 := ap116 (f176_0.c n177)
  refine Xl (L' := []) (D' := [0, 1, 2, 3, 4, 5, 8, 9, 6, 7, 13]) zd171 rfl (fun zd179 => ?_)
  refine Xt 14 [some 53] tb70 (((zd179.add 10 41 (.tuple #[(.agg #[(iI r176.1.Lsn), v176_0]), (.bool r176.2)]) rfl).add 11 52 (.agg #[(iI r176.1.Lsn), v176_0]) rfl).add 12 53 (.bool r176.2) rfl) (Xa (Xe (v := (.bool r176.2)) rfl) rfl (Xa (Xe (v := (.agg #[(iI r176.1.Lsn), v176_0])) rfl) rfl (Xa (Xe rfl) rfl Xg))) (by kernel_rfl) rfl (fun l183 e183 zd183 => ?_)
  refine Xu (vs := [(iI r176.1.Lsn), v176_0]) (B157.st (Xo p168 p177) rfl) z116 rfl (Xb rfl (Xb Au176_0_0.rd.one Xj)) rfl (fun s185 p185 B185 => ?_)
  refine zdone0 (L' := [12]) (D' := [11, 10, 11, 14, 0, 1, 2, 3, 4, 5, 8, 9, 6, 7, 13]) zd183 rfl rfl rfl (fun zd187 => ?_)
  refine Yo [15] tb70 zd187 (Xa (Xe (v := (.bool r176.2)) rfl) rfl Xg) (by kernel_rfl) (by decide) ?_
  obtain ⟨s188, hw188, p188, D188⟩ := BlF.rc B185 51 rfl
  rw [hw188]
  obtain ⟨s191, hw191, p191, A191⟩ := (Au176_0_0.st (Xo p185 p188) rfl).rc 50 rfl
  rw [hw191]
  exact Kj85 _ _ _ ⟨s191, _, v176_0, b157, rfl, (ue (ue (ue (ue (ue rfl rfl) rfl) rfl) rfl) rfl), (K60.st (tr10 p63 p65 p68 p70 p157 p168 p177 p185 p188 p191) rfl), A191, (B68.st (tr7 p70 p157 p168 p177 p185 p188 p191) rfl), (By38_b4.st (tr11 p57 p63 p65 p68 p70 p157 p168 p177 p185 p188 p191) rfl), (D188.st p191 rfl), (A173.st (Yl p177 p185 p188 p191) rfl)⟩
 rintro y85 _ _ ⟨s197, _, vy85_0, by85_0, rfl, rfl, Ky85, Ay85_0, By85_b65, By85_b4, Dy85_0, Cy85_64⟩
 refine Xc rfl (dn (sr (Yd fa26_0 rfl (Ym By85_b65 u24 rfl (Xc rfl (Xw (es := [(iI y85.1), vy85_0]) Dy85_0 u116 z116 rfl (ix' Cy85_64.rd u24 z116 rfl (fun ad202 es202 h0_202 h1_202 he202 ce202 ia202 => ?_))))))))
 obtain ⟨v202_0, rfl, A202_0⟩ := op116 he202
 have A205 : OwF kd116 s197 [(iI y85.1), vy85_0] (Page.mk y85.1 y85.2.1) 50 := (Xr (fun x : Page => (x.Lsn, x.Slots)) (Page.mk y85.1 y85.2.1) (Xv (Xf .i64 y85.1) Ay85_0))
 refine som (x' := (Page.mk y85.1 y85.2.1)) Cy85_64 ia202 h0_202 h1_202 A205 rfl rfl z116 rfl rfl rfl rfl rfl rfl (fun s207 p207 A207 => ?_)
 refine dn (sr ?_)
 refine Xw (es := [v62_0]) (By85_b65.st p207 rfl) u26 z26 rfl (Xu (vs := [v62_0]) (By85_b4.st p207 rfl) z26 rfl (Xb A207.rd.one Xj) rfl (fun s211 p211 B211 => ?_))
 refine Xc rfl (dn ?_)
 have A213 : OwF kd26 s211 [v62_0] (Heap.mk (r62.Pages.set (a1).toNat (Page.mk y85.1 y85.2.1))) 48 := (Xr (fun x : Heap => (x.Pages)) (Heap.mk (r62.Pages.set (a1).toNat (Page.mk y85.1 y85.2.1))) (A207.st p211 rfl))
 have K216 := Ky85.st (Xo p207 p211) rfl
 exact re rfl func140 rfl (r_b B211 u26 rfl z26 rfl (Ya rfl Xh)) rfl ⟨_, rfl, v62_0, rfl, A213.fo K216 rfl z.l, z.ky K216⟩
end Go.Proofs.YtegicanjlefmdaaGreat
