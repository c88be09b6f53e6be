/- The functions as models, and that the calls come to what the models tell. -/
import Derived.Test.YtegicanjlefmdaaGreatGsc
set_option linter.unusedVariables false
set_option linter.unusedSimpArgs false
set_option maxHeartbeats 4000000
set_option maxRecDepth 100000
noncomputable section
namespace Go.Proofs.YtegicanjlefmdaaGreat
open Go V Tryz
def laws_FnVersions.b0 (a0 : (List Int)) (r8 : Heap × Item) (r26 : Heap × (List Int) × Int) (r37 : (List Row)) (r44 : (List Row)) (r50 : (List Row)) (x53 : Int × Int × Int) : Option ((Int × Int × Int) ⊕ Bool) :=
 (if (decide (x53.2.2 < (r37.length : Int))) = true then (if 0 ≤ x53.2.2 ∧ x53.2.2 < (r37.length : Int) then ((spec_KeyOk.f r8.2).bind fun r78 => ((if r78 = true then ((laws_sameItem.f (((at_ r37 x53.2.2).Tuple).Key) r8.2).bind fun r85 => (some r85)) else (some false)).bind fun y80 => ((if y80 = true then ((if (decide (x53.1 ≥ (r44.length : Int))) = true then (some true) else (if 0 ≤ x53.1 ∧ x53.1 < (r44.length : Int) then ((laws_sameTuple.f (Tuple.mk (((at_ r44 x53.1).Tuple).Xmin) (((at_ r44 x53.1).Tuple).Xmax) (((at_ r44 x53.1).Tuple).Key) (((at_ r44 x53.1).Tuple).Value)) (Tuple.mk (((at_ r37 x53.2.2).Tuple).Xmin) (((at_ r37 x53.2.2).Tuple).Xmax) (((at_ r37 x53.2.2).Tuple).Key) (((at_ r37 x53.2.2).Tuple).Value))).bind fun r159 => (some (!r159))) else none)).bind fun y124 => (if y124 = true then (some (Sum.inr (Sum.inr false))) else (some (Sum.inl (IntKind.wrap .i64 (x53.1 + (1 : Int))))))) else (some (Sum.inl x53.1))).bind (sel fun y115 => ((spec_Dead.f r26.2.1 (((at_ r37 x53.2.2).Tuple).Xmin) (((at_ r37 x53.2.2).Tuple).Xmax) r26.2.2).bind fun r182 => ((if r182 = true then ((if (decide (x53.2.1 ≥ (r50.length : Int))) = true then (some true) else (if 0 ≤ x53.2.1 ∧ x53.2.1 < (r50.length : Int) then (if 0 ≤ x53.2.2 ∧ x53.2.2 < (r37.length : Int) then ((if ((at_ r50 x53.2.1).Page != (at_ r37 x53.2.2).Page) = true then (some (true, true)) else (if 0 ≤ x53.2.1 ∧ x53.2.1 < (r50.length : Int) then (if 0 ≤ x53.2.2 ∧ x53.2.2 < (r37.length : Int) then (some (false, ((at_ r50 x53.2.1).Slot != (at_ r37 x53.2.2).Slot))) else none) else none)).bind fun y250 => (some y250.2)) else none) else none)).bind fun y193 => (if y193 = true then (some (Sum.inr (Sum.inr false))) else (some (Sum.inl (IntKind.wrap .i64 (x53.2.1 + (1 : Int))))))) else (some (Sum.inl x53.2.1))).bind (sel fun y184 => (some (Sum.inl (y115, y184, (IntKind.wrap .i64 (x53.2.2 + (1 : Int))))))))))))) else none) else ((if ((x53.1 != (r44.length : Int)) || (x53.2.1 != (r50.length : Int))) = true then (some false) else ((spec_DrawTupleBytes.f a0).bind fun r315 => ((spec_TupleOk.f r315).bind fun r328 => ((if (!r328) = true then (some true) else ((spec_HeapOk.f r8.1).bind fun r339 => (some (!r339)))).bind fun y330 => (if y330 = true then (some true) else ((spec_TupleBytes.f r315).bind fun r361 => ((impl_HeapPlace.f r8.1 (r361.length : Int)).bind fun r369 => (if (decide (r369.1 < (0 : Int))) = true then (some ((r8.1.Pages.length : Int) == (16 : Int))) else ((impl_HeapPut.f r8.1 r369.1 r369.2 r315 (9 : Int)).bind fun r385 => (some r385.2)))))))))).bind fun o => some (Sum.inr o)))
def laws_FnVersions.f (a0 : (List Int)) : Option (Bool) :=
 ((laws_big.f a0).bind fun r2 => (if r2 = true then (some true) else ((spec_DrawHeapVersions.f a0).bind fun r8 => ((spec_DrawHeapDead.f a0).bind fun r26 => ((spec_HeapRows.f r8.1).bind fun r37 => ((impl_HeapVersions.f r8.1 r8.2).bind fun r44 => ((impl_HeapDead.f r8.1 r26.2.1 r26.2.2).bind fun r50 => (iter (laws_FnVersions.b0 a0 r8 r26 r37 r44 r50) ((0 : Int), (0 : Int), (0 : Int))))))))))
def laws_FnVersions.Q (w : World) (F : Nat → Prop) (r : Bool) (v : Value) (w' : World) : Prop :=
 v = (.bool r) ∧ Ky [] w w'
theorem laws_FnVersions.calls (a0 : (List Int)) (w : World) (F : Nat → Prop) (w0_0 : Value) (h0_0 : Yr.rd w [w0_0] a0 F) (r : Bool) (m : laws_FnVersions.f a0 = some r) :
  Calls prog 4 #[w0_0] w (RT (laws_FnVersions.Q w F) r) := by
 obtain ⟨s0, rfl, kp0, z⟩ := Xl w F
 have A0_0 := z.rd h0_0
 refine Xd (args := [w0_0]) func4 ntmps4 rfl m ?_
 unfold laws_FnVersions.f
 refine sr (Xc rfl (dn (sq (sr (Yc w0_0 rfl (Yn 40 rfl func9 rfl (laws_big.calls a0 s0.w (mm [0] s0) w0_0 A0_0) (fun r2 s3 p3 n3 => ?_)))))))
 refine dn (cd rfl (fun h4 => ?_) (fun h4 => ?_))
 ·
  refine sr (Xc rfl (dn ?_))
  exact re rfl func4 rfl (Xu rfl Xe) rfl ⟨_, rfl, rfl, z.ky (kp0.st p3 rfl)⟩
 refine sk (sr (Yc w0_0 rfl ?_))
 have K6 := kp0.st p3 rfl
 refine cl' rfl func22 rfl (spec_DrawHeapVersions.calls a0 s3.w (mm [0] s3) w0_0 (A0_0.kp K6)) ?_
 rintro r8 _ w8 m8 ⟨v8_0, v8_1, v8_2, rfl, f8_0, f8_1, ky8⟩
 obtain ⟨s9, rfl, p9, n9⟩ := nwx s3 w8 41 ky8
 obtain ⟨hu8_1_0, Au8_1_1⟩ := ap29 (f8_1.c n9)
 refine Xc rfl (Xc (v := (.agg #[v8_0])) rfl (Xc (v := (.agg #[(iI r8.2.Kind), (iI r8.2.N), v8_1, v8_2])) rfl (al' (cs := [(.slice none 0 0)]) 42 rfl o26 rfl (fun b12 s12 p12 B12 => ?_))))
 refine al' (cs := [(iI 0), (iI 0), (.float .f64 0), (.slice none 0 0)]) 43 rfl o29 rfl (fun b14 s14 p14 B14 => ?_)
 have A17 := (ap26 (f8_0.c n9)).st (Xn p12 p14) rfl
 refine Xx (vs := [v8_0]) (B12.st p14 rfl) z26 rfl (Xb A17.rd.one Xj) rfl (fun s18 p18 B18 => ?_)
 have A21 := Au8_1_1.st (Yi p12 p14 p18) rfl
 refine Xx (vs := [(iI r8.2.Kind), (iI r8.2.N), v8_1, v8_2]) (B14.st p18 rfl) z29 rfl (Xb rfl (Xb rfl (Xb (FL.one hu8_1_0) (Xb A21.rd.one Xj)))) rfl (fun s22 p22 B22 => ?_)
 refine dn (sr (Yc w0_0 rfl ?_))
 have K24 := K6.st (tr5 p9 p12 p14 p18 p22) rfl
 refine cl' rfl func23 rfl (spec_DrawHeapDead.calls a0 s22.w (mm [0] s22) w0_0 (A0_0.kp K24)) ?_
 rintro r26 _ w26 m26 ⟨v26_0, v26_1, rfl, f26_0, f26_1, ky26⟩
 obtain ⟨s27, rfl, p27, n27⟩ := nwx s22 w26 44 ky26
 refine Xc rfl (Xc (v := (.agg #[v26_0])) rfl (Xc (v := v26_1) rfl (Xc (v := (iI r26.2.2)) rfl (al' (cs := [(.slice none 0 0)]) 45 rfl o26 rfl (fun b30 s30 p30 B30 => ?_)))))
 refine Xx (vs := [v26_0]) B30 z26 rfl (Xb ((ap26 (f26_0.c n27)).st p30 rfl).rd.one Xj) rfl (fun s33 p33 B33 => ?_)
 refine Yh v26_1 rfl (Xc rfl (dn (sr ?_)))
 have A35 := B18.st (Yo p22 p27 p30 p33) rfl
 refine Ya (es := [v8_0]) A35 u26 z26 rfl ?_
 have A36 := A17.st (tr5 p18 p22 p27 p30 p33) rfl
 refine clO 46 rfl func11 rfl (spec_HeapRows.calls r8.1 s33.w (mm [41] s33) v8_0 A36.rd) (fun r37 v37_0 s38 p38 A37_0 => ?_)
 refine Yh v37_0 rfl (dn (sr ?_))
 have A40 := A35.st p38 rfl
 refine Ya (es := [v8_0]) A40 u26 z26 rfl ?_
 have A41 := B22.st (Yo p27 p30 p33 p38) rfl
 refine Ya (es := [(iI r8.2.Kind), (iI r8.2.N), v8_1, v8_2]) A41 u29 z29 rfl ?_
 have A42 := A36.st p38 rfl
 have A43 := A21.st (tr5 p22 p27 p30 p33 p38) rfl
 refine clO 47 rfl func24 rfl (impl_HeapVersions.calls r8.1 r8.2 s38.w (mm [41] s38) v8_0 v8_1 v8_2 A42.rd ((Xq (s := s38) hu8_1_0).sub (D := [41]) rfl) A43.rd) (fun r44 v44_0 s45 p45 A44_0 => ?_)
 refine Yh v44_0 rfl (dn (sr ?_))
 have A47 := A40.st p45 rfl
 refine Ya (es := [v8_0]) A47 u26 z26 rfl (Yc v26_1 rfl (Xc rfl ?_))
 have A48 := A42.st p45 rfl
 have A49 := (f26_1.c n27).st (Yo p30 p33 p38 p45) rfl
 refine clO 48 rfl func25 rfl (impl_HeapDead.calls r8.1 r26.2.1 r26.2.2 s45.w (mm [41, 44] s45) v8_0 v26_1 (A48.rd.sub (D := [41, 44]) rfl) (A49.rd.sub (D := [41, 44]) rfl)) (fun r50 v50_0 s51 p51 A50_0 => ?_)
 refine Yh v50_0 rfl (dn (sr (Xc rfl (dn (sr (Xc rfl (dn (sq (sr (Xc rfl (dn (bl ?_))))))))))))
 refine lpI (fun (x53 : Int × Int × Int) e w => ∃ (s : St) (e0 : Env), w = s.w ∧ e = upd (upd (upd (upd (upd (upd (upd (upd (upd (upd (upd e0 0 w0_0) 3 (pB b12)) 4 (pB b14)) 6 v26_1) 7 (iI r26.2.2)) 8 v37_0) 9 v44_0) 10 v50_0) 11 (iI x53.1)) 12 (iI x53.2.1)) 13 (iI x53.2.2) ∧ Kp s0 s ∧ BlF s b14 29 [(iI r8.2.Kind), (iI r8.2.N), v8_1, v8_2] 43 ∧ BlF s b12 26 [v8_0] 42 ∧ OwF Yv s [v26_1] r26.2.1 44 ∧ OwF Yu s [v37_0] r37 46 ∧ OwF Yu s [v44_0] r44 47 ∧ OwF Yu s [v50_0] r50 48 ∧ OwF Yr s [v8_2] r8.2.T 41 ∧ OwF Yt s [v8_0] r8.1.Pages 41) ⟨s51, _, rfl, (ue (ue (ue (ue (ue (ue (ue (ue (ue (ue (ue rfl rfl) rfl) rfl) rfl) rfl) rfl) rfl) rfl) rfl) rfl) rfl), (K24.st (tr6 p27 p30 p33 p38 p45 p51) rfl), (A41.st (Xn p45 p51) rfl), (A47.st p51 rfl), (A49.st p51 rfl), (A37_0.st (Xn p45 p51) rfl), (A44_0.st p51 rfl), A50_0, (A43.st (Xn p45 p51) rfl), (A48.st p51 rfl)⟩ (fun g53 ih53 => ?_)
 rintro x53 _ _ ⟨s62, _, rfl, rfl, Kx53, Bx53_b14, Bx53_b12, Cx53_28, Cx53_39, Cx53_46, Cx53_52, Cx53_11, Cx53_10⟩
 unfold laws_FnVersions.b0
 refine sq (sr (Xc rfl (Yc v37_0 rfl (ln' Cx53_39.rd u34 rfl (Xc rfl (dn (cd rfl (fun h65 => ?_) (fun h65 => ?_))))))))
 ·
  refine sk (sq (bl (sr (Yc v37_0 rfl (Xc rfl (ix' Cx53_39.rd u34 z47 rfl (fun ad66 es66 h0_66 h1_66 he66 ce66 ia66 => ?_)))))))
  obtain ⟨v66_0, v66_1, v66_2, v66_3, rfl, A66_0, A66_1, A66_2, A66_3⟩ := op47 he66
  refine Ye fa47_2 rfl (lcq (q := 2) (es' := [(iI (((at_ r37 x53.2.2).Tuple).Xmin)), (iI (((at_ r37 x53.2.2).Tuple).Xmax)), (iI ((((at_ r37 x53.2.2).Tuple).Key).Kind)), (iI ((((at_ r37 x53.2.2).Tuple).Key).N)), v66_0, v66_1, (iI ((((at_ r37 x53.2.2).Tuple).Value).Kind)), (iI ((((at_ r37 x53.2.2).Tuple).Value).N)), v66_2, v66_3]) ce66 u31 z31 rfl rfl rfl rfl rfl rfl rfl rfl (al' (cs := [(iI 0), (iI 0), (iI 0), (iI 0), (.float .f64 0), (.slice none 0 0), (iI 0), (iI 0), (.float .f64 0), (.slice none 0 0)]) 49 rfl o31 rfl (fun b70 s70 p70 B70 => ?_)))
  have A72 := A66_3.st p70 rfl
  have A73 := A66_1.st p70 rfl
  refine Xx (vs := [(iI (((at_ r37 x53.2.2).Tuple).Xmin)), (iI (((at_ r37 x53.2.2).Tuple).Xmax)), (iI ((((at_ r37 x53.2.2).Tuple).Key).Kind)), (iI ((((at_ r37 x53.2.2).Tuple).Key).N)), v66_0, v66_1, (iI ((((at_ r37 x53.2.2).Tuple).Value).Kind)), (iI ((((at_ r37 x53.2.2).Tuple).Value).N)), v66_2, v66_3]) B70 z31 rfl (Xb rfl (Xb rfl (Xb rfl (Xb rfl (Xb (FL.one A66_0) (Xb A73.one (Xb rfl (Xb rfl (Xb (FL.one A66_2) (Xb A72.one Xj)))))))))) rfl (fun s74 p74 B74 => ?_)
  refine dn (sq (sr ?_))
  have A76 := Bx53_b14.st (Xn p70 p74) rfl
  refine Ya (es := [(iI r8.2.Kind), (iI r8.2.N), v8_1, v8_2]) A76 u29 z29 rfl ?_
  have A77 := Cx53_11.st (Xn p70 p74) rfl
  refine Yn 50 rfl func26 rfl (spec_KeyOk.calls r8.2 s74.w (mm [41] s74) v8_1 v8_2 ((Xq (s := s74) hu8_1_0).sub (D := [41]) rfl) A77.rd) (fun r78 s79 p79 n79 => ?_)
  refine Xc rfl (ji [] (fun (y80 : Bool) e w => ∃ (s : St) (e0 : Env), w = s.w ∧ e = upd (upd (upd (upd (upd (upd (upd (upd (upd (upd (upd (upd (upd e0 0 w0_0) 3 (pB b12)) 4 (pB b14)) 6 v26_1) 7 (iI r26.2.2)) 8 v37_0) 9 v44_0) 10 v50_0) 11 (iI x53.1)) 12 (iI x53.2.1)) 13 (iI x53.2.2)) 14 (pB b70)) 60 (.bool y80) ∧ Kp s0 s ∧ BlF s b70 31 [(iI (((at_ r37 x53.2.2).Tuple).Xmin)), (iI (((at_ r37 x53.2.2).Tuple).Xmax)), (iI ((((at_ r37 x53.2.2).Tuple).Key).Kind)), (iI ((((at_ r37 x53.2.2).Tuple).Key).N)), v66_0, v66_1, (iI ((((at_ r37 x53.2.2).Tuple).Value).Kind)), (iI ((((at_ r37 x53.2.2).Tuple).Value).N)), v66_2, v66_3] 49 ∧ BlF s b14 29 [(iI r8.2.Kind), (iI r8.2.N), v8_1, v8_2] 43 ∧ BlF s b12 26 [v8_0] 42 ∧ OwF Yv s [v26_1] r26.2.1 44 ∧ OwF Yu s [v37_0] r37 46 ∧ OwF Yu s [v44_0] r44 47 ∧ OwF Yu s [v50_0] r50 48 ∧ RdF Yr s [v66_1] ((((at_ r37 x53.2.2).Tuple).Key).T) [46] ∧ RdF Yr s [v66_3] ((((at_ r37 x53.2.2).Tuple).Value).T) [46] ∧ OwF Yr s [v8_2] r8.2.T 41 ∧ OwF Yt s [v8_0] r8.1.Pages 41) (fun Gj80 Kj80 => ?_) ?_)
  ·
   rcases bft r78 with hb80 | hb80
   ·
    refine Yb hb80 ?_
    rw [if_pos hb80]
    refine Ye fa31_2 rfl ?_
    have A81 := B74.st p79 rfl
    refine Ya (es := [(iI ((((at_ r37 x53.2.2).Tuple).Key).Kind)), (iI ((((at_ r37 x53.2.2).Tuple).Key).N)), v66_0, v66_1]) A81 u29 z29 rfl ?_
    have A82 := A76.st p79 rfl
    refine Ya (es := [(iI r8.2.Kind), (iI r8.2.N), v8_1, v8_2]) A82 u29 z29 rfl ?_
    have A83 := A73.st (Xn p74 p79) rfl
    have A84 := A77.st p79 rfl
    refine Yn 51 rfl func20 rfl (laws_sameItem.calls (((at_ r37 x53.2.2).Tuple).Key) r8.2 s79.w (mm [46, 41] s79) v66_0 v66_1 v8_1 v8_2 ((Xq (s := s79) A66_0).sub (D := [46, 41]) rfl) (A83.sub (D := [46, 41]) rfl) ((Xq (s := s79) hu8_1_0).sub (D := [46, 41]) rfl) (A84.rd.sub (D := [46, 41]) rfl)) (fun r85 s86 p86 n86 => ?_)
    exact Xc rfl (Kj80 _ _ _ ⟨s86, _, rfl, (ue (ue (ue (ue (ue (ue (ue (ue (ue (ue (ue (ue (ue rfl rfl) rfl) rfl) rfl) rfl) rfl) rfl) rfl) rfl) rfl) rfl) rfl) rfl), (Kx53.st (Yo p70 p74 p79 p86) rfl), (A81.st p86 rfl), (A82.st p86 rfl), (Bx53_b12.st (Yo p70 p74 p79 p86) rfl), (Cx53_28.st (Yo p70 p74 p79 p86) rfl), (Cx53_39.st (Yo p70 p74 p79 p86) rfl), (Cx53_46.st (Yo p70 p74 p79 p86) rfl), (Cx53_52.st (Yo p70 p74 p79 p86) rfl), (A83.st p86 rfl), (A72.st (Yi p74 p79 p86) rfl), (A84.st p86 rfl), (Cx53_10.st (Yo p70 p74 p79 p86) rfl)⟩)
   refine Yb hb80 ?_
   rw [if_neg (by rw [hb80]; decide)]
   refine Xk rfl (Xk rfl (Xk rfl (Xk rfl (Xc rfl ?_))))
   exact Kj80 _ _ _ ⟨s79, _, rfl, (ue (ue (ue (ue (ue (ue (ue (ue (ue (ue (ue (ue (ue rfl rfl) rfl) rfl) rfl) rfl) rfl) rfl) rfl) rfl) rfl) rfl) rfl) rfl), (Kx53.st (Yi p70 p74 p79) rfl), (B74.st p79 rfl), (A76.st p79 rfl), (Bx53_b12.st (Yi p70 p74 p79) rfl), (Cx53_28.st (Yi p70 p74 p79) rfl), (Cx53_39.st (Yi p70 p74 p79) rfl), (Cx53_46.st (Yi p70 p74 p79) rfl), (Cx53_52.st (Yi p70 p74 p79) rfl), (A73.st (Xn p74 p79) rfl), (A72.st (Xn p74 p79) rfl), (A77.st p79 rfl), (Cx53_10.st (Yi p70 p74 p79) rfl)⟩
  rintro y80 _ _ ⟨s111, _, rfl, rfl, Ky80, By80_b70, By80_b14, By80_b12, Cy80_28, Cy80_39, Cy80_46, Cy80_52, Cy80_67, Cy80_68, Cy80_11, Cy80_10⟩
  refine dn (jr (fun (y115 : Int) e w => ∃ (s : St) (e0 : Env), w = s.w ∧ e = upd (upd (upd (upd (upd (upd (upd (upd (upd (upd (upd (upd e0 0 w0_0) 3 (pB b12)) 4 (pB b14)) 6 v26_1) 7 (iI r26.2.2)) 8 v37_0) 9 v44_0) 10 v50_0) 11 (iI y115)) 12 (iI x53.2.1)) 13 (iI x53.2.2)) 14 (pB b70) ∧ Kp s0 s ∧ BlF s b70 31 [(iI (((at_ r37 x53.2.2).Tuple).Xmin)), (iI (((at_ r37 x53.2.2).Tuple).Xmax)), (iI ((((at_ r37 x53.2.2).Tuple).Key).Kind)), (iI ((((at_ r37 x53.2.2).Tuple).Key).N)), v66_0, v66_1, (iI ((((at_ r37 x53.2.2).Tuple).Value).Kind)), (iI ((((at_ r37 x53.2.2).Tuple).Value).N)), v66_2, v66_3] 49 ∧ BlF s b14 29 [(iI r8.2.Kind), (iI r8.2.N), v8_1, v8_2] 43 ∧ BlF s b12 26 [v8_0] 42 ∧ OwF Yv s [v26_1] r26.2.1 44 ∧ OwF Yu s [v37_0] r37 46 ∧ OwF Yu s [v44_0] r44 47 ∧ OwF Yu s [v50_0] r50 48 ∧ RdF Yr s [v66_1] ((((at_ r37 x53.2.2).Tuple).Key).T) [46] ∧ RdF Yr s [v66_3] ((((at_ r37 x53.2.2).Tuple).Value).T) [46] ∧ OwF Yr s [v8_2] r8.2.T 41 ∧ OwF Yt s [v8_0] r8.1.Pages 41) (fun Gj115 Kj115 hG115 => ?_) ?_)
  ·
   refine cd rfl (fun h116 => ?_) (fun h116 => ?_)
   ·
    refine sq (sq (zdraw [[], [], [1], [0, 2], [3], [4], [4], [5, 6, 4], [7, 4], [8, 4], [4], [9, 10, 4, 4], [11, 4], [4, 12]] [some 61, some 62, some 63, some 64, some 65, some 66, some 67, some 68, some 69, some 70, some 71, some 72, some 73, some 74] [[11], [9], [62], [61, 63], [64], [9, 65], [11, 65], [66, 67, 65], [68, 65], [69, 65], [14, 65], [70, 71, 65], [72, 65], [65, 73]] [0, 1, 2, 3, 4, 5, 6, 7, 8, 9, 10, 11, 12, 13] ⟨by kernel_rfl, by kernel_rfl, by kernel_rfl⟩ (by kernel_rfl) (fun s117 p117 l117 tb117 zd117 => ?_)))
    have zd123 := ((((zd117.add 0 61 (iI x53.1) rfl).add 1 62 v44_0 rfl).add 2 63 (iI (r44.length : Int)) rfl).add 3 64 (.bool (decide (x53.1 ≥ (r44.length : Int)))) rfl).add 4 65 (.bool (decide (x53.1 ≥ (r44.length : Int)))) rfl
    refine ji [] (fun (y124 : Bool) e w => ∃ (s : St) (e0 : Env), w = s.w ∧ e = upd (upd (upd (upd (upd (upd (upd (upd (upd (upd (upd (upd (upd e0 0 w0_0) 3 (pB b12)) 4 (pB b14)) 6 v26_1) 7 (iI r26.2.2)) 8 v37_0) 9 v44_0) 10 v50_0) 11 (iI x53.1)) 12 (iI x53.2.1)) 13 (iI x53.2.2)) 14 (pB b70)) 74 (.bool y124) ∧ Kp s0 s ∧ BlF s b70 31 [(iI (((at_ r37 x53.2.2).Tuple).Xmin)), (iI (((at_ r37 x53.2.2).Tuple).Xmax)), (iI ((((at_ r37 x53.2.2).Tuple).Key).Kind)), (iI ((((at_ r37 x53.2.2).Tuple).Key).N)), v66_0, v66_1, (iI ((((at_ r37 x53.2.2).Tuple).Value).Kind)), (iI ((((at_ r37 x53.2.2).Tuple).Value).N)), v66_2, v66_3] 49 ∧ BlF s b14 29 [(iI r8.2.Kind), (iI r8.2.N), v8_1, v8_2] 43 ∧ BlF s b12 26 [v8_0] 42 ∧ OwF Yv s [v26_1] r26.2.1 44 ∧ OwF Yu s [v37_0] r37 46 ∧ OwF Yu s [v44_0] r44 47 ∧ OwF Yu s [v50_0] r50 48 ∧ RdF Yr s [v66_1] ((((at_ r37 x53.2.2).Tuple).Key).T) [46] ∧ RdF Yr s [v66_3] ((((at_ r37 x53.2.2).Tuple).Value).T) [46] ∧ OwF Yr s [v8_2] r8.2.T 41 ∧ OwF Yt s [v8_0] r8.1.Pages 41) (fun Gj124 Kj124 => ?_) ?_
    ·
     rcases bft (decide (x53.1 ≥ (r44.length : Int))) with hb124 | hb124
     ·
      rw [if_pos hb124]
      rw [hb124] at zd123
      try rw [hb124]
      refine Yp [11, 12, 13] tb117 ((((((zd123.add 5 66 undef rfl).add 6 67 undef rfl).add 7 68 undef rfl).add 8 69 undef rfl).add 9 70 undef rfl).add 10 71 undef rfl) (Xa (Xw rfl) rfl (Xa (Xw rfl) rfl (Xa (Xw rfl) rfl (Xa (Xw rfl) rfl (Xa (Xw rfl) rfl (Xa (Xw rfl) rfl (Xa (Xh rfl) rfl (Xa (qv_b (Xh rfl) hb124) rfl (Xa (ln_q' (Cy80_46.st p117 rfl).rd u34 rfl) rfl (Xa (Xr v44_0 rfl) rfl (Xa (Xh rfl) rfl Xg))))))))))) (by kernel_rfl) (by decide) (Xk rfl (Xk rfl (Xc rfl ?_)))
      exact Kj124 _ _ _ ⟨s117, _, rfl, (ue (ue (ue (ue (ue (ue (ue (ue (ue (ue (ue (ue (ue rfl rfl) rfl) rfl) rfl) rfl) rfl) rfl) rfl) rfl) rfl) rfl) rfl) rfl), (Ky80.st p117 rfl), (By80_b70.st p117 rfl), (By80_b14.st p117 rfl), (By80_b12.st p117 rfl), (Cy80_28.st p117 rfl), (Cy80_39.st p117 rfl), (Cy80_46.st p117 rfl), (Cy80_52.st p117 rfl), (Cy80_67.st p117 rfl), (Cy80_68.st p117 rfl), (Cy80_11.st p117 rfl), (Cy80_10.st p117 rfl)⟩
     rw [if_neg (by rw [hb124]; decide)]
     rw [hb124] at zd123
     try rw [hb124]
     have A146 := Cy80_46.st p117 rfl
     refine mg fun hg147 => ?_
     obtain ⟨ad147, es147, he147, ce147, ia147⟩ := ix_e A146.rd rfl hg147.1 hg147.2
     obtain ⟨v147_0, v147_1, v147_2, v147_3, rfl, A147_0, A147_1, A147_2, A147_3⟩ := op47 he147
     have zd155 := (((((zd123.add 5 66 v44_0 rfl).add 6 67 (iI x53.1) rfl).add 7 68 (.pointer (some ad147)) rfl).add 8 69 (.pointer (some (ad147.add 2))) rfl).add 9 70 (.agg #[(iI (((at_ r44 x53.1).Tuple).Xmin)), (iI (((at_ r44 x53.1).Tuple).Xmax)), (iI ((((at_ r44 x53.1).Tuple).Key).Kind)), (iI ((((at_ r44 x53.1).Tuple).Key).N)), v147_0, v147_1, (iI ((((at_ r44 x53.1).Tuple).Value).Kind)), (iI ((((at_ r44 x53.1).Tuple).Value).N)), v147_2, v147_3]) rfl).add 10 71 (.agg #[(iI (((at_ r37 x53.2.2).Tuple).Xmin)), (iI (((at_ r37 x53.2.2).Tuple).Xmax)), (iI ((((at_ r37 x53.2.2).Tuple).Key).Kind)), (iI ((((at_ r37 x53.2.2).Tuple).Key).N)), v66_0, v66_1, (iI ((((at_ r37 x53.2.2).Tuple).Value).Kind)), (iI ((((at_ r37 x53.2.2).Tuple).Value).N)), v66_2, v66_3]) rfl
     refine Yp [11, 12, 13] tb117 zd155 (Xa (Yg (es := [(iI (((at_ r37 x53.2.2).Tuple).Xmin)), (iI (((at_ r37 x53.2.2).Tuple).Xmax)), (iI ((((at_ r37 x53.2.2).Tuple).Key).Kind)), (iI ((((at_ r37 x53.2.2).Tuple).Key).N)), v66_0, v66_1, (iI ((((at_ r37 x53.2.2).Tuple).Value).Kind)), (iI ((((at_ r37 x53.2.2).Tuple).Value).N)), v66_2, v66_3]) (By80_b70.st p117 rfl) u31 z31 rfl) rfl (Xa (lcq_q (q := 2) (es' := [(iI (((at_ r44 x53.1).Tuple).Xmin)), (iI (((at_ r44 x53.1).Tuple).Xmax)), (iI ((((at_ r44 x53.1).Tuple).Key).Kind)), (iI ((((at_ r44 x53.1).Tuple).Key).N)), v147_0, v147_1, (iI ((((at_ r44 x53.1).Tuple).Value).Kind)), (iI ((((at_ r44 x53.1).Tuple).Value).N)), v147_2, v147_3]) ce147 u31 z31 rfl rfl rfl rfl rfl rfl rfl rfl) rfl (Xa (Xo fa47_2 rfl) rfl (Xa (ix_q A146.rd u34 z47 hg147.1 hg147.2 ia147 rfl rfl rfl rfl rfl rfl rfl) rfl (Xa (Xh rfl) rfl (Xa (Xr v44_0 rfl) rfl (Xa (Xh rfl) rfl (Xa (qv_b (Xh rfl) hb124) rfl (Xa (ln_q' A146.rd u34 rfl) rfl (Xa (Xr v44_0 rfl) rfl (Xa (Xh rfl) rfl Xg))))))))))) (by kernel_rfl) (by decide) ?_
     have A157 := Cy80_67.st p117 rfl
     have A158 := Cy80_68.st p117 rfl
     refine Yn 52 rfl func15 rfl (laws_sameTuple.calls (Tuple.mk (((at_ r44 x53.1).Tuple).Xmin) (((at_ r44 x53.1).Tuple).Xmax) (((at_ r44 x53.1).Tuple).Key) (((at_ r44 x53.1).Tuple).Value)) (Tuple.mk (((at_ r37 x53.2.2).Tuple).Xmin) (((at_ r37 x53.2.2).Tuple).Xmax) (((at_ r37 x53.2.2).Tuple).Key) (((at_ r37 x53.2.2).Tuple).Value)) s117.w (mm [47, 46] s117) v147_0 v147_1 v147_2 v147_3 v66_0 v66_1 v66_2 v66_3 ((Xq (s := s117) A147_0).sub (D := [47, 46]) rfl) (A147_1.sub (D := [47, 46]) rfl) ((Xq (s := s117) A147_2).sub (D := [47, 46]) rfl) (A147_3.sub (D := [47, 46]) rfl) ((Xq (s := s117) A66_0).sub (D := [47, 46]) rfl) (A157.sub (D := [47, 46]) rfl) ((Xq (s := s117) A66_2).sub (D := [47, 46]) rfl) (A158.sub (D := [47, 46]) rfl)) (fun r159 s160 p160 n160 => ?_)
     refine Xc rfl (Xc rfl ?_)
     exact Kj124 _ _ _ ⟨s160, _, rfl, (ue (ue (ue (ue (ue (ue (ue (ue (ue (ue (ue (ue (ue rfl rfl) rfl) rfl) rfl) rfl) rfl) rfl) rfl) rfl) rfl) rfl) rfl) rfl), (Ky80.st (Xn p117 p160) rfl), (By80_b70.st (Xn p117 p160) rfl), (By80_b14.st (Xn p117 p160) rfl), (By80_b12.st (Xn p117 p160) rfl), (Cy80_28.st (Xn p117 p160) rfl), (Cy80_39.st (Xn p117 p160) rfl), (A146.st p160 rfl), (Cy80_52.st (Xn p117 p160) rfl), (A157.st p160 rfl), (A158.st p160 rfl), (Cy80_11.st (Xn p117 p160) rfl), (Cy80_10.st (Xn p117 p160) rfl)⟩
    rintro y124 _ _ ⟨s173, _, rfl, rfl, Ky124, By124_b70, By124_b14, By124_b12, Cy124_28, Cy124_39, Cy124_46, Cy124_52, Cy124_67, Cy124_68, Cy124_11, Cy124_10⟩
    refine dn (cd rfl (fun h177 => ?_) (fun h177 => ?_))
    ·
     exact sr (Xc rfl (dn (jri hG115 (sgi (re rfl func4 rfl (Xu rfl Xe) rfl ⟨_, rfl, rfl, z.ky Ky124⟩)))))
    exact sk (rg (Xc rfl (Xc rfl (Xc rfl (dn (Kj115 _ _ _ ⟨s173, _, rfl, (ue (ue (ue (ue (ue (ue (ue (ue (ue (ue (ue (ue rfl rfl) rfl) rfl) rfl) rfl) rfl) rfl) rfl) rfl) rfl) rfl) rfl), Ky124, By124_b70, By124_b14, By124_b12, Cy124_28, Cy124_39, Cy124_46, Cy124_52, Cy124_67, Cy124_68, Cy124_11, Cy124_10⟩))))))
   exact sk (Kj115 _ _ _ ⟨s111, _, rfl, (ue (ue (ue (ue (ue (ue (ue (ue (ue (ue (ue (ue rfl rfl) rfl) rfl) rfl) rfl) rfl) rfl) rfl) rfl) rfl) rfl) rfl), Ky80, By80_b70, By80_b14, By80_b12, Cy80_28, Cy80_39, Cy80_46, Cy80_52, Cy80_67, Cy80_68, Cy80_11, Cy80_10⟩)
  rintro y115 _ _ ⟨s178, _, rfl, rfl, Ky115, By115_b70, By115_b14, By115_b12, Cy115_28, Cy115_39, Cy115_46, Cy115_52, Cy115_67, Cy115_68, Cy115_11, Cy115_10⟩
  refine sr (Yc v26_1 rfl (Ye fa31_0 rfl (Yl By115_b70 u3 rfl (Ye fa31_1 rfl (Yl By115_b70 u3 rfl (Xc rfl (Yn 53 rfl func27 rfl (spec_Dead.calls r26.2.1 (((at_ r37 x53.2.2).Tuple).Xmin) (((at_ r37 x53.2.2).Tuple).Xmax) r26.2.2 s178.w (mm [44] s178) v26_1 Cy115_28.rd) (fun r182 s183 p183 n183 => ?_))))))))
  refine dn (jr (fun (y184 : Int) e w => ∃ (s : St) (e0 : Env), w = s.w ∧ e = upd (upd (upd (upd (upd (upd (upd (upd (upd (upd (upd e0 0 w0_0) 3 (pB b12)) 4 (pB b14)) 6 v26_1) 7 (iI r26.2.2)) 8 v37_0) 9 v44_0) 10 v50_0) 11 (iI y115)) 12 (iI y184)) 13 (iI x53.2.2) ∧ Kp s0 s ∧ BlF s b14 29 [(iI r8.2.Kind), (iI r8.2.N), v8_1, v8_2] 43 ∧ BlF s b12 26 [v8_0] 42 ∧ OwF Yv s [v26_1] r26.2.1 44 ∧ OwF Yu s [v37_0] r37 46 ∧ OwF Yu s [v44_0] r44 47 ∧ OwF Yu s [v50_0] r50 48 ∧ OwF Yr s [v8_2] r8.2.T 41 ∧ OwF Yt s [v8_0] r8.1.Pages 41) (fun Gj184 Kj184 hG184 => ?_) ?_)
  ·
   refine cd rfl (fun h185 => ?_) (fun h185 => ?_)
   ·
    refine sq (sq (zdraw [[], [], [1], [0, 2], [3], [4], [4], [5, 6, 4], [7, 4], [8, 4], [4], [4], [10, 11, 4], [12, 4], [13, 4], [9, 14, 4], [4, 15], [16, 4], [17], [17], [18, 19, 17], [20, 17], [21, 17], [17], [17], [23, 24, 17], [25, 17], [26, 17], [22, 27, 17], [17, 28]] [some 84, some 85, some 86, some 87, some 88, some 89, some 90, some 91, some 92, some 93, some 94, some 95, some 96, some 97, some 98, some 99, some 100, some 101, some 102, some 103, some 104, some 105, some 106, some 107, some 108, some 109, some 110, some 111, some 112, some 113] [[12], [10], [85], [84, 86], [87], [10, 88], [12, 88], [89, 90, 88], [91, 88], [92, 88], [8, 88], [13, 88], [94, 95, 88], [96, 88], [97, 88], [93, 98, 88], [88, 99], [100], [10, 101], [12, 101], [102, 103, 101], [104, 101], [105, 101], [8, 101], [13, 101], [107, 108, 101], [109, 101], [110, 101], [106, 111, 101], [101, 112]] [0, 1, 2, 3, 4, 5, 6, 7, 8, 9, 10, 11, 12, 13, 14, 15, 16, 17, 18, 19, 20, 21, 22, 23, 24, 25, 26, 27, 28, 29] ⟨by kernel_rfl, by kernel_rfl, by kernel_rfl⟩ (by kernel_rfl) (fun s186 p186 l186 tb186 zd186 => ?_)))
    have zd192 := ((((zd186.add 0 84 (iI x53.2.1) rfl).add 1 85 v50_0 rfl).add 2 86 (iI (r50.length : Int)) rfl).add 3 87 (.bool (decide (x53.2.1 ≥ (r50.length : Int)))) rfl).add 4 88 (.bool (decide (x53.2.1 ≥ (r50.length : Int)))) rfl
    refine ji [] (fun (y193 : Bool) e w => ∃ (s : St) (e0 : Env), w = s.w ∧ e = upd (upd (upd (upd (upd (upd (upd (upd (upd (upd (upd (upd e0 0 w0_0) 3 (pB b12)) 4 (pB b14)) 6 v26_1) 7 (iI r26.2.2)) 8 v37_0) 9 v44_0) 10 v50_0) 11 (iI y115)) 12 (iI x53.2.1)) 13 (iI x53.2.2)) 113 (.bool y193) ∧ Kp s0 s ∧ BlF s b14 29 [(iI r8.2.Kind), (iI r8.2.N), v8_1, v8_2] 43 ∧ BlF s b12 26 [v8_0] 42 ∧ OwF Yv s [v26_1] r26.2.1 44 ∧ OwF Yu s [v37_0] r37 46 ∧ OwF Yu s [v44_0] r44 47 ∧ OwF Yu s [v50_0] r50 48 ∧ OwF Yr s [v8_2] r8.2.T 41 ∧ OwF Yt s [v8_0] r8.1.Pages 41) (fun Gj193 Kj193 => ?_) ?_
    ·
     rcases bft (decide (x53.2.1 ≥ (r50.length : Int))) with hb193 | hb193
     ·
      rw [if_pos hb193]
      rw [hb193] at zd192
      try rw [hb193]
      refine Yp [28, 29] tb186 (((((((((((((((((((((((zd192.add 5 89 undef rfl).add 6 90 undef rfl).add 7 91 undef rfl).add 8 92 undef rfl).add 9 93 undef rfl).add 10 94 undef rfl).add 11 95 undef rfl).add 12 96 undef rfl).add 13 97 undef rfl).add 14 98 undef rfl).add 15 99 undef rfl).add 16 100 (.bool true) rfl).add 17 101 (.bool true) rfl).add 18 102 undef rfl).add 19 103 undef rfl).add 20 104 undef rfl).add 21 105 undef rfl).add 22 106 undef rfl).add 23 107 undef rfl).add 24 108 undef rfl).add 25 109 undef rfl).add 26 110 undef rfl).add 27 111 undef rfl) (Xa (Xw rfl) rfl (Xa (Xw rfl) rfl (Xa (Xw rfl) rfl (Xa (Xw rfl) rfl (Xa (Xw rfl) rfl (Xa (Xw rfl) rfl (Xa (Xw rfl) rfl (Xa (Xw rfl) rfl (Xa (Xw rfl) rfl (Xa (Xw rfl) rfl (Xa (Xh rfl) rfl (Xa (Xh rfl) rfl (Xa (Xw rfl) rfl (Xa (Xw rfl) rfl (Xa (Xw rfl) rfl (Xa (Xw rfl) rfl (Xa (Xw rfl) rfl (Xa (Xw rfl) rfl (Xa (Xw rfl) rfl (Xa (Xw rfl) rfl (Xa (Xw rfl) rfl (Xa (Xw rfl) rfl (Xa (Xw rfl) rfl (Xa (Xh rfl) rfl (Xa (qv_b (Xh rfl) hb193) rfl (Xa (ln_q' (Cy115_52.st (Xn p183 p186) rfl).rd u34 rfl) rfl (Xa (Xr v50_0 rfl) rfl (Xa (Xh rfl) rfl Xg)))))))))))))))))))))))))))) (by kernel_rfl) (by decide) (Xk rfl (Xc rfl ?_))
      exact Kj193 _ _ _ ⟨s186, _, rfl, (ue (ue (ue (ue (ue (ue (ue (ue (ue (ue (ue (ue rfl rfl) rfl) rfl) rfl) rfl) rfl) rfl) rfl) rfl) rfl) rfl) rfl), (Ky115.st (Xn p183 p186) rfl), (By115_b14.st (Xn p183 p186) rfl), (By115_b12.st (Xn p183 p186) rfl), (Cy115_28.st (Xn p183 p186) rfl), (Cy115_39.st (Xn p183 p186) rfl), (Cy115_46.st (Xn p183 p186) rfl), (Cy115_52.st (Xn p183 p186) rfl), (Cy115_11.st (Xn p183 p186) rfl), (Cy115_10.st (Xn p183 p186) rfl)⟩
     rw [if_neg (by rw [hb193]; decide)]
     rw [hb193] at zd192
     try rw [hb193]
     have A229 := Cy115_52.st (Xn p183 p186) rfl
     refine mg fun hg230 => ?_
     obtain ⟨ad230, es230, he230, ce230, ia230⟩ := ix_e A229.rd rfl hg230.1 hg230.2
     obtain ⟨v230_0, v230_1, v230_2, v230_3, rfl, A230_0, A230_1, A230_2, A230_3⟩ := op47 he230
     have A239 := Cy115_39.st (Xn p183 p186) rfl
     refine mg fun hg240 => ?_
     obtain ⟨ad240, es240, he240, ce240, ia240⟩ := ix_e A239.rd rfl hg240.1 hg240.2
     obtain ⟨v240_0, v240_1, v240_2, v240_3, rfl, A240_0, A240_1, A240_2, A240_3⟩ := op47 he240
     have zd249 := ((((((((((((zd192.add 5 89 v50_0 rfl).add 6 90 (iI x53.2.1) rfl).add 7 91 (.pointer (some ad230)) rfl).add 8 92 (.pointer (some ad230)) rfl).add 9 93 (iI ((at_ r50 x53.2.1).Page)) rfl).add 10 94 v37_0 rfl).add 11 95 (iI x53.2.2) rfl).add 12 96 (.pointer (some ad240)) rfl).add 13 97 (.pointer (some ad240)) rfl).add 14 98 (iI ((at_ r37 x53.2.2).Page)) rfl).add 15 99 (.bool ((at_ r50 x53.2.1).Page != (at_ r37 x53.2.2).Page)) rfl).add 16 100 (.bool ((at_ r50 x53.2.1).Page != (at_ r37 x53.2.2).Page)) rfl).add 17 101 (.bool ((at_ r50 x53.2.1).Page != (at_ r37 x53.2.2).Page)) rfl
     refine ji [] (fun (y250 : Bool × Bool) e w => ∃ (s : St) (e0 : Env), w = s.w ∧ e = upd (upd (upd (upd (upd (upd (upd (upd (upd (upd (upd (upd (upd (upd (upd (upd (upd (upd (upd (upd (upd (upd (upd e0 0 w0_0) 3 (pB b12)) 4 (pB b14)) 6 v26_1) 7 (iI r26.2.2)) 8 v37_0) 9 v44_0) 10 v50_0) 11 (iI y115)) 12 (iI x53.2.1)) 13 (iI x53.2.2)) 89 v50_0) 90 (iI x53.2.1)) 91 (.pointer (some ad230))) 92 (.pointer (some ad230))) 93 (iI ((at_ r50 x53.2.1).Page))) 94 v37_0) 95 (iI x53.2.2)) 96 (.pointer (some ad240))) 97 (.pointer (some ad240))) 98 (iI ((at_ r37 x53.2.2).Page))) 99 (.bool y250.1)) 113 (.bool y250.2) ∧ Kp s0 s ∧ BlF s b14 29 [(iI r8.2.Kind), (iI r8.2.N), v8_1, v8_2] 43 ∧ BlF s b12 26 [v8_0] 42 ∧ OwF Yv s [v26_1] r26.2.1 44 ∧ OwF Yu s [v37_0] r37 46 ∧ OwF Yu s [v44_0] r44 47 ∧ OwF Yu s [v50_0] r50 48 ∧ OwF Yr s [v8_2] r8.2.T 41 ∧ OwF Yt s [v8_0] r8.1.Pages 41) (fun Gj250 Kj250 => ?_) ?_
     ·
      rcases bft ((at_ r50 x53.2.1).Page != (at_ r37 x53.2.2).Page) with hb250 | hb250
      ·
       rw [if_pos hb250]
       rw [hb250] at zd249
       try rw [hb250]
       refine Yp [28, 29] tb186 ((((((((((zd249.add 18 102 undef rfl).add 19 103 undef rfl).add 20 104 undef rfl).add 21 105 undef rfl).add 22 106 undef rfl).add 23 107 undef rfl).add 24 108 undef rfl).add 25 109 undef rfl).add 26 110 undef rfl).add 27 111 undef rfl) (Xa (Xw rfl) rfl (Xa (Xw rfl) rfl (Xa (Xw rfl) rfl (Xa (Xw rfl) rfl (Xa (Xw rfl) rfl (Xa (Xw rfl) rfl (Xa (Xw rfl) rfl (Xa (Xw rfl) rfl (Xa (Xw rfl) rfl (Xa (Xw rfl) rfl (Xa (Xh rfl) rfl (Xa (Xh rfl) rfl (Xa (qv_b (Xh rfl) hb250) rfl (Xa (lc0_q ce240 u3 rfl rfl rfl rfl rfl rfl rfl rfl) rfl (Xa (Xo fa47_0 rfl) rfl (Xa (ix_q A239.rd u34 z47 hg240.1 hg240.2 ia240 rfl rfl rfl rfl rfl rfl rfl) rfl (Xa (Xh rfl) rfl (Xa (Xr v37_0 rfl) rfl (Xa (lc0_q ce230 u3 rfl rfl rfl rfl rfl rfl rfl rfl) rfl (Xa (Xo fa47_0 rfl) rfl (Xa (ix_q A229.rd u34 z47 hg230.1 hg230.2 ia230 rfl rfl rfl rfl rfl rfl rfl) rfl (Xa (Xh rfl) rfl (Xa (Xr v50_0 rfl) rfl (Xa (Xh rfl) rfl (Xa (qv_b (Xh rfl) hb193) rfl (Xa (ln_q' A229.rd u34 rfl) rfl (Xa (Xr v50_0 rfl) rfl (Xa (Xh rfl) rfl Xg)))))))))))))))))))))))))))) (by kernel_rfl) (by decide) (Xk rfl ?_)
       exact Xc rfl (Kj250 _ _ _ ⟨s186, _, rfl, (ue (ue (ue (ue (ue (ue (ue (ue (ue (ue (ue (ue (ue (ue (ue (ue (ue (ue (ue (ue (ue (ue (ue rfl rfl) rfl) rfl) rfl) rfl) rfl) rfl) rfl) rfl) rfl) rfl) rfl) rfl) rfl) rfl) rfl) rfl) rfl) rfl) rfl) rfl) rfl) rfl), (Ky115.st (Xn p183 p186) rfl), (By115_b14.st (Xn p183 p186) rfl), (By115_b12.st (Xn p183 p186) rfl), (Cy115_28.st (Xn p183 p186) rfl), A239, (Cy115_46.st (Xn p183 p186) rfl), A229, (Cy115_11.st (Xn p183 p186) rfl), (Cy115_10.st (Xn p183 p186) rfl)⟩)
      rw [if_neg (by rw [hb250]; decide)]
      rw [hb250] at zd249
      try rw [hb250]
      refine mg fun hg270 => ?_
      obtain ⟨ad270, es270, he270, ce270, ia270⟩ := ix_e A229.rd rfl hg270.1 hg270.2
      obtain ⟨v270_0, v270_1, v270_2, v270_3, rfl, A270_0, A270_1, A270_2, A270_3⟩ := op47 he270
      refine mg fun hg279 => ?_
      obtain ⟨ad279, es279, he279, ce279, ia279⟩ := ix_e A239.rd rfl hg279.1 hg279.2
      obtain ⟨v279_0, v279_1, v279_2, v279_3, rfl, A279_0, A279_1, A279_2, A279_3⟩ := op47 he279
      have zd284 := ((((((((zd249.add 18 102 v50_0 rfl).add 19 103 (iI x53.2.1) rfl).add 20 104 (.pointer (some ad270)) rfl).add 21 105 (.pointer (some (ad270.add 1))) rfl).add 22 106 (iI ((at_ r50 x53.2.1).Slot)) rfl).add 23 107 v37_0 rfl).add 24 108 (iI x53.2.2) rfl).add 25 109 (.pointer (some ad279)) rfl).add 26 110 (.pointer (some (ad279.add 1))) rfl
      refine Yp [28, 29] tb186 (zd284.add 27 111 (iI ((at_ r37 x53.2.2).Slot)) rfl) (Xa (lc_q ce279 u3 rfl rfl rfl rfl rfl rfl rfl rfl) rfl (Xa (Xo fa47_1 rfl) rfl (Xa (ix_q A239.rd u34 z47 hg279.1 hg279.2 ia279 rfl rfl rfl rfl rfl rfl rfl) rfl (Xa (Xh rfl) rfl (Xa (Xr v37_0 rfl) rfl (Xa (lc_q ce270 u3 rfl rfl rfl rfl rfl rfl rfl rfl) rfl (Xa (Xo fa47_1 rfl) rfl (Xa (ix_q A229.rd u34 z47 hg270.1 hg270.2 ia270 rfl rfl rfl rfl rfl rfl rfl) rfl (Xa (Xh rfl) rfl (Xa (Xr v50_0 rfl) rfl (Xa (Xh rfl) rfl (Xa (Xh rfl) rfl (Xa (qv_b (Xh rfl) hb250) rfl (Xa (lc0_q ce240 u3 rfl rfl rfl rfl rfl rfl rfl rfl) rfl (Xa (Xo fa47_0 rfl) rfl (Xa (ix_q A239.rd u34 z47 hg240.1 hg240.2 ia240 rfl rfl rfl rfl rfl rfl rfl) rfl (Xa (Xh rfl) rfl (Xa (Xr v37_0 rfl) rfl (Xa (lc0_q ce230 u3 rfl rfl rfl rfl rfl rfl rfl rfl) rfl (Xa (Xo fa47_0 rfl) rfl (Xa (ix_q A229.rd u34 z47 hg230.1 hg230.2 ia230 rfl rfl rfl rfl rfl rfl rfl) rfl (Xa (Xh rfl) rfl (Xa (Xr v50_0 rfl) rfl (Xa (Xh rfl) rfl (Xa (qv_b (Xh rfl) hb193) rfl (Xa (ln_q' A229.rd u34 rfl) rfl (Xa (Xr v50_0 rfl) rfl (Xa (Xh rfl) rfl Xg)))))))))))))))))))))))))))) (by kernel_rfl) (by decide) (Xc rfl ?_)
      exact Xc rfl (Kj250 _ _ _ ⟨s186, _, rfl, (ue (ue (ue (ue (ue (ue (ue (ue (ue (ue (ue (ue (ue (ue (ue (ue (ue (ue (ue (ue (ue (ue (ue rfl rfl) rfl) rfl) rfl) rfl) rfl) rfl) rfl) rfl) rfl) rfl) rfl) rfl) rfl) rfl) rfl) rfl) rfl) rfl) rfl) rfl) rfl) rfl), (Ky115.st (Xn p183 p186) rfl), (By115_b14.st (Xn p183 p186) rfl), (By115_b12.st (Xn p183 p186) rfl), (Cy115_28.st (Xn p183 p186) rfl), A239, (Cy115_46.st (Xn p183 p186) rfl), A229, (Cy115_11.st (Xn p183 p186) rfl), (Cy115_10.st (Xn p183 p186) rfl)⟩)
     rintro y250 _ _ ⟨s293, _, rfl, rfl, Ky250, By250_b14, By250_b12, Cy250_28, Cy250_39, Cy250_46, Cy250_52, Cy250_11, Cy250_10⟩
     exact Kj193 _ _ _ ⟨s293, _, rfl, (ue (ue (ue (ue (ue (ue (ue (ue (ue (ue (ue (ue rfl rfl) rfl) rfl) rfl) rfl) rfl) rfl) rfl) rfl) rfl) rfl) rfl), Ky250, By250_b14, By250_b12, Cy250_28, Cy250_39, Cy250_46, Cy250_52, Cy250_11, Cy250_10⟩
    rintro y193 _ _ ⟨s296, _, rfl, rfl, Ky193, By193_b14, By193_b12, Cy193_28, Cy193_39, Cy193_46, Cy193_52, Cy193_11, Cy193_10⟩
    refine dn (cd rfl (fun h299 => ?_) (fun h299 => ?_))
    ·
     exact sr (Xc rfl (dn (jri hG184 (sgi (re rfl func4 rfl (Xu rfl Xe) rfl ⟨_, rfl, rfl, z.ky Ky193⟩)))))
    exact sk (rg (Xc rfl (Xc rfl (Xc rfl (dn (Kj184 _ _ _ ⟨s296, _, rfl, (ue (ue (ue (ue (ue (ue (ue (ue (ue (ue (ue rfl rfl) rfl) rfl) rfl) rfl) rfl) rfl) rfl) rfl) rfl) rfl), Ky193, By193_b14, By193_b12, Cy193_28, Cy193_39, Cy193_46, Cy193_52, Cy193_11, Cy193_10⟩))))))
   exact sk (Kj184 _ _ _ ⟨s183, _, rfl, (ue (ue (ue (ue (ue (ue (ue (ue (ue (ue (ue rfl rfl) rfl) rfl) rfl) rfl) rfl) rfl) rfl) rfl) rfl) rfl), (Ky115.st p183 rfl), (By115_b14.st p183 rfl), (By115_b12.st p183 rfl), (Cy115_28.st p183 rfl), (Cy115_39.st p183 rfl), (Cy115_46.st p183 rfl), (Cy115_52.st p183 rfl), (Cy115_11.st p183 rfl), (Cy115_10.st p183 rfl)⟩)
  rintro y184 _ _ ⟨s309, _, rfl, rfl, Ky184, By184_b14, By184_b12, Cy184_28, Cy184_39, Cy184_46, Cy184_52, Cy184_11, Cy184_10⟩
  exact ib (rg (Xc rfl (Xc rfl (Xc rfl (dn (lb ih53 ⟨s309, _, rfl, (ue (ue (ue (ue (ue (ue (ue (ue (ue (ue (ue rfl rfl) rfl) rfl) rfl) rfl) rfl) rfl) rfl) rfl) rfl) rfl), Ky184, By184_b14, By184_b12, Cy184_28, Cy184_39, Cy184_46, Cy184_52, Cy184_11, Cy184_10⟩))))))
 refine xt rfl (sgb (sq (sr (Xc rfl (Yc v44_0 rfl (ln' Cx53_46.rd u34 rfl (Xc rfl (Xc rfl (jy [120, 121, 122, 123, 124, 125] [] 125 (.bool ((x53.1 != (r44.length : Int)) || (x53.2.1 != (r50.length : Int)))) rfl (fun Kg312 => ?_) (fun j312 => ?_))))))))))
 ·
  rcases bft (x53.1 != (r44.length : Int)) with hb312 | hb312
  ·
   exact Yb hb312 (Xk rfl (Xk rfl (Xk rfl (Xk rfl (Xc rfl (Kg312 _ (Ag.put ((Ag.put ((Ag.put ((Ag.put ((Ag.put (Ag.base rfl) rfl)) rfl)) rfl)) rfl)) rfl) (by rw [hb312]; rfl)))))))
  exact Yb hb312 (Xc rfl (Yc v50_0 rfl (ln' Cx53_52.rd u34 rfl (Xc rfl (Xc rfl (Kg312 _ (Ag.put ((Ag.put ((Ag.put ((Ag.put ((Ag.put (Ag.base rfl) rfl)) rfl)) rfl)) rfl)) rfl) (by rw [hb312]; rfl)))))))
 refine dn (cd rfl (fun h313 => ?_) (fun h313 => ?_))
 ·
  exact sr (Xc rfl (dn (re rfl func4 rfl (Xu rfl Xe) rfl ⟨_, rfl, rfl, z.ky Kx53⟩)))
 refine sk (sr (Yc w0_0 rfl ?_))
 refine cl' rfl func28 rfl (spec_DrawTupleBytes.calls a0 s62.w (mm [0] s62) w0_0 (A0_0.kp Kx53)) ?_
 rintro r315 _ w315 m315 ⟨v315_0, v315_1, v315_2, v315_3, rfl, f315_0, ky315⟩
 obtain ⟨s316, rfl, p316, n316⟩ := nwx s62 w315 54 ky315
 obtain ⟨s317, hw317, p317, hu315_0_0, Au315_0_1, hu315_0_2, Au315_0_3⟩ := ap31 55 (f315_0.c n316) rfl
 rw [hw317]
 refine al' (cs := [(iI 0), (iI 0), (iI 0), (iI 0), (.float .f64 0), (.slice none 0 0), (iI 0), (iI 0), (.float .f64 0), (.slice none 0 0)]) 56 rfl o31 rfl (fun b320 s320 p320 B320 => ?_)
 have A322 := Au315_0_3.st p320 rfl
 have A323 := Au315_0_1.st p320 rfl
 refine Xx (vs := [(iI r315.Xmin), (iI r315.Xmax), (iI r315.Key.Kind), (iI r315.Key.N), v315_0, v315_1, (iI r315.Value.Kind), (iI r315.Value.N), v315_2, v315_3]) B320 z31 rfl (Xb rfl (Xb rfl (Xb rfl (Xb rfl (Xb (FL.one hu315_0_0) (Xb A323.rd.one (Xb rfl (Xb rfl (Xb (FL.one hu315_0_2) (Xb A322.rd.one Xj)))))))))) rfl (fun s324 p324 B324 => ?_)
 refine dn (sq (sr (Ya (es := [(iI r315.Xmin), (iI r315.Xmax), (iI r315.Key.Kind), (iI r315.Key.N), v315_0, v315_1, (iI r315.Value.Kind), (iI r315.Value.N), v315_2, v315_3]) B324 u31 z31 rfl ?_)))
 have A326 := A323.st p324 rfl
 have A327 := A322.st p324 rfl
 refine Yn 57 rfl func29 rfl (spec_TupleOk.calls r315 s324.w (mm [54, 55] s324) v315_0 v315_1 v315_2 v315_3 ((Xq (s := s324) hu315_0_0).sub (D := [54, 55]) rfl) (A326.rd.sub (D := [54, 55]) rfl) ((Xq (s := s324) hu315_0_2).sub (D := [54, 55]) rfl) (A327.rd.sub (D := [54, 55]) rfl)) (fun r328 s329 p329 n329 => ?_)
 refine Xc rfl (Xc rfl (ji [] (fun (y330 : Bool) e w => ∃ (s : St) (e0 : Env), w = s.w ∧ e = upd (upd (upd e0 3 (pB b12)) 15 (pB b320)) 135 (.bool y330) ∧ Kp s0 s ∧ BlF s b320 31 [(iI r315.Xmin), (iI r315.Xmax), (iI r315.Key.Kind), (iI r315.Key.N), v315_0, v315_1, (iI r315.Value.Kind), (iI r315.Value.N), v315_2, v315_3] 56 ∧ BlF s b12 26 [v8_0] 42 ∧ OwF Yr s [v315_1] r315.Key.T 54 ∧ OwF Yr s [v315_3] r315.Value.T 55 ∧ OwF Yt s [v8_0] r8.1.Pages 41) (fun Gj330 Kj330 => ?_) ?_))
 ·
  rcases bft (!r328) with hb330 | hb330
  ·
   refine Yb hb330 ?_
   rw [if_pos hb330]
   refine Xk rfl (Xk rfl (Xk rfl (Xc rfl ?_)))
   exact Kj330 _ _ _ ⟨s329, _, rfl, (ue (ue (ue rfl rfl) rfl) rfl), (Kx53.st (tr5 p316 p317 p320 p324 p329) rfl), (B324.st p329 rfl), (Bx53_b12.st (tr5 p316 p317 p320 p324 p329) rfl), (A326.st p329 rfl), (A327.st p329 rfl), (Cx53_10.st (tr5 p316 p317 p320 p324 p329) rfl)⟩
  refine Yb hb330 ?_
  rw [if_neg (by rw [hb330]; decide)]
  have A337 := Bx53_b12.st (tr5 p316 p317 p320 p324 p329) rfl
  refine Ya (es := [v8_0]) A337 u26 z26 rfl ?_
  have A338 := Cx53_10.st (tr5 p316 p317 p320 p324 p329) rfl
  refine Yn 58 rfl func30 rfl (spec_HeapOk.calls r8.1 s329.w (mm [41] s329) v8_0 A338.rd) (fun r339 s340 p340 n340 => ?_)
  refine Xc rfl (Xc rfl ?_)
  exact Kj330 _ _ _ ⟨s340, _, rfl, (ue (ue (ue rfl rfl) rfl) rfl), (Kx53.st (tr6 p316 p317 p320 p324 p329 p340) rfl), (B324.st (Xn p329 p340) rfl), (A337.st p340 rfl), (A326.st (Xn p329 p340) rfl), (A327.st (Xn p329 p340) rfl), (A338.st p340 rfl)⟩
 rintro y330 _ _ ⟨s347, _, rfl, rfl, Ky330, By330_b320, By330_b12, Cy330_318, Cy330_319, Cy330_10⟩
 refine dn (cd rfl (fun h350 => ?_) (fun h350 => ?_))
 ·
  exact sr (Xc rfl (dn (re rfl func4 rfl (Xu rfl Xe) rfl ⟨_, rfl, rfl, z.ky Ky330⟩)))
 refine sk (sq (zdraw [[], [], [1], [2], [0, 3, 2], [4], [5], [5], [6, 4, 0, 1, 2, 3, 4, 5, 6], [7, 8, 0, 1, 2, 3, 4, 5, 6, 7, 8]] [some 137, some 138, some 139, some 140, some 141, some 136, some 142, some 143, some 16, some 17] [[3], [15], [138], [139], [137, 140], [141], [136], [136], [142], [143]] [0, 1, 2, 3, 4, 5, 6, 8, 7, 9] ⟨by kernel_rfl, by kernel_rfl, by kernel_rfl⟩ (by kernel_rfl) (fun s351 p351 l351 tb351 zd351 => ?_)))
 refine Xt 2 [some 137] tb351 ((zd351.add 0 137 (.agg #[v8_0]) rfl).add 1 138 (.agg #[(iI r315.Xmin), (iI r315.Xmax), (iI r315.Key.Kind), (iI r315.Key.N), v315_0, v315_1, (iI r315.Value.Kind), (iI r315.Value.N), v315_2, v315_3]) rfl) (Xa (Yg (es := [(iI r315.Xmin), (iI r315.Xmax), (iI r315.Key.Kind), (iI r315.Key.N), v315_0, v315_1, (iI r315.Value.Kind), (iI r315.Value.N), v315_2, v315_3]) (By330_b320.st p351 rfl) u31 z31 rfl) rfl (Xa (Yg (es := [v8_0]) (By330_b12.st p351 rfl) u26 z26 rfl) rfl Xg)) (by kernel_rfl) rfl (fun l356 e356 zd356 => ?_)
 have A359 := Cy330_318.st p351 rfl
 have A360 := Cy330_319.st p351 rfl
 refine clO 59 rfl func32 rfl (spec_TupleBytes.calls r315 s351.w (mm [54, 55] s351) v315_0 v315_1 v315_2 v315_3 ((Xq (s := s351) hu315_0_0).sub (D := [54, 55]) rfl) (A359.rd.sub (D := [54, 55]) rfl) ((Xq (s := s351) hu315_0_2).sub (D := [54, 55]) rfl) (A360.rd.sub (D := [54, 55]) rfl)) (fun r361 v361_0 s362 p362 A361_0 => ?_)
 refine Xm (L' := [0]) (D' := [1, 2]) zd356 rfl (fun zd364 => ?_)
 refine Xt 4 [] tb351 (zd364.add 3 140 (iI (r361.length : Int)) rfl) (Xa (ln_q' A361_0.rd u22 rfl) rfl (Xa (Yg (es := [v8_0]) (By330_b12.st (Xn p351 p362) rfl) u26 z26 rfl) rfl Xg)) (by kernel_rfl) rfl (fun l366 e366 zd366 => ?_)
 have A368 := Cy330_10.st (Xn p351 p362) rfl
 refine Yn 60 rfl func31 rfl (impl_HeapPlace.calls r8.1 (r361.length : Int) s362.w (mm [41] s362) v8_0 A368.rd) (fun r369 s370 p370 n370 => ?_)
 refine Xm (L' := []) (D' := [0, 3, 4, 1, 2]) zd366 rfl (fun zd371 => ?_)
 refine Yp [9] tb351 ((((zd371.add 5 136 (.tuple #[(iI r369.1), (iI r369.2)]) rfl).add 6 142 (iI r369.1) rfl).add 7 143 (iI r369.2) rfl).add 8 16 (iI r369.1) rfl) (Xa (Xh rfl) rfl (Xa (Xh (v := (iI r369.2)) rfl) rfl (Xa (Xh (v := (iI r369.1)) rfl) rfl (Xa (Xh rfl) rfl Xg)))) (by kernel_rfl) (by decide) (Xc rfl (dn (sq (sr (Xc rfl (Xc rfl (dn (cd rfl (fun h376 => ?_) (fun h376 => ?_)))))))))
 ·
  refine sr (Ye fa26_0 rfl ?_)
  refine Yl (By330_b12.st (Yi p351 p362 p370) rfl) u24 rfl (ln' (A368.st p370 rfl).rd u24 rfl (Xc rfl (Xc rfl (dn ?_))))
  exact re rfl func4 rfl (Xu rfl Xe) rfl ⟨_, rfl, rfl, z.ky (Ky330.st (Yi p351 p362 p370) rfl)⟩
 refine sk (sr ?_)
 refine Ya (es := [v8_0]) (By330_b12.st (Yi p351 p362 p370) rfl) u26 z26 rfl (Xc rfl (Xc rfl ?_))
 refine Ya (es := [(iI r315.Xmin), (iI r315.Xmax), (iI r315.Key.Kind), (iI r315.Key.N), v315_0, v315_1, (iI r315.Value.Kind), (iI r315.Value.N), v315_2, v315_3]) (By330_b320.st (Yi p351 p362 p370) rfl) u31 z31 rfl (cl' rfl func12 rfl (impl_HeapPut.calls r8.1 r369.1 r369.2 r315 (9 : Int) s370.w (mm [41, 54, 55] s370) v8_0 v315_0 v315_1 v315_2 v315_3 ((A368.st p370 rfl).rd.sub (D := [41, 54, 55]) rfl) ((Xq (s := s370) hu315_0_0).sub (D := [41, 54, 55]) rfl) ((A359.st (Xn p362 p370) rfl).rd.sub (D := [41, 54, 55]) rfl) ((Xq (s := s370) hu315_0_2).sub (D := [41, 54, 55]) rfl) ((A360.st (Xn p362 p370) rfl).rd.sub (D := [41, 54, 55]) rfl)) ?_)
 rintro r385 _ w385 m385 ⟨v385_0, rfl, f385_0, ky385⟩
 obtain ⟨s386, rfl, p386, n386⟩ := nwx s370 w385 61 ky385
 refine Xc rfl (Xc (v := (.agg #[v385_0])) rfl (Xc (v := (.bool r385.2)) rfl (al' (cs := [(.slice none 0 0)]) 62 rfl o26 rfl (fun b388 s388 p388 B388 => ?_))))
 refine Xx (vs := [v385_0]) B388 z26 rfl (Xb ((ap26 (f385_0.c n386)).st p388 rfl).rd.one Xj) rfl (fun s391 p391 B391 => ?_)
 refine Xc rfl (dn (sr (Xc rfl (Xc rfl (dn ?_)))))
 exact re rfl func4 rfl (Xu rfl Xe) rfl ⟨_, rfl, rfl, z.ky (Ky330.st (tr6 p351 p362 p370 p386 p388 p391) rfl)⟩
end Go.Proofs.YtegicanjlefmdaaGreat
