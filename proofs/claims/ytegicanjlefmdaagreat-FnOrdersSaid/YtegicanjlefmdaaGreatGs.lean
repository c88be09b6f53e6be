/- The functions as models, and that the calls come to what the models tell. -/
import Derived.Test.YtegicanjlefmdaaGreatGsb
set_option linter.unusedVariables false
set_option linter.unusedSimpArgs false
set_option maxHeartbeats 4000000
set_option maxRecDepth 100000
noncomputable section
namespace Go.Proofs.YtegicanjlefmdaaGreat
open Go V Tryz
def laws_FnOrders.b3 (r30 : (List Int)) (r34 : (List A2Int)) (x142 : Int) (x146 : Bool × Int) : Option ((Bool × Int) ⊕ (Int ⊕ Bool)) :=
 (if (decide (x146.2 < (r34.length : Int))) = true then ((if x146.1 = true then (some true) else (if 0 ≤ x146.2 ∧ x146.2 < (r34.length : Int) then (if (r30.length : Int) ≠ 0 then (if 0 ≤ ((IntKind.wrap .i64 (x142 + (1 : Int))).tmod (r30.length : Int)) ∧ ((IntKind.wrap .i64 (x142 + (1 : Int))).tmod (r30.length : Int)) < (r30.length : Int) then ((if ((at_ r34 x146.2).e0 == (at_ r30 ((IntKind.wrap .i64 (x142 + (1 : Int))).tmod (r30.length : Int)))) = true then (if 0 ≤ x146.2 ∧ x146.2 < (r34.length : Int) then (if 0 ≤ x142 ∧ x142 < (r30.length : Int) then (some ((at_ r34 x146.2).e0, true, true, ((at_ r34 x146.2).e1 == (at_ r30 x142)))) else none) else none) else (some ((at_ r34 x146.2).e0, false, false, false))).bind fun y207 => (some y207.2.2.2)) else none) else none) else none)).bind fun y152 => (some (Sum.inl (y152, (IntKind.wrap .i64 (x146.2 + (1 : Int))))))) else ((if (!x146.1) = true then (some (Sum.inr false)) else (some (Sum.inl (IntKind.wrap .i64 (x142 + (1 : Int)))))).bind fun o => some (Sum.inr o)))
def laws_FnOrders.b2 (r30 : (List Int)) (r34 : (List A2Int)) (x142 : Int) : Option (Int ⊕ Bool) :=
 (if (decide (x142 < (r30.length : Int))) = true then (iter (laws_FnOrders.b3 r30 r34 x142) (false, (0 : Int))) else ((some true).bind fun o => some (Sum.inr o)))
def laws_FnOrders.b1 (r8 : (List Deed)) (r26 : (List Int) × Bool) (r30 : (List Int)) (r34 : (List A2Int)) (x41 : (List Int) × Int) (x68 : Int) : Option (Int ⊕ Bool) :=
 (if (decide (x68 < (r34.length : Int))) = true then (if 0 ≤ x68 ∧ x68 < (r34.length : Int) then (if 0 ≤ x68 ∧ x68 < (r34.length : Int) then ((if 0 ≤ (at_ r34 x68).e0 ∧ (at_ r34 x68).e0 < (x41.1.length : Int) then (if 0 ≤ (at_ r34 x68).e1 ∧ (at_ r34 x68).e1 < (x41.1.length : Int) then (some ((at_ x41.1 ((at_ r34 x68).e0)), (at_ x41.1 ((at_ r34 x68).e1)))) else none) else none).bind fun y85 => (if (decide (y85.1 ≥ y85.2)) = true then (some (Sum.inr false)) else (some (Sum.inl (IntKind.wrap .i64 (x68 + (1 : Int))))))) else none) else none) else (((if (((r26.1.length : Int) == (r8.length : Int)) && ((r30.length : Int) == (0 : Int))) = true then ((impl_GraphSerial.f r8 r26.1).bind fun r128 => (some r128)) else (some false)).bind fun y127 => ((if y127 = true then ((spec_GraphSerial.f r8 r26.1).bind fun r135 => (some r135)) else (some false)).bind fun y134 => (some y134))).bind fun o => some (Sum.inr o)))
def laws_FnOrders.b0 (r8 : (List Deed)) (r26 : (List Int) × Bool) (r30 : (List Int)) (r34 : (List A2Int)) (x41 : (List Int) × Int) : Option (((List Int) × Int) ⊕ Bool) :=
 (if (decide (x41.2 < (r26.1.length : Int))) = true then (if 0 ≤ x41.2 ∧ x41.2 < (r26.1.length : Int) then ((if (decide ((at_ r26.1 x41.2) < (0 : Int))) = true then (some true) else (if 0 ≤ x41.2 ∧ x41.2 < (r26.1.length : Int) then (some (decide ((at_ r26.1 x41.2) ≥ (r8.length : Int)))) else none)).bind fun y52 => (if y52 = true then (some (Sum.inr false)) else (if 0 ≤ x41.2 ∧ x41.2 < (r26.1.length : Int) then (if 0 ≤ (at_ r26.1 x41.2) ∧ (at_ r26.1 x41.2) < (x41.1.length : Int) then (some (Sum.inl ((x41.1.set ((at_ r26.1 x41.2)).toNat x41.2), (IntKind.wrap .i64 (x41.2 + (1 : Int)))))) else none) else none))) else none) else ((iter (laws_FnOrders.b1 r8 r26 r30 r34 x41) (0 : Int)).bind fun o => some (Sum.inr o)))
def laws_FnOrders.f (a0 : (List Int)) : Option (Bool) :=
 ((laws_big.f a0).bind fun r2 => (if r2 = true then (some true) else ((spec_DrawGraphOrder.f a0).bind fun r8 => ((spec_DeedsOk.f r8).bind fun r11 => (if (!r11) = true then ((impl_GraphEdges.f r8).bind fun r15 => ((if ((r15.length : Int) == (0 : Int)) = true then ((impl_DeedsOk.f r8).bind fun r20 => (some (!r20))) else (some false)).bind fun y18 => (some y18))) else ((impl_GraphOrder.f r8).bind fun r26 => ((impl_GraphRing.f r8).bind fun r30 => ((spec_GraphEdges.f r8).bind fun r34 => (if r26.2 = true then (if 0 ≤ (r8.length : Int) ∧ (r8.length : Int) ≤ (Lim : Int) then (iter (laws_FnOrders.b0 r8 r26 r30 r34) ((List.replicate ((r8.length : Int)).toNat (0 : Int)), (0 : Int))) else none) else (if (decide ((r30.length : Int) < (2 : Int))) = true then (some false) else (iter (laws_FnOrders.b2 r30 r34) (0 : Int))))))))))))
def laws_FnOrders.Q (w : World) (F : Nat → Prop) (r : Bool) (v : Value) (w' : World) : Prop :=
 v = (.bool r) ∧ Ky [] w w'
theorem laws_FnOrders.calls (a0 : (List Int)) (w : World) (F : Nat → Prop) (w0_0 : Value) (h0_0 : Xx.rd w [w0_0] a0 F) (r : Bool) (m : laws_FnOrders.f a0 = some r) :
  Calls prog 5 #[w0_0] w (RT (laws_FnOrders.Q w F) r) := by
 obtain ⟨s0, rfl, kp0, z⟩ := Xi w F
 have A0_0 := z.rd h0_0
 refine Xc (args := [w0_0]) func5 ntmps5 rfl rfl m ?_
 unfold laws_FnOrders.f
 refine sr (Xb rfl (dn (sq (sr (Xp w0_0 rfl (clV 40 rfl func9 rfl (laws_big.calls a0 s0.w (mm [0] s0) w0_0 A0_0) (fun r2 s3 p3 n3 => ?_)))))))
 refine dn (cd rfl (fun h4 => ?_) (fun h4 => ?_))
 ·
  refine sr (Xb rfl (dn ?_))
  exact re rfl func5 rfl (Xs rfl Xg) rfl ⟨_, rfl, rfl, z.ky (kp0.st p3 rfl)⟩
 refine sk (sr (Xp w0_0 rfl ?_))
 have K6 := kp0.st p3 rfl
 refine clO 41 rfl func33 rfl (spec_DrawGraphOrder.calls a0 s3.w (mm [0] s3) w0_0 (A0_0.kp K6)) (fun r8 v8_0 s9 p9 A8_0 => ?_)
 refine asg' v8_0 rfl (dn (sq (sr (Xp v8_0 rfl (clV 42 rfl func34 rfl (spec_DeedsOk.calls r8 s9.w (mm [41] s9) v8_0 A8_0.rd) (fun r11 s12 p12 n12 => ?_))))))
 refine Xb rfl (dn (cd rfl (fun h13 => ?_) (fun h13 => ?_)))
 ·
  refine sr (Xp v8_0 rfl ?_)
  have A14 := A8_0.st p12 rfl
  refine clO 43 rfl func35 rfl (impl_GraphEdges.calls r8 s12.w (mm [41] s12) v8_0 A14.rd) (fun r15 v15_0 s16 p16 A15_0 => ?_)
  refine ln' A15_0.rd u65 rfl (Xb rfl (Xb rfl (ji [9] (fun (y18 : Bool) e w => ∃ (s : St) (e0 : Env), w = s.w ∧ e = upd e0 29 (.bool y18) ∧ Kp s0 s) (fun Gj18 Kj18 => ?_) ?_)))
  ·
   rcases bft ((r15.length : Int) == (0 : Int)) with hb18 | hb18
   ·
    refine Xv hb18 ?_
    rw [if_pos hb18]
    refine Xp v8_0 rfl (clV 44 rfl func36 rfl (impl_DeedsOk.calls r8 s16.w (mm [41] s16) v8_0 (A14.st p16 rfl).rd) (fun r20 s21 p21 n21 => ?_))
    refine Xb rfl (Xb rfl ?_)
    exact Kj18 _ _ _ ⟨s21, _, rfl, (ue rfl rfl), (K6.st (tr4 p9 p12 p16 p21) rfl)⟩
   refine Xv hb18 ?_
   rw [if_neg (by rw [hb18]; decide)]
   refine Xj rfl (Xj rfl (Xj rfl (Xb rfl ?_)))
   exact Kj18 _ _ _ ⟨s16, _, rfl, (ue rfl rfl), (K6.st (tr3 p9 p12 p16) rfl)⟩
  rintro y18 _ _ ⟨s24, _, rfl, rfl, Ky18⟩
  exact Xb rfl (dn (re rfl func5 rfl (Xs rfl Xg) rfl ⟨_, rfl, rfl, z.ky Ky18⟩))
 refine sk (sr (Xp v8_0 rfl ?_))
 have A25 := A8_0.st p12 rfl
 refine cl' rfl func37 rfl (impl_GraphOrder.calls r8 s12.w (mm [41] s12) v8_0 A25.rd) ?_
 rintro r26 _ w26 m26 ⟨v26_0, rfl, f26_0, ky26⟩
 obtain ⟨s27, rfl, p27, n27⟩ := nwx s12 w26 45 ky26
 refine Xb rfl (Xb (v := v26_0) rfl (Xb (v := (.bool r26.2)) rfl (asg' v26_0 rfl (Xb rfl (dn (sr (Xp v8_0 rfl ?_)))))))
 have A29 := A25.st p27 rfl
 refine clO 46 rfl func38 rfl (impl_GraphRing.calls r8 s27.w (mm [41] s27) v8_0 A29.rd) (fun r30 v30_0 s31 p31 A30_0 => ?_)
 refine asg' v30_0 rfl (dn (sr (Xp v8_0 rfl ?_)))
 have A33 := A29.st p31 rfl
 refine clO 47 rfl func39 rfl (spec_GraphEdges.calls r8 s31.w (mm [41] s31) v8_0 A33.rd) (fun r34 v34_0 s35 p35 A34_0 => ?_)
 refine asg' v34_0 rfl (dn (sq (sr (Xb rfl (dn (cd rfl (fun h37 => ?_) (fun h37 => ?_)))))))
 ·
  refine sr (Xp v8_0 rfl ?_)
  have A38 := A33.st p35 rfl
  refine ln' A38.rd u62 rfl (mk (x0 := (0 : Int)) (K := (Kd.int .i64)) 48 sl50 o3 (fun _ => ⟨rfl, rfl⟩) rfl rfl rfl rfl rfl rfl rfl (fun v39 s39 p39 A39 => ?_))
  refine asg' v39 rfl (dn (sq (sr (Xb rfl (dn (bl ?_))))))
  refine lpI (fun (x41 : (List Int) × Int) e w => ∃ (s : St) (e0 : Env), w = s.w ∧ e = upd (upd (upd (upd (upd (upd e0 3 v8_0) 4 v26_0) 6 v30_0) 7 v34_0) 8 v39) 9 (iI x41.2) ∧ Kp s0 s ∧ OwF Xy s [v39] x41.1 48 ∧ OwF Xz s [v8_0] r8 41 ∧ OwF Xy s [v26_0] r26.1 45 ∧ OwF Xy s [v30_0] r30 46 ∧ OwF Yc s [v34_0] r34 47) ⟨s39, _, rfl, (ue (ue (ue (ue (ue (ue rfl rfl) rfl) rfl) rfl) rfl) rfl), (K6.st (tr6 p9 p12 p27 p31 p35 p39) rfl), A39, (A38.st p39 rfl), ((f26_0.c n27).st (tr3 p31 p35 p39) rfl), (A30_0.st (Xq p35 p39) rfl), (A34_0.st p39 rfl)⟩ (fun g41 ih41 => ?_)
  rintro x41 _ _ ⟨s47, _, rfl, rfl, Kx41, Ax41_0, Cx41_10, Cx41_28, Cx41_32, Cx41_36⟩
  unfold laws_FnOrders.b0
  refine sq (sr (Xb rfl (Xp v26_0 rfl (ln' Cx41_28.rd u50 rfl (Xb rfl (dn (cd rfl (fun h49 => ?_) (fun h49 => ?_))))))))
  ·
   refine sk (sq (bl (sq (sr (Xp v26_0 rfl (Xb rfl (ix' Cx41_28.rd u50 z3 rfl (fun ad50 es50 h0_50 h1_50 he50 ce50 ia50 => ?_))))))))
   obtain rfl := he50
   refine lc0' ce50 u3 rfl (Xb rfl (Xb rfl (ji [] (fun (y52 : Bool) e w => ∃ (s : St) (e0 : Env), w = s.w ∧ e = upd (upd (upd (upd (upd (upd (upd e0 3 v8_0) 4 v26_0) 6 v30_0) 7 v34_0) 8 v39) 9 (iI x41.2)) 62 (.bool y52) ∧ Kp s0 s ∧ OwF Xz s [v8_0] r8 41 ∧ OwF Xy s [v26_0] r26.1 45 ∧ OwF Xy s [v30_0] r30 46 ∧ OwF Yc s [v34_0] r34 47 ∧ OwF Xy s [v39] x41.1 48) (fun Gj52 Kj52 => ?_) ?_)))
   ·
    rcases bft (decide ((at_ r26.1 x41.2) < (0 : Int))) with hb52 | hb52
    ·
     refine Xv hb52 ?_
     rw [if_pos hb52]
     exact Xj rfl (Xj rfl (Xj rfl (Xj rfl (Xj rfl (Xj rfl (Xj rfl (Xb rfl (Kj52 _ _ _ ⟨s47, _, rfl, (ue (ue (ue (ue (ue (ue (ue rfl rfl) rfl) rfl) rfl) rfl) rfl) rfl), Kx41, Cx41_10, Cx41_28, Cx41_32, Cx41_36, Ax41_0⟩))))))))
    refine Xv hb52 ?_
    rw [if_neg (by rw [hb52]; decide)]
    refine Xp v26_0 rfl (Xb rfl (ix' Cx41_28.rd u50 z3 rfl (fun ad53 es53 h0_53 h1_53 he53 ce53 ia53 => ?_)))
    obtain rfl := he53
    exact lc0' ce53 u3 rfl (Xp v8_0 rfl (ln' Cx41_10.rd u62 rfl (Xb rfl (Xb rfl (Kj52 _ _ _ ⟨s47, _, rfl, (ue (ue (ue (ue (ue (ue (ue rfl rfl) rfl) rfl) rfl) rfl) rfl) rfl), Kx41, Cx41_10, Cx41_28, Cx41_32, Cx41_36, Ax41_0⟩)))))
   rintro y52 _ _ ⟨s55, _, rfl, rfl, Ky52, Cy52_10, Cy52_28, Cy52_32, Cy52_36, Cy52_48⟩
   refine dn (cd rfl (fun h56 => ?_) (fun h56 => ?_))
   ·
    exact sr (Xb rfl (dn (sgi (re rfl func5 rfl (Xs rfl Xg) rfl ⟨_, rfl, rfl, z.ky Ky52⟩))))
   refine sk (rg (Xp v39 rfl (Xp v26_0 rfl (Xb rfl (ix' Cy52_28.rd u50 z3 rfl (fun ad57 es57 h0_57 h1_57 he57 ce57 ia57 => ?_))))))
   obtain rfl := he57
   refine lc0' ce57 u3 rfl (Xb rfl (ix' Cy52_48.rd u50 z3 rfl (fun ad59 es59 h0_59 h1_59 he59 ce59 ia59 => ?_)))
   obtain rfl := he59
   refine so (x' := x41.2) Cy52_48 ia59 h0_59 h1_59 cs_flat z3 rfl rfl rfl rfl rfl rfl (fun s61 p61 A61 => ?_)
   refine dn (ib (rg (Xb rfl (Xb rfl (Xb rfl (dn ?_))))))
   exact lb ih41 ⟨s61, _, rfl, (ue (ue (ue (ue (ue (ue rfl rfl) rfl) rfl) rfl) rfl) rfl), (Ky52.st p61 rfl), A61, (Cy52_10.st p61 rfl), (Cy52_28.st p61 rfl), (Cy52_32.st p61 rfl), (Cy52_36.st p61 rfl)⟩
  refine xt rfl (sgb (sq (sr (Xb rfl (dn (bl (lpI (fun (x68 : Int) e w => ∃ (s : St) (e0 : Env), w = s.w ∧ e = upd (upd (upd (upd (upd (upd e0 3 v8_0) 4 v26_0) 6 v30_0) 7 v34_0) 8 v39) 10 (iI x68) ∧ Kp s0 s ∧ OwF Xz s [v8_0] r8 41 ∧ OwF Xy s [v26_0] r26.1 45 ∧ OwF Xy s [v30_0] r30 46 ∧ OwF Yc s [v34_0] r34 47 ∧ OwF Xy s [v39] x41.1 48) ⟨s47, _, rfl, (ue (ue (ue (ue (ue (ue rfl rfl) rfl) rfl) rfl) rfl) rfl), Kx41, Cx41_10, Cx41_28, Cx41_32, Cx41_36, Ax41_0⟩ (fun g68 ih68 => ?_))))))))
  rintro x68 _ _ ⟨s69, _, rfl, rfl, Kx68, Cx68_10, Cx68_28, Cx68_32, Cx68_36, Cx68_48⟩
  unfold laws_FnOrders.b1
  refine sq (sr (Xb rfl (Xp v34_0 rfl (ln' Cx68_36.rd u65 rfl (Xb rfl (dn (cd rfl (fun h70 => ?_) (fun h70 => ?_))))))))
  ·
   refine sk (sq (bl (sq (zdraw [[], [], [], [1, 2], [3], [4], [0, 5], [6], [], [], [], [9, 10], [11], [12], [8, 13], [14], [7, 15]] [some 76, some 77, some 78, some 79, some 80, some 81, some 82, some 83, some 84, some 85, some 86, some 87, some 88, some 89, some 90, some 91, some 92] [[8], [7], [10], [77, 78], [79], [80], [76, 81], [82], [8], [7], [10], [85, 86], [87], [88], [84, 89], [90], [83, 91]] [0, 1, 2, 3, 4, 5, 6, 7, 8, 9, 10, 11, 12, 13, 14, 15, 16] ⟨by kernel_rfl, by kernel_rfl, by kernel_rfl⟩ (by kernel_rfl) (fun s71 p71 l71 tb71 zd71 => ?_)))))
   have A75 := Cx68_36.st p71 rfl
   refine mg fun hg76 => ?_
   obtain ⟨ad76, es76, he76, ce76, ia76⟩ := ix_e A75.rd rfl hg76.1 hg76.2
   obtain ⟨rfl⟩ := op70 he76
   refine mg fun hg82 => ?_
   obtain ⟨ad82, es82, he82, ce82, ia82⟩ := ix_e A75.rd rfl hg82.1 hg82.2
   obtain ⟨rfl⟩ := op70 he82
   refine ji [16] (fun (y85 : Int × Int) e w => ∃ (s : St) (e0 : Env), w = s.w ∧ e = upd (upd (upd (upd (upd (upd (upd (upd e0 3 v8_0) 4 v26_0) 6 v30_0) 7 v34_0) 8 v39) 10 (iI x68)) 83 (iI y85.1)) 91 (iI y85.2) ∧ Kp s0 s ∧ OwF Xz s [v8_0] r8 41 ∧ OwF Xy s [v26_0] r26.1 45 ∧ OwF Xy s [v30_0] r30 46 ∧ OwF Yc s [v34_0] r34 47 ∧ OwF Xy s [v39] x41.1 48) (fun Gj85 Kj85 => ?_) ?_
   ·
    refine zstep2 4 12 [some 87, some 86, some 85, some 84, some 76] [some 84, some 79, some 78, some 77, some 76] tb71 ((((((((zd71.add 0 76 v39 rfl).add 1 77 v34_0 rfl).add 2 78 (iI x68) rfl).add 3 79 (.pointer (some ad76)) rfl).add 8 84 v39 rfl).add 9 85 v34_0 rfl).add 10 86 (iI x68) rfl).add 11 87 (.pointer (some ad82)) rfl) (Xa (Xn A75.rd u65 z70 hg82.1 hg82.2 ia82 rfl) rfl (Xa (Xd rfl) rfl (Xa (Xl v34_0 rfl) rfl (Xa (Xl v39 rfl) rfl (Xa (Xn A75.rd u65 z70 hg76.1 hg76.2 ia76 rfl) rfl (Xa (Xd rfl) rfl (Xa (Xl v34_0 rfl) rfl (Xa (Xl v39 rfl) rfl Xh)))))))) (by kernel_rfl) (by kernel_rfl) (fun l86 e86 zd86 => ?_) (fun l87 e87 zd87 => ?_)
    ·
     refine ixc (q := 0) u70 z3 rfl rfl rfl rfl rfl rfl rfl rfl rfl (zdone (L' := [11, 10, 9, 8, 0]) (D' := [1, 2, 3, 4]) zd86 rfl rfl rfl (fun zd88 => ?_))
     have A90 := Cx68_48.st p71 rfl
     refine mg fun hg91 => ?_
     obtain ⟨ad91, es91, he91, ce91, ia91⟩ := ix_e A90.rd rfl hg91.1 hg91.2
     obtain rfl := he91
     refine zstep 12 [some 83, some 82, some 81, some 84, some 76] tb71 (((zd88.add 5 81 (iI ((at_ r34 x68).e0)) rfl).add 6 82 (.pointer (some ad91)) rfl).add 7 83 (iI (at_ x41.1 ((at_ r34 x68).e0))) rfl) (Xa (Xt ce91 u3 rfl) rfl (Xa (Xn A90.rd u50 z3 hg91.1 hg91.2 ia91 rfl) rfl (Xa (Xt ce76 u3 rfl) rfl (Xa (Xn A75.rd u65 z70 hg82.1 hg82.2 ia82 rfl) rfl (Xa (Xd rfl) rfl (Xa (Xl v34_0 rfl) rfl (Xa (Xl v39 rfl) rfl (Xa (Xl v39 rfl) rfl Xh)))))))) (by kernel_rfl) rfl (fun l95 e95 zd95 => ?_)
     refine ixc (q := 1) u70 z3 rfl rfl rfl rfl rfl rfl rfl rfl rfl (zdone (L' := [7, 6, 5, 8, 0]) (D' := [9, 10, 11, 12, 1, 2, 3, 4]) zd95 rfl rfl rfl (fun zd96 => ?_))
     refine mg fun hg98 => ?_
     obtain ⟨ad98, es98, he98, ce98, ia98⟩ := ix_e A90.rd rfl hg98.1 hg98.2
     obtain rfl := he98
     exact zfin [16] tb71 (((zd96.add 13 89 (iI ((at_ r34 x68).e1)) rfl).add 14 90 (.pointer (some ad98)) rfl).add 15 91 (iI (at_ x41.1 ((at_ r34 x68).e1))) rfl) (Xa (Xt ce98 u3 rfl) rfl (Xa (Xn A90.rd u50 z3 hg98.1 hg98.2 ia98 rfl) rfl (Xa (lc_q' ce82 u3 rfl) rfl (Xa (Xt ce91 u3 rfl) rfl (Xa (Xn A90.rd u50 z3 hg91.1 hg91.2 ia91 rfl) rfl (Xa (Xt ce76 u3 rfl) rfl (Xa (Xl v39 rfl) rfl (Xa (Xl v39 rfl) rfl Xh)))))))) (by kernel_rfl) (by decide) (Kj85 _ _ _ ⟨s71, _, rfl, (ue (ue (ue (ue (ue (ue (ue (ue rfl rfl) rfl) rfl) rfl) rfl) rfl) rfl) rfl), (Kx68.st p71 rfl), (Cx68_10.st p71 rfl), (Cx68_28.st p71 rfl), (Cx68_32.st p71 rfl), A75, A90⟩)
    refine mgs (ixc (q := 1) u70 z3 rfl rfl rfl rfl rfl rfl rfl rfl rfl (zdone (L' := [8, 3, 2, 1, 0]) (D' := [9, 10, 11, 12]) zd87 rfl rfl rfl (fun zd106 => ?_)))
    have A108 := Cx68_48.st p71 rfl
    refine mg fun hg109 => ?_
    obtain ⟨ad109, es109, he109, ce109, ia109⟩ := ix_e A108.rd rfl hg109.1 hg109.2
    obtain rfl := he109
    refine zstep 4 [some 91, some 90, some 89, some 84, some 76] tb71 (((zd106.add 13 89 (iI ((at_ r34 x68).e1)) rfl).add 14 90 (.pointer (some ad109)) rfl).add 15 91 (iI (at_ x41.1 ((at_ r34 x68).e1))) rfl) (Xa (Xt ce109 u3 rfl) rfl (Xa (Xn A108.rd u50 z3 hg109.1 hg109.2 ia109 rfl) rfl (Xa (lc_q' ce82 u3 rfl) rfl (Xa (Xl v39 rfl) rfl (Xa (Xn A75.rd u65 z70 hg76.1 hg76.2 ia76 rfl) rfl (Xa (Xd rfl) rfl (Xa (Xl v34_0 rfl) rfl (Xa (Xl v39 rfl) rfl Xh)))))))) (by kernel_rfl) rfl (fun l113 e113 zd113 => ?_)
    refine ixc (q := 0) u70 z3 rfl rfl rfl rfl rfl rfl rfl rfl rfl (zdone (L' := [15, 14, 13, 8, 0]) (D' := [1, 2, 3, 4, 9, 10, 11, 12]) zd113 rfl rfl rfl (fun zd114 => ?_))
    refine mg fun hg116 => ?_
    obtain ⟨ad116, es116, he116, ce116, ia116⟩ := ix_e A108.rd rfl hg116.1 hg116.2
    obtain rfl := he116
    exact zfin [16] tb71 (((zd114.add 5 81 (iI ((at_ r34 x68).e0)) rfl).add 6 82 (.pointer (some ad116)) rfl).add 7 83 (iI (at_ x41.1 ((at_ r34 x68).e0))) rfl) (Xa (Xt ce116 u3 rfl) rfl (Xa (Xn A108.rd u50 z3 hg116.1 hg116.2 ia116 rfl) rfl (Xa (Xt ce76 u3 rfl) rfl (Xa (Xt ce109 u3 rfl) rfl (Xa (Xn A108.rd u50 z3 hg109.1 hg109.2 ia109 rfl) rfl (Xa (lc_q' ce82 u3 rfl) rfl (Xa (Xl v39 rfl) rfl (Xa (Xl v39 rfl) rfl Xh)))))))) (by kernel_rfl) (by decide) (Kj85 _ _ _ ⟨s71, _, rfl, (ue (ue (ue (ue (ue (ue (ue (ue rfl rfl) rfl) rfl) rfl) rfl) rfl) rfl) rfl), (Kx68.st p71 rfl), (Cx68_10.st p71 rfl), (Cx68_28.st p71 rfl), (Cx68_32.st p71 rfl), A75, A108⟩)
   rintro y85 _ _ ⟨s124, _, rfl, rfl, Ky85, Cy85_10, Cy85_28, Cy85_32, Cy85_36, Cy85_48⟩
   refine Xb rfl (dn (cd rfl (fun h125 => ?_) (fun h125 => ?_)))
   ·
    exact sr (Xb rfl (dn (sgi (re rfl func5 rfl (Xs rfl Xg) rfl ⟨_, rfl, rfl, z.ky Ky85⟩))))
   exact sk (ib (rg (Xb rfl (Xb rfl (Xb rfl (dn (lb ih68 ⟨s124, _, rfl, (ue (ue (ue (ue (ue (ue rfl rfl) rfl) rfl) rfl) rfl) rfl), Ky85, Cy85_10, Cy85_28, Cy85_32, Cy85_36, Cy85_48⟩)))))))
  refine xt rfl (sgb (sr (Xp v26_0 rfl (ln' Cx68_28.rd u50 rfl (Xp v8_0 rfl (ln' Cx68_10.rd u62 rfl (Xb rfl (Xb rfl (jy [98, 99, 100, 101, 102] [10, 11, 12, 13, 14, 15, 16, 17, 18, 19, 20] 102 (.bool (((r26.1.length : Int) == (r8.length : Int)) && ((r30.length : Int) == (0 : Int)))) rfl (fun Kg126 => ?_) (fun j126 => ?_))))))))))
  ·
   rcases bft ((r26.1.length : Int) == (r8.length : Int)) with hb126 | hb126
   ·
    exact Xv hb126 (Xp v30_0 rfl (ln' Cx68_32.rd u50 rfl (Xb rfl (Xb rfl (Kg126 _ (Ag.put ((Ag.put ((Ag.put ((Ag.put (Ag.base rfl) rfl)) rfl)) rfl)) rfl) (by rw [hb126]; rfl))))))
   exact Xv hb126 (Xj rfl (Xj rfl (Xj rfl (Xb rfl (Kg126 _ (Ag.put ((Ag.put ((Ag.put ((Ag.put (Ag.base rfl) rfl)) rfl)) rfl)) rfl) (by rw [hb126]; rfl))))))
  refine Xb rfl (ji [15, 16, 17, 18, 19, 20] (fun (y127 : Bool) e w => ∃ (s : St) (e0 : Env), w = s.w ∧ e = upd (upd (upd e0 3 v8_0) 4 v26_0) 107 (.bool y127) ∧ Kp s0 s ∧ OwF Xz s [v8_0] r8 41 ∧ OwF Xy s [v26_0] r26.1 45) (fun Gj127 Kj127 => ?_) ?_)
  ·
   rcases bft (((r26.1.length : Int) == (r8.length : Int)) && ((r30.length : Int) == (0 : Int))) with hb127 | hb127
   ·
    refine Xv hb127 ?_
    rw [if_pos hb127]
    refine Xp v8_0 rfl (Xp v26_0 rfl (clV 49 rfl func40 rfl (impl_GraphSerial.calls r8 r26.1 s69.w (mm [41, 45] s69) v8_0 v26_0 (Cx68_10.rd.sub (D := [41, 45]) rfl) (Cx68_28.rd.sub (D := [41, 45]) rfl)) (fun r128 s129 p129 n129 => ?_)))
    exact Xb rfl (Kj127 _ _ _ ⟨s129, _, rfl, (ue (ue (ue rfl rfl) rfl) rfl), (Kx68.st p129 rfl), (Cx68_10.st p129 rfl), (Cx68_28.st p129 rfl)⟩)
   refine Xv hb127 ?_
   rw [if_neg (by rw [hb127]; decide)]
   exact Xj rfl (Xj rfl (Xj rfl (Xb rfl (Kj127 _ _ _ ⟨s69, _, rfl, (ue (ue (ue rfl rfl) rfl) rfl), Kx68, Cx68_10, Cx68_28⟩))))
  rintro y127 _ _ ⟨s133, _, rfl, rfl, Ky127, Cy127_10, Cy127_28⟩
  refine Xb rfl (ji [20] (fun (y134 : Bool) e w => ∃ (s : St) (e0 : Env), w = s.w ∧ e = upd e0 112 (.bool y134) ∧ Kp s0 s) (fun Gj134 Kj134 => ?_) ?_)
  ·
   rcases bft y127 with hb134 | hb134
   ·
    refine Xv hb134 ?_
    rw [if_pos hb134]
    refine Xp v8_0 rfl (Xp v26_0 rfl (clV 50 rfl func41 rfl (spec_GraphSerial.calls r8 r26.1 s133.w (mm [41, 45] s133) v8_0 v26_0 (Cy127_10.rd.sub (D := [41, 45]) rfl) (Cy127_28.rd.sub (D := [41, 45]) rfl)) (fun r135 s136 p136 n136 => ?_)))
    exact Xb rfl (Kj134 _ _ _ ⟨s136, _, rfl, (ue rfl rfl), (Ky127.st p136 rfl)⟩)
   refine Xv hb134 ?_
   rw [if_neg (by rw [hb134]; decide)]
   exact Xj rfl (Xj rfl (Xj rfl (Xb rfl (Kj134 _ _ _ ⟨s133, _, rfl, (ue rfl rfl), Ky127⟩))))
  rintro y134 _ _ ⟨s138, _, rfl, rfl, Ky134⟩
  exact Xb rfl (dn (re rfl func5 rfl (Xs rfl Xg) rfl ⟨_, rfl, rfl, z.ky Ky134⟩))
 refine sk (sq (sr (Xp v30_0 rfl ?_)))
 have A139 := A30_0.st p35 rfl
 refine ln' A139.rd u50 rfl (Xb rfl (dn (cd rfl (fun h140 => ?_) (fun h140 => ?_))))
 ·
  refine sr (Xb rfl (dn ?_))
  exact re rfl func5 rfl (Xs rfl Xg) rfl ⟨_, rfl, rfl, z.ky (K6.st (tr5 p9 p12 p27 p31 p35) rfl)⟩
 refine sk (sq (sr (Xb rfl (dn (bl ?_)))))
 refine lpI (fun (x142 : Int) e w => ∃ (s : St) (e0 : Env), w = s.w ∧ e = upd (upd (upd e0 6 v30_0) 7 v34_0) 11 (iI x142) ∧ Kp s0 s ∧ OwF Xy s [v30_0] r30 46 ∧ OwF Yc s [v34_0] r34 47) ⟨s35, _, rfl, (ue (ue (ue rfl rfl) rfl) rfl), (K6.st (tr5 p9 p12 p27 p31 p35) rfl), A139, A34_0⟩ (fun g142 ih142 => ?_)
 rintro x142 _ _ ⟨s144, _, rfl, rfl, Kx142, Cx142_32, Cx142_36⟩
 unfold laws_FnOrders.b2
 refine sq (sr (Xb rfl (Xp v30_0 rfl (ln' Cx142_32.rd u50 rfl (Xb rfl (dn (cd rfl (fun h145 => ?_) (fun h145 => ?_))))))))
 ·
  refine sk (sq (bl (sr (Xb rfl (dn (sq (sr (Xb rfl (dn (bl (lpI (fun (x146 : Bool × Int) e w => ∃ (s : St) (e0 : Env), w = s.w ∧ e = upd (upd (upd (upd (upd e0 6 v30_0) 7 v34_0) 11 (iI x142)) 12 (.bool x146.1)) 13 (iI x146.2) ∧ Kp s0 s ∧ OwF Xy s [v30_0] r30 46 ∧ OwF Yc s [v34_0] r34 47) ⟨s144, _, rfl, (ue (ue (ue (ue (ue rfl rfl) rfl) rfl) rfl) rfl), Kx142, Cx142_32, Cx142_36⟩ (fun g146 ih146 => ?_))))))))))))
  rintro x146 _ _ ⟨s147, _, rfl, rfl, Kx146, Cx146_32, Cx146_36⟩
  unfold laws_FnOrders.b3
  refine sq (sr (Xb rfl (Xp v34_0 rfl (ln' Cx146_36.rd u65 rfl (Xb rfl (dn (cd rfl (fun h148 => ?_) (fun h148 => ?_))))))))
  ·
   refine sk (sq (bl (zdraw [[], [0], [1], [1], [2, 3, 1], [4, 1], [5, 1], [1], [1], [8, 1], [1], [10, 1], [9, 11, 1], [7, 12, 1], [13, 1], [6, 14, 1], [15, 1, 1], [16], [16], [17, 18, 16], [19, 16], [20, 16], [16], [16], [22, 23, 16], [24, 16], [21, 25, 16], [16, 26, 1], [1, 27], [28, 16, 0, 1, 2, 3, 4, 5, 6, 7, 8, 9, 10, 11, 12, 13, 14, 15, 16, 17, 18, 19, 20, 21, 22, 23, 24, 25, 26, 27, 28]] [some 128, some 129, some 130, some 131, some 132, some 133, some 134, some 135, some 136, some 137, some 138, some 139, some 140, some 141, some 142, some 143, some 144, some 145, some 146, some 147, some 148, some 149, some 150, some 151, some 152, some 153, some 154, some 155, some 156, some 12] [[12], [128], [7, 129], [13, 129], [130, 131, 129], [132, 129], [133, 129], [6, 129], [11, 129], [136, 129], [6, 129], [138, 129], [137, 139, 129], [135, 140, 129], [141, 129], [134, 142, 129], [143, 129], [7, 144], [13, 144], [145, 146, 144], [147, 144], [148, 144], [6, 144], [11, 144], [150, 151, 144], [152, 144], [149, 153, 144], [144, 154, 129], [129, 155], [156]] [0, 1, 2, 3, 4, 5, 6, 7, 8, 9, 10, 11, 12, 13, 14, 15, 16, 17, 18, 19, 20, 21, 22, 23, 24, 25, 26, 27, 28, 29] ⟨by kernel_rfl, by kernel_rfl, by kernel_rfl⟩ (by kernel_rfl) (fun s149 p149 l149 tb149 zd149 => ?_))))
   have zd151 := (zd149.add 0 128 (.bool x146.1) rfl).add 1 129 (.bool x146.1) rfl
   refine ji [29] (fun (y152 : Bool) e w => ∃ (s : St) (e0 : Env), w = s.w ∧ e = upd (upd (upd (upd (upd e0 6 v30_0) 7 v34_0) 11 (iI x142)) 13 (iI x146.2)) 156 (.bool y152) ∧ Kp s0 s ∧ OwF Xy s [v30_0] r30 46 ∧ OwF Yc s [v34_0] r34 47) (fun Gj152 Kj152 => ?_) ?_
   ·
    rcases bft x146.1 with hb152 | hb152
    ·
     rw [if_pos hb152]
     rw [hb152] at zd151
     try rw [hb152]
     refine zfin [26, 27, 28, 29] tb149 ((((((((((((((((((((((((zd151.add 2 130 undef rfl).add 3 131 undef rfl).add 4 132 undef rfl).add 5 133 undef rfl).add 6 134 undef rfl).add 7 135 undef rfl).add 8 136 undef rfl).add 9 137 undef rfl).add 10 138 undef rfl).add 11 139 undef rfl).add 12 140 undef rfl).add 13 141 undef rfl).add 14 142 undef rfl).add 15 143 undef rfl).add 16 144 undef rfl).add 17 145 undef rfl).add 18 146 undef rfl).add 19 147 undef rfl).add 20 148 undef rfl).add 21 149 undef rfl).add 22 150 undef rfl).add 23 151 undef rfl).add 24 152 undef rfl).add 25 153 undef rfl) (Xa (Xf rfl) rfl (Xa (Xf rfl) rfl (Xa (Xf rfl) rfl (Xa (Xf rfl) rfl (Xa (Xf rfl) rfl (Xa (Xf rfl) rfl (Xa (Xf rfl) rfl (Xa (Xf rfl) rfl (Xa (Xf rfl) rfl (Xa (Xf rfl) rfl (Xa (Xf rfl) rfl (Xa (Xf rfl) rfl (Xa (Xf rfl) rfl (Xa (Xf rfl) rfl (Xa (Xf rfl) rfl (Xa (Xf rfl) rfl (Xa (Xf rfl) rfl (Xa (Xf rfl) rfl (Xa (Xf rfl) rfl (Xa (Xf rfl) rfl (Xa (Xf rfl) rfl (Xa (Xf rfl) rfl (Xa (Xf rfl) rfl (Xa (Xf rfl) rfl (Xa (Xd rfl) rfl (Xa (Xd rfl) rfl Xh)))))))))))))))))))))))))) (by kernel_rfl) (by decide) (Xj rfl (Xj rfl (Xb rfl ?_)))
     exact Kj152 _ _ _ ⟨s149, _, rfl, (ue (ue (ue (ue (ue rfl rfl) rfl) rfl) rfl) rfl), (Kx146.st p149 rfl), (Cx146_32.st p149 rfl), (Cx146_36.st p149 rfl)⟩
    rw [if_neg (by rw [hb152]; decide)]
    rw [hb152] at zd151
    try rw [hb152]
    have A182 := Cx146_36.st p149 rfl
    refine mg fun hg183 => ?_
    obtain ⟨ad183, es183, he183, ce183, ia183⟩ := ix_e A182.rd rfl hg183.1 hg183.2
    obtain ⟨rfl⟩ := op70 he183
    refine zstep2 5 12 [some 139, some 138, some 137, some 136, some 135] [some 135, some 132, some 131, some 130] tb149 ((((((((zd151.add 2 130 v34_0 rfl).add 3 131 (iI x146.2) rfl).add 4 132 (.pointer (some ad183)) rfl).add 7 135 v30_0 rfl).add 8 136 (iI x142) rfl).add 9 137 (iI (IntKind.wrap .i64 (x142 + (1 : Int)))) rfl).add 10 138 v30_0 rfl).add 11 139 (iI (r30.length : Int)) rfl) (Xa (ln_q (Cx146_32.st p149 rfl).rd u50 rfl rfl rfl rfl rfl rfl) rfl (Xa (Xl v30_0 rfl) rfl (Xa (Xd rfl) rfl (Xa (Xd rfl) rfl (Xa (Xl v30_0 rfl) rfl (Xa (Xn A182.rd u65 z70 hg183.1 hg183.2 ia183 rfl) rfl (Xa (Xd rfl) rfl (Xa (Xl v34_0 rfl) rfl (Xa (Xd rfl) rfl (Xa (Xd rfl) rfl Xh)))))))))) (by kernel_rfl) (by kernel_rfl) (fun l192 e192 zd192 => ?_) (fun l193 e193 zd193 => ?_)
    ·
     refine ixc (q := 0) u70 z3 rfl rfl rfl rfl rfl rfl rfl rfl rfl (zdone (L' := [11, 10, 9, 8, 7]) (D' := [0, 2, 3, 4, 1, 5]) zd192 rfl rfl rfl (fun zd195 => ?_))
     refine zstep 12 [some 134, some 135] tb149 (zd195.add 6 134 (iI ((at_ r34 x146.2).e0)) rfl) (Xa (Xt ce183 u3 rfl) rfl (Xa (ln_q (Cx146_32.st p149 rfl).rd u50 rfl rfl rfl rfl rfl rfl) rfl (Xa (Xl v30_0 rfl) rfl (Xa (Xd rfl) rfl (Xa (Xd rfl) rfl (Xa (Xl v30_0 rfl) rfl Xh)))))) (by kernel_rfl) rfl (fun l197 e197 zd197 => ?_)
     refine rem_ rfl rfl rfl rfl rfl rfl rfl (zdone (L' := [6, 7]) (D' := [8, 10, 9, 11, 12, 0, 2, 3, 4, 1, 5]) zd197 rfl rfl rfl (fun zd199 => ?_))
     have A200 := Cx146_32.st p149 rfl
     refine mg fun hg201 => ?_
     obtain ⟨ad201, es201, he201, ce201, ia201⟩ := ix_e A200.rd rfl hg201.1 hg201.2
     obtain rfl := he201
     have zd206 := (((zd199.add 13 141 (.pointer (some ad201)) rfl).add 14 142 (iI (at_ r30 ((IntKind.wrap .i64 (x142 + (1 : Int))).tmod (r30.length : Int)))) rfl).add 15 143 (.bool ((at_ r34 x146.2).e0 == (at_ r30 ((IntKind.wrap .i64 (x142 + (1 : Int))).tmod (r30.length : Int))))) rfl).add 16 144 (.bool ((at_ r34 x146.2).e0 == (at_ r30 ((IntKind.wrap .i64 (x142 + (1 : Int))).tmod (r30.length : Int))))) rfl
     refine ji [28, 29] (fun (y207 : Int × Bool × Bool × Bool) e w => ∃ (s : St) (e0 : Env), w = s.w ∧ e = upd (upd (upd (upd (upd (upd (upd (upd (upd (upd (upd (upd (upd (upd (upd (upd (upd (upd (upd (upd (upd e0 6 v30_0) 7 v34_0) 11 (iI x142)) 13 (iI x146.2)) 129 (.bool false)) 130 v34_0) 131 (iI x146.2)) 132 (.pointer (some ad183))) 133 (.pointer (some ad183))) 134 (iI y207.1)) 135 v30_0) 136 (iI x142)) 137 (iI (IntKind.wrap .i64 (x142 + (1 : Int))))) 138 v30_0) 139 (iI (r30.length : Int))) 140 (iI ((IntKind.wrap .i64 (x142 + (1 : Int))).tmod (r30.length : Int)))) 141 (.pointer (some ad201))) 142 (iI (at_ r30 ((IntKind.wrap .i64 (x142 + (1 : Int))).tmod (r30.length : Int))))) 143 (.bool y207.2.1)) 144 (.bool y207.2.2.1)) 155 (.bool y207.2.2.2) ∧ Kp s0 s ∧ OwF Xy s [v30_0] r30 46 ∧ OwF Yc s [v34_0] r34 47) (fun Gj207 Kj207 => ?_) ?_
     ·
      rcases bft ((at_ r34 x146.2).e0 == (at_ r30 ((IntKind.wrap .i64 (x142 + (1 : Int))).tmod (r30.length : Int)))) with hb207 | hb207
      ·
       rw [if_pos hb207]
       rw [hb207] at zd206
       try rw [hb207]
       refine mg fun hg210 => ?_
       obtain ⟨ad210, es210, he210, ce210, ia210⟩ := ix_e A182.rd rfl hg210.1 hg210.2
       obtain ⟨rfl⟩ := op70 he210
       refine mg fun hg215 => ?_
       obtain ⟨ad215, es215, he215, ce215, ia215⟩ := ix_e A200.rd rfl hg215.1 hg215.2
       obtain rfl := he215
       refine zstep 20 [some 153, some 152, some 151, some 150] tb149 (((((((zd206.add 17 145 v34_0 rfl).add 18 146 (iI x146.2) rfl).add 19 147 (.pointer (some ad210)) rfl).add 22 150 v30_0 rfl).add 23 151 (iI x142) rfl).add 24 152 (.pointer (some ad215)) rfl).add 25 153 (iI (at_ r30 x142)) rfl) (Xa (Xt ce215 u3 rfl) rfl (Xa (Xn A200.rd u50 z3 hg215.1 hg215.2 ia215 rfl) rfl (Xa (Xd rfl) rfl (Xa (Xl v30_0 rfl) rfl (Xa (Xn A182.rd u65 z70 hg210.1 hg210.2 ia210 rfl) rfl (Xa (Xd rfl) rfl (Xa (Xl v34_0 rfl) rfl (Xa (Xd rfl) rfl (Xa (qv_b (Xd rfl) hb207) rfl (Xa (Xt ce201 u3 rfl) rfl (Xa (Xn A200.rd u50 z3 hg201.1 hg201.2 ia201 rfl) rfl (Xa (Xt ce183 u3 rfl) rfl (Xa (Xl v30_0 rfl) rfl Xh))))))))))))) (by kernel_rfl) rfl (fun l219 e219 zd219 => ?_)
       refine ixc (q := 1) u70 z3 rfl rfl rfl rfl rfl rfl rfl rfl rfl (zdone (L' := [25, 24, 23, 22]) (D' := [7, 13, 6, 14, 15, 17, 18, 19, 16, 20, 8, 10, 9, 11, 12, 0, 2, 3, 4, 1, 5]) zd219 rfl rfl rfl (fun zd220 => ?_))
       refine zfin [26, 27, 28, 29] tb149 (zd220.add 21 149 (iI ((at_ r34 x146.2).e1)) rfl) (Xa (lc_q' ce210 u3 rfl) rfl (Xa (Xt ce215 u3 rfl) rfl (Xa (Xn A200.rd u50 z3 hg215.1 hg215.2 ia215 rfl) rfl (Xa (Xd rfl) rfl (Xa (Xl v30_0 rfl) rfl Xh))))) (by kernel_rfl) (by decide) (Xb rfl (Xb rfl ?_))
       exact Kj207 _ _ _ ⟨s149, _, rfl, (ue (ue (ue (ue (ue (ue (ue (ue (ue (ue (ue (ue (ue (ue (ue (ue (ue (ue (ue (ue (ue rfl rfl) rfl) rfl) rfl) rfl) rfl) rfl) rfl) rfl) rfl) rfl) rfl) rfl) rfl) rfl) rfl) rfl) rfl) rfl) rfl) rfl), (Kx146.st p149 rfl), A200, A182⟩
      rw [if_neg (by rw [hb207]; decide)]
      rw [hb207] at zd206
      try rw [hb207]
      refine zfin [26, 27, 28, 29] tb149 (((((((((zd206.add 17 145 undef rfl).add 18 146 undef rfl).add 19 147 undef rfl).add 20 148 undef rfl).add 21 149 undef rfl).add 22 150 undef rfl).add 23 151 undef rfl).add 24 152 undef rfl).add 25 153 undef rfl) (Xa (Xf rfl) rfl (Xa (Xf rfl) rfl (Xa (Xf rfl) rfl (Xa (Xf rfl) rfl (Xa (Xf rfl) rfl (Xa (Xf rfl) rfl (Xa (Xf rfl) rfl (Xa (Xf rfl) rfl (Xa (Xf rfl) rfl (Xa (Xd rfl) rfl (Xa (qv_b (Xd rfl) hb207) rfl (Xa (Xt ce201 u3 rfl) rfl (Xa (Xn A200.rd u50 z3 hg201.1 hg201.2 ia201 rfl) rfl (Xa (Xt ce183 u3 rfl) rfl (Xa (Xl v30_0 rfl) rfl Xh))))))))))))))) (by kernel_rfl) (by decide) (Xj rfl (Xb rfl ?_))
      exact Kj207 _ _ _ ⟨s149, _, rfl, (ue (ue (ue (ue (ue (ue (ue (ue (ue (ue (ue (ue (ue (ue (ue (ue (ue (ue (ue (ue (ue rfl rfl) rfl) rfl) rfl) rfl) rfl) rfl) rfl) rfl) rfl) rfl) rfl) rfl) rfl) rfl) rfl) rfl) rfl) rfl) rfl) rfl), (Kx146.st p149 rfl), A200, A182⟩
     rintro y207 _ _ ⟨s233, _, rfl, rfl, Ky207, Cy207_32, Cy207_36⟩
     exact Xb rfl (Kj152 _ _ _ ⟨s233, _, rfl, (ue (ue (ue (ue (ue rfl rfl) rfl) rfl) rfl) rfl), Ky207, Cy207_32, Cy207_36⟩)
    refine rem_ rfl rfl rfl rfl rfl rfl rfl (zdone (L' := [7, 4, 3, 2]) (D' := [0, 8, 10, 9, 11, 1, 12]) zd193 rfl rfl rfl (fun zd234 => ?_))
    have A235 := Cx146_32.st p149 rfl
    refine mg fun hg236 => ?_
    obtain ⟨ad236, es236, he236, ce236, ia236⟩ := ix_e A235.rd rfl hg236.1 hg236.2
    obtain rfl := he236
    refine zstep 5 [some 142, some 141, some 135] tb149 ((zd234.add 13 141 (.pointer (some ad236)) rfl).add 14 142 (iI (at_ r30 ((IntKind.wrap .i64 (x142 + (1 : Int))).tmod (r30.length : Int)))) rfl) (Xa (Xt ce236 u3 rfl) rfl (Xa (Xn A235.rd u50 z3 hg236.1 hg236.2 ia236 rfl) rfl (Xa (Xl v30_0 rfl) rfl (Xa (Xn A182.rd u65 z70 hg183.1 hg183.2 ia183 rfl) rfl (Xa (Xd rfl) rfl (Xa (Xl v34_0 rfl) rfl Xh)))))) (by kernel_rfl) rfl (fun l240 e240 zd240 => ?_)
    refine ixc (q := 0) u70 z3 rfl rfl rfl rfl rfl rfl rfl rfl rfl (zdone (L' := [14, 13, 7]) (D' := [2, 3, 4, 5, 0, 8, 10, 9, 11, 1, 12]) zd240 rfl rfl rfl (fun zd241 => ?_))
    have zd244 := ((zd241.add 6 134 (iI ((at_ r34 x146.2).e0)) rfl).add 15 143 (.bool ((at_ r34 x146.2).e0 == (at_ r30 ((IntKind.wrap .i64 (x142 + (1 : Int))).tmod (r30.length : Int))))) rfl).add 16 144 (.bool ((at_ r34 x146.2).e0 == (at_ r30 ((IntKind.wrap .i64 (x142 + (1 : Int))).tmod (r30.length : Int))))) rfl
    refine ji [28, 29] (fun (y245 : Int × Bool × Bool × Bool) e w => ∃ (s : St) (e0 : Env), w = s.w ∧ e = upd (upd (upd (upd (upd (upd (upd (upd (upd (upd (upd (upd (upd (upd (upd (upd (upd (upd (upd (upd (upd e0 6 v30_0) 7 v34_0) 11 (iI x142)) 13 (iI x146.2)) 129 (.bool false)) 130 v34_0) 131 (iI x146.2)) 132 (.pointer (some ad183))) 133 (.pointer (some ad183))) 134 (iI y245.1)) 135 v30_0) 136 (iI x142)) 137 (iI (IntKind.wrap .i64 (x142 + (1 : Int))))) 138 v30_0) 139 (iI (r30.length : Int))) 140 (iI ((IntKind.wrap .i64 (x142 + (1 : Int))).tmod (r30.length : Int)))) 141 (.pointer (some ad236))) 142 (iI (at_ r30 ((IntKind.wrap .i64 (x142 + (1 : Int))).tmod (r30.length : Int))))) 143 (.bool y245.2.1)) 144 (.bool y245.2.2.1)) 155 (.bool y245.2.2.2) ∧ Kp s0 s ∧ OwF Xy s [v30_0] r30 46 ∧ OwF Yc s [v34_0] r34 47) (fun Gj245 Kj245 => ?_) ?_
    ·
     rcases bft ((at_ r34 x146.2).e0 == (at_ r30 ((IntKind.wrap .i64 (x142 + (1 : Int))).tmod (r30.length : Int)))) with hb245 | hb245
     ·
      rw [if_pos hb245]
      rw [hb245] at zd244
      try rw [hb245]
      refine mg fun hg248 => ?_
      obtain ⟨ad248, es248, he248, ce248, ia248⟩ := ix_e A182.rd rfl hg248.1 hg248.2
      obtain ⟨rfl⟩ := op70 he248
      refine mg fun hg253 => ?_
      obtain ⟨ad253, es253, he253, ce253, ia253⟩ := ix_e A235.rd rfl hg253.1 hg253.2
      obtain rfl := he253
      refine zstep 20 [some 153, some 152, some 151, some 150] tb149 (((((((zd244.add 17 145 v34_0 rfl).add 18 146 (iI x146.2) rfl).add 19 147 (.pointer (some ad248)) rfl).add 22 150 v30_0 rfl).add 23 151 (iI x142) rfl).add 24 152 (.pointer (some ad253)) rfl).add 25 153 (iI (at_ r30 x142)) rfl) (Xa (Xt ce253 u3 rfl) rfl (Xa (Xn A235.rd u50 z3 hg253.1 hg253.2 ia253 rfl) rfl (Xa (Xd rfl) rfl (Xa (Xl v30_0 rfl) rfl (Xa (Xn A182.rd u65 z70 hg248.1 hg248.2 ia248 rfl) rfl (Xa (Xd rfl) rfl (Xa (Xl v34_0 rfl) rfl (Xa (Xd rfl) rfl (Xa (qv_b (Xd rfl) hb245) rfl (Xa (Xt ce183 u3 rfl) rfl (Xa (Xt ce236 u3 rfl) rfl (Xa (Xn A235.rd u50 z3 hg236.1 hg236.2 ia236 rfl) rfl (Xa (Xl v30_0 rfl) rfl Xh))))))))))))) (by kernel_rfl) rfl (fun l257 e257 zd257 => ?_)
      refine ixc (q := 1) u70 z3 rfl rfl rfl rfl rfl rfl rfl rfl rfl (zdone (L' := [25, 24, 23, 22]) (D' := [7, 13, 6, 14, 15, 17, 18, 19, 16, 20, 2, 3, 4, 5, 0, 8, 10, 9, 11, 1, 12]) zd257 rfl rfl rfl (fun zd258 => ?_))
      refine zfin [26, 27, 28, 29] tb149 (zd258.add 21 149 (iI ((at_ r34 x146.2).e1)) rfl) (Xa (lc_q' ce248 u3 rfl) rfl (Xa (Xt ce253 u3 rfl) rfl (Xa (Xn A235.rd u50 z3 hg253.1 hg253.2 ia253 rfl) rfl (Xa (Xd rfl) rfl (Xa (Xl v30_0 rfl) rfl Xh))))) (by kernel_rfl) (by decide) (Xb rfl (Xb rfl ?_))
      exact Kj245 _ _ _ ⟨s149, _, rfl, (ue (ue (ue (ue (ue (ue (ue (ue (ue (ue (ue (ue (ue (ue (ue (ue (ue (ue (ue (ue (ue rfl rfl) rfl) rfl) rfl) rfl) rfl) rfl) rfl) rfl) rfl) rfl) rfl) rfl) rfl) rfl) rfl) rfl) rfl) rfl) rfl) rfl), (Kx146.st p149 rfl), A235, A182⟩
     rw [if_neg (by rw [hb245]; decide)]
     rw [hb245] at zd244
     try rw [hb245]
     refine zfin [26, 27, 28, 29] tb149 (((((((((zd244.add 17 145 undef rfl).add 18 146 undef rfl).add 19 147 undef rfl).add 20 148 undef rfl).add 21 149 undef rfl).add 22 150 undef rfl).add 23 151 undef rfl).add 24 152 undef rfl).add 25 153 undef rfl) (Xa (Xf rfl) rfl (Xa (Xf rfl) rfl (Xa (Xf rfl) rfl (Xa (Xf rfl) rfl (Xa (Xf rfl) rfl (Xa (Xf rfl) rfl (Xa (Xf rfl) rfl (Xa (Xf rfl) rfl (Xa (Xf rfl) rfl (Xa (Xd rfl) rfl (Xa (qv_b (Xd rfl) hb245) rfl (Xa (Xt ce183 u3 rfl) rfl (Xa (Xt ce236 u3 rfl) rfl (Xa (Xn A235.rd u50 z3 hg236.1 hg236.2 ia236 rfl) rfl (Xa (Xl v30_0 rfl) rfl Xh))))))))))))))) (by kernel_rfl) (by decide) (Xj rfl (Xb rfl ?_))
     exact Kj245 _ _ _ ⟨s149, _, rfl, (ue (ue (ue (ue (ue (ue (ue (ue (ue (ue (ue (ue (ue (ue (ue (ue (ue (ue (ue (ue (ue rfl rfl) rfl) rfl) rfl) rfl) rfl) rfl) rfl) rfl) rfl) rfl) rfl) rfl) rfl) rfl) rfl) rfl) rfl) rfl) rfl) rfl), (Kx146.st p149 rfl), A235, A182⟩
    rintro y245 _ _ ⟨s271, _, rfl, rfl, Ky245, Cy245_32, Cy245_36⟩
    exact Xb rfl (Kj152 _ _ _ ⟨s271, _, rfl, (ue (ue (ue (ue (ue rfl rfl) rfl) rfl) rfl) rfl), Ky245, Cy245_32, Cy245_36⟩)
   rintro y152 _ _ ⟨s272, _, rfl, rfl, Ky152, Cy152_32, Cy152_36⟩
   exact Xb rfl (dn (ib (rg (Xb rfl (Xb rfl (Xb rfl (dn (lb ih146 ⟨s272, _, rfl, (ue (ue (ue (ue (ue rfl rfl) rfl) rfl) rfl) rfl), Ky152, Cy152_32, Cy152_36⟩))))))))
  refine xt rfl (sgb (sr (Xb rfl (Xb rfl (dn (cd rfl (fun h273 => ?_) (fun h273 => ?_)))))))
  ·
   exact sr (Xb rfl (dn (sgi (re rfl func5 rfl (Xs rfl Xg) rfl ⟨_, rfl, rfl, z.ky Kx146⟩))))
  exact sk (ib (rg (Xb rfl (Xb rfl (Xb rfl (dn (lb ih142 ⟨s147, _, rfl, (ue (ue (ue rfl rfl) rfl) rfl), Kx146, Cx146_32, Cx146_36⟩)))))))
 exact xt rfl (sgb (sr (Xb rfl (dn (re rfl func5 rfl (Xs rfl Xg) rfl ⟨_, rfl, rfl, z.ky Kx142⟩)))))
end Go.Proofs.YtegicanjlefmdaaGreat
