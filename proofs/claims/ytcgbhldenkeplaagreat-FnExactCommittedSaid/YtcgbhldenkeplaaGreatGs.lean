/- The functions as models, and that the calls come to what the models tell. -/
import Derived.Test.YtcgbhldenkeplaaGreatGsb
set_option linter.unusedVariables false
set_option linter.unusedSimpArgs false
set_option maxHeartbeats 4000000
set_option maxRecDepth 100000
noncomputable section
namespace Go.Proofs.YtcgbhldenkeplaaGreat
open Go V Tryz
def laws_eqByteS.b0 (a0 : (List Int)) (a1 : (List Int)) (x4 : Int) : Option (Int ⊕ Bool) :=
 (if (decide (x4 < (a0.length : Int))) = true then (if 0 ≤ x4 ∧ x4 < (a0.length : Int) then (if 0 ≤ x4 ∧ x4 < (a1.length : Int) then (if ((at_ a0 x4) != (at_ a1 x4)) = true then (some (Sum.inr false)) else (some (Sum.inl (IntKind.wrap .i64 (x4 + (1 : Int)))))) else none) else none) else ((some true).bind fun o => some (Sum.inr o)))
def laws_eqByteS.f (a0 : (List Int)) (a1 : (List Int)) : Option (Bool) :=
 (if ((a0.length : Int) != (a1.length : Int)) = true then (some false) else (iter (laws_eqByteS.b0 a0 a1) (0 : Int)))
def laws_eqByteS.Q (w : World) (F : Nat → Prop) (r : Bool) (v : Value) (w' : World) : Prop :=
 v = (.bool r) ∧ Ky [] w w'
theorem laws_eqByteS.calls (a0 : (List Int)) (a1 : (List Int)) (w : World) (F : Nat → Prop) (w0_0 : Value) (w1_0 : Value) (h0_0 : Ye.rd w [w0_0] a0 F) (h1_0 : Ye.rd w [w1_0] a1 F) (r : Bool) (m : laws_eqByteS.f a0 a1 = some r) :
  Calls prog 76 #[w0_0, w1_0] w (RT (laws_eqByteS.Q w F) r) := by
 obtain ⟨s0, rfl, kp0, z⟩ := Xg w F
 have A0_0 := z.rd h0_0
 have A1_0 := z.rd h1_0
 refine Xd (args := [w0_0, w1_0]) func76 ntmps76 rfl rfl m ?_
 unfold laws_eqByteS.f
 refine sr (Xb rfl (dn (sq (sr (Xl w0_0 rfl (ln' A0_0 u45 rfl (Xl w1_0 rfl (ln' A1_0 u45 rfl (Xb rfl (dn (cd rfl (fun h3 => ?_) (fun h3 => ?_))))))))))))
 ·
  exact sr (Xb rfl (dn (re rfl func76 rfl (Xo rfl Xe) rfl ⟨_, rfl, rfl, z.ky kp0⟩)))
 refine sk (sq (sr (Xb rfl (dn (bl (lpI (fun (x4 : Int) e w => ∃ (s : St) (e0 : Env), w = s.w ∧ e = upd (upd (upd e0 0 w0_0) 1 w1_0) 5 (iI x4) ∧ Kp s0 s) ⟨s0, _, rfl, (ue (ue (ue rfl rfl) rfl) rfl), kp0⟩ (fun g4 ih4 => ?_)))))))
 rintro x4 _ _ ⟨s5, _, rfl, rfl, Kx4⟩
 unfold laws_eqByteS.b0
 refine sq (sr (Xb rfl (Xl w0_0 rfl ?_)))
 refine ln' (A0_0.kp Kx4) u45 rfl (Xb rfl (dn (cd rfl (fun h7 => ?_) (fun h7 => ?_))))
 ·
  refine sk (sq (bl (sq (zdraw [[], [], [0, 1], [2], [], [], [4, 5], [6], [3, 7]] [some 17, some 18, some 19, some 20, some 21, some 22, some 23, some 24, some 25] [[0], [5], [17, 18], [19], [1], [5], [21, 22], [23], [20, 24]] [0, 1, 2, 3, 4, 5, 6, 7, 8] ⟨by kernel_rfl, by kernel_rfl, by kernel_rfl⟩ (by kernel_rfl) (fun s8 p8 l8 tb8 zd8 => ?_)))))
  have K11 := Kx4.st p8 rfl
  have A12 := A0_0.kp K11
  refine mg fun hg13 => ?_
  obtain ⟨ad13, es13, he13, ce13, ia13⟩ := ix_e A12 rfl hg13.1 hg13.2
  obtain rfl := he13
  have A19 := A1_0.kp K11
  refine mg fun hg20 => ?_
  obtain ⟨ad20, es20, he20, ce20, ia20⟩ := ix_e A19 rfl hg20.1 hg20.2
  obtain rfl := he20
  refine zfin [8] tb8 ((((((((zd8.add 0 17 w0_0 rfl).add 1 18 (iI x4) rfl).add 2 19 (.pointer (some ad13)) rfl).add 3 20 (.int .u8 (at_ a0 x4)) rfl).add 4 21 w1_0 rfl).add 5 22 (iI x4) rfl).add 6 23 (.pointer (some ad20)) rfl).add 7 24 (.int .u8 (at_ a1 x4)) rfl) (Xa (lc0_q ce20 u5 rfl rfl rfl rfl rfl rfl rfl rfl) rfl (Xa (ix_q' A19 u45 z5 hg20.1 hg20.2 ia20 rfl) rfl (Xa (Xm rfl) rfl (Xa (Xf w1_0 rfl) rfl (Xa (lc0_q ce13 u5 rfl rfl rfl rfl rfl rfl rfl rfl) rfl (Xa (ix_q' A12 u45 z5 hg13.1 hg13.2 ia13 rfl) rfl (Xa (Xm rfl) rfl (Xa (Xf w0_0 rfl) rfl Xk)))))))) (by kernel_rfl) (by decide) (Xb rfl (dn (cd rfl (fun h24 => ?_) (fun h24 => ?_))))
  ·
   exact sr (Xb rfl (dn (sgi (re rfl func76 rfl (Xo rfl Xe) rfl ⟨_, rfl, rfl, z.ky K11⟩))))
  exact sk (ib (rg (Xb rfl (Xb rfl (Xb rfl (dn (lb ih4 ⟨s8, _, rfl, (ue (ue (ue rfl rfl) rfl) rfl), K11⟩)))))))
 exact xt rfl (sgb (sr (Xb rfl (dn (re rfl func76 rfl (Xo rfl Xe) rfl ⟨_, rfl, rfl, z.ky Kx4⟩)))))
def laws_eqItem.f (a0 : Item) (a1 : Item) : Option (Bool) :=
 (if (a0.Kind != a1.Kind) = true then (some false) else (if (a0.N != a1.N) = true then (some false) else ((laws_sameFloat.f a0.F a1.F).bind fun r12 => (if (!r12) = true then (some false) else ((laws_eqByteS.f a0.T a1.T).bind fun r21 => (if (!r21) = true then (some false) else (some true)))))))
def laws_eqItem.Q (w : World) (F : Nat → Prop) (r : Bool) (v : Value) (w' : World) : Prop :=
 v = (.bool r) ∧ Ky [] w w'
theorem laws_eqItem.calls (a0 : Item) (a1 : Item) (w : World) (F : Nat → Prop) (w0_0 : Value) (w0_1 : Value) (w1_0 : Value) (w1_1 : Value) (h0_0 : Kd.flt.rd w [w0_0] a0.F F) (h0_1 : Ye.rd w [w0_1] a0.T F) (h1_0 : Kd.flt.rd w [w1_0] a1.F F) (h1_1 : Ye.rd w [w1_1] a1.T F) (r : Bool) (m : laws_eqItem.f a0 a1 = some r) :
  Calls prog 49 #[(.agg #[(iI a0.Kind), (iI a0.N), w0_0, w0_1]), (.agg #[(iI a1.Kind), (iI a1.N), w1_0, w1_1])] w (RT (laws_eqItem.Q w F) r) := by
 obtain ⟨s0, rfl, kp0, z⟩ := Xg w F
 refine Xd (args := [(.agg #[(iI a0.Kind), (iI a0.N), w0_0, w0_1]), (.agg #[(iI a1.Kind), (iI a1.N), w1_0, w1_1])]) func49 ntmps49 rfl rfl m ?_
 unfold laws_eqItem.f
 refine sr (bx' (cs := [(iI a0.Kind), (iI a0.N), w0_0, w0_1]) 40 rfl rfl (fun b3 s3 p3 B3 => ?_))
 refine bx' (cs := [(iI a1.Kind), (iI a1.N), w1_0, w1_1]) 41 rfl rfl (fun b5 s5 p5 B5 => ?_)
 refine Xb rfl (dn (sq (sr (Xr fa47_0 rfl ?_))))
 have A7 := B3.st p5 rfl
 refine ld' A7 u3 rfl (Xr fa47_0 rfl (ld' B5 u3 rfl (Xb rfl (dn (cd rfl (fun h8 => ?_) (fun h8 => ?_))))))
 ·
  refine sr (Xb rfl (dn ?_))
  exact re rfl func49 rfl (Xo rfl Xe) rfl ⟨_, rfl, rfl, z.ky (kp0.st (Xs p3 p5) rfl)⟩
 refine sk (sq (sr (Xr fa47_1 rfl (ld' A7 u3 rfl (Xr fa47_1 rfl (ld' B5 u3 rfl (Xb rfl (dn (cd rfl (fun h10 => ?_) (fun h10 => ?_))))))))))
 ·
  refine sr (Xb rfl (dn ?_))
  exact re rfl func49 rfl (Xo rfl Xe) rfl ⟨_, rfl, rfl, z.ky (kp0.st (Xs p3 p5) rfl)⟩
 refine sk (sq (sr (Xr fa47_2 rfl (ld' A7 u44 rfl (Xr fa47_2 rfl (ld' B5 u44 rfl (clV 42 rfl func75 rfl (laws_sameFloat.calls a0.F a1.F s5.w (mm [] s5) w0_0 w1_0 (Xn (s := s5) (fl_of h0_0)) (Xn (s := s5) (fl_of h1_0))) (fun r12 s13 p13 n13 => ?_))))))))
 refine Xb rfl (dn (cd rfl (fun h14 => ?_) (fun h14 => ?_)))
 ·
  refine sr (Xb rfl (dn ?_))
  exact re rfl func49 rfl (Xo rfl Xe) rfl ⟨_, rfl, rfl, z.ky (kp0.st (tr3 p3 p5 p13) rfl)⟩
 refine sk (sq (sr (Xr fa47_3 rfl ?_)))
 refine ld' (A7.st p13 rfl) u45 rfl (Xr fa47_3 rfl ?_)
 refine ld' (B5.st p13 rfl) u45 rfl ?_
 have K18 := kp0.st (tr3 p3 p5 p13) rfl
 refine clV 43 rfl func76 rfl (laws_eqByteS.calls a0.T a1.T s13.w (mm [0] s13) w0_1 w1_1 ((z.rd h0_1).kp K18) ((z.rd h1_1).kp K18)) (fun r21 s22 p22 n22 => ?_)
 refine Xb rfl (dn (cd rfl (fun h23 => ?_) (fun h23 => ?_)))
 ·
  refine sr (Xb rfl (dn ?_))
  exact re rfl func49 rfl (Xo rfl Xe) rfl ⟨_, rfl, rfl, z.ky (K18.st p22 rfl)⟩
 refine sk (sr (Xb rfl (dn ?_)))
 exact re rfl func49 rfl (Xo rfl Xe) rfl ⟨_, rfl, rfl, z.ky (K18.st p22 rfl)⟩
def laws_eqPair.f (a0 : Pair) (a1 : Pair) : Option (Bool) :=
 ((laws_eqItem.f a0.Key a1.Key).bind fun r13 => (if (!r13) = true then (some false) else ((laws_eqItem.f a0.Value a1.Value).bind fun r22 => (if (!r22) = true then (some false) else (some true)))))
def laws_eqPair.Q (w : World) (F : Nat → Prop) (r : Bool) (v : Value) (w' : World) : Prop :=
 v = (.bool r) ∧ Ky [] w w'
theorem laws_eqPair.calls (a0 : Pair) (a1 : Pair) (w : World) (F : Nat → Prop) (w0_0 : Value) (w0_1 : Value) (w0_2 : Value) (w0_3 : Value) (w1_0 : Value) (w1_1 : Value) (w1_2 : Value) (w1_3 : Value) (h0_0 : Kd.flt.rd w [w0_0] a0.Key.F F) (h0_1 : Ye.rd w [w0_1] a0.Key.T F) (h0_2 : Kd.flt.rd w [w0_2] a0.Value.F F) (h0_3 : Ye.rd w [w0_3] a0.Value.T F) (h1_0 : Kd.flt.rd w [w1_0] a1.Key.F F) (h1_1 : Ye.rd w [w1_1] a1.Key.T F) (h1_2 : Kd.flt.rd w [w1_2] a1.Value.F F) (h1_3 : Ye.rd w [w1_3] a1.Value.T F) (r : Bool) (m : laws_eqPair.f a0 a1 = some r) :
  Calls prog 27 #[(.agg #[(iI a0.Key.Kind), (iI a0.Key.N), w0_0, w0_1, (iI a0.Value.Kind), (iI a0.Value.N), w0_2, w0_3]), (.agg #[(iI a1.Key.Kind), (iI a1.Key.N), w1_0, w1_1, (iI a1.Value.Kind), (iI a1.Value.N), w1_2, w1_3])] w (RT (laws_eqPair.Q w F) r) := by
 obtain ⟨s0, rfl, kp0, z⟩ := Xg w F
 refine Xd (args := [(.agg #[(iI a0.Key.Kind), (iI a0.Key.N), w0_0, w0_1, (iI a0.Value.Kind), (iI a0.Value.N), w0_2, w0_3]), (.agg #[(iI a1.Key.Kind), (iI a1.Key.N), w1_0, w1_1, (iI a1.Value.Kind), (iI a1.Value.N), w1_2, w1_3])]) func27 ntmps27 rfl rfl m ?_
 unfold laws_eqPair.f
 refine sr (bx' (cs := [(iI a0.Key.Kind), (iI a0.Key.N), w0_0, w0_1, (iI a0.Value.Kind), (iI a0.Value.N), w0_2, w0_3]) 40 rfl rfl (fun b5 s5 p5 B5 => ?_))
 refine bx' (cs := [(iI a1.Key.Kind), (iI a1.Key.N), w1_0, w1_1, (iI a1.Value.Kind), (iI a1.Value.N), w1_2, w1_3]) 41 rfl rfl (fun b7 s7 p7 B7 => ?_)
 refine Xb rfl (dn (sq (sr (Xr fa54_0 rfl ?_))))
 have A9 := B5.st p7 rfl
 refine Yc (es := [(iI a0.Key.Kind), (iI a0.Key.N), w0_0, w0_1]) A9 u47 z47 rfl (Xr fa54_0 rfl (Yc (es := [(iI a1.Key.Kind), (iI a1.Key.N), w1_0, w1_1]) B7 u47 z47 rfl ?_))
 have K10 := kp0.st (Xs p5 p7) rfl
 refine clV 42 rfl func49 rfl (laws_eqItem.calls a0.Key a1.Key s7.w (mm [0] s7) w0_0 w0_1 w1_0 w1_1 ((Xn (s := s7) (fl_of h0_0)).sub (D := [0]) rfl) ((z.rd h0_1).kp K10) ((Xn (s := s7) (fl_of h1_0)).sub (D := [0]) rfl) ((z.rd h1_1).kp K10)) (fun r13 s14 p14 n14 => ?_)
 refine Xb rfl (dn (cd rfl (fun h15 => ?_) (fun h15 => ?_)))
 ·
  refine sr (Xb rfl (dn ?_))
  exact re rfl func27 rfl (Xo rfl Xe) rfl ⟨_, rfl, rfl, z.ky (K10.st p14 rfl)⟩
 refine sk (sq (sr (Xr fa54_1 rfl ?_)))
 refine Yc (es := [(iI a0.Value.Kind), (iI a0.Value.N), w0_2, w0_3]) (A9.st p14 rfl) u47 z47 rfl (Xr fa54_1 rfl ?_)
 refine Yc (es := [(iI a1.Value.Kind), (iI a1.Value.N), w1_2, w1_3]) (B7.st p14 rfl) u47 z47 rfl ?_
 have K19 := K10.st p14 rfl
 refine clV 43 rfl func49 rfl (laws_eqItem.calls a0.Value a1.Value s14.w (mm [0] s14) w0_2 w0_3 w1_2 w1_3 ((Xn (s := s14) (fl_of h0_2)).sub (D := [0]) rfl) ((z.rd h0_3).kp K19) ((Xn (s := s14) (fl_of h1_2)).sub (D := [0]) rfl) ((z.rd h1_3).kp K19)) (fun r22 s23 p23 n23 => ?_)
 refine Xb rfl (dn (cd rfl (fun h24 => ?_) (fun h24 => ?_)))
 ·
  refine sr (Xb rfl (dn ?_))
  exact re rfl func27 rfl (Xo rfl Xe) rfl ⟨_, rfl, rfl, z.ky (K19.st p23 rfl)⟩
 refine sk (sr (Xb rfl (dn ?_)))
 exact re rfl func27 rfl (Xo rfl Xe) rfl ⟨_, rfl, rfl, z.ky (K19.st p23 rfl)⟩
def laws_eqPairS.b0 (a0 : (List Pair)) (a1 : (List Pair)) (x4 : Int) : Option (Int ⊕ Bool) :=
 (if (decide (x4 < (a0.length : Int))) = true then (if 0 ≤ x4 ∧ x4 < (a0.length : Int) then (if 0 ≤ x4 ∧ x4 < (a1.length : Int) then ((laws_eqPair.f (Pair.mk ((at_ a0 x4).Key) ((at_ a0 x4).Value)) (Pair.mk ((at_ a1 x4).Key) ((at_ a1 x4).Value))).bind fun r28 => (if (!r28) = true then (some (Sum.inr false)) else (some (Sum.inl (IntKind.wrap .i64 (x4 + (1 : Int))))))) else none) else none) else ((some true).bind fun o => some (Sum.inr o)))
def laws_eqPairS.f (a0 : (List Pair)) (a1 : (List Pair)) : Option (Bool) :=
 (if ((a0.length : Int) != (a1.length : Int)) = true then (some false) else (iter (laws_eqPairS.b0 a0 a1) (0 : Int)))
def laws_eqPairS.Q (w : World) (F : Nat → Prop) (r : Bool) (v : Value) (w' : World) : Prop :=
 v = (.bool r) ∧ Ky [] w w'
theorem laws_eqPairS.calls (a0 : (List Pair)) (a1 : (List Pair)) (w : World) (F : Nat → Prop) (w0_0 : Value) (w1_0 : Value) (h0_0 : Yi.rd w [w0_0] a0 F) (h1_0 : Yi.rd w [w1_0] a1 F) (r : Bool) (m : laws_eqPairS.f a0 a1 = some r) :
  Calls prog 9 #[w0_0, w1_0] w (RT (laws_eqPairS.Q w F) r) := by
 obtain ⟨s0, rfl, kp0, z⟩ := Xg w F
 have A0_0 := z.rd h0_0
 have A1_0 := z.rd h1_0
 refine Xd (args := [w0_0, w1_0]) func9 ntmps9 rfl rfl m ?_
 unfold laws_eqPairS.f
 refine sr (Xb rfl (dn (sq (sr (Xl w0_0 rfl (ln' A0_0 u27 rfl (Xl w1_0 rfl (ln' A1_0 u27 rfl (Xb rfl (dn (cd rfl (fun h3 => ?_) (fun h3 => ?_))))))))))))
 ·
  exact sr (Xb rfl (dn (re rfl func9 rfl (Xo rfl Xe) rfl ⟨_, rfl, rfl, z.ky kp0⟩)))
 refine sk (sq (sr (Xb rfl (dn (bl (lpI (fun (x4 : Int) e w => ∃ (s : St) (e0 : Env), w = s.w ∧ e = upd (upd (upd e0 0 w0_0) 1 w1_0) 5 (iI x4) ∧ Kp s0 s) ⟨s0, _, rfl, (ue (ue (ue rfl rfl) rfl) rfl), kp0⟩ (fun g4 ih4 => ?_)))))))
 rintro x4 _ _ ⟨s5, _, rfl, rfl, Kx4⟩
 unfold laws_eqPairS.b0
 refine sq (sr (Xb rfl (Xl w0_0 rfl ?_)))
 refine ln' (A0_0.kp Kx4) u27 rfl (Xb rfl (dn (cd rfl (fun h7 => ?_) (fun h7 => ?_))))
 ·
  refine sk (sq (bl (sq (zdraw [[], [], [0, 1], [2], [], [], [4, 5], [6], [3, 7], [8]] [some 17, some 18, some 19, some 20, some 21, some 22, some 23, some 24, some 25, some 26] [[0], [5], [17, 18], [19], [1], [5], [21, 22], [23], [20, 24], [25]] [0, 1, 2, 3, 4, 5, 6, 7, 8, 9] ⟨by kernel_rfl, by kernel_rfl, by kernel_rfl⟩ (by kernel_rfl) (fun s8 p8 l8 tb8 zd8 => ?_)))))
  have K11 := Kx4.st p8 rfl
  have A12 := A0_0.kp K11
  refine mg fun hg13 => ?_
  obtain ⟨ad13, es13, he13, ce13, ia13⟩ := ix_e A12 rfl hg13.1 hg13.2
  obtain ⟨v13_0, v13_1, v13_2, v13_3, rfl, A13_0, A13_1, A13_2, A13_3⟩ := op54 he13
  have zd17 := ((zd8.add 0 17 w0_0 rfl).add 1 18 (iI x4) rfl).add 2 19 (.pointer (some ad13)) rfl
  have A21 := A1_0.kp K11
  refine mg fun hg22 => ?_
  obtain ⟨ad22, es22, he22, ce22, ia22⟩ := ix_e A21 rfl hg22.1 hg22.2
  obtain ⟨v22_0, v22_1, v22_2, v22_3, rfl, A22_0, A22_1, A22_2, A22_3⟩ := op54 he22
  refine zfin [8, 9] tb8 (((((zd17.add 3 20 (.agg #[(iI (((at_ a0 x4).Key).Kind)), (iI (((at_ a0 x4).Key).N)), v13_0, v13_1, (iI (((at_ a0 x4).Value).Kind)), (iI (((at_ a0 x4).Value).N)), v13_2, v13_3]) rfl).add 4 21 w1_0 rfl).add 5 22 (iI x4) rfl).add 6 23 (.pointer (some ad22)) rfl).add 7 24 (.agg #[(iI (((at_ a1 x4).Key).Kind)), (iI (((at_ a1 x4).Key).N)), v22_0, v22_1, (iI (((at_ a1 x4).Value).Kind)), (iI (((at_ a1 x4).Value).N)), v22_2, v22_3]) rfl) (Xa (lca_q ce22 u54 z54 rfl rfl rfl rfl rfl rfl rfl) rfl (Xa (ix_q' A21 u27 z54 hg22.1 hg22.2 ia22 rfl) rfl (Xa (Xm rfl) rfl (Xa (Xf w1_0 rfl) rfl (Xa (lca_q ce13 u54 z54 rfl rfl rfl rfl rfl rfl rfl) rfl (Xa (ix_q' A12 u27 z54 hg13.1 hg13.2 ia13 rfl) rfl (Xa (Xm rfl) rfl (Xa (Xf w0_0 rfl) rfl Xk)))))))) (by kernel_rfl) (by decide) (clV 40 rfl func27 rfl (laws_eqPair.calls (Pair.mk ((at_ a0 x4).Key) ((at_ a0 x4).Value)) (Pair.mk ((at_ a1 x4).Key) ((at_ a1 x4).Value)) s8.w (mm [0] s8) v13_0 v13_1 v13_2 v13_3 v22_0 v22_1 v22_2 v22_3 ((Xn (s := s8) A13_0).sub (D := [0]) rfl) A13_1 ((Xn (s := s8) A13_2).sub (D := [0]) rfl) A13_3 ((Xn (s := s8) A22_0).sub (D := [0]) rfl) A22_1 ((Xn (s := s8) A22_2).sub (D := [0]) rfl) A22_3) (fun r28 s29 p29 n29 => ?_))
  refine Xb rfl (dn (cd rfl (fun h30 => ?_) (fun h30 => ?_)))
  ·
   refine sr (Xb rfl (dn (sgi ?_)))
   exact re rfl func9 rfl (Xo rfl Xe) rfl ⟨_, rfl, rfl, z.ky (K11.st p29 rfl)⟩
  refine sk (ib (rg (Xb rfl (Xb rfl (Xb rfl (dn ?_))))))
  exact lb ih4 ⟨s29, _, rfl, (ue (ue (ue rfl rfl) rfl) rfl), (K11.st p29 rfl)⟩
 exact xt rfl (sgb (sr (Xb rfl (dn (re rfl func9 rfl (Xo rfl Xe) rfl ⟨_, rfl, rfl, z.ky Kx4⟩)))))
def laws_eqByteSS.b0 (a0 : (List (List Int))) (a1 : (List (List Int))) (x4 : Int) : Option (Int ⊕ Bool) :=
 (if (decide (x4 < (a0.length : Int))) = true then (if 0 ≤ x4 ∧ x4 < (a0.length : Int) then (if 0 ≤ x4 ∧ x4 < (a1.length : Int) then ((laws_eqByteS.f (at_ a0 x4) (at_ a1 x4)).bind fun r26 => (if (!r26) = true then (some (Sum.inr false)) else (some (Sum.inl (IntKind.wrap .i64 (x4 + (1 : Int))))))) else none) else none) else ((some true).bind fun o => some (Sum.inr o)))
def laws_eqByteSS.f (a0 : (List (List Int))) (a1 : (List (List Int))) : Option (Bool) :=
 (if ((a0.length : Int) != (a1.length : Int)) = true then (some false) else (iter (laws_eqByteSS.b0 a0 a1) (0 : Int)))
def laws_eqByteSS.Q (w : World) (F : Nat → Prop) (r : Bool) (v : Value) (w' : World) : Prop :=
 v = (.bool r) ∧ Ky [] w w'
theorem laws_eqByteSS.calls (a0 : (List (List Int))) (a1 : (List (List Int))) (w : World) (F : Nat → Prop) (w0_0 : Value) (w1_0 : Value) (h0_0 : (Kd.sl 45 Ye).rd w [w0_0] a0 F) (h1_0 : (Kd.sl 45 Ye).rd w [w1_0] a1 F) (r : Bool) (m : laws_eqByteSS.f a0 a1 = some r) :
  Calls prog 77 #[w0_0, w1_0] w (RT (laws_eqByteSS.Q w F) r) := by
 obtain ⟨s0, rfl, kp0, z⟩ := Xg w F
 have A0_0 := z.rd h0_0
 have A1_0 := z.rd h1_0
 refine Xd (args := [w0_0, w1_0]) func77 ntmps77 rfl rfl m ?_
 unfold laws_eqByteSS.f
 refine sr (Xb rfl (dn (sq (sr (Xl w0_0 rfl (ln' A0_0 u66 rfl (Xl w1_0 rfl (ln' A1_0 u66 rfl (Xb rfl (dn (cd rfl (fun h3 => ?_) (fun h3 => ?_))))))))))))
 ·
  exact sr (Xb rfl (dn (re rfl func77 rfl (Xo rfl Xe) rfl ⟨_, rfl, rfl, z.ky kp0⟩)))
 refine sk (sq (sr (Xb rfl (dn (bl (lpI (fun (x4 : Int) e w => ∃ (s : St) (e0 : Env), w = s.w ∧ e = upd (upd (upd e0 0 w0_0) 1 w1_0) 5 (iI x4) ∧ Kp s0 s) ⟨s0, _, rfl, (ue (ue (ue rfl rfl) rfl) rfl), kp0⟩ (fun g4 ih4 => ?_)))))))
 rintro x4 _ _ ⟨s5, _, rfl, rfl, Kx4⟩
 unfold laws_eqByteSS.b0
 refine sq (sr (Xb rfl (Xl w0_0 rfl ?_)))
 refine ln' (A0_0.kp Kx4) u66 rfl (Xb rfl (dn (cd rfl (fun h7 => ?_) (fun h7 => ?_))))
 ·
  refine sk (sq (bl (sq (zdraw [[], [], [0, 1], [2], [], [], [4, 5], [6], [3, 7], [8]] [some 17, some 18, some 19, some 20, some 21, some 22, some 23, some 24, some 25, some 26] [[0], [5], [17, 18], [19], [1], [5], [21, 22], [23], [20, 24], [25]] [0, 1, 2, 3, 4, 5, 6, 7, 8, 9] ⟨by kernel_rfl, by kernel_rfl, by kernel_rfl⟩ (by kernel_rfl) (fun s8 p8 l8 tb8 zd8 => ?_)))))
  have K11 := Kx4.st p8 rfl
  have A12 := A0_0.kp K11
  refine mg fun hg13 => ?_
  obtain ⟨ad13, es13, he13, ce13, ia13⟩ := ix_e A12 rfl hg13.1 hg13.2
  obtain ⟨v13, rfl, he13'⟩ := he13
  have A13 : RdF Ye s8 [v13] (at_ a0 x4) [0] := ⟨v13, rfl, he13'⟩
  have A20 := A1_0.kp K11
  refine mg fun hg21 => ?_
  obtain ⟨ad21, es21, he21, ce21, ia21⟩ := ix_e A20 rfl hg21.1 hg21.2
  obtain ⟨v21, rfl, he21'⟩ := he21
  have A21 : RdF Ye s8 [v21] (at_ a1 x4) [0] := ⟨v21, rfl, he21'⟩
  refine zfin [8, 9] tb8 ((((((((zd8.add 0 17 w0_0 rfl).add 1 18 (iI x4) rfl).add 2 19 (.pointer (some ad13)) rfl).add 3 20 v13 rfl).add 4 21 w1_0 rfl).add 5 22 (iI x4) rfl).add 6 23 (.pointer (some ad21)) rfl).add 7 24 v21 rfl) (Xa (lc0_q ce21 u45 rfl rfl rfl rfl rfl rfl rfl rfl) rfl (Xa (ix_q' A20 u66 z45 hg21.1 hg21.2 ia21 rfl) rfl (Xa (Xm rfl) rfl (Xa (Xf w1_0 rfl) rfl (Xa (lc0_q ce13 u45 rfl rfl rfl rfl rfl rfl rfl rfl) rfl (Xa (ix_q' A12 u66 z45 hg13.1 hg13.2 ia13 rfl) rfl (Xa (Xm rfl) rfl (Xa (Xf w0_0 rfl) rfl Xk)))))))) (by kernel_rfl) (by decide) (clV 40 rfl func76 rfl (laws_eqByteS.calls (at_ a0 x4) (at_ a1 x4) s8.w (mm [0] s8) v13 v21 A13 A21) (fun r26 s27 p27 n27 => ?_))
  refine Xb rfl (dn (cd rfl (fun h28 => ?_) (fun h28 => ?_)))
  ·
   refine sr (Xb rfl (dn (sgi ?_)))
   exact re rfl func77 rfl (Xo rfl Xe) rfl ⟨_, rfl, rfl, z.ky (K11.st p27 rfl)⟩
  refine sk (ib (rg (Xb rfl (Xb rfl (Xb rfl (dn ?_))))))
  exact lb ih4 ⟨s27, _, rfl, (ue (ue (ue rfl rfl) rfl) rfl), (K11.st p27 rfl)⟩
 exact xt rfl (sgb (sr (Xb rfl (dn (re rfl func77 rfl (Xo rfl Xe) rfl ⟨_, rfl, rfl, z.ky Kx4⟩)))))
def laws_eqPage.f (a0 : Page) (a1 : Page) : Option (Bool) :=
 (if (a0.Lsn != a1.Lsn) = true then (some false) else ((laws_eqByteSS.f a0.Slots a1.Slots).bind fun r13 => (if (!r13) = true then (some false) else (some true))))
def laws_eqPage.Q (w : World) (F : Nat → Prop) (r : Bool) (v : Value) (w' : World) : Prop :=
 v = (.bool r) ∧ Ky [] w w'
theorem laws_eqPage.calls (a0 : Page) (a1 : Page) (w : World) (F : Nat → Prop) (w0_0 : Value) (w1_0 : Value) (h0_0 : (Kd.sl 45 Ye).rd w [w0_0] a0.Slots F) (h1_0 : (Kd.sl 45 Ye).rd w [w1_0] a1.Slots F) (r : Bool) (m : laws_eqPage.f a0 a1 = some r) :
  Calls prog 50 #[(.agg #[(iI a0.Lsn), w0_0]), (.agg #[(iI a1.Lsn), w1_0])] w (RT (laws_eqPage.Q w F) r) := by
 obtain ⟨s0, rfl, kp0, z⟩ := Xg w F
 refine Xd (args := [(.agg #[(iI a0.Lsn), w0_0]), (.agg #[(iI a1.Lsn), w1_0])]) func50 ntmps50 rfl rfl m ?_
 unfold laws_eqPage.f
 refine sr (bx' (cs := [(iI a0.Lsn), w0_0]) 40 rfl rfl (fun b3 s3 p3 B3 => ?_))
 refine bx' (cs := [(iI a1.Lsn), w1_0]) 41 rfl rfl (fun b5 s5 p5 B5 => ?_)
 refine Xb rfl (dn (sq (sr (Xr fa70_0 rfl ?_))))
 have A7 := B3.st p5 rfl
 refine ld' A7 u3 rfl (Xr fa70_0 rfl (ld' B5 u3 rfl (Xb rfl (dn (cd rfl (fun h8 => ?_) (fun h8 => ?_))))))
 ·
  refine sr (Xb rfl (dn ?_))
  exact re rfl func50 rfl (Xo rfl Xe) rfl ⟨_, rfl, rfl, z.ky (kp0.st (Xs p3 p5) rfl)⟩
 refine sk (sq (sr (Xr fa70_1 rfl (ld' A7 u66 rfl (Xr fa70_1 rfl (ld' B5 u66 rfl ?_))))))
 have K10 := kp0.st (Xs p3 p5) rfl
 refine clV 42 rfl func77 rfl (laws_eqByteSS.calls a0.Slots a1.Slots s5.w (mm [0] s5) w0_0 w1_0 ((z.rd h0_0).kp K10) ((z.rd h1_0).kp K10)) (fun r13 s14 p14 n14 => ?_)
 refine Xb rfl (dn (cd rfl (fun h15 => ?_) (fun h15 => ?_)))
 ·
  refine sr (Xb rfl (dn ?_))
  exact re rfl func50 rfl (Xo rfl Xe) rfl ⟨_, rfl, rfl, z.ky (K10.st p14 rfl)⟩
 refine sk (sr (Xb rfl (dn ?_)))
 exact re rfl func50 rfl (Xo rfl Xe) rfl ⟨_, rfl, rfl, z.ky (K10.st p14 rfl)⟩
def laws_eqPageS.b0 (a0 : (List Page)) (a1 : (List Page)) (x4 : Int) : Option (Int ⊕ Bool) :=
 (if (decide (x4 < (a0.length : Int))) = true then (if 0 ≤ x4 ∧ x4 < (a0.length : Int) then (if 0 ≤ x4 ∧ x4 < (a1.length : Int) then ((laws_eqPage.f (at_ a0 x4) (at_ a1 x4)).bind fun r26 => (if (!r26) = true then (some (Sum.inr false)) else (some (Sum.inl (IntKind.wrap .i64 (x4 + (1 : Int))))))) else none) else none) else ((some true).bind fun o => some (Sum.inr o)))
def laws_eqPageS.f (a0 : (List Page)) (a1 : (List Page)) : Option (Bool) :=
 (if ((a0.length : Int) != (a1.length : Int)) = true then (some false) else (iter (laws_eqPageS.b0 a0 a1) (0 : Int)))
def laws_eqPageS.Q (w : World) (F : Nat → Prop) (r : Bool) (v : Value) (w' : World) : Prop :=
 v = (.bool r) ∧ Ky [] w w'
theorem laws_eqPageS.calls (a0 : (List Page)) (a1 : (List Page)) (w : World) (F : Nat → Prop) (w0_0 : Value) (w1_0 : Value) (h0_0 : Yg.rd w [w0_0] a0 F) (h1_0 : Yg.rd w [w1_0] a1 F) (r : Bool) (m : laws_eqPageS.f a0 a1 = some r) :
  Calls prog 28 #[w0_0, w1_0] w (RT (laws_eqPageS.Q w F) r) := by
 obtain ⟨s0, rfl, kp0, z⟩ := Xg w F
 have A0_0 := z.rd h0_0
 have A1_0 := z.rd h1_0
 refine Xd (args := [w0_0, w1_0]) func28 ntmps28 rfl rfl m ?_
 unfold laws_eqPageS.f
 refine sr (Xb rfl (dn (sq (sr (Xl w0_0 rfl (ln' A0_0 u29 rfl (Xl w1_0 rfl (ln' A1_0 u29 rfl (Xb rfl (dn (cd rfl (fun h3 => ?_) (fun h3 => ?_))))))))))))
 ·
  exact sr (Xb rfl (dn (re rfl func28 rfl (Xo rfl Xe) rfl ⟨_, rfl, rfl, z.ky kp0⟩)))
 refine sk (sq (sr (Xb rfl (dn (bl (lpI (fun (x4 : Int) e w => ∃ (s : St) (e0 : Env), w = s.w ∧ e = upd (upd (upd e0 0 w0_0) 1 w1_0) 5 (iI x4) ∧ Kp s0 s) ⟨s0, _, rfl, (ue (ue (ue rfl rfl) rfl) rfl), kp0⟩ (fun g4 ih4 => ?_)))))))
 rintro x4 _ _ ⟨s5, _, rfl, rfl, Kx4⟩
 unfold laws_eqPageS.b0
 refine sq (sr (Xb rfl (Xl w0_0 rfl ?_)))
 refine ln' (A0_0.kp Kx4) u29 rfl (Xb rfl (dn (cd rfl (fun h7 => ?_) (fun h7 => ?_))))
 ·
  refine sk (sq (bl (sq (zdraw [[], [], [0, 1], [2], [], [], [4, 5], [6], [3, 7], [8]] [some 17, some 18, some 19, some 20, some 21, some 22, some 23, some 24, some 25, some 26] [[0], [5], [17, 18], [19], [1], [5], [21, 22], [23], [20, 24], [25]] [0, 1, 2, 3, 4, 5, 6, 7, 8, 9] ⟨by kernel_rfl, by kernel_rfl, by kernel_rfl⟩ (by kernel_rfl) (fun s8 p8 l8 tb8 zd8 => ?_)))))
  have K11 := Kx4.st p8 rfl
  have A12 := A0_0.kp K11
  refine mg fun hg13 => ?_
  obtain ⟨ad13, es13, he13, ce13, ia13⟩ := ix_e A12 rfl hg13.1 hg13.2
  obtain ⟨v13_0, rfl, A13_0⟩ := op70 he13
  have A20 := A1_0.kp K11
  refine mg fun hg21 => ?_
  obtain ⟨ad21, es21, he21, ce21, ia21⟩ := ix_e A20 rfl hg21.1 hg21.2
  obtain ⟨v21_0, rfl, A21_0⟩ := op70 he21
  refine zfin [8, 9] tb8 ((((((((zd8.add 0 17 w0_0 rfl).add 1 18 (iI x4) rfl).add 2 19 (.pointer (some ad13)) rfl).add 3 20 (.agg #[(iI ((at_ a0 x4).Lsn)), v13_0]) rfl).add 4 21 w1_0 rfl).add 5 22 (iI x4) rfl).add 6 23 (.pointer (some ad21)) rfl).add 7 24 (.agg #[(iI ((at_ a1 x4).Lsn)), v21_0]) rfl) (Xa (lca_q ce21 u70 z70 rfl rfl rfl rfl rfl rfl rfl) rfl (Xa (ix_q' A20 u29 z70 hg21.1 hg21.2 ia21 rfl) rfl (Xa (Xm rfl) rfl (Xa (Xf w1_0 rfl) rfl (Xa (lca_q ce13 u70 z70 rfl rfl rfl rfl rfl rfl rfl) rfl (Xa (ix_q' A12 u29 z70 hg13.1 hg13.2 ia13 rfl) rfl (Xa (Xm rfl) rfl (Xa (Xf w0_0 rfl) rfl Xk)))))))) (by kernel_rfl) (by decide) (clV 40 rfl func50 rfl (laws_eqPage.calls (at_ a0 x4) (at_ a1 x4) s8.w (mm [0] s8) v13_0 v21_0 A13_0 A21_0) (fun r26 s27 p27 n27 => ?_))
  refine Xb rfl (dn (cd rfl (fun h28 => ?_) (fun h28 => ?_)))
  ·
   refine sr (Xb rfl (dn (sgi ?_)))
   exact re rfl func28 rfl (Xo rfl Xe) rfl ⟨_, rfl, rfl, z.ky (K11.st p27 rfl)⟩
  refine sk (ib (rg (Xb rfl (Xb rfl (Xb rfl (dn ?_))))))
  exact lb ih4 ⟨s27, _, rfl, (ue (ue (ue rfl rfl) rfl) rfl), (K11.st p27 rfl)⟩
 exact xt rfl (sgb (sr (Xb rfl (dn (re rfl func28 rfl (Xo rfl Xe) rfl ⟨_, rfl, rfl, z.ky Kx4⟩)))))
def laws_eqHeap.f (a0 : Heap) (a1 : Heap) : Option (Bool) :=
 ((laws_eqPageS.f a0.Pages a1.Pages).bind fun r11 => (if (!r11) = true then (some false) else (some true)))
def laws_eqHeap.Q (w : World) (F : Nat → Prop) (r : Bool) (v : Value) (w' : World) : Prop :=
 v = (.bool r) ∧ Ky [] w w'
theorem laws_eqHeap.calls (a0 : Heap) (a1 : Heap) (w : World) (F : Nat → Prop) (w0_0 : Value) (w1_0 : Value) (h0_0 : Yg.rd w [w0_0] a0.Pages F) (h1_0 : Yg.rd w [w1_0] a1.Pages F) (r : Bool) (m : laws_eqHeap.f a0 a1 = some r) :
  Calls prog 10 #[(.agg #[w0_0]), (.agg #[w1_0])] w (RT (laws_eqHeap.Q w F) r) := by
 obtain ⟨s0, rfl, kp0, z⟩ := Xg w F
 refine Xd (args := [(.agg #[w0_0]), (.agg #[w1_0])]) func10 ntmps10 rfl rfl m ?_
 unfold laws_eqHeap.f
 refine sr (bx' (cs := [w0_0]) 40 rfl rfl (fun b3 s3 p3 B3 => ?_))
 refine bx' (cs := [w1_0]) 41 rfl rfl (fun b5 s5 p5 B5 => ?_)
 refine Xb rfl (dn (sq (sr (Xr fa31_0 rfl ?_))))
 refine ld' (B3.st p5 rfl) u29 rfl (Xr fa31_0 rfl (ld' B5 u29 rfl ?_))
 have K8 := kp0.st (Xs p3 p5) rfl
 refine clV 42 rfl func28 rfl (laws_eqPageS.calls a0.Pages a1.Pages s5.w (mm [0] s5) w0_0 w1_0 ((z.rd h0_0).kp K8) ((z.rd h1_0).kp K8)) (fun r11 s12 p12 n12 => ?_)
 refine Xb rfl (dn (cd rfl (fun h13 => ?_) (fun h13 => ?_)))
 ·
  refine sr (Xb rfl (dn ?_))
  exact re rfl func10 rfl (Xo rfl Xe) rfl ⟨_, rfl, rfl, z.ky (K8.st p12 rfl)⟩
 refine sk (sr (Xb rfl (dn ?_)))
 exact re rfl func10 rfl (Xo rfl Xe) rfl ⟨_, rfl, rfl, z.ky (K8.st p12 rfl)⟩
def laws_eqIntS.b0 (a0 : (List Int)) (a1 : (List Int)) (x4 : Int) : Option (Int ⊕ Bool) :=
 (if (decide (x4 < (a0.length : Int))) = true then (if 0 ≤ x4 ∧ x4 < (a0.length : Int) then (if 0 ≤ x4 ∧ x4 < (a1.length : Int) then (if ((at_ a0 x4) != (at_ a1 x4)) = true then (some (Sum.inr false)) else (some (Sum.inl (IntKind.wrap .i64 (x4 + (1 : Int)))))) else none) else none) else ((some true).bind fun o => some (Sum.inr o)))
def laws_eqIntS.f (a0 : (List Int)) (a1 : (List Int)) : Option (Bool) :=
 (if ((a0.length : Int) != (a1.length : Int)) = true then (some false) else (iter (laws_eqIntS.b0 a0 a1) (0 : Int)))
def laws_eqIntS.Q (w : World) (F : Nat → Prop) (r : Bool) (v : Value) (w' : World) : Prop :=
 v = (.bool r) ∧ Ky [] w w'
theorem laws_eqIntS.calls (a0 : (List Int)) (a1 : (List Int)) (w : World) (F : Nat → Prop) (w0_0 : Value) (w1_0 : Value) (h0_0 : Yj.rd w [w0_0] a0 F) (h1_0 : Yj.rd w [w1_0] a1 F) (r : Bool) (m : laws_eqIntS.f a0 a1 = some r) :
  Calls prog 11 #[w0_0, w1_0] w (RT (laws_eqIntS.Q w F) r) := by
 obtain ⟨s0, rfl, kp0, z⟩ := Xg w F
 have A0_0 := z.rd h0_0
 have A1_0 := z.rd h1_0
 refine Xd (args := [w0_0, w1_0]) func11 ntmps11 rfl rfl m ?_
 unfold laws_eqIntS.f
 refine sr (Xb rfl (dn (sq (sr (Xl w0_0 rfl (ln' A0_0 u25 rfl (Xl w1_0 rfl (ln' A1_0 u25 rfl (Xb rfl (dn (cd rfl (fun h3 => ?_) (fun h3 => ?_))))))))))))
 ·
  exact sr (Xb rfl (dn (re rfl func11 rfl (Xo rfl Xe) rfl ⟨_, rfl, rfl, z.ky kp0⟩)))
 refine sk (sq (sr (Xb rfl (dn (bl (lpI (fun (x4 : Int) e w => ∃ (s : St) (e0 : Env), w = s.w ∧ e = upd (upd (upd e0 0 w0_0) 1 w1_0) 5 (iI x4) ∧ Kp s0 s) ⟨s0, _, rfl, (ue (ue (ue rfl rfl) rfl) rfl), kp0⟩ (fun g4 ih4 => ?_)))))))
 rintro x4 _ _ ⟨s5, _, rfl, rfl, Kx4⟩
 unfold laws_eqIntS.b0
 refine sq (sr (Xb rfl (Xl w0_0 rfl ?_)))
 refine ln' (A0_0.kp Kx4) u25 rfl (Xb rfl (dn (cd rfl (fun h7 => ?_) (fun h7 => ?_))))
 ·
  refine sk (sq (bl (sq (zdraw [[], [], [0, 1], [2], [], [], [4, 5], [6], [3, 7]] [some 17, some 18, some 19, some 20, some 21, some 22, some 23, some 24, some 25] [[0], [5], [17, 18], [19], [1], [5], [21, 22], [23], [20, 24]] [0, 1, 2, 3, 4, 5, 6, 7, 8] ⟨by kernel_rfl, by kernel_rfl, by kernel_rfl⟩ (by kernel_rfl) (fun s8 p8 l8 tb8 zd8 => ?_)))))
  have K11 := Kx4.st p8 rfl
  have A12 := A0_0.kp K11
  refine mg fun hg13 => ?_
  obtain ⟨ad13, es13, he13, ce13, ia13⟩ := ix_e A12 rfl hg13.1 hg13.2
  obtain rfl := he13
  have A19 := A1_0.kp K11
  refine mg fun hg20 => ?_
  obtain ⟨ad20, es20, he20, ce20, ia20⟩ := ix_e A19 rfl hg20.1 hg20.2
  obtain rfl := he20
  refine zfin [8] tb8 ((((((((zd8.add 0 17 w0_0 rfl).add 1 18 (iI x4) rfl).add 2 19 (.pointer (some ad13)) rfl).add 3 20 (iI (at_ a0 x4)) rfl).add 4 21 w1_0 rfl).add 5 22 (iI x4) rfl).add 6 23 (.pointer (some ad20)) rfl).add 7 24 (iI (at_ a1 x4)) rfl) (Xa (lc0_q ce20 u3 rfl rfl rfl rfl rfl rfl rfl rfl) rfl (Xa (ix_q' A19 u25 z3 hg20.1 hg20.2 ia20 rfl) rfl (Xa (Xm rfl) rfl (Xa (Xf w1_0 rfl) rfl (Xa (lc0_q ce13 u3 rfl rfl rfl rfl rfl rfl rfl rfl) rfl (Xa (ix_q' A12 u25 z3 hg13.1 hg13.2 ia13 rfl) rfl (Xa (Xm rfl) rfl (Xa (Xf w0_0 rfl) rfl Xk)))))))) (by kernel_rfl) (by decide) (Xb rfl (dn (cd rfl (fun h24 => ?_) (fun h24 => ?_))))
  ·
   exact sr (Xb rfl (dn (sgi (re rfl func11 rfl (Xo rfl Xe) rfl ⟨_, rfl, rfl, z.ky K11⟩))))
  exact sk (ib (rg (Xb rfl (Xb rfl (Xb rfl (dn (lb ih4 ⟨s8, _, rfl, (ue (ue (ue rfl rfl) rfl) rfl), K11⟩)))))))
 exact xt rfl (sgb (sr (Xb rfl (dn (re rfl func11 rfl (Xo rfl Xe) rfl ⟨_, rfl, rfl, z.ky Kx4⟩)))))
def laws_markByteS.b0  (x2 : (List Int) × Int × Int) : Option (((List Int) × Int × Int) ⊕ (Int × (List Int))) :=
 (if (decide (x2.2.2 < (x2.1.length : Int))) = true then (if 0 ≤ x2.2.2 ∧ x2.2.2 < (x2.1.length : Int) then (some (Sum.inl ((x2.1.set (x2.2.2).toNat (IntKind.wrap .u8 x2.2.1)), (IntKind.wrap .i64 (x2.2.1 + (1 : Int))), (IntKind.wrap .i64 (x2.2.2 + (1 : Int)))))) else none) else ((some (x2.2.1, x2.1)).bind fun o => some (Sum.inr o)))
def laws_markByteS.f (a0 : (List Int)) (a1 : Int) : Option (Int × (List Int)) :=
 (iter laws_markByteS.b0 (a0, a1, (0 : Int)))
def laws_markByteS.Q (w : World) (F : Nat → Prop) (os : List Nat) (w0_0 : Value) (r : Int × (List Int)) (v : Value) (w' : World) : Prop :=
 v = (iI r.1) ∧ FW Ye os w w' [w0_0] r.2 ∧ Ky os w w'
theorem laws_markByteS.calls (a0 : (List Int)) (a1 : Int) (w : World) (F : Nat → Prop) (w0_0 : Value) (os : List Nat) (h0_0 : Ye.ow w [w0_0] a0 os) (hn : os.Nodup) (hF : ∀ b, F b → b ∉ os) (r : Int × (List Int)) (m : laws_markByteS.f a0 a1 = some r) :
  Calls prog 30 #[w0_0, (iI a1)] w (RT (laws_markByteS.Q w F os w0_0) r) := by
 obtain ⟨s0, rfl, kp0, z⟩ := start1 w F os hF
 refine Xd (args := [w0_0, (iI a1)]) func30 ntmps30 rfl rfl m ?_
 unfold laws_markByteS.f
 refine sr (Xb rfl (dn (sq (sr (Xb rfl (dn (bl (lpI (fun (x2 : (List Int) × Int × Int) e w => ∃ (s : St) (e0 : Env), w = s.w ∧ e = upd (upd (upd e0 0 w0_0) 1 (iI x2.2.1)) 5 (iI x2.2.2) ∧ Kp s0 s ∧ OwF Ye s [w0_0] x2.1 2) ⟨s0, _, rfl, (ue (ue (ue rfl rfl) rfl) rfl), kp0, (z.ow h0_0 hn)⟩ (fun g2 ih2 => ?_)))))))))
 rintro x2 _ _ ⟨s3, _, rfl, rfl, Kx2, Ax2_0⟩
 unfold laws_markByteS.b0
 refine sq (sr (Xb rfl (Xl w0_0 rfl (ln' Ax2_0.rd u45 rfl (Xb rfl (dn (cd rfl (fun h5 => ?_) (fun h5 => ?_))))))))
 ·
  refine sk (sq (bl (sr (Xl w0_0 rfl (Xb rfl (Xb rfl (cv' u5 u3 rfl (ix' Ax2_0.rd u45 z5 rfl (fun ad6 es6 h0_6 h1_6 he6 ce6 ia6 => ?_)))))))))
  obtain rfl := he6
  refine so (x' := (IntKind.wrap .u8 x2.2.1)) Ax2_0 ia6 h0_6 h1_6 cs_flat z5 rfl rfl rfl rfl rfl rfl (fun s8 p8 A8 => ?_)
  refine dn (rg (Xb rfl (Xb rfl (Xb rfl (dn (ib (rg (Xb rfl (Xb rfl (Xb rfl (dn ?_)))))))))))
  exact lb ih2 ⟨s8, _, rfl, (ue (ue (ue rfl rfl) rfl) rfl), (Kx2.st p8 rfl), A8⟩
 exact xt rfl (sgb (sr (Xb rfl (Xb rfl (dn (re rfl func30 rfl (Xo rfl Xe) rfl ⟨_, rfl, rfl, z.fw Kx2 Ax2_0, z.ky Kx2⟩))))))
def laws_markByteSS.b0  (x2 : (List (List Int)) × Int × Int) : Option (((List (List Int)) × Int × Int) ⊕ (Int × (List (List Int)))) :=
 (if (decide (x2.2.2 < (x2.1.length : Int))) = true then (if 0 ≤ x2.2.2 ∧ x2.2.2 < (x2.1.length : Int) then ((laws_markByteS.f (at_ x2.1 x2.2.2) x2.2.1).bind fun r9 => (some (Sum.inl ((x2.1.set (x2.2.2).toNat r9.2), r9.1, (IntKind.wrap .i64 (x2.2.2 + (1 : Int))))))) else none) else ((some (x2.2.1, x2.1)).bind fun o => some (Sum.inr o)))
def laws_markByteSS.f (a0 : (List (List Int))) (a1 : Int) : Option (Int × (List (List Int))) :=
 (iter laws_markByteSS.b0 (a0, a1, (0 : Int)))
def laws_markByteSS.Q (w : World) (F : Nat → Prop) (os : List Nat) (w0_0 : Value) (r : Int × (List (List Int))) (v : Value) (w' : World) : Prop :=
 v = (iI r.1) ∧ FW (Kd.sl 45 Ye) os w w' [w0_0] r.2 ∧ Ky os w w'
theorem laws_markByteSS.calls (a0 : (List (List Int))) (a1 : Int) (w : World) (F : Nat → Prop) (w0_0 : Value) (os : List Nat) (h0_0 : (Kd.sl 45 Ye).ow w [w0_0] a0 os) (hn : os.Nodup) (hF : ∀ b, F b → b ∉ os) (r : Int × (List (List Int))) (m : laws_markByteSS.f a0 a1 = some r) :
  Calls prog 51 #[w0_0, (iI a1)] w (RT (laws_markByteSS.Q w F os w0_0) r) := by
 obtain ⟨s0, rfl, kp0, z⟩ := start1 w F os hF
 refine Xd (args := [w0_0, (iI a1)]) func51 ntmps51 rfl rfl m ?_
 unfold laws_markByteSS.f
 refine sr (Xb rfl (dn (sq (sr (Xb rfl (dn (bl (lpI (fun (x2 : (List (List Int)) × Int × Int) e w => ∃ (s : St) (e0 : Env), w = s.w ∧ e = upd (upd (upd e0 0 w0_0) 1 (iI x2.2.1)) 5 (iI x2.2.2) ∧ Kp s0 s ∧ OwF (Kd.sl 45 Ye) s [w0_0] x2.1 2) ⟨s0, _, rfl, (ue (ue (ue rfl rfl) rfl) rfl), kp0, (z.ow h0_0 hn)⟩ (fun g2 ih2 => ?_)))))))))
 rintro x2 _ _ ⟨s3, _, rfl, rfl, Kx2, Ax2_0⟩
 unfold laws_markByteSS.b0
 refine sq (sr (Xb rfl (Xl w0_0 rfl (ln' Ax2_0.rd u66 rfl (Xb rfl (dn (cd rfl (fun h5 => ?_) (fun h5 => ?_))))))))
 ·
  refine sk (sq (bl (rg (Xl w0_0 rfl (Xb rfl (ix' Ax2_0.rd u66 z45 rfl (fun ad6 es6 h0_6 h1_6 he6 ce6 ia6 => ?_)))))))
  obtain ⟨v6, rfl, he6'⟩ := he6
  have A6 : RdF Ye s3 [v6] (at_ x2.1 x2.2.2) [2] := ⟨v6, rfl, he6'⟩
  refine lc0' ce6 u45 rfl (Xb rfl ?_)
  obtain ⟨os9, ho9, hn9, hc9, put9⟩ := focus ln_sl Ax2_0 h0_6 h1_6 ia6 ce6 rfl rfl
  refine cl' rfl func30 rfl (laws_markByteS.calls (at_ x2.1 x2.2.2) x2.2.1 s3.w (mm [] s3) v6 os9 ho9 hn9 (Yb hc9 rfl)) ?_
  rintro r9 _ w9 m9 ⟨rfl, w9_, ky9⟩
  obtain ⟨s10, rfl, p10, A10⟩ := put9 w9 _ 40 ky9 w9_
  refine Xb rfl (dn (ib (rg (Xb rfl (Xb rfl (Xb rfl (dn ?_)))))))
  exact lb ih2 ⟨s10, _, rfl, (ue (ue (ue rfl rfl) rfl) rfl), (Kx2.st p10 rfl), A10⟩
 exact xt rfl (sgb (sr (Xb rfl (Xb rfl (dn (re rfl func51 rfl (Xo rfl Xe) rfl ⟨_, rfl, rfl, z.fw Kx2 Ax2_0, z.ky Kx2⟩))))))
def laws_markPageS.b0  (x2 : (List Page) × Int × Int) : Option (((List Page) × Int × Int) ⊕ (Int × (List Page))) :=
 (if (decide (x2.2.2 < (x2.1.length : Int))) = true then (if 0 ≤ x2.2.2 ∧ x2.2.2 < (x2.1.length : Int) then (if 0 ≤ x2.2.2 ∧ x2.2.2 < ((x2.1.set (x2.2.2).toNat (Page.mk x2.2.1 (at_ x2.1 x2.2.2).Slots)).length : Int) then ((laws_markByteSS.f ((at_ (x2.1.set (x2.2.2).toNat (Page.mk x2.2.1 (at_ x2.1 x2.2.2).Slots)) x2.2.2).Slots) (IntKind.wrap .i64 (x2.2.1 + (1 : Int)))).bind fun r14 => ((some ((x2.1.set (x2.2.2).toNat (Page.mk x2.2.1 (at_ x2.1 x2.2.2).Slots)).set (x2.2.2).toNat (Page.mk (at_ (x2.1.set (x2.2.2).toNat (Page.mk x2.2.1 (at_ x2.1 x2.2.2).Slots)) x2.2.2).Lsn r14.2))).bind fun y17 => (some (Sum.inl (y17, r14.1, (IntKind.wrap .i64 (x2.2.2 + (1 : Int)))))))) else none) else none) else ((some (x2.2.1, x2.1)).bind fun o => some (Sum.inr o)))
def laws_markPageS.f (a0 : (List Page)) (a1 : Int) : Option (Int × (List Page)) :=
 (iter laws_markPageS.b0 (a0, a1, (0 : Int)))
def laws_markPageS.Q (w : World) (F : Nat → Prop) (os : List Nat) (w0_0 : Value) (r : Int × (List Page)) (v : Value) (w' : World) : Prop :=
 v = (iI r.1) ∧ FW Yg os w w' [w0_0] r.2 ∧ Ky os w w'
theorem laws_markPageS.calls (a0 : (List Page)) (a1 : Int) (w : World) (F : Nat → Prop) (w0_0 : Value) (os : List Nat) (h0_0 : Yg.ow w [w0_0] a0 os) (hn : os.Nodup) (hF : ∀ b, F b → b ∉ os) (r : Int × (List Page)) (m : laws_markPageS.f a0 a1 = some r) :
  Calls prog 29 #[w0_0, (iI a1)] w (RT (laws_markPageS.Q w F os w0_0) r) := by
 obtain ⟨s0, rfl, kp0, z⟩ := start1 w F os hF
 refine Xd (args := [w0_0, (iI a1)]) func29 ntmps29 rfl rfl m ?_
 unfold laws_markPageS.f
 refine sr (Xb rfl (dn (sq (sr (Xb rfl (dn (bl (lpI (fun (x2 : (List Page) × Int × Int) e w => ∃ (s : St) (e0 : Env), w = s.w ∧ e = upd (upd (upd e0 0 w0_0) 1 (iI x2.2.1)) 5 (iI x2.2.2) ∧ Kp s0 s ∧ OwF Yg s [w0_0] x2.1 2) ⟨s0, _, rfl, (ue (ue (ue rfl rfl) rfl) rfl), kp0, (z.ow h0_0 hn)⟩ (fun g2 ih2 => ?_)))))))))
 rintro x2 _ _ ⟨s3, _, rfl, rfl, Kx2, Ax2_0⟩
 unfold laws_markPageS.b0
 refine sq (sr (Xb rfl (Xl w0_0 rfl (ln' Ax2_0.rd u29 rfl (Xb rfl (dn (cd rfl (fun h5 => ?_) (fun h5 => ?_))))))))
 ·
  refine sk (sq (bl (sr (Xl w0_0 rfl (Xb rfl (Xb rfl (ix' Ax2_0.rd u29 z70 rfl (fun ad6 es6 h0_6 h1_6 he6 ce6 ia6 => ?_))))))))
  obtain ⟨v6_0, rfl, A6_0⟩ := op70 he6
  refine Xr fa70_0 rfl (so (x' := (Page.mk x2.2.1 (at_ x2.1 x2.2.2).Slots)) Ax2_0 ia6 h0_6 h1_6 (cs_iso (cs_left cs_flat)) z3 rfl rfl rfl rfl rfl rfl (fun s9 p9 A9 => ?_))
  refine dn (sr (Xb rfl (Xb rfl (Xb rfl (dn (rg (Xl w0_0 rfl (Xb rfl (ix' A9.rd u29 z70 rfl (fun ad11 es11 h0_11 h1_11 he11 ce11 ia11 => ?_))))))))))
  obtain ⟨v11_0, rfl, A11_0⟩ := op70 he11
  refine Xr fa70_1 rfl (lc ce11 u66 rfl rfl rfl rfl rfl rfl rfl rfl (Xb rfl ?_))
  obtain ⟨os14, ho14, hn14, hc14, put14⟩ := focus (ln_iso (fun x : Page => (x.Lsn, x.Slots)) (fun x => x.Slots) (fun x y => (Page.mk x.Lsn y)) (ln_right ln_sl) (fun _ => rfl) (fun _ _ => rfl)) A9 h0_11 h1_11 ia11 ce11 rfl rfl
  refine cl' rfl func51 rfl (laws_markByteSS.calls ((at_ (x2.1.set (x2.2.2).toNat (Page.mk x2.2.1 (at_ x2.1 x2.2.2).Slots)) x2.2.2).Slots) (IntKind.wrap .i64 (x2.2.1 + (1 : Int))) s9.w (mm [] s9) v11_0 os14 ho14 hn14 (Yb hc14 rfl)) ?_
  rintro r14 _ w14 m14 ⟨rfl, w14_, ky14⟩
  obtain ⟨s15, rfl, p15, A15⟩ := put14 w14 _ 40 ky14 w14_
  refine nb (fun y17 h17 => ?_)
  have A17 : OwF Yg s15 [w0_0] y17 2 := by rw [h17]; exact A15
  refine Xb rfl (dn (ib (rg (Xb rfl (Xb rfl (Xb rfl (dn ?_)))))))
  exact lb ih2 ⟨s15, _, rfl, (ue (ue (ue rfl rfl) rfl) rfl), (Kx2.st (Xs p9 p15) rfl), A17⟩
 exact xt rfl (sgb (sr (Xb rfl (Xb rfl (dn (re rfl func29 rfl (Xo rfl Xe) rfl ⟨_, rfl, rfl, z.fw Kx2 Ax2_0, z.ky Kx2⟩))))))
def laws_markHeap.f (a0 : Heap) (a1 : Int) : Option (Int × (List Page)) :=
 ((laws_markPageS.f a0.Pages a1).bind fun r4 => (some (r4.1, r4.2)))
def laws_markHeap.Q (w : World) (F : Nat → Prop) (os : List Nat) (w0_0 : Value) (r : Int × (List Page)) (v : Value) (w' : World) : Prop :=
 v = (iI r.1) ∧ FW Yg os w w' [w0_0] r.2 ∧ Ky os w w'
theorem laws_markHeap.calls (a0 : Heap) (a1 : Int) (w : World) (F : Nat → Prop) (w0_0 : Value) (os : List Nat) (h0_0 : Yg.ow w [w0_0] a0.Pages os) (hn : os.Nodup) (hF : ∀ b, F b → b ∉ os) (r : Int × (List Page)) (m : laws_markHeap.f a0 a1 = some r) :
  Calls prog 12 #[(.agg #[w0_0]), (iI a1)] w (RT (laws_markHeap.Q w F os w0_0) r) := by
 obtain ⟨s0, rfl, kp0, z⟩ := start1 w F os hF
 refine Xd (args := [(.agg #[w0_0]), (iI a1)]) func12 ntmps12 rfl rfl m ?_
 unfold laws_markHeap.f
 refine sr (bx' (cs := [w0_0]) 40 rfl rfl (fun b2 s2 p2 B2 => ?_))
 refine Xb rfl (dn (sr (Xr fa31_0 rfl (ld' B2 u29 rfl (Xb rfl ?_)))))
 obtain ⟨os4, ho4, hn4, hc4⟩ := (z.ow h0_0 hn).st p2 rfl
 refine cl' rfl func29 rfl (laws_markPageS.calls a0.Pages a1 s2.w (mm [] s2) w0_0 os4 ho4 hn4 (Yb hc4 rfl)) ?_
 rintro r4 _ w4 m4 ⟨rfl, w4_, ky4⟩
 obtain ⟨s6, rfl, p6, A6⟩ := nwo 41 hc4 ky4 w4_
 refine Xb rfl (dn (sr (Xb rfl (Xb rfl (dn ?_)))))
 have K8 := kp0.st (Xs p2 p6) rfl
 exact re rfl func12 rfl (Xo rfl Xe) rfl ⟨_, rfl, rfl, z.fw K8 A6, z.ky K8⟩
def laws_markIntS.b0  (x2 : (List Int) × Int × Int) : Option (((List Int) × Int × Int) ⊕ (Int × (List Int))) :=
 (if (decide (x2.2.2 < (x2.1.length : Int))) = true then (if 0 ≤ x2.2.2 ∧ x2.2.2 < (x2.1.length : Int) then (some (Sum.inl ((x2.1.set (x2.2.2).toNat x2.2.1), (IntKind.wrap .i64 (x2.2.1 + (1 : Int))), (IntKind.wrap .i64 (x2.2.2 + (1 : Int)))))) else none) else ((some (x2.2.1, x2.1)).bind fun o => some (Sum.inr o)))
def laws_markIntS.f (a0 : (List Int)) (a1 : Int) : Option (Int × (List Int)) :=
 (iter laws_markIntS.b0 (a0, a1, (0 : Int)))
def laws_markIntS.Q (w : World) (F : Nat → Prop) (os : List Nat) (w0_0 : Value) (r : Int × (List Int)) (v : Value) (w' : World) : Prop :=
 v = (iI r.1) ∧ FW Yj os w w' [w0_0] r.2 ∧ Ky os w w'
theorem laws_markIntS.calls (a0 : (List Int)) (a1 : Int) (w : World) (F : Nat → Prop) (w0_0 : Value) (os : List Nat) (h0_0 : Yj.ow w [w0_0] a0 os) (hn : os.Nodup) (hF : ∀ b, F b → b ∉ os) (r : Int × (List Int)) (m : laws_markIntS.f a0 a1 = some r) :
  Calls prog 13 #[w0_0, (iI a1)] w (RT (laws_markIntS.Q w F os w0_0) r) := by
 obtain ⟨s0, rfl, kp0, z⟩ := start1 w F os hF
 refine Xd (args := [w0_0, (iI a1)]) func13 ntmps13 rfl rfl m ?_
 unfold laws_markIntS.f
 refine sr (Xb rfl (dn (sq (sr (Xb rfl (dn (bl (lpI (fun (x2 : (List Int) × Int × Int) e w => ∃ (s : St) (e0 : Env), w = s.w ∧ e = upd (upd (upd e0 0 w0_0) 1 (iI x2.2.1)) 5 (iI x2.2.2) ∧ Kp s0 s ∧ OwF Yj s [w0_0] x2.1 2) ⟨s0, _, rfl, (ue (ue (ue rfl rfl) rfl) rfl), kp0, (z.ow h0_0 hn)⟩ (fun g2 ih2 => ?_)))))))))
 rintro x2 _ _ ⟨s3, _, rfl, rfl, Kx2, Ax2_0⟩
 unfold laws_markIntS.b0
 refine sq (sr (Xb rfl (Xl w0_0 rfl (ln' Ax2_0.rd u25 rfl (Xb rfl (dn (cd rfl (fun h5 => ?_) (fun h5 => ?_))))))))
 ·
  refine sk (sq (bl (sr (Xl w0_0 rfl (Xb rfl (Xb rfl (ix' Ax2_0.rd u25 z3 rfl (fun ad6 es6 h0_6 h1_6 he6 ce6 ia6 => ?_))))))))
  obtain rfl := he6
  refine so (x' := x2.2.1) Ax2_0 ia6 h0_6 h1_6 cs_flat z3 rfl rfl rfl rfl rfl rfl (fun s8 p8 A8 => ?_)
  refine dn (rg (Xb rfl (Xb rfl (Xb rfl (dn (ib (rg (Xb rfl (Xb rfl (Xb rfl (dn ?_)))))))))))
  exact lb ih2 ⟨s8, _, rfl, (ue (ue (ue rfl rfl) rfl) rfl), (Kx2.st p8 rfl), A8⟩
 exact xt rfl (sgb (sr (Xb rfl (Xb rfl (dn (re rfl func13 rfl (Xo rfl Xe) rfl ⟨_, rfl, rfl, z.fw Kx2 Ax2_0, z.ky Kx2⟩))))))
def laws_markPairS.b0  (x2 : (List Pair) × Int × Int) : Option (((List Pair) × Int × Int) ⊕ (Int × (List Pair))) :=
 (if (decide (x2.2.2 < (x2.1.length : Int))) = true then (if 0 ≤ x2.2.2 ∧ x2.2.2 < (x2.1.length : Int) then ((some (x2.1.set (x2.2.2).toNat (Pair.mk (Item.mk x2.2.1 ((at_ x2.1 x2.2.2).Key).N ((at_ x2.1 x2.2.2).Key).F ((at_ x2.1 x2.2.2).Key).T) (at_ x2.1 x2.2.2).Value))).bind fun y12 => (if 0 ≤ x2.2.2 ∧ x2.2.2 < (y12.length : Int) then ((some (y12.set (x2.2.2).toNat (Pair.mk (Item.mk ((at_ y12 x2.2.2).Key).Kind (IntKind.wrap .i64 (x2.2.1 + (1 : Int))) ((at_ y12 x2.2.2).Key).F ((at_ y12 x2.2.2).Key).T) (at_ y12 x2.2.2).Value))).bind fun y19 => (if 0 ≤ x2.2.2 ∧ x2.2.2 < (y19.length : Int) then ((some (y19.set (x2.2.2).toNat (Pair.mk (Item.mk ((at_ y19 x2.2.2).Key).Kind ((at_ y19 x2.2.2).Key).N (FloatKind.f64.nearest (IntKind.wrap .i64 ((IntKind.wrap .i64 (x2.2.1 + (1 : Int))) + (1 : Int)))) ((at_ y19 x2.2.2).Key).T) (at_ y19 x2.2.2).Value))).bind fun y27 => (if 0 ≤ x2.2.2 ∧ x2.2.2 < (y27.length : Int) then ((laws_markByteS.f (((at_ y27 x2.2.2).Key).T) (IntKind.wrap .i64 ((IntKind.wrap .i64 ((IntKind.wrap .i64 (x2.2.1 + (1 : Int))) + (1 : Int))) + (1 : Int)))).bind fun r32 => ((some (y27.set (x2.2.2).toNat (Pair.mk (Item.mk ((at_ y27 x2.2.2).Key).Kind ((at_ y27 x2.2.2).Key).N ((at_ y27 x2.2.2).Key).F r32.2) (at_ y27 x2.2.2).Value))).bind fun y35 => (if 0 ≤ x2.2.2 ∧ x2.2.2 < (y35.length : Int) then ((some (y35.set (x2.2.2).toNat (Pair.mk (at_ y35 x2.2.2).Key (Item.mk r32.1 ((at_ y35 x2.2.2).Value).N ((at_ y35 x2.2.2).Value).F ((at_ y35 x2.2.2).Value).T)))).bind fun y42 => (if 0 ≤ x2.2.2 ∧ x2.2.2 < (y42.length : Int) then ((some (y42.set (x2.2.2).toNat (Pair.mk (at_ y42 x2.2.2).Key (Item.mk ((at_ y42 x2.2.2).Value).Kind (IntKind.wrap .i64 (r32.1 + (1 : Int))) ((at_ y42 x2.2.2).Value).F ((at_ y42 x2.2.2).Value).T)))).bind fun y49 => (if 0 ≤ x2.2.2 ∧ x2.2.2 < (y49.length : Int) then ((some (y49.set (x2.2.2).toNat (Pair.mk (at_ y49 x2.2.2).Key (Item.mk ((at_ y49 x2.2.2).Value).Kind ((at_ y49 x2.2.2).Value).N (FloatKind.f64.nearest (IntKind.wrap .i64 ((IntKind.wrap .i64 (r32.1 + (1 : Int))) + (1 : Int)))) ((at_ y49 x2.2.2).Value).T)))).bind fun y57 => (if 0 ≤ x2.2.2 ∧ x2.2.2 < (y57.length : Int) then ((laws_markByteS.f (((at_ y57 x2.2.2).Value).T) (IntKind.wrap .i64 ((IntKind.wrap .i64 ((IntKind.wrap .i64 (r32.1 + (1 : Int))) + (1 : Int))) + (1 : Int)))).bind fun r62 => ((some (y57.set (x2.2.2).toNat (Pair.mk (at_ y57 x2.2.2).Key (Item.mk ((at_ y57 x2.2.2).Value).Kind ((at_ y57 x2.2.2).Value).N ((at_ y57 x2.2.2).Value).F r62.2)))).bind fun y65 => (some (Sum.inl (y65, r62.1, (IntKind.wrap .i64 (x2.2.2 + (1 : Int)))))))) else none)) else none)) else none)) else none))) else none)) else none)) else none)) else none) else ((some (x2.2.1, x2.1)).bind fun o => some (Sum.inr o)))
def laws_markPairS.f (a0 : (List Pair)) (a1 : Int) : Option (Int × (List Pair)) :=
 (iter laws_markPairS.b0 (a0, a1, (0 : Int)))
def laws_markPairS.Q (w : World) (F : Nat → Prop) (os : List Nat) (w0_0 : Value) (r : Int × (List Pair)) (v : Value) (w' : World) : Prop :=
 v = (iI r.1) ∧ FW Yi os w w' [w0_0] r.2 ∧ Ky os w w'
theorem laws_markPairS.calls (a0 : (List Pair)) (a1 : Int) (w : World) (F : Nat → Prop) (w0_0 : Value) (os : List Nat) (h0_0 : Yi.ow w [w0_0] a0 os) (hn : os.Nodup) (hF : ∀ b, F b → b ∉ os) (r : Int × (List Pair)) (m : laws_markPairS.f a0 a1 = some r) :
  Calls prog 14 #[w0_0, (iI a1)] w (RT (laws_markPairS.Q w F os w0_0) r) := by
 obtain ⟨s0, rfl, kp0, z⟩ := start1 w F os hF
 refine Xd (args := [w0_0, (iI a1)]) func14 ntmps14 rfl rfl m ?_
 unfold laws_markPairS.f
 refine sr (Xb rfl (dn (sq (sr (Xb rfl (dn (bl (lpI (fun (x2 : (List Pair) × Int × Int) e w => ∃ (s : St) (e0 : Env), w = s.w ∧ e = upd (upd (upd e0 0 w0_0) 1 (iI x2.2.1)) 5 (iI x2.2.2) ∧ Kp s0 s ∧ OwF Yi s [w0_0] x2.1 2) ⟨s0, _, rfl, (ue (ue (ue rfl rfl) rfl) rfl), kp0, (z.ow h0_0 hn)⟩ (fun g2 ih2 => ?_)))))))))
 rintro x2 _ _ ⟨s3, _, rfl, rfl, Kx2, Ax2_0⟩
 unfold laws_markPairS.b0
 refine sq (sr (Xb rfl (Xl w0_0 rfl (ln' Ax2_0.rd u27 rfl (Xb rfl (dn (cd rfl (fun h5 => ?_) (fun h5 => ?_))))))))
 ·
  refine sk (sq (bl (sr (Xl w0_0 rfl (Xb rfl (Xb rfl (ix' Ax2_0.rd u27 z54 rfl (fun ad6 es6 h0_6 h1_6 he6 ce6 ia6 => ?_))))))))
  obtain ⟨v6_0, v6_1, v6_2, v6_3, rfl, A6_0, A6_1, A6_2, A6_3⟩ := op54 he6
  refine Xr fa54_0 rfl (Xr fa47_0 rfl (so (x' := (Pair.mk (Item.mk x2.2.1 ((at_ x2.1 x2.2.2).Key).N ((at_ x2.1 x2.2.2).Key).F ((at_ x2.1 x2.2.2).Key).T) (at_ x2.1 x2.2.2).Value)) Ax2_0 ia6 h0_6 h1_6 (cs_iso (cs_left (cs_iso (cs_left cs_flat)))) z3 rfl rfl rfl rfl rfl rfl (fun s10 p10 A10 => ?_)))
  refine nb (fun y12 h12 => ?_)
  have A12 : OwF Yi s10 [w0_0] y12 2 := by rw [h12]; exact A10
  refine dn (sr (Xb rfl (Xb rfl (Xb rfl (dn (sr (Xl w0_0 rfl (Xb rfl (Xb rfl (ix' A12.rd u27 z54 rfl (fun ad13 es13 h0_13 h1_13 he13 ce13 ia13 => ?_)))))))))))
  obtain ⟨v13_0, v13_1, v13_2, v13_3, rfl, A13_0, A13_1, A13_2, A13_3⟩ := op54 he13
  refine Xr fa54_0 rfl (Xr fa47_1 rfl (so (x' := (Pair.mk (Item.mk ((at_ y12 x2.2.2).Key).Kind (IntKind.wrap .i64 (x2.2.1 + (1 : Int))) ((at_ y12 x2.2.2).Key).F ((at_ y12 x2.2.2).Key).T) (at_ y12 x2.2.2).Value)) A12 ia13 h0_13 h1_13 (cs_iso (cs_left (cs_iso (cs_right (cs_left cs_flat))))) z3 rfl rfl rfl rfl rfl rfl (fun s17 p17 A17 => ?_)))
  refine nb (fun y19 h19 => ?_)
  have A19 : OwF Yi s17 [w0_0] y19 2 := by rw [h19]; exact A17
  refine dn (sr (Xb rfl (Xb rfl (Xb rfl (dn (sr (Xl w0_0 rfl (Xb rfl (Xb rfl (i2f u44 u3 rfl rfl rfl rfl rfl rfl (fun v20 A20 => ?_)))))))))))
  refine ix' A19.rd u27 z54 rfl (fun ad21 es21 h0_21 h1_21 he21 ce21 ia21 => ?_)
  obtain ⟨v21_0, v21_1, v21_2, v21_3, rfl, A21_0, A21_1, A21_2, A21_3⟩ := op54 he21
  refine Xr fa54_0 rfl (Xr fa47_2 rfl (so (x' := (Pair.mk (Item.mk ((at_ y19 x2.2.2).Key).Kind ((at_ y19 x2.2.2).Key).N (FloatKind.f64.nearest (IntKind.wrap .i64 ((IntKind.wrap .i64 (x2.2.1 + (1 : Int))) + (1 : Int)))) ((at_ y19 x2.2.2).Key).T) (at_ y19 x2.2.2).Value)) A19 ia21 h0_21 h1_21 (cs_iso (cs_left (cs_iso (cs_right (cs_right (cs_left (cs_flt A20))))))) z44 rfl rfl rfl rfl rfl rfl (fun s25 p25 A25 => ?_)))
  refine nb (fun y27 h27 => ?_)
  have A27 : OwF Yi s25 [w0_0] y27 2 := by rw [h27]; exact A25
  refine dn (sr (Xb rfl (Xb rfl (Xb rfl (dn (sr (Xl w0_0 rfl (Xb rfl (ix' A27.rd u27 z54 rfl (fun ad28 es28 h0_28 h1_28 he28 ce28 ia28 => ?_))))))))))
  obtain ⟨v28_0, v28_1, v28_2, v28_3, rfl, A28_0, A28_1, A28_2, A28_3⟩ := op54 he28
  refine Xr fa54_0 rfl (Xr fa47_3 rfl (lc ce28 u45 rfl rfl rfl rfl rfl rfl rfl rfl (Xb rfl ?_)))
  obtain ⟨os32, ho32, hn32, hc32, put32⟩ := focus (ln_iso (fun x : Pair => (x.Key, x.Value)) (fun x => x.Key.T) (fun x y => (Pair.mk (Item.mk x.Key.Kind x.Key.N x.Key.F y) x.Value)) (ln_left (ln_iso (fun x : Item => (x.Kind, x.N, x.F, x.T)) (fun x => x.T) (fun x y => (Item.mk x.Kind x.N x.F y)) (ln_right (ln_right (ln_right ln_sl))) (fun _ => rfl) (fun _ _ => rfl))) (fun _ => rfl) (fun _ _ => rfl)) A27 h0_28 h1_28 ia28 ce28 rfl rfl
  refine cl' rfl func30 rfl (laws_markByteS.calls (((at_ y27 x2.2.2).Key).T) (IntKind.wrap .i64 ((IntKind.wrap .i64 ((IntKind.wrap .i64 (x2.2.1 + (1 : Int))) + (1 : Int))) + (1 : Int))) s25.w (mm [] s25) v28_1 os32 ho32 hn32 (Yb hc32 rfl)) ?_
  rintro r32 _ w32 m32 ⟨rfl, w32_, ky32⟩
  obtain ⟨s33, rfl, p33, A33⟩ := put32 w32 _ 40 ky32 w32_
  refine nb (fun y35 h35 => ?_)
  have A35 : OwF Yi s33 [w0_0] y35 2 := by rw [h35]; exact A33
  refine Xb rfl (dn (sr (Xl w0_0 rfl (Xb rfl (Xb rfl (ix' A35.rd u27 z54 rfl (fun ad36 es36 h0_36 h1_36 he36 ce36 ia36 => ?_)))))))
  obtain ⟨v36_0, v36_1, v36_2, v36_3, rfl, A36_0, A36_1, A36_2, A36_3⟩ := op54 he36
  refine Xr fa54_1 rfl (faq (q := 4) (q' := 0) (n := 4) fa47_0 rfl rfl rfl rfl rfl rfl rfl (so (x' := (Pair.mk (at_ y35 x2.2.2).Key (Item.mk r32.1 ((at_ y35 x2.2.2).Value).N ((at_ y35 x2.2.2).Value).F ((at_ y35 x2.2.2).Value).T))) A35 ia36 h0_36 h1_36 (cs_iso (cs_right (cs_iso (cs_left cs_flat)))) z3 rfl rfl rfl rfl rfl rfl (fun s40 p40 A40 => ?_)))
  refine nb (fun y42 h42 => ?_)
  have A42 : OwF Yi s40 [w0_0] y42 2 := by rw [h42]; exact A40
  refine dn (sr (Xb rfl (Xb rfl (Xb rfl (dn (sr (Xl w0_0 rfl (Xb rfl (Xb rfl (ix' A42.rd u27 z54 rfl (fun ad43 es43 h0_43 h1_43 he43 ce43 ia43 => ?_)))))))))))
  obtain ⟨v43_0, v43_1, v43_2, v43_3, rfl, A43_0, A43_1, A43_2, A43_3⟩ := op54 he43
  refine Xr fa54_1 rfl (faq (q := 4) (q' := 1) (n := 5) fa47_1 rfl rfl rfl rfl rfl rfl rfl (so (x' := (Pair.mk (at_ y42 x2.2.2).Key (Item.mk ((at_ y42 x2.2.2).Value).Kind (IntKind.wrap .i64 (r32.1 + (1 : Int))) ((at_ y42 x2.2.2).Value).F ((at_ y42 x2.2.2).Value).T))) A42 ia43 h0_43 h1_43 (cs_iso (cs_right (cs_iso (cs_right (cs_left cs_flat))))) z3 rfl rfl rfl rfl rfl rfl (fun s47 p47 A47 => ?_)))
  refine nb (fun y49 h49 => ?_)
  have A49 : OwF Yi s47 [w0_0] y49 2 := by rw [h49]; exact A47
  refine dn (sr (Xb rfl (Xb rfl (Xb rfl (dn (sr (Xl w0_0 rfl (Xb rfl (Xb rfl (i2f u44 u3 rfl rfl rfl rfl rfl rfl (fun v50 A50 => ?_)))))))))))
  refine ix' A49.rd u27 z54 rfl (fun ad51 es51 h0_51 h1_51 he51 ce51 ia51 => ?_)
  obtain ⟨v51_0, v51_1, v51_2, v51_3, rfl, A51_0, A51_1, A51_2, A51_3⟩ := op54 he51
  refine Xr fa54_1 rfl (faq (q := 4) (q' := 2) (n := 6) fa47_2 rfl rfl rfl rfl rfl rfl rfl (so (x' := (Pair.mk (at_ y49 x2.2.2).Key (Item.mk ((at_ y49 x2.2.2).Value).Kind ((at_ y49 x2.2.2).Value).N (FloatKind.f64.nearest (IntKind.wrap .i64 ((IntKind.wrap .i64 (r32.1 + (1 : Int))) + (1 : Int)))) ((at_ y49 x2.2.2).Value).T))) A49 ia51 h0_51 h1_51 (cs_iso (cs_right (cs_iso (cs_right (cs_right (cs_left (cs_flt A50))))))) z44 rfl rfl rfl rfl rfl rfl (fun s55 p55 A55 => ?_)))
  refine nb (fun y57 h57 => ?_)
  have A57 : OwF Yi s55 [w0_0] y57 2 := by rw [h57]; exact A55
  refine dn (sr (Xb rfl (Xb rfl (Xb rfl (dn (rg (Xl w0_0 rfl (Xb rfl (ix' A57.rd u27 z54 rfl (fun ad58 es58 h0_58 h1_58 he58 ce58 ia58 => ?_))))))))))
  obtain ⟨v58_0, v58_1, v58_2, v58_3, rfl, A58_0, A58_1, A58_2, A58_3⟩ := op54 he58
  refine Xr fa54_1 rfl (faq (q := 4) (q' := 3) (n := 7) fa47_3 rfl rfl rfl rfl rfl rfl rfl (lc ce58 u45 rfl rfl rfl rfl rfl rfl rfl rfl (Xb rfl ?_)))
  obtain ⟨os62, ho62, hn62, hc62, put62⟩ := focus (ln_iso (fun x : Pair => (x.Key, x.Value)) (fun x => x.Value.T) (fun x y => (Pair.mk x.Key (Item.mk x.Value.Kind x.Value.N x.Value.F y))) (ln_right (ln_iso (fun x : Item => (x.Kind, x.N, x.F, x.T)) (fun x => x.T) (fun x y => (Item.mk x.Kind x.N x.F y)) (ln_right (ln_right (ln_right ln_sl))) (fun _ => rfl) (fun _ _ => rfl))) (fun _ => rfl) (fun _ _ => rfl)) A57 h0_58 h1_58 ia58 ce58 rfl rfl
  refine cl' rfl func30 rfl (laws_markByteS.calls (((at_ y57 x2.2.2).Value).T) (IntKind.wrap .i64 ((IntKind.wrap .i64 ((IntKind.wrap .i64 (r32.1 + (1 : Int))) + (1 : Int))) + (1 : Int))) s55.w (mm [] s55) v58_3 os62 ho62 hn62 (Yb hc62 rfl)) ?_
  rintro r62 _ w62 m62 ⟨rfl, w62_, ky62⟩
  obtain ⟨s63, rfl, p63, A63⟩ := put62 w62 _ 41 ky62 w62_
  refine nb (fun y65 h65 => ?_)
  have A65 : OwF Yi s63 [w0_0] y65 2 := by rw [h65]; exact A63
  refine Xb rfl (dn (ib (rg (Xb rfl (Xb rfl (Xb rfl (dn ?_)))))))
  exact lb ih2 ⟨s63, _, rfl, (ue (ue (ue rfl rfl) rfl) rfl), (Kx2.st (tr8 p10 p17 p25 p33 p40 p47 p55 p63) rfl), A65⟩
 exact xt rfl (sgb (sr (Xb rfl (Xb rfl (dn (re rfl func14 rfl (Xo rfl Xe) rfl ⟨_, rfl, rfl, z.fw Kx2 Ax2_0, z.ky Kx2⟩))))))
def laws_heldByteS.b0 (a0 : (List Int)) (x2 : Int × Int) : Option ((Int × Int) ⊕ Int) :=
 (if (decide (x2.2 < (a0.length : Int))) = true then (if 0 ≤ x2.2 ∧ x2.2 < (a0.length : Int) then (if ((at_ a0 x2.2) != (IntKind.wrap .u8 x2.1)) = true then (some (Sum.inr (-1 : Int))) else (some (Sum.inl ((IntKind.wrap .i64 (x2.1 + (1 : Int))), (IntKind.wrap .i64 (x2.2 + (1 : Int))))))) else none) else ((some x2.1).bind fun o => some (Sum.inr o)))
def laws_heldByteS.f (a0 : (List Int)) (a1 : Int) : Option (Int) :=
 (iter (laws_heldByteS.b0 a0) (a1, (0 : Int)))
def laws_heldByteS.Q (w : World) (F : Nat → Prop) (r : Int) (v : Value) (w' : World) : Prop :=
 v = (iI r) ∧ Ky [] w w'
theorem laws_heldByteS.calls (a0 : (List Int)) (a1 : Int) (w : World) (F : Nat → Prop) (w0_0 : Value) (h0_0 : Ye.rd w [w0_0] a0 F) (r : Int) (m : laws_heldByteS.f a0 a1 = some r) :
  Calls prog 31 #[w0_0, (iI a1)] w (RT (laws_heldByteS.Q w F) r) := by
 obtain ⟨s0, rfl, kp0, z⟩ := Xg w F
 refine Xd (args := [w0_0, (iI a1)]) func31 ntmps31 rfl rfl m ?_
 unfold laws_heldByteS.f
 refine sr (Xb rfl (dn (sq (sr (Xb rfl (dn (bl (lpI (fun (x2 : Int × Int) e w => ∃ (s : St) (e0 : Env), w = s.w ∧ e = upd (upd (upd e0 0 w0_0) 1 (iI x2.1)) 5 (iI x2.2) ∧ Kp s0 s) ⟨s0, _, rfl, (ue (ue (ue rfl rfl) rfl) rfl), kp0⟩ (fun g2 ih2 => ?_)))))))))
 rintro x2 _ _ ⟨s3, _, rfl, rfl, Kx2⟩
 unfold laws_heldByteS.b0
 refine sq (sr (Xb rfl (Xl w0_0 rfl ?_)))
 have A4 := (z.rd h0_0).kp Kx2
 refine ln' A4 u45 rfl (Xb rfl (dn (cd rfl (fun h5 => ?_) (fun h5 => ?_))))
 ·
  refine sk (sq (bl (sq (sr (Xl w0_0 rfl (Xb rfl (ix' A4 u45 z5 rfl (fun ad6 es6 h0_6 h1_6 he6 ce6 ia6 => ?_))))))))
  obtain rfl := he6
  refine lc0' ce6 u5 rfl (Xb rfl (cv' u5 u3 rfl (Xb rfl (dn (cd rfl (fun h8 => ?_) (fun h8 => ?_))))))
  ·
   exact sr (Xb rfl (dn (sgi (re rfl func31 rfl (Xo rfl Xe) rfl ⟨_, rfl, rfl, z.ky Kx2⟩))))
  exact sk (rg (Xb rfl (Xb rfl (Xb rfl (dn (ib (rg (Xb rfl (Xb rfl (Xb rfl (dn (lb ih2 ⟨s3, _, rfl, (ue (ue (ue rfl rfl) rfl) rfl), Kx2⟩))))))))))))
 exact xt rfl (sgb (sr (Xb rfl (Xb rfl (dn (re rfl func31 rfl (Xo rfl Xe) rfl ⟨_, rfl, rfl, z.ky Kx2⟩))))))
def laws_heldPairS.b0 (a0 : (List Pair)) (x2 : Int × Int) : Option ((Int × Int) ⊕ Int) :=
 (if (decide (x2.2 < (a0.length : Int))) = true then (if 0 ≤ x2.2 ∧ x2.2 < (a0.length : Int) then (if (((at_ a0 x2.2).Key).Kind != x2.1) = true then (some (Sum.inr (-1 : Int))) else (if 0 ≤ x2.2 ∧ x2.2 < (a0.length : Int) then (if (((at_ a0 x2.2).Key).N != (IntKind.wrap .i64 (x2.1 + (1 : Int)))) = true then (some (Sum.inr (-1 : Int))) else (if 0 ≤ x2.2 ∧ x2.2 < (a0.length : Int) then (if (fcmp .f64 (((at_ a0 x2.2).Key).F) (FloatKind.f64.nearest (IntKind.wrap .i64 ((IntKind.wrap .i64 (x2.1 + (1 : Int))) + (1 : Int)))) != some .eq) = true then (some (Sum.inr (-1 : Int))) else (if 0 ≤ x2.2 ∧ x2.2 < (a0.length : Int) then ((laws_heldByteS.f (((at_ a0 x2.2).Key).T) (IntKind.wrap .i64 ((IntKind.wrap .i64 ((IntKind.wrap .i64 (x2.1 + (1 : Int))) + (1 : Int))) + (1 : Int)))).bind fun r26 => (if (decide (r26 < (0 : Int))) = true then (some (Sum.inr (-1 : Int))) else (if 0 ≤ x2.2 ∧ x2.2 < (a0.length : Int) then (if (((at_ a0 x2.2).Value).Kind != r26) = true then (some (Sum.inr (-1 : Int))) else (if 0 ≤ x2.2 ∧ x2.2 < (a0.length : Int) then (if (((at_ a0 x2.2).Value).N != (IntKind.wrap .i64 (r26 + (1 : Int)))) = true then (some (Sum.inr (-1 : Int))) else (if 0 ≤ x2.2 ∧ x2.2 < (a0.length : Int) then (if (fcmp .f64 (((at_ a0 x2.2).Value).F) (FloatKind.f64.nearest (IntKind.wrap .i64 ((IntKind.wrap .i64 (r26 + (1 : Int))) + (1 : Int)))) != some .eq) = true then (some (Sum.inr (-1 : Int))) else (if 0 ≤ x2.2 ∧ x2.2 < (a0.length : Int) then ((laws_heldByteS.f (((at_ a0 x2.2).Value).T) (IntKind.wrap .i64 ((IntKind.wrap .i64 ((IntKind.wrap .i64 (r26 + (1 : Int))) + (1 : Int))) + (1 : Int)))).bind fun r52 => (if (decide (r52 < (0 : Int))) = true then (some (Sum.inr (-1 : Int))) else (some (Sum.inl (r52, (IntKind.wrap .i64 (x2.2 + (1 : Int)))))))) else none)) else none)) else none)) else none))) else none)) else none)) else none)) else none) else ((some x2.1).bind fun o => some (Sum.inr o)))
def laws_heldPairS.f (a0 : (List Pair)) (a1 : Int) : Option (Int) :=
 (iter (laws_heldPairS.b0 a0) (a1, (0 : Int)))
def laws_heldPairS.Q (w : World) (F : Nat → Prop) (r : Int) (v : Value) (w' : World) : Prop :=
 v = (iI r) ∧ Ky [] w w'
theorem laws_heldPairS.calls (a0 : (List Pair)) (a1 : Int) (w : World) (F : Nat → Prop) (w0_0 : Value) (h0_0 : Yi.rd w [w0_0] a0 F) (r : Int) (m : laws_heldPairS.f a0 a1 = some r) :
  Calls prog 15 #[w0_0, (iI a1)] w (RT (laws_heldPairS.Q w F) r) := by
 obtain ⟨s0, rfl, kp0, z⟩ := Xg w F
 have A0_0 := z.rd h0_0
 refine Xd (args := [w0_0, (iI a1)]) func15 ntmps15 rfl rfl m ?_
 unfold laws_heldPairS.f
 refine sr (Xb rfl (dn (sq (sr (Xb rfl (dn (bl (lpI (fun (x2 : Int × Int) e w => ∃ (s : St) (e0 : Env), w = s.w ∧ e = upd (upd (upd e0 0 w0_0) 1 (iI x2.1)) 5 (iI x2.2) ∧ Kp s0 s) ⟨s0, _, rfl, (ue (ue (ue rfl rfl) rfl) rfl), kp0⟩ (fun g2 ih2 => ?_)))))))))
 rintro x2 _ _ ⟨s3, _, rfl, rfl, Kx2⟩
 unfold laws_heldPairS.b0
 refine sq (sr (Xb rfl (Xl w0_0 rfl ?_)))
 have A4 := A0_0.kp Kx2
 refine ln' A4 u27 rfl (Xb rfl (dn (cd rfl (fun h5 => ?_) (fun h5 => ?_))))
 ·
  refine sk (sq (bl (sq (sr (Xl w0_0 rfl (Xb rfl (ix' A4 u27 z54 rfl (fun ad6 es6 h0_6 h1_6 he6 ce6 ia6 => ?_))))))))
  obtain ⟨v6_0, v6_1, v6_2, v6_3, rfl, A6_0, A6_1, A6_2, A6_3⟩ := op54 he6
  refine Xr fa54_0 rfl (Xr fa47_0 rfl (lc0' ce6 u3 rfl (Xb rfl (Xb rfl (dn (cd rfl (fun h10 => ?_) (fun h10 => ?_)))))))
  ·
   exact sr (Xb rfl (dn (sgi (re rfl func15 rfl (Xo rfl Xe) rfl ⟨_, rfl, rfl, z.ky Kx2⟩))))
  refine sk (sr (Xb rfl (Xb rfl (Xb rfl (dn (sq (sr (Xl w0_0 rfl (Xb rfl (ix' A4 u27 z54 rfl (fun ad11 es11 h0_11 h1_11 he11 ce11 ia11 => ?_)))))))))))
  obtain ⟨v11_0, v11_1, v11_2, v11_3, rfl, A11_0, A11_1, A11_2, A11_3⟩ := op54 he11
  refine Xr fa54_0 rfl (Xr fa47_1 rfl (lc ce11 u3 rfl rfl rfl rfl rfl rfl rfl rfl (Xb rfl (Xb rfl (dn (cd rfl (fun h15 => ?_) (fun h15 => ?_)))))))
  ·
   exact sr (Xb rfl (dn (sgi (re rfl func15 rfl (Xo rfl Xe) rfl ⟨_, rfl, rfl, z.ky Kx2⟩))))
  refine sk (sr (Xb rfl (Xb rfl (Xb rfl (dn (sq (sr (Xl w0_0 rfl (Xb rfl (ix' A4 u27 z54 rfl (fun ad16 es16 h0_16 h1_16 he16 ce16 ia16 => ?_)))))))))))
  obtain ⟨v16_0, v16_1, v16_2, v16_3, rfl, A16_0, A16_1, A16_2, A16_3⟩ := op54 he16
  refine Xr fa54_0 rfl (Xr fa47_2 rfl (lc ce16 u44 rfl rfl rfl rfl rfl rfl rfl rfl (Xb rfl (i2f u44 u3 rfl rfl rfl rfl rfl rfl (fun v20 A20 => ?_)))))
  refine fq_' A16_0 A20 rfl (dn (cd rfl (fun h21 => ?_) (fun h21 => ?_)))
  ·
   exact sr (Xb rfl (dn (sgi (re rfl func15 rfl (Xo rfl Xe) rfl ⟨_, rfl, rfl, z.ky Kx2⟩))))
  refine sk (sr (Xb rfl (Xb rfl (Xb rfl (dn (sr (Xl w0_0 rfl (Xb rfl (ix' A4 u27 z54 rfl (fun ad22 es22 h0_22 h1_22 he22 ce22 ia22 => ?_))))))))))
  obtain ⟨v22_0, v22_1, v22_2, v22_3, rfl, A22_0, A22_1, A22_2, A22_3⟩ := op54 he22
  refine Xr fa54_0 rfl (Xr fa47_3 rfl (lc ce22 u45 rfl rfl rfl rfl rfl rfl rfl rfl (Xb rfl (clV 40 rfl func31 rfl (laws_heldByteS.calls (((at_ a0 x2.2).Key).T) (IntKind.wrap .i64 ((IntKind.wrap .i64 ((IntKind.wrap .i64 (x2.1 + (1 : Int))) + (1 : Int))) + (1 : Int))) s3.w (mm [0] s3) v22_1 A22_1) (fun r26 s27 p27 n27 => ?_)))))
  refine Xb rfl (dn (sq (sr (Xb rfl (Xb rfl (dn (cd rfl (fun h28 => ?_) (fun h28 => ?_))))))))
  ·
   refine sr (Xb rfl (dn (sgi ?_)))
   exact re rfl func15 rfl (Xo rfl Xe) rfl ⟨_, rfl, rfl, z.ky (Kx2.st p27 rfl)⟩
  refine sk (sq (sr (Xl w0_0 rfl (Xb rfl ?_))))
  have K30 := Kx2.st p27 rfl
  have A31 := A0_0.kp K30
  refine ix' A31 u27 z54 rfl (fun ad32 es32 h0_32 h1_32 he32 ce32 ia32 => ?_)
  obtain ⟨v32_0, v32_1, v32_2, v32_3, rfl, A32_0, A32_1, A32_2, A32_3⟩ := op54 he32
  refine Xr fa54_1 rfl (faq (q := 4) (q' := 0) (n := 4) fa47_0 rfl rfl rfl rfl rfl rfl rfl (lc ce32 u3 rfl rfl rfl rfl rfl rfl rfl rfl (Xb rfl (Xb rfl (dn (cd rfl (fun h36 => ?_) (fun h36 => ?_)))))))
  ·
   exact sr (Xb rfl (dn (sgi (re rfl func15 rfl (Xo rfl Xe) rfl ⟨_, rfl, rfl, z.ky K30⟩))))
  refine sk (sr (Xb rfl (Xb rfl (Xb rfl (dn (sq (sr (Xl w0_0 rfl (Xb rfl (ix' A31 u27 z54 rfl (fun ad37 es37 h0_37 h1_37 he37 ce37 ia37 => ?_)))))))))))
  obtain ⟨v37_0, v37_1, v37_2, v37_3, rfl, A37_0, A37_1, A37_2, A37_3⟩ := op54 he37
  refine Xr fa54_1 rfl (faq (q := 4) (q' := 1) (n := 5) fa47_1 rfl rfl rfl rfl rfl rfl rfl (lc ce37 u3 rfl rfl rfl rfl rfl rfl rfl rfl (Xb rfl (Xb rfl (dn (cd rfl (fun h41 => ?_) (fun h41 => ?_)))))))
  ·
   exact sr (Xb rfl (dn (sgi (re rfl func15 rfl (Xo rfl Xe) rfl ⟨_, rfl, rfl, z.ky K30⟩))))
  refine sk (sr (Xb rfl (Xb rfl (Xb rfl (dn (sq (sr (Xl w0_0 rfl (Xb rfl (ix' A31 u27 z54 rfl (fun ad42 es42 h0_42 h1_42 he42 ce42 ia42 => ?_)))))))))))
  obtain ⟨v42_0, v42_1, v42_2, v42_3, rfl, A42_0, A42_1, A42_2, A42_3⟩ := op54 he42
  refine Xr fa54_1 rfl (faq (q := 4) (q' := 2) (n := 6) fa47_2 rfl rfl rfl rfl rfl rfl rfl (lc ce42 u44 rfl rfl rfl rfl rfl rfl rfl rfl (Xb rfl (i2f u44 u3 rfl rfl rfl rfl rfl rfl (fun v46 A46 => ?_)))))
  refine fq_' A42_2 A46 rfl (dn (cd rfl (fun h47 => ?_) (fun h47 => ?_)))
  ·
   exact sr (Xb rfl (dn (sgi (re rfl func15 rfl (Xo rfl Xe) rfl ⟨_, rfl, rfl, z.ky K30⟩))))
  refine sk (sr (Xb rfl (Xb rfl (Xb rfl (dn (sr (Xl w0_0 rfl (Xb rfl (ix' A31 u27 z54 rfl (fun ad48 es48 h0_48 h1_48 he48 ce48 ia48 => ?_))))))))))
  obtain ⟨v48_0, v48_1, v48_2, v48_3, rfl, A48_0, A48_1, A48_2, A48_3⟩ := op54 he48
  refine Xr fa54_1 rfl (faq (q := 4) (q' := 3) (n := 7) fa47_3 rfl rfl rfl rfl rfl rfl rfl (lc ce48 u45 rfl rfl rfl rfl rfl rfl rfl rfl (Xb rfl (clV 41 rfl func31 rfl (laws_heldByteS.calls (((at_ a0 x2.2).Value).T) (IntKind.wrap .i64 ((IntKind.wrap .i64 ((IntKind.wrap .i64 (r26 + (1 : Int))) + (1 : Int))) + (1 : Int))) s27.w (mm [0] s27) v48_3 A48_3) (fun r52 s53 p53 n53 => ?_)))))
  refine Xb rfl (dn (sr (Xb rfl (Xb rfl (dn (cd rfl (fun h54 => ?_) (fun h54 => ?_)))))))
  ·
   refine sr (Xb rfl (dn (sgi ?_)))
   exact re rfl func15 rfl (Xo rfl Xe) rfl ⟨_, rfl, rfl, z.ky (K30.st p53 rfl)⟩
  refine sk (ib (rg (Xb rfl (Xb rfl (Xb rfl (dn ?_))))))
  exact lb ih2 ⟨s53, _, rfl, (ue (ue (ue rfl rfl) rfl) rfl), (K30.st p53 rfl)⟩
 exact xt rfl (sgb (sr (Xb rfl (Xb rfl (dn (re rfl func15 rfl (Xo rfl Xe) rfl ⟨_, rfl, rfl, z.ky Kx2⟩))))))
def laws_FnExactCommitted.f (a0 : Heap) (a1 : (List Int)) : Option (Bool) :=
 (if (decide ((a1.length : Int) > (1048576 : Int))) = true then (some true) else ((laws_szHeap.f a0 (1048576 : Int)).bind fun r9 => (if (decide (r9 < (0 : Int))) = true then (some true) else ((laws_toHeap.f a0).bind fun r16 => ((laws_toIntS.f a1).bind fun r21 => ((spec_Committed.f r16 r21).bind fun r25 => ((laws_toHeap.f a0).bind fun r31 => ((laws_toIntS.f a1).bind fun r41 => ((impl_Committed.f r31 r41).bind fun r46 => ((laws_eqPairS.f r46 r25).bind fun r50 => (if (!r50) = true then (some false) else ((laws_toHeap.f a0).bind fun r64 => ((laws_eqHeap.f r31 r64).bind fun r70 => (if (!r70) = true then (some false) else ((laws_toIntS.f a1).bind fun r76 => ((laws_eqIntS.f r41 r76).bind fun r80 => (if (!r80) = true then (some false) else ((laws_markHeap.f r31 (1 : Int)).bind fun r85 => ((laws_markIntS.f r41 r85.1).bind fun r89 => ((if (decide (r89.1 < (0 : Int))) = true then (some true) else ((laws_eqPairS.f r46 r25).bind fun r100 => (some (!r100)))).bind fun y93 => (if y93 = true then (some false) else ((laws_markPairS.f r46 (1 : Int)).bind fun r109 => ((laws_heldPairS.f r109.2 (1 : Int)).bind fun r112 => (if (decide (r112 < (0 : Int))) = true then (some false) else (if (r112 != r109.1) = true then (some false) else ((laws_toHeap.f a0).bind fun r121 => ((laws_toIntS.f a1).bind fun r126 => ((impl_Committed.f r121 r126).bind fun r130 => ((laws_eqPairS.f r130 r25).bind fun r134 => (if (!r134) = true then (some false) else ((laws_heldPairS.f r109.2 (1 : Int)).bind fun r139 => (if (decide (r139 < (0 : Int))) = true then (some false) else (if (r139 != r109.1) = true then (some false) else (some true))))))))))))))))))))))))))))))))))
def laws_FnExactCommitted.Q (w : World) (F : Nat → Prop) (r : Bool) (v : Value) (w' : World) : Prop :=
 v = (.bool r) ∧ Ky [] w w'
theorem laws_FnExactCommitted.calls (a0 : Heap) (a1 : (List Int)) (w : World) (F : Nat → Prop) (w0_0 : Value) (w1_0 : Value) (h0_0 : (Kd.sl 68 kd68).rd w [w0_0] a0.Pages F) (h1_0 : Yj.rd w [w1_0] a1 F) (r : Bool) (m : laws_FnExactCommitted.f a0 a1 = some r) :
  Calls prog 3 #[(.agg #[w0_0]), w1_0] w (RT (laws_FnExactCommitted.Q w F) r) := by
 obtain ⟨s0, rfl, kp0, z⟩ := Xg w F
 have A0_0 := z.rd h0_0
 have A1_0 := z.rd h1_0
 refine Xd (args := [(.agg #[w0_0]), w1_0]) func3 ntmps3 rfl rfl m ?_
 unfold laws_FnExactCommitted.f
 refine sr (bx' (cs := [w0_0]) 40 rfl rfl (fun b3 s3 p3 B3 => ?_))
 refine Xb rfl (dn (sq (sr (Xl w1_0 rfl ?_))))
 have K5 := kp0.st p3 rfl
 refine ln' (A1_0.kp K5) u25 rfl (Xb rfl (dn (cd rfl (fun h7 => ?_) (fun h7 => ?_))))
 ·
  exact sr (Xb rfl (dn (re rfl func3 rfl (Xo rfl Xe) rfl ⟨_, rfl, rfl, z.ky K5⟩)))
 refine sk (sr (Xb rfl (dn (sr (Yc (es := [w0_0]) B3 u24 z24 rfl (Xb rfl ?_))))))
 refine clV 41 rfl func4 rfl (laws_szHeap.calls a0 (1048576 : Int) s3.w (mm [0] s3) w0_0 (A0_0.kp K5)) (fun r9 s10 p10 n10 => ?_)
 refine Xb rfl (dn (sq (sr (Xb rfl (Xb rfl (dn (cd rfl (fun h11 => ?_) (fun h11 => ?_))))))))
 ·
  refine sr (Xb rfl (dn ?_))
  exact re rfl func3 rfl (Xo rfl Xe) rfl ⟨_, rfl, rfl, z.ky (K5.st p10 rfl)⟩
 refine sk (sr ?_)
 have A13 := B3.st p10 rfl
 refine Yc (es := [w0_0]) A13 u24 z24 rfl ?_
 have K14 := K5.st p10 rfl
 refine cl' rfl func6 rfl (laws_toHeap.calls a0 s10.w (mm [0] s10) w0_0 (A0_0.kp K14)) ?_
 rintro r16 _ w16 m16 ⟨v16_0, rfl, f16_0, ky16⟩
 obtain ⟨s17, rfl, p17, n17⟩ := nwx s10 w16 42 ky16
 refine Xl w1_0 rfl ?_
 have K19 := K14.st p17 rfl
 refine clO 43 rfl func7 rfl (laws_toIntS.calls a1 s17.w (mm [0] s17) w1_0 (A1_0.kp K19)) (fun r21 v21_0 s22 p22 A21_0 => ?_)
 refine cl' rfl func5 rfl (spec_Committed.calls r16 r21 s22.w (mm [42, 43] s22) v16_0 v21_0 (((ap31 (f16_0.c n17)).st p22 rfl).rd.sub (D := [42, 43]) rfl) (A21_0.rd.sub (D := [42, 43]) rfl)) ?_
 rintro r25 v25_0 w25 m25 ⟨f25_0, ky25⟩
 obtain ⟨s26, rfl, p26, n26⟩ := nwx s22 w25 44 ky25
 refine Xp v25_0 rfl (dn (sr ?_))
 have A28 := A13.st (tr3 p17 p22 p26) rfl
 refine Yc (es := [w0_0]) A28 u24 z24 rfl ?_
 have K29 := K19.st (Xs p22 p26) rfl
 refine cl' rfl func6 rfl (laws_toHeap.calls a0 s26.w (mm [0] s26) w0_0 (A0_0.kp K29)) ?_
 rintro r31 _ w31 m31 ⟨v31_0, rfl, f31_0, ky31⟩
 obtain ⟨s32, rfl, p32, n32⟩ := nwx s26 w31 45 ky31
 refine al' (cs := [(.slice none 0 0)]) 46 rfl o31 rfl (fun b34 s34 p34 B34 => ?_)
 have A36 := (ap31 (f31_0.c n32)).st p34 rfl
 refine sva' (vs := [v31_0]) B34 z31 rfl (Xc A36.rd.one Xt) rfl (fun s37 p37 B37 => ?_)
 refine dn (sr (Xl w1_0 rfl ?_))
 have K39 := K29.st (tr3 p32 p34 p37) rfl
 refine clO 47 rfl func7 rfl (laws_toIntS.calls a1 s37.w (mm [0] s37) w1_0 (A1_0.kp K39)) (fun r41 v41_0 s42 p42 A41_0 => ?_)
 refine Xp v41_0 rfl (dn (sr ?_))
 have A44 := B37.st p42 rfl
 refine Yc (es := [v31_0]) A44 u31 z31 rfl (Xl v41_0 rfl ?_)
 have A45 := A36.st (Xs p37 p42) rfl
 refine clO 48 rfl func8 rfl (impl_Committed.calls r31 r41 s42.w (mm [45, 47] s42) v31_0 v41_0 (A45.rd.sub (D := [45, 47]) rfl) (A41_0.rd.sub (D := [45, 47]) rfl)) (fun r46 v46_0 s47 p47 A46_0 => ?_)
 refine Xp v46_0 rfl (dn (sq (sr (Xl v46_0 rfl (Xl v25_0 rfl ?_)))))
 have A49 := (f25_0.c n26).st (tr5 p32 p34 p37 p42 p47) rfl
 refine clV 49 rfl func9 rfl (laws_eqPairS.calls r46 r25 s47.w (mm [48, 44, 42, 43] s47) v46_0 v25_0 (A46_0.rd.sub (D := [48, 44, 42, 43]) rfl) (A49.sub (D := [48, 44, 42, 43]) rfl)) (fun r50 s51 p51 n51 => ?_)
 refine Xb rfl (dn (cd rfl (fun h52 => ?_) (fun h52 => ?_)))
 ·
  refine sr (Xb rfl (dn ?_))
  exact re rfl func3 rfl (Xo rfl Xe) rfl ⟨_, rfl, rfl, z.ky (K39.st (tr3 p42 p47 p51) rfl)⟩
 refine sk (sq (sq (zdraw [[], [], [1], [0, 2, 2], [3]] [some 38, some 39, some 40, some 41, some 42] [[7], [2], [39], [38, 40], [41]] [0, 1, 2, 3, 4] ⟨by kernel_rfl, by kernel_rfl, by kernel_rfl⟩ (by kernel_rfl) (fun s54 p54 l54 tb54 zd54 => ?_))))
 refine zstep 2 [some 38] tb54 ((zd54.add 0 38 (.agg #[v31_0]) rfl).add 1 39 (.agg #[w0_0]) rfl) (Xa (lda_q (es := [w0_0]) (A28.st (tr7 p32 p34 p37 p42 p47 p51 p54) rfl) u24 z24 rfl rfl rfl rfl rfl rfl rfl rfl) rfl (Xa (lda_q (es := [v31_0]) (A44.st (tr3 p47 p51 p54) rfl) u31 z31 rfl rfl rfl rfl rfl rfl rfl rfl) rfl Xk)) (by kernel_rfl) rfl (fun l59 e59 zd59 => ?_)
 have K62 := K39.st (tr4 p42 p47 p51 p54) rfl
 refine cl' rfl func6 rfl (laws_toHeap.calls a0 s54.w (mm [0] s54) w0_0 (A0_0.kp K62)) ?_
 rintro r64 _ w64 m64 ⟨v64_0, rfl, f64_0, ky64⟩
 obtain ⟨s65, rfl, p65, n65⟩ := nwx s54 w64 50 ky64
 refine Xy (L' := [0]) (D' := [1, 2]) zd59 rfl rfl rfl (fun zd67 => ?_)
 refine zfin [3, 4] tb54 zd67 (Xa (lda_q (es := [v31_0]) (A44.st (tr4 p47 p51 p54 p65) rfl) u31 z31 rfl rfl rfl rfl rfl rfl rfl rfl) rfl Xk) (by kernel_rfl) (by decide) ?_
 have A69 := A45.st (tr4 p47 p51 p54 p65) rfl
 refine clV 51 rfl func10 rfl (laws_eqHeap.calls r31 r64 s65.w (mm [45, 50] s65) v31_0 v64_0 (A69.rd.sub (D := [45, 50]) rfl) ((ap31 (f64_0.c n65)).rd.sub (D := [45, 50]) rfl)) (fun r70 s71 p71 n71 => ?_)
 refine Xb rfl (dn (cd rfl (fun h72 => ?_) (fun h72 => ?_)))
 ·
  refine sr (Xb rfl (dn ?_))
  exact re rfl func3 rfl (Xo rfl Xe) rfl ⟨_, rfl, rfl, z.ky (K62.st (Xs p65 p71) rfl)⟩
 refine sk (sq (sr (Xl v41_0 rfl (Xl w1_0 rfl ?_))))
 have K74 := K62.st (Xs p65 p71) rfl
 refine clO 52 rfl func7 rfl (laws_toIntS.calls a1 s71.w (mm [0] s71) w1_0 (A1_0.kp K74)) (fun r76 v76_0 s77 p77 A76_0 => ?_)
 have A79 := A41_0.st (tr6 p47 p51 p54 p65 p71 p77) rfl
 refine clV 53 rfl func11 rfl (laws_eqIntS.calls r41 r76 s77.w (mm [47, 52] s77) v41_0 v76_0 (A79.rd.sub (D := [47, 52]) rfl) (A76_0.rd.sub (D := [47, 52]) rfl)) (fun r80 s81 p81 n81 => ?_)
 refine Xb rfl (dn (cd rfl (fun h82 => ?_) (fun h82 => ?_)))
 ·
  refine sr (Xb rfl (dn ?_))
  exact re rfl func3 rfl (Xo rfl Xe) rfl ⟨_, rfl, rfl, z.ky (K74.st (Xs p77 p81) rfl)⟩
 refine sk (sr (Xb rfl (dn (sr ?_))))
 refine Yc (es := [v31_0]) (A44.st (tr7 p47 p51 p54 p65 p71 p77 p81) rfl) u31 z31 rfl (Xb rfl ?_)
 obtain ⟨os85, ho85, hn85, hc85⟩ := A69.st (tr3 p71 p77 p81) rfl
 refine cl' rfl func12 rfl (laws_markHeap.calls r31 (1 : Int) s81.w (mm [] s81) v31_0 os85 ho85 hn85 (Yb hc85 rfl)) ?_
 rintro r85 _ w85 m85 ⟨rfl, w85_, ky85⟩
 obtain ⟨s87, rfl, p87, A87⟩ := nwo 54 hc85 ky85 w85_
 refine Xb rfl (dn (sr (Xl v41_0 rfl (Xb rfl ?_))))
 obtain ⟨os89, ho89, hn89, hc89⟩ := A79.st (Xs p81 p87) rfl
 refine cl' rfl func13 rfl (laws_markIntS.calls r41 r85.1 s87.w (mm [] s87) v41_0 os89 ho89 hn89 (Yb hc89 rfl)) ?_
 rintro r89 _ w89 m89 ⟨rfl, w89_, ky89⟩
 obtain ⟨s91, rfl, p91, A91⟩ := nwo 55 hc89 ky89 w89_
 refine Xb rfl (dn (sq (sr (Xb rfl (Xb rfl (Xb rfl (ji [] (fun (y93 : Bool) e w => ∃ (s : St) (e0 : Env), w = s.w ∧ e = upd (upd (upd (upd (upd e0 1 w1_0) 2 (pB b3)) 6 v25_0) 9 v46_0) 61 (.bool y93) ∧ Kp s0 s ∧ BlF s b3 24 [w0_0] 40 ∧ RdF Yi s [v25_0] r25 [44, 42, 43] ∧ OwF Yi s [v46_0] r46 48) (fun Gj93 Kj93 => ?_) ?_)))))))
 ·
  rcases bft (decide (r89.1 < (0 : Int))) with hb93 | hb93
  ·
   refine Xu hb93 ?_
   rw [if_pos hb93]
   refine Xh rfl (Xh rfl (Xh rfl (Xh rfl (Xb rfl ?_))))
   exact Kj93 _ _ _ ⟨s91, _, rfl, (ue (ue (ue (ue (ue rfl rfl) rfl) rfl) rfl) rfl), (K74.st (tr4 p77 p81 p87 p91) rfl), (A28.st (Xs (tr12 p32 p34 p37 p42 p47 p51 p54 p65 p71 p77 p81 p87) p91) rfl), (A49.st (tr8 p51 p54 p65 p71 p77 p81 p87 p91) rfl), (A46_0.st (tr8 p51 p54 p65 p71 p77 p81 p87 p91) rfl)⟩
  refine Xu hb93 ?_
  rw [if_neg (by rw [hb93]; decide)]
  refine Xl v46_0 rfl (Xl v25_0 rfl ?_)
  have A98 := A46_0.st (tr8 p51 p54 p65 p71 p77 p81 p87 p91) rfl
  have A99 := A49.st (tr8 p51 p54 p65 p71 p77 p81 p87 p91) rfl
  refine clV 56 rfl func9 rfl (laws_eqPairS.calls r46 r25 s91.w (mm [48, 44, 42, 43] s91) v46_0 v25_0 (A98.rd.sub (D := [48, 44, 42, 43]) rfl) (A99.sub (D := [48, 44, 42, 43]) rfl)) (fun r100 s101 p101 n101 => ?_)
  refine Xb rfl (Xb rfl ?_)
  exact Kj93 _ _ _ ⟨s101, _, rfl, (ue (ue (ue (ue (ue rfl rfl) rfl) rfl) rfl) rfl), (K74.st (tr5 p77 p81 p87 p91 p101) rfl), (A28.st (tr3 (tr12 p32 p34 p37 p42 p47 p51 p54 p65 p71 p77 p81 p87) p91 p101) rfl), (A99.st p101 rfl), (A98.st p101 rfl)⟩
 rintro y93 _ _ ⟨s106, _, rfl, rfl, Ky93, By93_b3, Cy93_27, Cy93_48⟩
 refine dn (cd rfl (fun h108 => ?_) (fun h108 => ?_))
 ·
  exact sr (Xb rfl (dn (re rfl func3 rfl (Xo rfl Xe) rfl ⟨_, rfl, rfl, z.ky Ky93⟩)))
 refine sk (sr (Xb rfl (dn (sr (Xl v46_0 rfl (Xb rfl ?_))))))
 obtain ⟨os109, ho109, hn109, hc109⟩ := Cy93_48
 refine cl' rfl func14 rfl (laws_markPairS.calls r46 (1 : Int) s106.w (mm [] s106) v46_0 os109 ho109 hn109 (Yb hc109 rfl)) ?_
 rintro r109 _ w109 m109 ⟨rfl, w109_, ky109⟩
 obtain ⟨s110, rfl, p110, A110⟩ := nwo 57 hc109 ky109 w109_
 refine Xb rfl (dn (sr (Xb rfl (dn (sr (Xl v46_0 rfl (Xb rfl (clV 58 rfl func15 rfl (laws_heldPairS.calls r109.2 (1 : Int) s110.w (mm [48] s110) v46_0 A110.rd) (fun r112 s113 p113 n113 => ?_)))))))))
 refine Xb rfl (dn (sq (sr (Xb rfl (Xb rfl (dn (cd rfl (fun h114 => ?_) (fun h114 => ?_))))))))
 ·
  refine sr (Xb rfl (dn ?_))
  exact re rfl func3 rfl (Xo rfl Xe) rfl ⟨_, rfl, rfl, z.ky (Ky93.st (Xs p110 p113) rfl)⟩
 refine sk (sq (sr (Xb rfl (Xb rfl (Xb rfl (dn (cd rfl (fun h116 => ?_) (fun h116 => ?_))))))))
 ·
  refine sr (Xb rfl (dn ?_))
  exact re rfl func3 rfl (Xo rfl Xe) rfl ⟨_, rfl, rfl, z.ky (Ky93.st (Xs p110 p113) rfl)⟩
 refine sk (sr ?_)
 refine Yc (es := [w0_0]) (By93_b3.st (Xs p110 p113) rfl) u24 z24 rfl ?_
 have K119 := Ky93.st (Xs p110 p113) rfl
 refine cl' rfl func6 rfl (laws_toHeap.calls a0 s113.w (mm [0] s113) w0_0 (A0_0.kp K119)) ?_
 rintro r121 _ w121 m121 ⟨v121_0, rfl, f121_0, ky121⟩
 obtain ⟨s122, rfl, p122, n122⟩ := nwx s113 w121 59 ky121
 refine Xl w1_0 rfl ?_
 have K124 := K119.st p122 rfl
 refine clO 60 rfl func7 rfl (laws_toIntS.calls a1 s122.w (mm [0] s122) w1_0 (A1_0.kp K124)) (fun r126 v126_0 s127 p127 A126_0 => ?_)
 refine clO 61 rfl func8 rfl (impl_Committed.calls r121 r126 s127.w (mm [59, 60] s127) v121_0 v126_0 (((ap31 (f121_0.c n122)).st p127 rfl).rd.sub (D := [59, 60]) rfl) (A126_0.rd.sub (D := [59, 60]) rfl)) (fun r130 v130_0 s131 p131 A130_0 => ?_)
 refine Xp v130_0 rfl (dn (sq (sr (Xl v130_0 rfl (Xl v25_0 rfl ?_)))))
 refine clV 62 rfl func9 rfl (laws_eqPairS.calls r130 r25 s131.w (mm [61, 44, 42, 43] s131) v130_0 v25_0 (A130_0.rd.sub (D := [61, 44, 42, 43]) rfl) ((Cy93_27.st (tr5 p110 p113 p122 p127 p131) rfl).sub (D := [61, 44, 42, 43]) rfl)) (fun r134 s135 p135 n135 => ?_)
 refine Xb rfl (dn (cd rfl (fun h136 => ?_) (fun h136 => ?_)))
 ·
  refine sr (Xb rfl (dn ?_))
  exact re rfl func3 rfl (Xo rfl Xe) rfl ⟨_, rfl, rfl, z.ky (K124.st (tr3 p127 p131 p135) rfl)⟩
 refine sk (sr (Xb rfl (dn (sr (Xl v46_0 rfl (Xb rfl ?_))))))
 refine clV 63 rfl func15 rfl (laws_heldPairS.calls r109.2 (1 : Int) s135.w (mm [48] s135) v46_0 (A110.st (tr5 p113 p122 p127 p131 p135) rfl).rd) (fun r139 s140 p140 n140 => ?_)
 refine Xb rfl (dn (sq (sr (Xb rfl (Xb rfl (dn (cd rfl (fun h141 => ?_) (fun h141 => ?_))))))))
 ·
  refine sr (Xb rfl (dn ?_))
  exact re rfl func3 rfl (Xo rfl Xe) rfl ⟨_, rfl, rfl, z.ky (K124.st (tr4 p127 p131 p135 p140) rfl)⟩
 refine sk (sq (sr (Xb rfl (Xb rfl (Xb rfl (dn (cd rfl (fun h143 => ?_) (fun h143 => ?_))))))))
 ·
  refine sr (Xb rfl (dn ?_))
  exact re rfl func3 rfl (Xo rfl Xe) rfl ⟨_, rfl, rfl, z.ky (K124.st (tr4 p127 p131 p135 p140) rfl)⟩
 refine sk (sr (Xb rfl (dn ?_)))
 exact re rfl func3 rfl (Xo rfl Xe) rfl ⟨_, rfl, rfl, z.ky (K124.st (tr4 p127 p131 p135 p140) rfl)⟩
end Go.Proofs.YtcgbhldenkeplaaGreat
