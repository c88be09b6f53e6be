/- The functions as models, and that the calls come to what the models tell. -/
import Derived.Test.YtcgbhldenkeplaaGt
set_option linter.unusedVariables false
set_option linter.unusedSimpArgs false
set_option maxHeartbeats 4000000
set_option maxRecDepth 100000
noncomputable section
namespace Go.Proofs.Ytcgbhldenkeplaa
open Go V Try
def laws_big.f (a0 : (List Int)) : Option (Bool) :=
 (some (decide ((a0.length : Int) > (1048576 : Int))))
def laws_big.Q (w : World) (F : Nat → Prop) (r : Bool) (v : Value) (w' : World) : Prop :=
 v = (.bool r) ∧ Ky [] w w'
theorem laws_big.calls (a0 : (List Int)) (w : World) (F : Nat → Prop) (w0_0 : Value) (h0_0 : Yd.rd w [w0_0] a0 F) (r : Bool) (m : laws_big.f a0 = some r) :
  Calls prog 4 #[w0_0] w (RT (laws_big.Q w F) r) := by
 obtain ⟨s0, rfl, kp0, z⟩ := Xj w F
 refine Xd (args := [w0_0]) func4 ntmps4 rfl rfl m ?_
 unfold laws_big.f
 exact sr (Xb rfl (dn (sr (Xp w0_0 rfl (ln' (z.rd h0_0) u22 rfl (Xb rfl (Xb rfl (dn (re rfl func4 rfl (Xq rfl Xe) rfl ⟨_, rfl, rfl, z.ky kp0⟩)))))))))
def spec_l1New.b0 (a0 : (List Int)) (x2 : Int × Int) : Option ((Int × Int) ⊕ l1Cur) :=
 (if ((decide (x2.2 < (a0.length : Int))) && (decide (x2.2 < (4000 : Int)))) = true then (if 0 ≤ x2.2 ∧ x2.2 < (a0.length : Int) then (some (Sum.inl ((iand .i64 (IntKind.wrap .i64 ((IntKind.wrap .i64 ((IntKind.wrap .i64 (x2.1 * (131 : Int))) + (IntKind.wrap .i64 (at_ a0 x2.2)))) + (7 : Int))) (1073741823 : Int)), (IntKind.wrap .i64 (x2.2 + (1 : Int)))))) else none) else ((some (l1Cur.mk a0 (0 : Int) x2.1)).bind fun o => some (Sum.inr o)))
def spec_l1New.f (a0 : (List Int)) : Option (l1Cur) :=
 (iter (spec_l1New.b0 a0) ((IntKind.wrap .i64 ((25252 : Int) + (a0.length : Int))), (0 : Int)))
def spec_l1New.Q (w : World) (F : Nat → Prop) (r : l1Cur) (v : Value) (w' : World) : Prop :=
 ∃ (v0 : Nat) (v1 : Value), v = (pB v0) ∧ BlN w w' v0 54 [v1, (iI r.i), (iI r.h)] ∧ FRF Yd F w w' [v1] r.b ∧ Ky [] w w'
theorem spec_l1New.calls (a0 : (List Int)) (w : World) (F : Nat → Prop) (w0_0 : Value) (h0_0 : Yd.rd w [w0_0] a0 F) (r : l1Cur) (m : spec_l1New.f a0 = some r) :
  Calls prog 11 #[w0_0] w (RT (spec_l1New.Q w F) r) := by
 obtain ⟨s0, rfl, kp0, z⟩ := Xj w F
 have A0_0 := z.rd h0_0
 refine Xd (args := [w0_0]) func11 ntmps11 rfl rfl m ?_
 unfold spec_l1New.f
 refine sr (Xb rfl (dn (sr (Xp w0_0 rfl (ln' A0_0 u22 rfl (Xb rfl (Xb rfl (dn (sq (sr (Xb rfl (dn (bl (lpI (fun (x2 : Int × Int) e w => ∃ (s : St) (e0 : Env), w = s.w ∧ e = upd (upd (upd e0 0 w0_0) 3 (iI x2.1)) 4 (iI x2.2) ∧ Kp s0 s) ⟨s0, _, rfl, (ue (ue (ue rfl rfl) rfl) rfl), kp0⟩ (fun g2 ih2 => ?_)))))))))))))))
 rintro x2 _ _ ⟨s3, _, rfl, rfl, Kx2⟩
 unfold spec_l1New.b0
 refine sq (sr (Xb rfl (Xp w0_0 rfl ?_)))
 have A4 := A0_0.kp Kx2
 refine ln' A4 u22 rfl (Xb rfl (Xb rfl (jy [12, 13, 14, 15] [] 15 (.bool ((decide (x2.2 < (a0.length : Int))) && (decide (x2.2 < (4000 : Int))))) rfl (fun Kg5 => ?_) (fun j5 => ?_))))
 ·
  rcases bft (decide (x2.2 < (a0.length : Int))) with hb5 | hb5
  ·
   exact Xs hb5 (Xb rfl (Xb rfl (Xb rfl (Kg5 _ (Ag.put ((Ag.put ((Ag.put (Ag.base rfl) rfl)) rfl)) rfl) (by rw [hb5]; rfl)))))
  exact Xs hb5 (Xf rfl (Xf rfl (Xb rfl (Kg5 _ (Ag.put ((Ag.put ((Ag.put (Ag.base rfl) rfl)) rfl)) rfl) (by rw [hb5]; rfl)))))
 refine dn (cd rfl (fun h6 => ?_) (fun h6 => ?_))
 ·
  refine sk (sq (bl (rg (Xb rfl (Xb rfl (Xp w0_0 rfl (Xb rfl (ix' A4 u22 z5 rfl (fun ad7 es7 h0_7 h1_7 he7 ce7 ia7 => ?_)))))))))
  obtain rfl := he7
  exact lc0 ce7 u5 rfl rfl rfl rfl rfl rfl rfl rfl (cv u3 u5 rfl rfl rfl rfl rfl rfl (Xb rfl (Xb rfl (Xb rfl (Xb rfl (dn (ib (rg (Xb rfl (Xb rfl (Xb rfl (dn (lb ih2 ⟨s3, _, rfl, (ue (ue (ue rfl rfl) rfl) rfl), Kx2⟩)))))))))))))
 refine xt rfl (sgb (sr (Xp w0_0 rfl (Xb rfl (bd (cells := [w0_0, (iI 0), (iI x2.1)]) pl54 o54 rfl rfl rfl rfl rfl (lfill_pc (pc_c (oc A4.one) (pc_c rfl pc_n)) rfl) (bx' (cs := [w0_0, (iI 0), (iI x2.1)]) 40 rfl rfl (fun b9 s9 p9 B9 => ?_)))))))
 refine Xb rfl (dn ?_)
 have K11 := Kx2.st p9 rfl
 exact re rfl func11 rfl (Xq rfl Xe) rfl ⟨_, rfl, b9, w0_0, rfl, BlF.fo B9 K11 rfl z.l, z.rf K11 A0_0, z.ky K11⟩
def spec_l1Byte.f (a0 : l1Cur) : Option (Int × l1Cur) :=
 ((if (decide (a0.i < (a0.b.length : Int))) = true then (if 0 ≤ a0.i ∧ a0.i < (a0.b.length : Int) then (some ((iand .i64 (IntKind.wrap .i64 ((iand .i64 (ixor .i64 (ishr .i64 (IntKind.wrap .i64 ((IntKind.wrap .i64 (a0.h * (6364136223846793005 : Int))) + (1442695040888963407 : Int))) (33 : Int)) (ishr .i64 (IntKind.wrap .i64 ((IntKind.wrap .i64 (a0.h * (6364136223846793005 : Int))) + (1442695040888963407 : Int))) (45 : Int))) (255 : Int)) + (IntKind.wrap .i64 (at_ a0.b a0.i)))) (255 : Int)), (IntKind.wrap .i64 (a0.i + (1 : Int))))) else none) else (some ((iand .i64 (ixor .i64 (ishr .i64 (IntKind.wrap .i64 ((IntKind.wrap .i64 (a0.h * (6364136223846793005 : Int))) + (1442695040888963407 : Int))) (33 : Int)) (ishr .i64 (IntKind.wrap .i64 ((IntKind.wrap .i64 (a0.h * (6364136223846793005 : Int))) + (1442695040888963407 : Int))) (45 : Int))) (255 : Int)), a0.i))).bind fun y38 => (some (y38.1, (l1Cur.mk a0.b y38.2 (IntKind.wrap .i64 ((IntKind.wrap .i64 (a0.h * (6364136223846793005 : Int))) + (1442695040888963407 : Int)))))))
def spec_l1Byte.Q (w : World) (F : Nat → Prop) (p0 : Nat) (w0_0 : Value) (r : Int × l1Cur) (v : Value) (w' : World) : Prop :=
 v = (iI r.1) ∧ BlW w' p0 54 [w0_0, (iI r.2.i), (iI r.2.h)] ∧ Ky [p0] w w'
theorem spec_l1Byte.calls (a0 : l1Cur) (w : World) (F : Nat → Prop) (p0 : Nat) (w0_0 : Value) (h0_0 : Yd.rd w [w0_0] a0.b F) (hb0 : BlW w p0 54 [w0_0, (iI a0.i), (iI a0.h)]) (hF : ∀ b, F b → b ∉ [p0]) (r : Int × l1Cur) (m : spec_l1Byte.f a0 = some r) :
  Calls prog 30 #[(pB p0)] w (RT (spec_l1Byte.Q w F p0 w0_0) r) := by
 obtain ⟨s0, rfl, kp0, z⟩ := start1 w F [p0] hF
 have A0_0 := z.rd h0_0
 have B0 := z.bl hb0 (by simp)
 refine Xd (args := [(pB p0)]) func30 ntmps30 rfl rfl m ?_
 unfold spec_l1Byte.f
 refine sr (Xb rfl (dn (sr (Xb rfl (Xb rfl (Xb rfl (Xw fa54_2 rfl (ld' B0 u3 rfl (Xb rfl (Xb rfl (Xb rfl (Xw fa54_2 rfl (sv' B0 z3 rfl rfl rfl (fun s3 p3 B3 => ?_))))))))))))))
 refine dn (sq (zdraw [[], [0], [1], [2], [3], [], [5], [6], [7], [8], [4, 9], [10], [11, 0, 1, 2, 3, 4, 5, 6, 7, 8, 9, 10, 11]] [some 13, some 14, some 15, some 16, some 17, some 18, some 19, some 20, some 21, some 22, some 23, some 24, some 3] [[0], [13], [14], [15], [16], [0], [18], [19], [20], [21], [17, 22], [23], [24]] [0, 1, 2, 3, 4, 5, 6, 7, 8, 9, 10, 11, 12] ⟨by kernel_rfl, by kernel_rfl, by kernel_rfl⟩ (by kernel_rfl) (fun s5 p5 l5 tb5 zd5 => ?_)))
 have zd10 := (((zd5.add 0 13 (pB p0) rfl).add 1 14 (pB p0) rfl).add 2 15 (pO p0 2) rfl).add 3 16 (iI (IntKind.wrap .i64 ((IntKind.wrap .i64 (a0.h * (6364136223846793005 : Int))) + (1442695040888963407 : Int)))) rfl
 refine zfin [10, 11, 12] tb5 ((((((zd10.add 4 17 (iI (ishr .i64 (IntKind.wrap .i64 ((IntKind.wrap .i64 (a0.h * (6364136223846793005 : Int))) + (1442695040888963407 : Int))) (33 : Int))) rfl).add 5 18 (pB p0) rfl).add 6 19 (pB p0) rfl).add 7 20 (pO p0 2) rfl).add 8 21 (iI (IntKind.wrap .i64 ((IntKind.wrap .i64 (a0.h * (6364136223846793005 : Int))) + (1442695040888963407 : Int)))) rfl).add 9 22 (iI (ishr .i64 (IntKind.wrap .i64 ((IntKind.wrap .i64 (a0.h * (6364136223846793005 : Int))) + (1442695040888963407 : Int))) (45 : Int))) rfl) (Xa (shrK_q rfl rfl rfl rfl rfl rfl rfl rfl) rfl (Xa (Ya (B3.st p5 rfl) u3 rfl) rfl (Xa (Xo fa54_2 rfl) rfl (Xa (Xg rfl) rfl (Xa (Xg rfl) rfl (Xa (shrK_q rfl rfl rfl rfl rfl rfl rfl rfl) rfl (Xa (Ya (B3.st p5 rfl) u3 rfl) rfl (Xa (Xo fa54_2 rfl) rfl (Xa (Xg rfl) rfl (Xa (Xg rfl) rfl Xk)))))))))) (by kernel_rfl) (by decide) (Xb rfl (Xb rfl (Xb rfl (dn (sq (sq (zdraw [[], [0], [1], [2], [], [4], [5], [6], [7], [3, 8]] [some 25, some 26, some 27, some 28, some 29, some 30, some 31, some 32, some 33, some 34] [[0], [25], [26], [27], [0], [29], [30], [31], [32], [28, 33]] [0, 1, 2, 3, 4, 5, 6, 7, 8, 9] ⟨by kernel_rfl, by kernel_rfl, by kernel_rfl⟩ (by kernel_rfl) (fun s20 p20 l20 tb20 zd20 => ?_))))))))
 refine zfin [9] tb20 (((((((((zd20.add 0 25 (pB p0) rfl).add 1 26 (pB p0) rfl).add 2 27 (pO p0 1) rfl).add 3 28 (iI a0.i) rfl).add 4 29 (pB p0) rfl).add 5 30 (pB p0) rfl).add 6 31 (pB p0) rfl).add 7 32 w0_0 rfl).add 8 33 (iI (a0.b.length : Int)) rfl) (Xa (ln_q (A0_0.kp (kp0.st (Yb p3 p5 p20) rfl)) u22 rfl rfl rfl rfl rfl rfl) rfl (Xa (Ya (B3.st (Xm p5 p20) rfl) u22 rfl) rfl (Xa (Xo fa54_0 rfl) rfl (Xa (Xg rfl) rfl (Xa (Xg rfl) rfl (Xa (Ya (B3.st (Xm p5 p20) rfl) u3 rfl) rfl (Xa (Xo fa54_1 rfl) rfl (Xa (Xg rfl) rfl (Xa (Xg rfl) rfl Xk))))))))) (by kernel_rfl) (by decide) (Xb rfl (dn (jc (fun (y38 : Int × Int) e w => ∃ (s : St) (e0 : Env), w = s.w ∧ e = upd e0 3 (iI y38.1) ∧ Kp s0 s ∧ BlF s p0 54 [w0_0, (iI y38.2), (iI (IntKind.wrap .i64 ((IntKind.wrap .i64 (a0.h * (6364136223846793005 : Int))) + (1442695040888963407 : Int))))] 2) (fun Gj38 Kj38 => ?_) ?_)))
 ·
  refine cd rfl (fun h39 => ?_) (fun h39 => ?_)
  ·
   refine sq (zdraw [[], [], [1], [2], [3], [], [5], [6], [7], [4, 8], [9], [10], [0, 11], [12], [13, 0, 1, 2, 3, 4, 5, 6, 7, 8, 9, 10, 11, 12, 13]] [some 35, some 36, some 37, some 38, some 39, some 40, some 41, some 42, some 43, some 44, some 45, some 46, some 47, some 48, some 3] [[3], [0], [36], [37], [38], [0], [40], [41], [42], [39, 43], [44], [45], [35, 46], [47], [48]] [0, 1, 2, 3, 4, 5, 6, 7, 8, 9, 10, 11, 12, 13, 14] ⟨by kernel_rfl, by kernel_rfl, by kernel_rfl⟩ (by kernel_rfl) (fun s40 p40 l40 tb40 zd40 => ?_))
   have zd41 := zd40.add 0 35 (iI (iand .i64 (ixor .i64 (ishr .i64 (IntKind.wrap .i64 ((IntKind.wrap .i64 (a0.h * (6364136223846793005 : Int))) + (1442695040888963407 : Int))) (33 : Int)) (ishr .i64 (IntKind.wrap .i64 ((IntKind.wrap .i64 (a0.h * (6364136223846793005 : Int))) + (1442695040888963407 : Int))) (45 : Int))) (255 : Int))) rfl
   have K52 := kp0.st (tr4 p3 p5 p20 p40) rfl
   have A53 := A0_0.kp K52
   refine mg fun hg54 => ?_
   obtain ⟨ad54, es54, he54, ce54, ia54⟩ := ix_e A53 rfl hg54.1 hg54.2
   obtain rfl := he54
   refine zfin [12, 13, 14] tb40 (((((((((((zd41.add 1 36 (pB p0) rfl).add 2 37 (pB p0) rfl).add 3 38 (pB p0) rfl).add 4 39 w0_0 rfl).add 5 40 (pB p0) rfl).add 6 41 (pB p0) rfl).add 7 42 (pO p0 1) rfl).add 8 43 (iI a0.i) rfl).add 9 44 (.pointer (some ad54)) rfl).add 10 45 (.int .u8 (at_ a0.b a0.i)) rfl).add 11 46 (iI (IntKind.wrap .i64 (at_ a0.b a0.i))) rfl) (Xa (cv_q u3 u5 rfl rfl rfl rfl rfl rfl) rfl (Xa (lc0_q ce54 u5 rfl rfl rfl rfl rfl rfl rfl rfl) rfl (Xa (ix_q' A53 u22 z5 hg54.1 hg54.2 ia54 rfl) rfl (Xa (Ya (B3.st (Yb p5 p20 p40) rfl) u3 rfl) rfl (Xa (Xo fa54_1 rfl) rfl (Xa (Xg rfl) rfl (Xa (Xg rfl) rfl (Xa (Ya (B3.st (Yb p5 p20 p40) rfl) u22 rfl) rfl (Xa (Xo fa54_0 rfl) rfl (Xa (Xg rfl) rfl (Xa (Xg rfl) rfl (Xa (Xg rfl) rfl Xk)))))))))))) (by kernel_rfl) (by decide) (Xb rfl (Xb rfl (Xb rfl (dn (rg (Xb rfl (Xb rfl (Xb rfl (Xw fa54_1 rfl ?_)))))))))
   have A61 := B3.st (Yb p5 p20 p40) rfl
   refine ld' A61 u3 rfl (Xb rfl (Xb rfl (Xw fa54_1 rfl (sv' A61 z3 rfl rfl rfl (fun s62 p62 B62 => ?_)))))
   exact dn (Kj38 _ _ _ ⟨s62, _, rfl, (ue rfl rfl), (K52.st p62 rfl), B62⟩)
  exact sk (Kj38 _ _ _ ⟨s20, _, rfl, (ue rfl rfl), (kp0.st (Yb p3 p5 p20) rfl), (B3.st (Xm p5 p20) rfl)⟩)
 rintro y38 _ _ ⟨s67, _, rfl, rfl, Ky38, By38_p0⟩
 exact sr (Xb rfl (Xb rfl (dn (re rfl func30 rfl (Xq rfl Xe) rfl ⟨_, rfl, rfl, By38_p0.w, z.ky Ky38⟩))))
def spec_l1Below.f (a0 : l1Cur) (a1 : Int) : Option (Int × l1Cur) :=
 (if (decide (a1 ≤ (0 : Int))) = true then (some ((0 : Int), a0)) else (if (decide (a1 ≤ (256 : Int))) = true then ((spec_l1Byte.f a0).bind fun r5 => (if a1 ≠ 0 then (some ((r5.1.tmod a1), (l1Cur.mk a0.b r5.2.i r5.2.h))) else none)) else ((spec_l1Byte.f a0).bind fun r9 => ((spec_l1Byte.f (l1Cur.mk a0.b r9.2.i r9.2.h)).bind fun r14 => ((spec_l1Byte.f (l1Cur.mk a0.b r14.2.i r14.2.h)).bind fun r19 => ((spec_l1Byte.f (l1Cur.mk a0.b r19.2.i r19.2.h)).bind fun r24 => (if a1 ≠ 0 then (some (((IntKind.wrap .i64 ((IntKind.wrap .i64 ((IntKind.wrap .i64 ((IntKind.wrap .i64 (r9.1 * (16777216 : Int))) + (IntKind.wrap .i64 (r14.1 * (65536 : Int))))) + (IntKind.wrap .i64 (r19.1 * (256 : Int))))) + r24.1)).tmod a1), (l1Cur.mk a0.b r24.2.i r24.2.h))) else none)))))))
def spec_l1Below.Q (w : World) (F : Nat → Prop) (p0 : Nat) (w0_0 : Value) (r : Int × l1Cur) (v : Value) (w' : World) : Prop :=
 v = (iI r.1) ∧ BlW w' p0 54 [w0_0, (iI r.2.i), (iI r.2.h)] ∧ Ky [p0] w w'
theorem spec_l1Below.calls (a0 : l1Cur) (a1 : Int) (w : World) (F : Nat → Prop) (p0 : Nat) (w0_0 : Value) (h0_0 : Yd.rd w [w0_0] a0.b F) (hb0 : BlW w p0 54 [w0_0, (iI a0.i), (iI a0.h)]) (hF : ∀ b, F b → b ∉ [p0]) (r : Int × l1Cur) (m : spec_l1Below.f a0 a1 = some r) :
  Calls prog 12 #[(pB p0), (iI a1)] w (RT (spec_l1Below.Q w F p0 w0_0) r) := by
 obtain ⟨s0, rfl, kp0, z⟩ := start1 w F [p0] hF
 have A0_0 := z.rd h0_0
 have B0 := z.bl hb0 (by simp)
 refine Xd (args := [(pB p0), (iI a1)]) func12 ntmps12 rfl rfl m ?_
 unfold spec_l1Below.f
 refine sr (Xb rfl (dn (sq (sr (Xb rfl (Xb rfl (dn (cd rfl (fun h3 => ?_) (fun h3 => ?_)))))))))
 ·
  exact sr (Xb rfl (dn (re rfl func12 rfl (Xq rfl Xe) rfl ⟨_, rfl, rfl, B0.w, z.ky kp0⟩)))
 refine sk (sq (sr (Xb rfl (Xb rfl (dn (cd rfl (fun h4 => ?_) (fun h4 => ?_)))))))
 ·
  refine sr (Xb rfl (clB B0 rfl func30 rfl (spec_l1Byte.calls a0 s0.w (mm [0] s0) p0 w0_0 A0_0 B0.w (B0.apart rfl)) (fun r5 s6 p6 B6 => ?_)))
  refine Xb rfl (rem_ rfl rfl rfl rfl rfl rfl rfl (Xb rfl (dn ?_)))
  exact re rfl func12 rfl (Xq rfl Xe) rfl ⟨_, rfl, rfl, B6.w, z.ky (kp0.st p6 rfl)⟩
 refine sk (sr (Xb rfl (clB B0 rfl func30 rfl (spec_l1Byte.calls a0 s0.w (mm [0] s0) p0 w0_0 A0_0 B0.w (B0.apart rfl)) (fun r9 s10 p10 B10 => ?_))))
 refine Xb rfl (dn (sr (Xb rfl ?_)))
 have K12 := kp0.st p10 rfl
 refine clB B10 rfl func30 rfl (spec_l1Byte.calls (l1Cur.mk a0.b r9.2.i r9.2.h) s10.w (mm [0] s10) p0 w0_0 (A0_0.kp K12) B10.w (B10.apart rfl)) (fun r14 s15 p15 B15 => ?_)
 refine Xb rfl (dn (sr (Xb rfl ?_)))
 have K17 := K12.st p15 rfl
 refine clB B15 rfl func30 rfl (spec_l1Byte.calls (l1Cur.mk a0.b r14.2.i r14.2.h) s15.w (mm [0] s15) p0 w0_0 (A0_0.kp K17) B15.w (B15.apart rfl)) (fun r19 s20 p20 B20 => ?_)
 refine Xb rfl (dn (sr (Xb rfl ?_)))
 have K22 := K17.st p20 rfl
 refine clB B20 rfl func30 rfl (spec_l1Byte.calls (l1Cur.mk a0.b r19.2.i r19.2.h) s20.w (mm [0] s20) p0 w0_0 (A0_0.kp K22) B20.w (B20.apart rfl)) (fun r24 s25 p25 B25 => ?_)
 refine Xb rfl (dn (sr (Xb rfl (Xb rfl (Xb rfl (Xb rfl (Xb rfl (Xb rfl (Xb rfl (Xb rfl (Xb rfl (Xb rfl (Xb rfl (rem_ rfl rfl rfl rfl rfl rfl rfl ?_))))))))))))))
 refine Xb rfl (dn ?_)
 exact re rfl func12 rfl (Xq rfl Xe) rfl ⟨_, rfl, rfl, B25.w, z.ky (K22.st p25 rfl)⟩
def spec_l1Once.f (a0 : l1Cur) (a1 : Int) : Option (Bool × l1Cur) :=
 ((spec_l1Below.f a0 a1).bind fun r3 => (some ((r3.1 == (0 : Int)), (l1Cur.mk a0.b r3.2.i r3.2.h))))
def spec_l1Once.Q (w : World) (F : Nat → Prop) (p0 : Nat) (w0_0 : Value) (r : Bool × l1Cur) (v : Value) (w' : World) : Prop :=
 v = (.bool r.1) ∧ BlW w' p0 54 [w0_0, (iI r.2.i), (iI r.2.h)] ∧ Ky [p0] w w'
theorem spec_l1Once.calls (a0 : l1Cur) (a1 : Int) (w : World) (F : Nat → Prop) (p0 : Nat) (w0_0 : Value) (h0_0 : Yd.rd w [w0_0] a0.b F) (hb0 : BlW w p0 54 [w0_0, (iI a0.i), (iI a0.h)]) (hF : ∀ b, F b → b ∉ [p0]) (r : Bool × l1Cur) (m : spec_l1Once.f a0 a1 = some r) :
  Calls prog 13 #[(pB p0), (iI a1)] w (RT (spec_l1Once.Q w F p0 w0_0) r) := by
 obtain ⟨s0, rfl, kp0, z⟩ := start1 w F [p0] hF
 have B0 := z.bl hb0 (by simp)
 refine Xd (args := [(pB p0), (iI a1)]) func13 ntmps13 rfl rfl m ?_
 unfold spec_l1Once.f
 refine sr (Xb rfl (dn (sr (Xb rfl (Xb rfl (clB B0 rfl func12 rfl (spec_l1Below.calls a0 a1 s0.w (mm [0] s0) p0 w0_0 (z.rd h0_0) B0.w (B0.apart rfl)) (fun r3 s4 p4 B4 => ?_)))))))
 refine Xb rfl (Xb rfl (dn ?_))
 exact re rfl func13 rfl (Xq rfl Xe) rfl ⟨_, rfl, rfl, B4.w, z.ky (kp0.st p4 rfl)⟩
def spec_DrawConcurrent.f (a0 : (List Int)) : Option (Track × Track) :=
 ((spec_l1New.f a0).bind fun r8 => ((spec_l1Below.f r8 (8 : Int)).bind fun r12 => ((spec_l1Below.f (l1Cur.mk r8.b r12.2.i r12.2.h) (8 : Int)).bind fun r20 => ((spec_l1Once.f (l1Cur.mk r8.b r20.2.i r20.2.h) (3 : Int)).bind fun r29 => ((if (!r29.1) = true then ((spec_l1Below.f (l1Cur.mk r8.b r29.2.i r29.2.h) (9 : Int)).bind fun r36 => (some ((IntKind.wrap .i64 ((1 : Int) + r36.1)), r36.2.i, r36.2.h))) else (some ((0 : Int), r29.2.i, r29.2.h))).bind fun y33 => ((spec_l1Once.f (l1Cur.mk r8.b y33.2.1 y33.2.2) (3 : Int)).bind fun r60 => ((if (!r60.1) = true then ((spec_l1Below.f (l1Cur.mk r8.b r60.2.i r60.2.h) (9 : Int)).bind fun r66 => (some (IntKind.wrap .i64 ((1 : Int) + r66.1)))) else (some (0 : Int))).bind fun y63 => (some ((Track.mk (0 : Int) (IntKind.wrap .i64 ((1 : Int) + r12.1)) y33.1 false ([] : (List Span)) ([] : (List Item)) false false), (Track.mk (0 : Int) (IntKind.wrap .i64 ((1 : Int) + r20.1)) y63 false ([] : (List Span)) ([] : (List Item)) false false))))))))))
def spec_DrawConcurrent.Q (w : World) (F : Nat → Prop) (r : Track × Track) (v : Value) (w' : World) : Prop :=
 ∃ (v0 : Value) (v1 : Value) (v2 : Value) (v3 : Value), v = .tuple #[(.agg #[(iI r.1.Xid), (iI r.1.Begun), (iI r.1.Ended), (.bool r.1.All), v0, v1, (.bool r.1.In), (.bool r.1.Out)]), (.agg #[(iI r.2.Xid), (iI r.2.Begun), (iI r.2.Ended), (.bool r.2.All), v2, v3, (.bool r.2.In), (.bool r.2.Out)])] ∧ FO kd27 w w' [(iI r.1.Xid), (iI r.1.Begun), (iI r.1.Ended), (.bool r.1.All), v0, v1, (.bool r.1.In), (.bool r.1.Out)] r.1 ∧ FO kd27 w w' [(iI r.2.Xid), (iI r.2.Begun), (iI r.2.Ended), (.bool r.2.All), v2, v3, (.bool r.2.In), (.bool r.2.Out)] r.2 ∧ Ky [] w w'
theorem spec_DrawConcurrent.calls (a0 : (List Int)) (w : World) (F : Nat → Prop) (w0_0 : Value) (h0_0 : Yd.rd w [w0_0] a0 F) (r : Track × Track) (m : spec_DrawConcurrent.f a0 = some r) :
  Calls prog 5 #[w0_0] w (RT (spec_DrawConcurrent.Q w F) r) := by
 obtain ⟨s0, rfl, kp0, z⟩ := Xj w F
 refine Xd (args := [w0_0]) func5 ntmps5 rfl rfl m ?_
 unfold spec_DrawConcurrent.f
 refine sr (al (cs := [(iI 0), (iI 0), (iI 0), (.bool false), (.slice none 0 0), (.slice none 0 0), (.bool false), (.bool false)]) 40 rfl rfl rfl rfl rfl o27 rfl (fun b2 s2 p2 B2 => ?_))
 refine al (cs := [(iI 0), (iI 0), (iI 0), (.bool false), (.slice none 0 0), (.slice none 0 0), (.bool false), (.bool false)]) 41 rfl rfl rfl rfl rfl o27 rfl (fun b4 s4 p4 B4 => ?_)
 refine dn (sr (Xp w0_0 rfl ?_))
 have K6 := kp0.st (Xm p2 p4) rfl
 refine cl' rfl func11 rfl (spec_l1New.calls a0 s4.w (mm [0] s4) w0_0 ((z.rd h0_0).kp K6)) ?_
 rintro r8 _ w8 m8 ⟨v8_0, v8_1, rfl, f8_0, f8_1, ky8⟩
 obtain ⟨s9, rfl, p9, n9⟩ := nwx s4 w8 42 ky8
 have A8_0 := f8_0.c n9
 have A8_1 := f8_1.c n9
 refine Xb rfl (dn (sr (Xb rfl (clB A8_0 rfl func12 rfl (spec_l1Below.calls r8 (8 : Int) s9.w (mm [0] s9) v8_0 v8_1 A8_1 A8_0.w (A8_0.apart rfl)) (fun r12 s13 p13 B13 => ?_)))))
 refine Xb rfl (bd (cells := [(iI 0), (iI (IntKind.wrap .i64 ((1 : Int) + r12.1))), (iI 0), (.bool false), (.slice none 0 0), (.slice none 0 0), (.bool false), (.bool false)]) pl27 o27 rfl rfl rfl rfl rfl rfl (al (cs := [(iI 0), (iI 0), (iI 0), (.bool false), (.slice none 0 0), (.slice none 0 0), (.bool false), (.bool false)]) 44 rfl rfl rfl rfl rfl o27 rfl (fun b15 s15 p15 B15 => ?_)))
 refine sva' (vs := [(iI 0), (iI (IntKind.wrap .i64 ((1 : Int) + r12.1))), (iI 0), (.bool false), (.slice none 0 0), (.slice none 0 0), (.bool false), (.bool false)]) B15 z27 rfl (Xc rfl (Xc rfl (Xc rfl (Xc rfl (Xc rfl (Xc rfl (Xc rfl (Xc rfl Xx)))))))) rfl (fun s17 p17 B17 => ?_)
 refine dn (sr (Xb rfl ?_))
 have A19 := A8_1.st (Yb p13 p15 p17) rfl
 have A21 := B13.st (Xm p15 p17) rfl
 refine clB A21 rfl func12 rfl (spec_l1Below.calls (l1Cur.mk r8.b r12.2.i r12.2.h) (8 : Int) s17.w (mm [0] s17) v8_0 v8_1 A19 A21.w (A21.apart rfl)) (fun r20 s22 p22 B22 => ?_)
 refine Xb rfl (bd (cells := [(iI 0), (iI (IntKind.wrap .i64 ((1 : Int) + r20.1))), (iI 0), (.bool false), (.slice none 0 0), (.slice none 0 0), (.bool false), (.bool false)]) pl27 o27 rfl rfl rfl rfl rfl rfl (al (cs := [(iI 0), (iI 0), (iI 0), (.bool false), (.slice none 0 0), (.slice none 0 0), (.bool false), (.bool false)]) 46 rfl rfl rfl rfl rfl o27 rfl (fun b24 s24 p24 B24 => ?_)))
 refine sva' (vs := [(iI 0), (iI (IntKind.wrap .i64 ((1 : Int) + r20.1))), (iI 0), (.bool false), (.slice none 0 0), (.slice none 0 0), (.bool false), (.bool false)]) B24 z27 rfl (Xc rfl (Xc rfl (Xc rfl (Xc rfl (Xc rfl (Xc rfl (Xc rfl (Xc rfl Xx)))))))) rfl (fun s26 p26 B26 => ?_)
 refine dn (sq (sr (Xb rfl ?_)))
 have A28 := A19.st (Yb p22 p24 p26) rfl
 have A30 := B22.st (Xm p24 p26) rfl
 refine clB A30 rfl func13 rfl (spec_l1Once.calls (l1Cur.mk r8.b r20.2.i r20.2.h) (3 : Int) s26.w (mm [0] s26) v8_0 v8_1 A28 A30.w (A30.apart rfl)) (fun r29 s31 p31 B31 => ?_)
 refine Xb rfl (dn (jc (fun (y33 : Int × Int × Int) e w => ∃ (s : St) (e0 : Env), w = s.w ∧ e = upd (upd (upd (upd (upd e0 2 (pB b2)) 3 (pB b4)) 4 (pB v8_0)) 5 (pB b15)) 6 (pB b24) ∧ Kp s0 s ∧ BlF s b24 27 [(iI 0), (iI (IntKind.wrap .i64 ((1 : Int) + r20.1))), (iI 0), (.bool false), (.slice none 0 0), (.slice none 0 0), (.bool false), (.bool false)] 46 ∧ BlF s b15 27 [(iI 0), (iI (IntKind.wrap .i64 ((1 : Int) + r12.1))), (iI y33.1), (.bool false), (.slice none 0 0), (.slice none 0 0), (.bool false), (.bool false)] 44 ∧ BlF s v8_0 54 [v8_1, (iI y33.2.1), (iI y33.2.2)] 42 ∧ BlF s b4 27 [(iI 0), (iI 0), (iI 0), (.bool false), (.slice none 0 0), (.slice none 0 0), (.bool false), (.bool false)] 41 ∧ BlF s b2 27 [(iI 0), (iI 0), (iI 0), (.bool false), (.slice none 0 0), (.slice none 0 0), (.bool false), (.bool false)] 40 ∧ RdF Yd s [v8_1] r8.b [0]) (fun Gj33 Kj33 => ?_) ?_))
 ·
  refine cd rfl (fun h34 => ?_) (fun h34 => ?_)
  ·
   refine rg (Xb rfl ?_)
   have A35 := A28.st p31 rfl
   refine clB B31 rfl func12 rfl (spec_l1Below.calls (l1Cur.mk r8.b r29.2.i r29.2.h) (9 : Int) s31.w (mm [0] s31) v8_0 v8_1 A35 B31.w (B31.apart rfl)) (fun r36 s37 p37 B37 => ?_)
   refine Xb rfl (Xw fa27_2 rfl ?_)
   refine sv' (B17.st (tr5 p22 p24 p26 p31 p37) rfl) z3 rfl rfl rfl (fun s40 p40 B40 => ?_)
   exact dn (Kj33 _ _ _ ⟨s40, _, rfl, (ue (ue (ue (ue (ue rfl rfl) rfl) rfl) rfl) rfl), (K6.st (tr10 p9 p13 p15 p17 p22 p24 p26 p31 p37 p40) rfl), (B26.st (Yb p31 p37 p40) rfl), B40, (B37.st p40 rfl), (B4.st (tr10 p9 p13 p15 p17 p22 p24 p26 p31 p37 p40) rfl), (B2.st (tr11 p4 p9 p13 p15 p17 p22 p24 p26 p31 p37 p40) rfl), (A35.st (Xm p37 p40) rfl)⟩)
  exact sk (Kj33 _ _ _ ⟨s31, _, rfl, (ue (ue (ue (ue (ue rfl rfl) rfl) rfl) rfl) rfl), (K6.st (tr8 p9 p13 p15 p17 p22 p24 p26 p31) rfl), (B26.st p31 rfl), (B17.st (tr4 p22 p24 p26 p31) rfl), B31, (B4.st (tr8 p9 p13 p15 p17 p22 p24 p26 p31) rfl), (B2.st (tr9 p4 p9 p13 p15 p17 p22 p24 p26 p31) rfl), (A28.st p31 rfl)⟩)
 rintro y33 _ _ ⟨s54, _, rfl, rfl, Ky33, By33_b24, By33_b15, By33_v8_0, By33_b4, By33_b2, Cy33_11⟩
 refine sq (sr (Xb rfl (clB By33_v8_0 rfl func13 rfl (spec_l1Once.calls (l1Cur.mk r8.b y33.2.1 y33.2.2) (3 : Int) s54.w (mm [0] s54) v8_0 v8_1 Cy33_11 By33_v8_0.w (By33_v8_0.apart rfl)) (fun r60 s61 p61 B61 => ?_))))
 refine Xb rfl (dn (jc (fun (y63 : Int) e w => ∃ (s : St) (e0 : Env), w = s.w ∧ e = upd (upd (upd (upd e0 2 (pB b2)) 3 (pB b4)) 5 (pB b15)) 6 (pB b24) ∧ Kp s0 s ∧ BlF s b24 27 [(iI 0), (iI (IntKind.wrap .i64 ((1 : Int) + r20.1))), (iI y63), (.bool false), (.slice none 0 0), (.slice none 0 0), (.bool false), (.bool false)] 46 ∧ BlF s b15 27 [(iI 0), (iI (IntKind.wrap .i64 ((1 : Int) + r12.1))), (iI y33.1), (.bool false), (.slice none 0 0), (.slice none 0 0), (.bool false), (.bool false)] 44 ∧ BlF s b4 27 [(iI 0), (iI 0), (iI 0), (.bool false), (.slice none 0 0), (.slice none 0 0), (.bool false), (.bool false)] 41 ∧ BlF s b2 27 [(iI 0), (iI 0), (iI 0), (.bool false), (.slice none 0 0), (.slice none 0 0), (.bool false), (.bool false)] 40) (fun Gj63 Kj63 => ?_) ?_))
 ·
  refine cd rfl (fun h64 => ?_) (fun h64 => ?_)
  ·
   refine rg (Xb rfl ?_)
   refine clB B61 rfl func12 rfl (spec_l1Below.calls (l1Cur.mk r8.b r60.2.i r60.2.h) (9 : Int) s61.w (mm [0] s61) v8_0 v8_1 (Cy33_11.st p61 rfl) B61.w (B61.apart rfl)) (fun r66 s67 p67 B67 => ?_)
   refine Xb rfl (Xw fa27_2 rfl ?_)
   refine sv' (By33_b24.st (Xm p61 p67) rfl) z3 rfl rfl rfl (fun s70 p70 B70 => ?_)
   exact dn (Kj63 _ _ _ ⟨s70, _, rfl, (ue (ue (ue (ue rfl rfl) rfl) rfl) rfl), (Ky33.st (Yb p61 p67 p70) rfl), B70, (By33_b15.st (Yb p61 p67 p70) rfl), (By33_b4.st (Yb p61 p67 p70) rfl), (By33_b2.st (Yb p61 p67 p70) rfl)⟩)
  exact sk (Kj63 _ _ _ ⟨s61, _, rfl, (ue (ue (ue (ue rfl rfl) rfl) rfl) rfl), (Ky33.st p61 rfl), (By33_b24.st p61 rfl), (By33_b15.st p61 rfl), (By33_b4.st p61 rfl), (By33_b2.st p61 rfl)⟩)
 rintro y63 _ _ ⟨s81, _, rfl, rfl, Ky63, By63_b24, By63_b15, By63_b4, By63_b2⟩
 refine sq (zdraw [[], [], [0, 0], [1, 2, 0, 1, 2]] [some 31, some 32, none, none] [[5], [6], [2, 31], [3, 32]] [0, 2, 1, 3] ⟨by kernel_rfl, by kernel_rfl, by kernel_rfl⟩ (by kernel_rfl) (fun s86 p86 l86 tb86 zd86 => ?_))
 refine zstep 2 [some 32] tb86 ((zd86.add 0 31 (.agg #[(iI 0), (iI (IntKind.wrap .i64 ((1 : Int) + r12.1))), (iI y33.1), (.bool false), (.slice none 0 0), (.slice none 0 0), (.bool false), (.bool false)]) rfl).add 1 32 (.agg #[(iI 0), (iI (IntKind.wrap .i64 ((1 : Int) + r20.1))), (iI y63), (.bool false), (.slice none 0 0), (.slice none 0 0), (.bool false), (.bool false)]) rfl) (Xa (lda_q' (es := [(iI 0), (iI (IntKind.wrap .i64 ((1 : Int) + r20.1))), (iI y63), (.bool false), (.slice none 0 0), (.slice none 0 0), (.bool false), (.bool false)]) (By63_b24.st p86 rfl) u27 z27 rfl) rfl (Xa (lda_q' (es := [(iI 0), (iI (IntKind.wrap .i64 ((1 : Int) + r12.1))), (iI y33.1), (.bool false), (.slice none 0 0), (.slice none 0 0), (.bool false), (.bool false)]) (By63_b15.st p86 rfl) u27 z27 rfl) rfl Xk)) (by kernel_rfl) rfl (fun l91 e91 zd91 => ?_)
 refine sva' (vs := [(iI 0), (iI (IntKind.wrap .i64 ((1 : Int) + r12.1))), (iI y33.1), (.bool false), (.slice none 0 0), (.slice none 0 0), (.bool false), (.bool false)]) (By63_b2.st p86 rfl) z27 rfl (Xc rfl (Xc rfl (Xc rfl (Xc rfl (Xc rfl (Xc rfl (Xc rfl (Xc rfl Xx)))))))) rfl (fun s95 p95 B95 => ?_)
 refine zdone0 (L' := [1]) (D' := [0, 0, 2]) zd91 rfl rfl rfl (fun zd97 => ?_)
 refine zfin [3] tb86 zd97 (Xa (lda_q' (es := [(iI 0), (iI (IntKind.wrap .i64 ((1 : Int) + r20.1))), (iI y63), (.bool false), (.slice none 0 0), (.slice none 0 0), (.bool false), (.bool false)]) (By63_b24.st (Xm p86 p95) rfl) u27 z27 rfl) rfl Xk) (by kernel_rfl) (by decide) (sva' (vs := [(iI 0), (iI (IntKind.wrap .i64 ((1 : Int) + r20.1))), (iI y63), (.bool false), (.slice none 0 0), (.slice none 0 0), (.bool false), (.bool false)]) (By63_b4.st (Xm p86 p95) rfl) z27 rfl (Xc rfl (Xc rfl (Xc rfl (Xc rfl (Xc rfl (Xc rfl (Xc rfl (Xc rfl Xx)))))))) rfl (fun s100 p100 B100 => ?_))
 refine dn ?_
 have A102 : OwF kd27 s100 [(iI 0), (iI (IntKind.wrap .i64 ((1 : Int) + r12.1))), (iI y33.1), (.bool false), (.slice none 0 0), (.slice none 0 0), (.bool false), (.bool false)] (Track.mk (0 : Int) (IntKind.wrap .i64 ((1 : Int) + r12.1)) y33.1 false ([] : (List Span)) ([] : (List Item)) false false) 51 := ow_z _ _ (fz_iso (fun x : Track => (x.Xid, x.Begun, x.Ended, x.All, x.Reads, x.Writes, x.In, x.Out)) (Track.mk (0 : Int) (IntKind.wrap .i64 ((1 : Int) + r12.1)) y33.1 false ([] : (List Span)) ([] : (List Item)) false false) (Xn (Xi .i64 (0 : Int)) (Xn (Xi .i64 (IntKind.wrap .i64 ((1 : Int) + r12.1))) (Xn (Xi .i64 y33.1) (Xn (Xz false) (Xn (fz_nil 62 kd62) (Xn (fz_nil 60 kd60) (Xn (Xz false) (Xz false)))))))))
 have A104 : OwF kd27 s100 [(iI 0), (iI (IntKind.wrap .i64 ((1 : Int) + r20.1))), (iI y63), (.bool false), (.slice none 0 0), (.slice none 0 0), (.bool false), (.bool false)] (Track.mk (0 : Int) (IntKind.wrap .i64 ((1 : Int) + r20.1)) y63 false ([] : (List Span)) ([] : (List Item)) false false) 52 := ow_z _ _ (fz_iso (fun x : Track => (x.Xid, x.Begun, x.Ended, x.All, x.Reads, x.Writes, x.In, x.Out)) (Track.mk (0 : Int) (IntKind.wrap .i64 ((1 : Int) + r20.1)) y63 false ([] : (List Span)) ([] : (List Item)) false false) (Xn (Xi .i64 (0 : Int)) (Xn (Xi .i64 (IntKind.wrap .i64 ((1 : Int) + r20.1))) (Xn (Xi .i64 y63) (Xn (Xz false) (Xn (fz_nil 62 kd62) (Xn (fz_nil 60 kd60) (Xn (Xz false) (Xz false)))))))))
 have K107 := Ky63.st (Yb p86 p95 p100) rfl
 exact re rfl func5 rfl (r_b (B95.st p100 rfl) u27 rfl z27 rfl (r_b B100 u27 rfl z27 rfl Xe)) rfl ⟨_, rfl, (.slice none 0 0), (.slice none 0 0), (.slice none 0 0), (.slice none 0 0), rfl, A102.fo K107 rfl z.l, A104.fo K107 rfl z.l, z.ky K107⟩
def spec_l1Size.f (a0 : (List Int)) (a1 : Int) : Option (Int) :=
 (if (decide ((IntKind.wrap .i64 ((2 : Int) + (IntKind.wrap .i64 ((a0.length : Int).tdiv (20 : Int))))) > a1)) = true then (some a1) else (some (IntKind.wrap .i64 ((2 : Int) + (IntKind.wrap .i64 ((a0.length : Int).tdiv (20 : Int)))))))
def spec_l1Size.Q (w : World) (F : Nat → Prop) (r : Int) (v : Value) (w' : World) : Prop :=
 v = (iI r) ∧ Ky [] w w'
theorem spec_l1Size.calls (a0 : (List Int)) (a1 : Int) (w : World) (F : Nat → Prop) (w0_0 : Value) (h0_0 : Yd.rd w [w0_0] a0 F) (r : Int) (m : spec_l1Size.f a0 a1 = some r) :
  Calls prog 15 #[w0_0, (iI a1)] w (RT (spec_l1Size.Q w F) r) := by
 obtain ⟨s0, rfl, kp0, z⟩ := Xj w F
 refine Xd (args := [w0_0, (iI a1)]) func15 ntmps15 rfl rfl m ?_
 unfold spec_l1Size.f
 refine sr (Xb rfl (dn (sr (Xp w0_0 rfl (ln' (z.rd h0_0) u22 rfl (quoK rfl rfl rfl rfl rfl rfl rfl rfl (Xb rfl (Xb rfl (dn (sq (sr (Xb rfl (Xb rfl (Xb rfl ?_))))))))))))))
 refine dn (cd rfl (fun h2 => ?_) (fun h2 => ?_))
 ·
  exact sr (Xb rfl (Xb rfl (dn (re rfl func15 rfl (Xq rfl Xe) rfl ⟨_, rfl, rfl, z.ky kp0⟩))))
 exact sk (sr (Xb rfl (Xb rfl (dn (re rfl func15 rfl (Xq rfl Xe) rfl ⟨_, rfl, rfl, z.ky kp0⟩)))))
def spec_l3copy.f (a0 : Item) : Option (Item) :=
 (if ([] : (List Int)).length + a0.T.length ≤ Lim then (some (Item.mk a0.Kind a0.N a0.F (([] : (List Int)) ++ a0.T))) else none)
def spec_l3copy.Q (w : World) (F : Nat → Prop) (r : Item) (v : Value) (w' : World) : Prop :=
 ∃ (v0 : Value) (v1 : Value), v = (.agg #[(iI r.Kind), (iI r.N), v0, v1]) ∧ FO kd60 w w' [(iI r.Kind), (iI r.N), v0, v1] r ∧ Ky [] w w'
theorem spec_l3copy.calls (a0 : Item) (w : World) (F : Nat → Prop) (w0_0 : Value) (w0_1 : Value) (h0_0 : Kd.flt.rd w [w0_0] a0.F F) (h0_1 : Yd.rd w [w0_1] a0.T F) (r : Item) (m : spec_l3copy.f a0 = some r) :
  Calls prog 60 #[(.agg #[(iI a0.Kind), (iI a0.N), w0_0, w0_1])] w (RT (spec_l3copy.Q w F) r) := by
 obtain ⟨s0, rfl, kp0, z⟩ := Xj w F
 have A0_0 := fl_of h0_0
 refine Xd (args := [(.agg #[(iI a0.Kind), (iI a0.N), w0_0, w0_1])]) func60 ntmps60 rfl rfl m ?_
 unfold spec_l3copy.f
 refine sr (bx' (cs := [(iI a0.Kind), (iI a0.N), w0_0, w0_1]) 40 rfl rfl (fun b2 s2 p2 B2 => ?_))
 refine al (cs := [(iI 0), (iI 0), (.float .f64 0), (.slice none 0 0)]) 41 rfl rfl rfl rfl rfl o60 rfl (fun b4 s4 p4 B4 => ?_)
 refine dn (sr (lt0 (K := (Kd.int .u8)) 42 u22 z5 rfl rfl rfl rfl rfl (fun v6 s6 p6 A6 => ?_)))
 refine Xw fa60_3 rfl ?_
 have A8 := B2.st (Xm p4 p6) rfl
 refine ld' A8 u22 rfl ?_
 have K9 := kp0.st (Yb p2 p4 p6) rfl
 refine apF fl_int sl22 A6 ((z.rd h0_1).kp K9) rfl rfl rfl rfl rfl rfl rfl (fun v11 s11 p11 A11 => ?_)
 refine Xw fa60_3 rfl (sv' (A8.st p11 rfl) z22 rfl A11.rd.one rfl (fun s14 p14 B14 => ?_))
 refine dn (sr (lda' (es := [(iI a0.Kind), (iI a0.N), w0_0, v11]) B14 u60 z60 rfl ?_))
 have A17 := A11.st p14 rfl
 refine sva' (vs := [(iI a0.Kind), (iI a0.N), w0_0, v11]) (B4.st (Yb p6 p11 p14) rfl) z60 rfl (Xc rfl (Xc rfl (Xc (FL.one A0_0) (Xc A17.rd.one Xx)))) rfl (fun s18 p18 B18 => ?_)
 refine dn ?_
 have A20 : OwF kd60 s18 [(iI a0.Kind), (iI a0.N), w0_0, v11] (Item.mk a0.Kind a0.N a0.F (([] : (List Int)) ++ a0.T)) 42 := (Xv (fun x : Item => (x.Kind, x.N, x.F, x.T)) (Item.mk a0.Kind a0.N a0.F (([] : (List Int)) ++ a0.T)) (Xt (Xi .i64 a0.Kind) (Xt (Xi .i64 a0.N) (Xt (fz_flt A0_0) (A17.st p18 rfl)))))
 have K23 := K9.st (Yb p11 p14 p18) rfl
 exact re rfl func60 rfl (r_b B18 u60 rfl z60 rfl Xe) rfl ⟨_, rfl, w0_0, v11, rfl, A20.fo K23 rfl z.l, z.ky K23⟩
def spec_l13spans.b0 (a0 : (List Span)) (x2 : (List Span) × Int) : Option (((List Span) × Int) ⊕ (List Span)) :=
 (if (decide (x2.2 < (a0.length : Int))) = true then (if 0 ≤ x2.2 ∧ x2.2 < (a0.length : Int) then (if 0 ≤ x2.2 ∧ x2.2 < (a0.length : Int) then ((spec_l3copy.f ((at_ a0 x2.2).From)).bind fun r30 => ((spec_l3copy.f ((at_ a0 x2.2).To)).bind fun r39 => (if x2.1.length + ([(Span.mk r30 r39)]).length ≤ Lim then (some (Sum.inl ((x2.1 ++ [(Span.mk r30 r39)]), (IntKind.wrap .i64 (x2.2 + (1 : Int)))))) else none))) else none) else none) else ((some x2.1).bind fun o => some (Sum.inr o)))
def spec_l13spans.f (a0 : (List Span)) : Option ((List Span)) :=
 (iter (spec_l13spans.b0 a0) (([] : (List Span)), (0 : Int)))
def spec_l13spans.Q (w : World) (F : Nat → Prop) (r : (List Span)) (v : Value) (w' : World) : Prop :=
 FO Yf w w' [v] r ∧ Ky [] w w'
theorem spec_l13spans.calls (a0 : (List Span)) (w : World) (F : Nat → Prop) (w0_0 : Value) (h0_0 : Yf.rd w [w0_0] a0 F) (r : (List Span)) (m : spec_l13spans.f a0 = some r) :
  Calls prog 49 #[w0_0] w (RT (spec_l13spans.Q w F) r) := by
 obtain ⟨s0, rfl, kp0, z⟩ := Xj w F
 have A0_0 := z.rd h0_0
 refine Xd (args := [w0_0]) func49 ntmps49 rfl rfl m ?_
 unfold spec_l13spans.f
 refine sr (Xb rfl (dn (sr (Xb rfl (dn (sq (sr (Xb rfl (dn (bl (lpI (fun (x2 : (List Span) × Int) e w => ∃ (s : St) (e0 : Env) (vx2_0 : Value), w = s.w ∧ e = upd (upd (upd e0 0 w0_0) 3 vx2_0) 4 (iI x2.2) ∧ Kp s0 s ∧ OwF Yf s [vx2_0] x2.1 41) ⟨s0, _, (.slice none 0 0), rfl, (ue (ue (ue rfl rfl) rfl) rfl), kp0, (ow_nil 62 kd62 _ 41)⟩ (fun g2 ih2 => ?_))))))))))))
 rintro x2 _ _ ⟨s3, _, vx2_0, rfl, rfl, Kx2, Ax2_0⟩
 unfold spec_l13spans.b0
 refine sq (sr (Xb rfl (Xp w0_0 rfl ?_)))
 refine ln' (A0_0.kp Kx2) u24 rfl (Xb rfl (dn (cd rfl (fun h6 => ?_) (fun h6 => ?_))))
 ·
  refine sk (sq (bl (zdraw [[], [], [], [1, 2], [3], [4], [5], [], [], [7, 8], [9], [10], [11, 6], [6, 12], [13], [0, 14, 12], [15, 15, 0, 1, 2, 3, 4, 5, 6, 7, 8, 9, 10, 11, 12, 13, 14, 15]] [some 11, some 12, some 13, some 14, some 15, some 16, some 17, some 18, some 19, some 20, some 21, some 22, some 23, some 24, some 25, some 26, some 3] [[3], [0], [4], [12, 13], [14], [15], [16], [0], [4], [18, 19], [20], [21], [22], [17, 23], [24], [11, 25], [26]] [0, 1, 2, 3, 4, 5, 6, 7, 8, 9, 10, 11, 12, 13, 14, 15, 16] ⟨by kernel_rfl, by kernel_rfl, by kernel_rfl⟩ (by kernel_rfl) (fun s7 p7 l7 tb7 zd7 => ?_))))
  have K11 := Kx2.st p7 rfl
  have A12 := A0_0.kp K11
  refine mg fun hg13 => ?_
  obtain ⟨ad13, es13, he13, ce13, ia13⟩ := ix_e A12 rfl hg13.1 hg13.2
  obtain ⟨v13_0, v13_1, v13_2, v13_3, rfl, A13_0, A13_1, A13_2, A13_3⟩ := op62 he13
  refine mg fun hg22 => ?_
  obtain ⟨ad22, es22, he22, ce22, ia22⟩ := ix_e A12 rfl hg22.1 hg22.2
  obtain ⟨v22_0, v22_1, v22_2, v22_3, rfl, A22_0, A22_1, A22_2, A22_3⟩ := op62 he22
  refine zstep 6 [some 22, some 21, some 20, some 19, some 18, some 11] tb7 (((((((((((zd7.add 0 11 vx2_0 rfl).add 1 12 w0_0 rfl).add 2 13 (iI x2.2) rfl).add 3 14 (.pointer (some ad13)) rfl).add 4 15 (.pointer (some ad13)) rfl).add 5 16 (.agg #[(iI (((at_ a0 x2.2).From).Kind)), (iI (((at_ a0 x2.2).From).N)), v13_0, v13_1]) rfl).add 7 18 w0_0 rfl).add 8 19 (iI x2.2) rfl).add 9 20 (.pointer (some ad22)) rfl).add 10 21 (.pointer (some (ad22.add 4))) rfl).add 11 22 (.agg #[(iI (((at_ a0 x2.2).To).Kind)), (iI (((at_ a0 x2.2).To).N)), v22_2, v22_3]) rfl) (Xa (lcq_q (q := 4) (es' := [(iI (((at_ a0 x2.2).To).Kind)), (iI (((at_ a0 x2.2).To).N)), v22_2, v22_3]) ce22 u60 z60 rfl rfl rfl rfl rfl rfl rfl rfl) rfl (Xa (Xo fa62_1 rfl) rfl (Xa (ix_q' A12 u24 z62 hg22.1 hg22.2 ia22 rfl) rfl (Xa (Xg rfl) rfl (Xa (Xu w0_0 rfl) rfl (Xa (lcq_q (q := 0) (es' := [(iI (((at_ a0 x2.2).From).Kind)), (iI (((at_ a0 x2.2).From).N)), v13_0, v13_1]) ce13 u60 z60 rfl rfl rfl rfl rfl rfl rfl rfl) rfl (Xa (Xo fa62_0 rfl) rfl (Xa (ix_q' A12 u24 z62 hg13.1 hg13.2 ia13 rfl) rfl (Xa (Xg rfl) rfl (Xa (Xu w0_0 rfl) rfl (Xa (Xu vx2_0 rfl) rfl Xk))))))))))) (by kernel_rfl) rfl (fun l29 e29 zd29 => ?_)
  refine cl' rfl func60 rfl (spec_l3copy.calls ((at_ a0 x2.2).From) s7.w (mm [0] s7) v13_0 v13_1 ((Xl (s := s7) A13_0).sub (D := [0]) rfl) A13_1) ?_
  rintro r30 _ w30 m30 ⟨v30_0, v30_1, rfl, f30_0, ky30⟩
  obtain ⟨s31, rfl, p31, n31⟩ := nwx s7 w30 42 ky30
  obtain ⟨hu30_0_0, Au30_0_1⟩ := ap60 (f30_0.c n31)
  refine zdone (L' := [11, 10, 9, 8, 7, 0]) (D' := [1, 2, 3, 4, 5, 6]) zd29 rfl rfl rfl (fun zd33 => ?_)
  have K35 := K11.st p31 rfl
  refine zstep 12 [some 11] tb7 zd33 (Xa (lcq_q (q := 4) (es' := [(iI (((at_ a0 x2.2).To).Kind)), (iI (((at_ a0 x2.2).To).N)), v22_2, v22_3]) (ce22.st p31 rfl rfl) u60 z60 rfl rfl rfl rfl rfl rfl rfl rfl) rfl (Xa (Xo fa62_1 rfl) rfl (Xa (ix_q' (A0_0.kp K35) u24 z62 hg22.1 hg22.2 ia22 rfl) rfl (Xa (Xg rfl) rfl (Xa (Xu w0_0 rfl) rfl (Xa (Xu vx2_0 rfl) rfl Xk)))))) (by kernel_rfl) rfl (fun l34 e34 zd34 => ?_)
  refine cl' rfl func60 rfl (spec_l3copy.calls ((at_ a0 x2.2).To) s31.w (mm [0] s31) v22_2 v22_3 ((Xl (s := s31) A22_2).sub (D := [0]) rfl) (A22_3.st p31 rfl)) ?_
  rintro r39 _ w39 m39 ⟨v39_0, v39_1, rfl, f39_0, ky39⟩
  obtain ⟨s40, rfl, p40, n40⟩ := nwx s31 w39 43 ky39
  obtain ⟨hu39_0_0, Au39_0_1⟩ := ap60 (f39_0.c n40)
  refine zdone (L' := [0]) (D' := [7, 8, 9, 10, 11, 12, 1, 2, 3, 4, 5, 6]) zd34 rfl rfl rfl (fun zd42 => ?_)
  refine zstep 14 [some 11] tb7 (zd42.add 13 24 (.agg #[(iI r30.Kind), (iI r30.N), v30_0, v30_1, (iI r39.Kind), (iI r39.N), v39_0, v39_1]) rfl) (Xa (bd_q (cells := [(iI r30.Kind), (iI r30.N), v30_0, v30_1, (iI r39.Kind), (iI r39.N), v39_0, v39_1]) pl62 o62 rfl rfl rfl rfl rfl rfl) rfl (Xa (Xu vx2_0 rfl) rfl Xk)) (by kernel_rfl) rfl (fun l44 e44 zd44 => ?_)
  obtain ⟨s46, hw46, p46, A46⟩ := ow_2 (Xv (fun x : Item => (x.Kind, x.N, x.F, x.T)) r30 (Xt (Xi .i64 r30.Kind) (Xt (Xi .i64 r30.N) (Xt (fz_flt hu30_0_0) (Au30_0_1.st p40 rfl))))) (Xv (fun x : Item => (x.Kind, x.N, x.F, x.T)) r39 (Xt (Xi .i64 r39.Kind) (Xt (Xi .i64 r39.N) (Xt (fz_flt hu39_0_0) Au39_0_1)))) rfl rfl
  rw [hw46]
  have A48 : OwF kd62 s46 [(iI r30.Kind), (iI r30.N), v30_0, v30_1, (iI r39.Kind), (iI r39.N), v39_0, v39_1] (Span.mk r30 r39) 42 := (Xv (fun x : Span => (x.From, x.To)) (Span.mk r30 r39) A46)
  refine ltO (K := kd62) (cells := [(iI r30.Kind), (iI r30.N), v30_0, v30_1, (iI r39.Kind), (iI r39.N), v39_0, v39_1]) [(Span.mk r30 r39)] 42 u24 z62 o62 (lo_one A48) rfl rfl rfl rfl rfl rfl rfl rfl rfl rfl (fun v51 s51 p51 A51 => ?_)
  refine zdone (L' := [0]) (D' := [13, 14, 7, 8, 9, 10, 11, 12, 1, 2, 3, 4, 5, 6]) zd44 rfl rfl rfl (fun zd53 => ?_)
  refine zfin [15, 16] tb7 zd53 (Xa (Xu vx2_0 rfl) rfl Xk) (by kernel_rfl) (by decide) (apO sl24 (Ax2_0.st (tr5 p7 p31 p40 p46 p51) rfl) A51 rfl rfl rfl rfl rfl rfl rfl rfl rfl (fun v55 s55 p55 A55 => ?_))
  refine Xy v55 rfl (dn (ib (rg (Xb rfl (Xb rfl (Xb rfl (dn ?_)))))))
  exact lb ih2 ⟨s55, _, v55, rfl, (ue (ue (ue rfl rfl) rfl) rfl), (K35.st (tr4 p40 p46 p51 p55) rfl), A55⟩
 exact xt rfl (sgb (sr (Xp vx2_0 rfl (Xy vx2_0 rfl (dn (re rfl func49 rfl (Xq rfl Xe) rfl ⟨_, rfl, Ax2_0.fo Kx2 rfl z.l, z.ky Kx2⟩))))))
def spec_l13items.b0 (a0 : (List Item)) (x2 : (List Item) × Int) : Option (((List Item) × Int) ⊕ (List Item)) :=
 (if (decide (x2.2 < (a0.length : Int))) = true then (if 0 ≤ x2.2 ∧ x2.2 < (a0.length : Int) then ((spec_l3copy.f (at_ a0 x2.2)).bind fun r10 => (if x2.1.length + ([r10]).length ≤ Lim then (some (Sum.inl ((x2.1 ++ [r10]), (IntKind.wrap .i64 (x2.2 + (1 : Int)))))) else none)) else none) else ((some x2.1).bind fun o => some (Sum.inr o)))
def spec_l13items.f (a0 : (List Item)) : Option ((List Item)) :=
 (iter (spec_l13items.b0 a0) (([] : (List Item)), (0 : Int)))
def spec_l13items.Q (w : World) (F : Nat → Prop) (r : (List Item)) (v : Value) (w' : World) : Prop :=
 FO Ye w w' [v] r ∧ Ky [] w w'
theorem spec_l13items.calls (a0 : (List Item)) (w : World) (F : Nat → Prop) (w0_0 : Value) (h0_0 : Ye.rd w [w0_0] a0 F) (r : (List Item)) (m : spec_l13items.f a0 = some r) :
  Calls prog 50 #[w0_0] w (RT (spec_l13items.Q w F) r) := by
 obtain ⟨s0, rfl, kp0, z⟩ := Xj w F
 refine Xd (args := [w0_0]) func50 ntmps50 rfl rfl m ?_
 unfold spec_l13items.f
 refine sr (Xb rfl (dn (sr (Xb rfl (dn (sq (sr (Xb rfl (dn (bl (lpI (fun (x2 : (List Item) × Int) e w => ∃ (s : St) (e0 : Env) (vx2_0 : Value), w = s.w ∧ e = upd (upd (upd e0 0 w0_0) 3 vx2_0) 4 (iI x2.2) ∧ Kp s0 s ∧ OwF Ye s [vx2_0] x2.1 41) ⟨s0, _, (.slice none 0 0), rfl, (ue (ue (ue rfl rfl) rfl) rfl), kp0, (ow_nil 60 kd60 _ 41)⟩ (fun g2 ih2 => ?_))))))))))))
 rintro x2 _ _ ⟨s3, _, vx2_0, rfl, rfl, Kx2, Ax2_0⟩
 unfold spec_l13items.b0
 refine sq (sr (Xb rfl (Xp w0_0 rfl ?_)))
 have A5 := (z.rd h0_0).kp Kx2
 refine ln' A5 u25 rfl (Xb rfl (dn (cd rfl (fun h6 => ?_) (fun h6 => ?_))))
 ·
  refine sk (sq (bl (rg (Xp vx2_0 rfl (Xp w0_0 rfl (Xb rfl (ix' A5 u25 z60 rfl (fun ad7 es7 h0_7 h1_7 he7 ce7 ia7 => ?_))))))))
  obtain ⟨v7_0, v7_1, rfl, A7_0, A7_1⟩ := op60 he7
  refine lca ce7 u60 z60 rfl rfl rfl rfl rfl rfl rfl (cl' rfl func60 rfl (spec_l3copy.calls (at_ a0 x2.2) s3.w (mm [0] s3) v7_0 v7_1 ((Xl (s := s3) A7_0).sub (D := [0]) rfl) A7_1) ?_)
  rintro r10 _ w10 m10 ⟨v10_0, v10_1, rfl, f10_0, ky10⟩
  obtain ⟨s11, rfl, p11, n11⟩ := nwx s3 w10 42 ky10
  obtain ⟨hu10_0_0, Au10_0_1⟩ := ap60 (f10_0.c n11)
  have A13 : OwF kd60 s11 [(iI r10.Kind), (iI r10.N), v10_0, v10_1] r10 42 := (Xv (fun x : Item => (x.Kind, x.N, x.F, x.T)) r10 (Xt (Xi .i64 r10.Kind) (Xt (Xi .i64 r10.N) (Xt (fz_flt hu10_0_0) Au10_0_1))))
  refine ltO (K := kd60) (cells := [(iI r10.Kind), (iI r10.N), v10_0, v10_1]) [r10] 42 u25 z60 o60 (lo_one A13) rfl rfl rfl rfl rfl rfl rfl rfl rfl rfl (fun v16 s16 p16 A16 => ?_)
  refine apO sl25 (Ax2_0.st (Xm p11 p16) rfl) A16 rfl rfl rfl rfl rfl rfl rfl rfl rfl (fun v19 s19 p19 A19 => ?_)
  refine Xy v19 rfl (dn (ib (rg (Xb rfl (Xb rfl (Xb rfl (dn ?_)))))))
  exact lb ih2 ⟨s19, _, v19, rfl, (ue (ue (ue rfl rfl) rfl) rfl), (Kx2.st (Yb p11 p16 p19) rfl), A19⟩
 exact xt rfl (sgb (sr (Xp vx2_0 rfl (Xy vx2_0 rfl (dn (re rfl func50 rfl (Xq rfl Xe) rfl ⟨_, rfl, Ax2_0.fo Kx2 rfl z.l, z.ky Kx2⟩))))))
def spec_l13copy.b0 (a0 : (List Track)) (x2 : (List Track) × Int) : Option (((List Track) × Int) ⊕ (List Track)) :=
 (if (decide (x2.2 < (a0.length : Int))) = true then (if 0 ≤ x2.2 ∧ x2.2 < (a0.length : Int) then ((spec_l13spans.f ((at_ a0 x2.2).Reads)).bind fun r18 => ((spec_l13items.f ((at_ a0 x2.2).Writes)).bind fun r25 => (if x2.1.length + ([(Track.mk ((at_ a0 x2.2).Xid) ((at_ a0 x2.2).Begun) ((at_ a0 x2.2).Ended) ((at_ a0 x2.2).All) r18 r25 ((at_ a0 x2.2).In) ((at_ a0 x2.2).Out))]).length ≤ Lim then (some (Sum.inl ((x2.1 ++ [(Track.mk ((at_ a0 x2.2).Xid) ((at_ a0 x2.2).Begun) ((at_ a0 x2.2).Ended) ((at_ a0 x2.2).All) r18 r25 ((at_ a0 x2.2).In) ((at_ a0 x2.2).Out))]), (IntKind.wrap .i64 (x2.2 + (1 : Int)))))) else none))) else none) else ((some x2.1).bind fun o => some (Sum.inr o)))
def spec_l13copy.f (a0 : (List Track)) : Option ((List Track)) :=
 (iter (spec_l13copy.b0 a0) (([] : (List Track)), (0 : Int)))
def spec_l13copy.Q (w : World) (F : Nat → Prop) (r : (List Track)) (v : Value) (w' : World) : Prop :=
 FO Yc w w' [v] r ∧ Ky [] w w'
theorem spec_l13copy.calls (a0 : (List Track)) (w : World) (F : Nat → Prop) (w0_0 : Value) (h0_0 : Yc.rd w [w0_0] a0 F) (r : (List Track)) (m : spec_l13copy.f a0 = some r) :
  Calls prog 25 #[w0_0] w (RT (spec_l13copy.Q w F) r) := by
 obtain ⟨s0, rfl, kp0, z⟩ := Xj w F
 refine Xd (args := [w0_0]) func25 ntmps25 rfl rfl m ?_
 unfold spec_l13copy.f
 refine sr (Xb rfl (dn (sr (Xb rfl (dn (sq (sr (Xb rfl (dn (bl (lpI (fun (x2 : (List Track) × Int) e w => ∃ (s : St) (e0 : Env) (vx2_0 : Value), w = s.w ∧ e = upd (upd (upd e0 0 w0_0) 3 vx2_0) 4 (iI x2.2) ∧ Kp s0 s ∧ OwF Yc s [vx2_0] x2.1 41) ⟨s0, _, (.slice none 0 0), rfl, (ue (ue (ue rfl rfl) rfl) rfl), kp0, (ow_nil 27 kd27 _ 41)⟩ (fun g2 ih2 => ?_))))))))))))
 rintro x2 _ _ ⟨s3, _, vx2_0, rfl, rfl, Kx2, Ax2_0⟩
 unfold spec_l13copy.b0
 refine sq (sr (Xb rfl (Xp w0_0 rfl ?_)))
 have A5 := (z.rd h0_0).kp Kx2
 refine ln' A5 u30 rfl (Xb rfl (dn (cd rfl (fun h6 => ?_) (fun h6 => ?_))))
 ·
  refine sk (sq (bl (sr (Xp w0_0 rfl (Xb rfl (ix' A5 u30 z27 rfl (fun ad7 es7 h0_7 h1_7 he7 ce7 ia7 => ?_)))))))
  obtain ⟨v7_0, v7_1, rfl, A7_0, A7_1⟩ := op27 he7
  refine lca ce7 u27 z27 rfl rfl rfl rfl rfl rfl rfl (al (cs := [(iI 0), (iI 0), (iI 0), (.bool false), (.slice none 0 0), (.slice none 0 0), (.bool false), (.bool false)]) 42 rfl rfl rfl rfl rfl o27 rfl (fun b11 s11 p11 B11 => ?_))
  have A13 := A7_1.st p11 rfl
  have A14 := A7_0.st p11 rfl
  refine sva' (vs := [(iI ((at_ a0 x2.2).Xid)), (iI ((at_ a0 x2.2).Begun)), (iI ((at_ a0 x2.2).Ended)), (.bool ((at_ a0 x2.2).All)), v7_0, v7_1, (.bool ((at_ a0 x2.2).In)), (.bool ((at_ a0 x2.2).Out))]) B11 z27 rfl (Xc rfl (Xc rfl (Xc rfl (Xc rfl (Xc A14.one (Xc A13.one (Xc rfl (Xc rfl Xx)))))))) rfl (fun s15 p15 B15 => ?_)
  refine dn (sr (Xw fa27_4 rfl (ld' B15 u24 rfl ?_)))
  refine clO 43 rfl func49 rfl (spec_l13spans.calls ((at_ a0 x2.2).Reads) s15.w (mm [0] s15) v7_0 (A14.st p15 rfl)) (fun r18 v18_0 s19 p19 A18_0 => ?_)
  refine Xw fa27_4 rfl (sv' (B15.st p19 rfl) z24 rfl A18_0.rd.one rfl (fun s22 p22 B22 => ?_))
  refine dn (sr (Xw fa27_5 rfl (ld' B22 u25 rfl ?_)))
  refine clO 44 rfl func50 rfl (spec_l13items.calls ((at_ a0 x2.2).Writes) s22.w (mm [0] s22) v7_1 (A13.st (Yb p15 p19 p22) rfl)) (fun r25 v25_0 s26 p26 A25_0 => ?_)
  refine Xw fa27_5 rfl (sv' (B22.st p26 rfl) z25 rfl A25_0.rd.one rfl (fun s29 p29 B29 => ?_))
  refine dn (rg (Xp vx2_0 rfl (lda' (es := [(iI ((at_ a0 x2.2).Xid)), (iI ((at_ a0 x2.2).Begun)), (iI ((at_ a0 x2.2).Ended)), (.bool ((at_ a0 x2.2).All)), v18_0, v25_0, (.bool ((at_ a0 x2.2).In)), (.bool ((at_ a0 x2.2).Out))]) B29 u27 z27 rfl ?_)))
  obtain ⟨s33, hw33, p33, A33⟩ := ow_2 (A18_0.st (Yb p22 p26 p29) rfl) (ow_r (A25_0.st p29 rfl) (Xn (Xz ((at_ a0 x2.2).In)) (Xz ((at_ a0 x2.2).Out)))) rfl rfl
  rw [hw33]
  have A35 : OwF kd27 s33 [(iI ((at_ a0 x2.2).Xid)), (iI ((at_ a0 x2.2).Begun)), (iI ((at_ a0 x2.2).Ended)), (.bool ((at_ a0 x2.2).All)), v18_0, v25_0, (.bool ((at_ a0 x2.2).In)), (.bool ((at_ a0 x2.2).Out))] (Track.mk ((at_ a0 x2.2).Xid) ((at_ a0 x2.2).Begun) ((at_ a0 x2.2).Ended) ((at_ a0 x2.2).All) r18 r25 ((at_ a0 x2.2).In) ((at_ a0 x2.2).Out)) 43 := (Xv (fun x : Track => (x.Xid, x.Begun, x.Ended, x.All, x.Reads, x.Writes, x.In, x.Out)) (Track.mk ((at_ a0 x2.2).Xid) ((at_ a0 x2.2).Begun) ((at_ a0 x2.2).Ended) ((at_ a0 x2.2).All) r18 r25 ((at_ a0 x2.2).In) ((at_ a0 x2.2).Out)) (Xt (Xi .i64 ((at_ a0 x2.2).Xid)) (Xt (Xi .i64 ((at_ a0 x2.2).Begun)) (Xt (Xi .i64 ((at_ a0 x2.2).Ended)) (Xt (Xz ((at_ a0 x2.2).All)) A33)))))
  refine ltO (K := kd27) (cells := [(iI ((at_ a0 x2.2).Xid)), (iI ((at_ a0 x2.2).Begun)), (iI ((at_ a0 x2.2).Ended)), (.bool ((at_ a0 x2.2).All)), v18_0, v25_0, (.bool ((at_ a0 x2.2).In)), (.bool ((at_ a0 x2.2).Out))]) [(Track.mk ((at_ a0 x2.2).Xid) ((at_ a0 x2.2).Begun) ((at_ a0 x2.2).Ended) ((at_ a0 x2.2).All) r18 r25 ((at_ a0 x2.2).In) ((at_ a0 x2.2).Out))] 43 u30 z27 o27 (lo_one A35) rfl rfl rfl rfl rfl rfl rfl rfl rfl rfl (fun v38 s38 p38 A38 => ?_)
  refine apO sl30 (Ax2_0.st (tr8 p11 p15 p19 p22 p26 p29 p33 p38) rfl) A38 rfl rfl rfl rfl rfl rfl rfl rfl rfl (fun v41 s41 p41 A41 => ?_)
  refine Xy v41 rfl (dn (ib (rg (Xb rfl (Xb rfl (Xb rfl (dn ?_)))))))
  exact lb ih2 ⟨s41, _, v41, rfl, (ue (ue (ue rfl rfl) rfl) rfl), (Kx2.st (tr9 p11 p15 p19 p22 p26 p29 p33 p38 p41) rfl), A41⟩
 exact xt rfl (sgb (sr (Xp vx2_0 rfl (Xy vx2_0 rfl (dn (re rfl func25 rfl (Xq rfl Xe) rfl ⟨_, rfl, Ax2_0.fo Kx2 rfl z.l, z.ky Kx2⟩))))))
def spec_l5in.f (a0 : Int) (a1 : Int) (a2 : Int) : Option (Bool) :=
 (some ((decide (a0 ≥ a1)) && (decide (a0 ≤ a2))))
def spec_l5in.Q (w : World) (F : Nat → Prop) (r : Bool) (v : Value) (w' : World) : Prop :=
 v = (.bool r) ∧ Ky [] w w'
theorem spec_l5in.calls (a0 : Int) (a1 : Int) (a2 : Int) (w : World) (F : Nat → Prop)   (r : Bool) (m : spec_l5in.f a0 a1 a2 = some r) :
  Calls prog 46 #[(iI a0), (iI a1), (iI a2)] w (RT (spec_l5in.Q w F) r) := by
 obtain ⟨s0, rfl, kp0, z⟩ := Xj w F
 refine Xd (args := [(iI a0), (iI a1), (iI a2)]) func46 ntmps46 rfl rfl m ?_
 unfold spec_l5in.f
 refine sr (Xb rfl (dn (sr (Xb rfl (Xb rfl (Xb rfl (Xb rfl (jy [10, 11, 12, 13, 14] [8] 14 (.bool ((decide (a0 ≥ a1)) && (decide (a0 ≤ a2)))) rfl (fun Kg1 => ?_) (fun j1 => ?_)))))))))
 ·
  rcases bft (decide (a0 ≥ a1)) with hb1 | hb1
  ·
   exact Xs hb1 (Xb rfl (Xb rfl (Xb rfl (Xb rfl (Kg1 _ (Ag.put ((Ag.put ((Ag.put ((Ag.put (Ag.base rfl) rfl)) rfl)) rfl)) rfl) (by rw [hb1]; rfl))))))
  exact Xs hb1 (Xf rfl (Xf rfl (Xf rfl (Xb rfl (Kg1 _ (Ag.put ((Ag.put ((Ag.put ((Ag.put (Ag.base rfl) rfl)) rfl)) rfl)) rfl) (by rw [hb1]; rfl))))))
 exact Xb rfl (dn (re rfl func46 rfl (Xq rfl Xe) rfl ⟨_, rfl, rfl, z.ky kp0⟩))
def spec_FloatBits.b1 (y8 : Int × Nat) (x19 : Nat × Int) : Option ((Nat × Int) ⊕ Int) :=
 (if ((fcmp .f64 x19.1 (4607182418800017408 : Nat) == some .lt) && (decide (x19.2 > (-1022 : Int)))) = true then (some (Sum.inl ((far .mul x19.1 (4611686018427387904 : Nat)), (IntKind.wrap .i64 (x19.2 - (1 : Int)))))) else ((if (fcmp .f64 x19.1 (4607182418800017408 : Nat) == some .lt) = true then ((floatToIntVal .f64 (far .mul x19.1 (4841369599423283200 : Nat)) .u64).bind fun r27 => (some (ior .u64 y8.1 r27))) else ((floatToIntVal .f64 (far .mul (far .sub x19.1 (4607182418800017408 : Nat)) (4841369599423283200 : Nat)) .u64).bind fun r31 => (some (ior .u64 (ior .u64 y8.1 (ishl .u64 (IntKind.wrap .u64 (IntKind.wrap .i64 (x19.2 + (1023 : Int)))) (52 : Int))) r31)))).bind fun o => some (Sum.inr o)))
def spec_FloatBits.b0 (y8 : Int × Nat) (x14 : Nat × Int) : Option ((Nat × Int) ⊕ Int) :=
 (if (fcmp .f64 x14.1 (4611686018427387904 : Nat) == some .gt || fcmp .f64 x14.1 (4611686018427387904 : Nat) == some .eq) = true then (some (Sum.inl ((far .quo x14.1 (4611686018427387904 : Nat)), (IntKind.wrap .i64 (x14.2 + (1 : Int)))))) else ((iter (spec_FloatBits.b1 y8) (x14.1, x14.2)).bind fun o => some (Sum.inr o)))
def spec_FloatBits.f (a0 : Nat) : Option (Int) :=
 (if (fcmp .f64 a0 a0 != some .eq) = true then (some (9221120237041090560 : Int)) else ((if (fcmp .f64 a0 (0 : Nat) == some .lt) = true then (some true) else ((if (fcmp .f64 a0 (0 : Nat) == some .eq) = true then (some (fcmp .f64 (far .quo (4607182418800017408 : Nat) a0) (0 : Nat) == some .lt)) else (some false)).bind fun y3 => (some y3))).bind fun y2 => ((if y2 = true then (some ((9223372036854775808 : Int), (fneg a0))) else (some ((0 : Int), a0))).bind fun y8 => (if (fcmp .f64 y8.2 (0 : Nat) == some .eq) = true then (some y8.1) else (if (fcmp .f64 y8.2 (9218868437227405311 : Nat) == some .gt) = true then (some (ior .u64 y8.1 (9218868437227405312 : Int))) else (iter (spec_FloatBits.b0 y8) (y8.2, (0 : Int))))))))
def spec_FloatBits.Q (w : World) (F : Nat → Prop) (r : Int) (v : Value) (w' : World) : Prop :=
 v = (.int .u64 r) ∧ Ky [] w w'
theorem spec_FloatBits.calls (a0 : Nat) (w : World) (F : Nat → Prop) (w0_0 : Value) (h0_0 : Kd.flt.rd w [w0_0] a0 F) (r : Int) (m : spec_FloatBits.f a0 = some r) :
  Calls prog 70 #[w0_0] w (RT (spec_FloatBits.Q w F) r) := by
 obtain ⟨s0, rfl, kp0, z⟩ := Xj w F
 have A0_0 := fl_of h0_0
 refine Xd (args := [w0_0]) func70 ntmps70 rfl rfl m ?_
 unfold spec_FloatBits.f
 refine sr (Xb rfl (dn (sq (sr (Xp w0_0 rfl (Xp w0_0 rfl (fq_ A0_0 A0_0 rfl rfl rfl rfl rfl rfl rfl rfl (dn (cd rfl (fun h1 => ?_) (fun h1 => ?_))))))))))
 ·
  exact sr (Xb rfl (dn (re rfl func70 rfl (Xq rfl Xe) rfl ⟨_, rfl, rfl, z.ky kp0⟩)))
 refine sk (sr (Xb rfl (dn (sr (Xp w0_0 rfl (Xy w0_0 rfl (dn (sq (sr (Xp w0_0 rfl (fq_ A0_0 (fl_c rfl) rfl rfl rfl rfl rfl rfl rfl rfl (Xb rfl (ji [] (fun (y2 : Bool) e w => ∃ (s : St) (e0 : Env), w = s.w ∧ e = upd (upd (upd (upd e0 0 w0_0) 3 (.int .u64 (0 : Int))) 4 w0_0) 20 (.bool y2) ∧ Kp s0 s) (fun Gj2 Kj2 => ?_) ?_)))))))))))))
 ·
  rcases bft (fcmp .f64 a0 (0 : Nat) == some .lt) with hb2 | hb2
  ·
   refine Xs hb2 ?_
   rw [if_pos hb2]
   exact Xf rfl (Xf rfl (Xf rfl (Xf rfl (Xf rfl (Xf rfl (Xf rfl (Xb rfl (Kj2 _ _ _ ⟨s0, _, rfl, (ue (ue (ue (ue rfl rfl) rfl) rfl) rfl), kp0⟩))))))))
  refine Xs hb2 ?_
  rw [if_neg (by rw [hb2]; decide)]
  refine Xp w0_0 rfl (fq_ A0_0 (fl_c rfl) rfl rfl rfl rfl rfl rfl rfl rfl (Xb rfl (ji [10] (fun (y3 : Bool) e w => ∃ (s : St) (e0 : Env), w = s.w ∧ e = upd (upd (upd (upd (upd e0 0 w0_0) 3 (.int .u64 (0 : Int))) 4 w0_0) 12 (.bool false)) 19 (.bool y3) ∧ Kp s0 s) (fun Gj3 Kj3 => ?_) ?_)))
  ·
   rcases bft (fcmp .f64 a0 (0 : Nat) == some .eq) with hb3 | hb3
   ·
    refine Xs hb3 ?_
    rw [if_pos hb3]
    refine Xp w0_0 rfl (fa_ (fl_c rfl) A0_0 (by simp) rfl rfl rfl rfl rfl rfl rfl (fun v4 s4 p4 A4 => ?_))
    refine fq_ A4 (fl_c rfl) rfl rfl rfl rfl rfl rfl rfl rfl (Xb rfl ?_)
    exact Kj3 _ _ _ ⟨s4, _, rfl, (ue (ue (ue (ue (ue rfl rfl) rfl) rfl) rfl) rfl), (kp0.st p4 rfl)⟩
   refine Xs hb3 ?_
   rw [if_neg (by rw [hb3]; decide)]
   exact Xf rfl (Xf rfl (Xf rfl (Xb rfl (Kj3 _ _ _ ⟨s0, _, rfl, (ue (ue (ue (ue (ue rfl rfl) rfl) rfl) rfl) rfl), kp0⟩))))
  rintro y3 _ _ ⟨s6, _, rfl, rfl, Ky3⟩
  exact Xb rfl (Kj2 _ _ _ ⟨s6, _, rfl, (ue (ue (ue (ue rfl rfl) rfl) rfl) rfl), Ky3⟩)
 rintro y2 _ _ ⟨s7, _, rfl, rfl, Ky2⟩
 refine dn (jc (fun (y8 : Int × Nat) e w => ∃ (s : St) (e0 : Env) (uy8_0 : Value), w = s.w ∧ e = upd (upd e0 3 (.int .u64 y8.1)) 4 uy8_0 ∧ Kp s0 s ∧ FL uy8_0 y8.2) (fun Gj8 Kj8 => ?_) ?_)
 ·
  refine cd rfl (fun h9 => ?_) (fun h9 => ?_)
  ·
   refine sr (Xb rfl (dn (rg (Xp w0_0 rfl (fng_ A0_0 rfl rfl rfl rfl rfl rfl (fun v10 A10 => ?_))))))
   exact Xy v10 rfl (dn (Kj8 _ _ _ ⟨s7, _, v10, rfl, (ue (ue rfl rfl) rfl), Ky2, A10⟩))
  exact sk (Kj8 _ _ _ ⟨s7, _, w0_0, rfl, (ue (ue rfl rfl) rfl), Ky2, A0_0⟩)
 rintro y8 _ _ ⟨s11, _, uy8_0, rfl, rfl, Ky8, Fy8_0⟩
 refine sq (sr (Xp uy8_0 rfl (fq_ Fy8_0 (fl_c rfl) rfl rfl rfl rfl rfl rfl rfl rfl (dn (cd rfl (fun h12 => ?_) (fun h12 => ?_))))))
 ·
  exact sr (Xb rfl (Xb rfl (dn (re rfl func70 rfl (Xq rfl Xe) rfl ⟨_, rfl, rfl, z.ky Ky8⟩))))
 refine sk (sq (sr (Xp uy8_0 rfl (fq_ Fy8_0 (fl_c rfl) rfl rfl rfl rfl rfl rfl rfl rfl (dn (cd rfl (fun h13 => ?_) (fun h13 => ?_)))))))
 ·
  exact sr (Xb rfl (Xb rfl (Xb rfl (dn (re rfl func70 rfl (Xq rfl Xe) rfl ⟨_, rfl, rfl, z.ky Ky8⟩)))))
 refine sk (sr (Xb rfl (dn (sq (bl (lpI (fun (x14 : Nat × Int) e w => ∃ (s : St) (e0 : Env) (ux14_0 : Value), w = s.w ∧ e = upd (upd (upd e0 3 (.int .u64 y8.1)) 4 ux14_0) 5 (iI x14.2) ∧ Kp s0 s ∧ FL ux14_0 x14.1) ⟨s11, _, uy8_0, rfl, (ue (ue (ue rfl rfl) rfl) rfl), Ky8, Fy8_0⟩ (fun g14 ih14 => ?_)))))))
 rintro x14 _ _ ⟨s15, _, ux14_0, rfl, rfl, Kx14, Fx14_0⟩
 unfold spec_FloatBits.b0
 refine sq (sr (Xp ux14_0 rfl (fq_ Fx14_0 (fl_c rfl) rfl rfl rfl rfl rfl rfl rfl rfl (dn (cd rfl (fun h16 => ?_) (fun h16 => ?_))))))
 ·
  refine sk (bl (sr (Xp ux14_0 rfl (fa_ Fx14_0 (fl_c rfl) (by simp) rfl rfl rfl rfl rfl rfl rfl (fun v17 s17 p17 A17 => ?_)))))
  refine Xy v17 rfl (dn (rg (Xb rfl (Xb rfl (Xb rfl (dn (ib ?_)))))))
  exact lb ih14 ⟨s17, _, v17, rfl, (ue (ue (ue rfl rfl) rfl) rfl), (Kx14.st p17 rfl), A17⟩
 refine xt rfl (sgb (sq (bl (lpI (fun (x19 : Nat × Int) e w => ∃ (s : St) (e0 : Env) (ux19_0 : Value), w = s.w ∧ e = upd (upd (upd e0 3 (.int .u64 y8.1)) 4 ux19_0) 5 (iI x19.2) ∧ Kp s0 s ∧ FL ux19_0 x19.1) ⟨s15, _, ux14_0, rfl, (ue (ue (ue rfl rfl) rfl) rfl), Kx14, Fx14_0⟩ (fun g19 ih19 => ?_)))))
 rintro x19 _ _ ⟨s20, _, ux19_0, rfl, rfl, Kx19, Fx19_0⟩
 unfold spec_FloatBits.b1
 refine sq (sr (Xp ux19_0 rfl (fq_ Fx19_0 (fl_c rfl) rfl rfl rfl rfl rfl rfl rfl rfl (Xb rfl (jy [38, 39, 40, 41] [] 41 (.bool ((fcmp .f64 x19.1 (4607182418800017408 : Nat) == some .lt) && (decide (x19.2 > (-1022 : Int))))) rfl (fun Kg21 => ?_) (fun j21 => ?_))))))
 ·
  rcases bft (fcmp .f64 x19.1 (4607182418800017408 : Nat) == some .lt) with hb21 | hb21
  ·
   exact Xs hb21 (Xb rfl (Xb rfl (Xb rfl (Kg21 _ (Ag.put ((Ag.put ((Ag.put (Ag.base rfl) rfl)) rfl)) rfl) (by rw [hb21]; rfl)))))
  exact Xs hb21 (Xf rfl (Xf rfl (Xb rfl (Kg21 _ (Ag.put ((Ag.put ((Ag.put (Ag.base rfl) rfl)) rfl)) rfl) (by rw [hb21]; rfl)))))
 refine dn (cd rfl (fun h22 => ?_) (fun h22 => ?_))
 ·
  refine sk (bl (sr (Xp ux19_0 rfl (fa_ Fx19_0 (fl_c rfl) (by simp) rfl rfl rfl rfl rfl rfl rfl (fun v23 s23 p23 A23 => ?_)))))
  refine Xy v23 rfl (dn (rg (Xb rfl (Xb rfl (Xb rfl (dn (ib ?_)))))))
  exact lb ih19 ⟨s23, _, v23, rfl, (ue (ue (ue rfl rfl) rfl) rfl), (Kx19.st p23 rfl), A23⟩
 refine xt rfl (sgb (sq (sr (Xp ux19_0 rfl (fq_ Fx19_0 (fl_c rfl) rfl rfl rfl rfl rfl rfl rfl rfl (dn (cd rfl (fun h25 => ?_) (fun h25 => ?_))))))))
 ·
  refine sr (Xb rfl (Xp ux19_0 rfl (fa_ Fx19_0 (fl_c rfl) (by simp) rfl rfl rfl rfl rfl rfl rfl (fun v26 s26 p26 A26 => ?_))))
  refine f2i A26 u88 u58 rfl rfl rfl rfl rfl rfl (fun r27 m27 => ?_)
  refine Xb rfl (Xb rfl (dn ?_))
  exact re rfl func70 rfl (Xq rfl Xe) rfl ⟨_, rfl, rfl, z.ky (Kx19.st p26 rfl)⟩
 refine sk (sr (Xb rfl (Xb rfl (Xb rfl (cv u88 u3 rfl rfl rfl rfl rfl rfl (shlK rfl rfl rfl rfl rfl rfl rfl rfl (Xb rfl (Xp ux19_0 rfl (fa_ Fx19_0 (fl_c rfl) (by simp) rfl rfl rfl rfl rfl rfl rfl (fun v29 s29 p29 A29 => ?_))))))))))
 refine fa_ A29 (fl_c rfl) (by simp) rfl rfl rfl rfl rfl rfl rfl (fun v30 s30 p30 A30 => ?_)
 refine f2i A30 u88 u58 rfl rfl rfl rfl rfl rfl (fun r31 m31 => ?_)
 refine Xb rfl (Xb rfl (dn ?_))
 exact re rfl func70 rfl (Xq rfl Xe) rfl ⟨_, rfl, rfl, z.ky (Kx19.st (Xm p29 p30) rfl)⟩
def spec_ItemOk.f (a0 : Item) : Option (Bool) :=
 (if (((decide (a0.Kind < (0 : Int))) || (decide (a0.Kind > (3 : Int)))) || (decide ((a0.T.length : Int) > (40 : Int)))) = true then (some false) else (if ((a0.Kind != (1 : Int)) && (a0.N != (0 : Int))) = true then (some false) else ((if (a0.Kind != (2 : Int)) = true then ((spec_FloatBits.f a0.F).bind fun r14 => (some (r14 != (0 : Int)))) else (some false)).bind fun y13 => (if y13 = true then (some false) else (some ((a0.Kind == (3 : Int)) || ((a0.T.length : Int) == (0 : Int))))))))
def spec_ItemOk.Q (w : World) (F : Nat → Prop) (r : Bool) (v : Value) (w' : World) : Prop :=
 v = (.bool r) ∧ Ky [] w w'
theorem spec_ItemOk.calls (a0 : Item) (w : World) (F : Nat → Prop) (w0_0 : Value) (w0_1 : Value) (h0_0 : Kd.flt.rd w [w0_0] a0.F F) (h0_1 : Yd.rd w [w0_1] a0.T F) (r : Bool) (m : spec_ItemOk.f a0 = some r) :
  Calls prog 69 #[(.agg #[(iI a0.Kind), (iI a0.N), w0_0, w0_1])] w (RT (spec_ItemOk.Q w F) r) := by
 obtain ⟨s0, rfl, kp0, z⟩ := Xj w F
 have A0_1 := z.rd h0_1
 refine Xd (args := [(.agg #[(iI a0.Kind), (iI a0.N), w0_0, w0_1])]) func69 ntmps69 rfl rfl m ?_
 unfold spec_ItemOk.f
 refine sr (bx' (cs := [(iI a0.Kind), (iI a0.N), w0_0, w0_1]) 40 rfl rfl (fun b2 s2 p2 B2 => ?_))
 refine Xb rfl (dn (sq (sr (Xw fa60_0 rfl (ld' B2 u3 rfl (Xb rfl (Xb rfl (jy [6, 7, 8, 9, 10] [8, 9, 10, 11, 12, 13] 10 (.bool ((decide (a0.Kind < (0 : Int))) || (decide (a0.Kind > (3 : Int))))) rfl (fun Kg4 => ?_) (fun j4 => ?_)))))))))
 ·
  rcases bft (decide (a0.Kind < (0 : Int))) with hb4 | hb4
  ·
   exact Xs hb4 (Xf rfl (Xf rfl (Xf rfl (Xb rfl (Kg4 _ (Ag.put ((Ag.put ((Ag.put ((Ag.put (Ag.base rfl) rfl)) rfl)) rfl)) rfl) (by rw [hb4]; rfl))))))
  exact Xs hb4 (Xw fa60_0 rfl (ld' B2 u3 rfl (Xb rfl (Xb rfl (Kg4 _ (Ag.put ((Ag.put ((Ag.put ((Ag.put (Ag.base rfl) rfl)) rfl)) rfl)) rfl) (by rw [hb4]; rfl))))))
 refine Xb rfl (jy [11, 12, 13, 14, 15, 16] [] 16 (.bool (((decide (a0.Kind < (0 : Int))) || (decide (a0.Kind > (3 : Int)))) || (decide ((a0.T.length : Int) > (40 : Int))))) rfl (fun Kg5 => ?_) (fun j5 => ?_))
 ·
  rcases bft ((decide (a0.Kind < (0 : Int))) || (decide (a0.Kind > (3 : Int)))) with hb5 | hb5
  ·
   exact Xs hb5 (Xf rfl (Xf rfl (Xf rfl (Xf rfl (Xb rfl (Kg5 _ (Ag.put ((Ag.put ((Ag.put ((Ag.put ((Ag.put (Ag.base rfl) rfl)) rfl)) rfl)) rfl)) rfl) (by rw [hb5]; rfl)))))))
  refine Xs hb5 (Xw fa60_3 rfl (ld' B2 u22 rfl ?_))
  exact ln' (A0_1.kp (kp0.st p2 rfl)) u22 rfl (Xb rfl (Xb rfl (Kg5 _ (Ag.put ((Ag.put ((Ag.put ((Ag.put ((Ag.put (Ag.base rfl) rfl)) rfl)) rfl)) rfl)) rfl) (by rw [hb5]; rfl))))
 refine dn (cd rfl (fun h8 => ?_) (fun h8 => ?_))
 ·
  refine sr (Xb rfl (dn ?_))
  exact re rfl func69 rfl (Xq rfl Xe) rfl ⟨_, rfl, rfl, z.ky (kp0.st p2 rfl)⟩
 refine sk (sq (sr (Xw fa60_0 rfl (ld' B2 u3 rfl (Xb rfl (Xb rfl (jy [20, 21, 22, 23, 24] [] 24 (.bool ((a0.Kind != (1 : Int)) && (a0.N != (0 : Int)))) rfl (fun Kg10 => ?_) (fun j10 => ?_))))))))
 ·
  rcases bft (a0.Kind != (1 : Int)) with hb10 | hb10
  ·
   exact Xs hb10 (Xw fa60_1 rfl (ld' B2 u3 rfl (Xb rfl (Xb rfl (Kg10 _ (Ag.put ((Ag.put ((Ag.put ((Ag.put (Ag.base rfl) rfl)) rfl)) rfl)) rfl) (by rw [hb10]; rfl))))))
  exact Xs hb10 (Xf rfl (Xf rfl (Xf rfl (Xb rfl (Kg10 _ (Ag.put ((Ag.put ((Ag.put ((Ag.put (Ag.base rfl) rfl)) rfl)) rfl)) rfl) (by rw [hb10]; rfl))))))
 refine dn (cd rfl (fun h11 => ?_) (fun h11 => ?_))
 ·
  refine sr (Xb rfl (dn ?_))
  exact re rfl func69 rfl (Xq rfl Xe) rfl ⟨_, rfl, rfl, z.ky (kp0.st p2 rfl)⟩
 refine sk (sq (sr (Xw fa60_0 rfl (ld' B2 u3 rfl (Xb rfl (Xb rfl (ji [] (fun (y13 : Bool) e w => ∃ (s : St) (e0 : Env), w = s.w ∧ e = upd (upd e0 1 (pB b2)) 33 (.bool y13) ∧ Kp s0 s ∧ BlF s b2 60 [(iI a0.Kind), (iI a0.N), w0_0, w0_1] 40) (fun Gj13 Kj13 => ?_) ?_)))))))
 ·
  rcases bft (a0.Kind != (2 : Int)) with hb13 | hb13
  ·
   refine Xs hb13 ?_
   rw [if_pos hb13]
   refine Xw fa60_2 rfl (ld' B2 u58 rfl (clV 41 rfl func70 rfl (spec_FloatBits.calls a0.F s2.w (mm [] s2) w0_0 (Xl (s := s2) (fl_of h0_0))) (fun r14 s15 p15 n15 => ?_)))
   refine Xb rfl (Xb rfl ?_)
   exact Kj13 _ _ _ ⟨s15, _, rfl, (ue (ue rfl rfl) rfl), (kp0.st (Xm p2 p15) rfl), (B2.st p15 rfl)⟩
  refine Xs hb13 ?_
  rw [if_neg (by rw [hb13]; decide)]
  refine Xf rfl (Xf rfl (Xf rfl (Xf rfl (Xb rfl ?_))))
  exact Kj13 _ _ _ ⟨s2, _, rfl, (ue (ue rfl rfl) rfl), (kp0.st p2 rfl), B2⟩
 rintro y13 _ _ ⟨s19, _, rfl, rfl, Ky13, By13_b2⟩
 refine dn (cd rfl (fun h21 => ?_) (fun h21 => ?_))
 ·
  exact sr (Xb rfl (dn (re rfl func69 rfl (Xq rfl Xe) rfl ⟨_, rfl, rfl, z.ky Ky13⟩)))
 refine sk (sr (Xw fa60_0 rfl (ld' By13_b2 u3 rfl (Xb rfl (Xb rfl (jy [37, 38, 39, 40, 41, 42] [9] 42 (.bool ((a0.Kind == (3 : Int)) || ((a0.T.length : Int) == (0 : Int)))) rfl (fun Kg22 => ?_) (fun j22 => ?_)))))))
 ·
  rcases bft (a0.Kind == (3 : Int)) with hb22 | hb22
  ·
   exact Xs hb22 (Xf rfl (Xf rfl (Xf rfl (Xf rfl (Xb rfl (Kg22 _ (Ag.put ((Ag.put ((Ag.put ((Ag.put ((Ag.put (Ag.base rfl) rfl)) rfl)) rfl)) rfl)) rfl) (by rw [hb22]; rfl)))))))
  refine Xs hb22 (Xw fa60_3 rfl (ld' By13_b2 u22 rfl ?_))
  exact ln' (A0_1.kp Ky13) u22 rfl (Xb rfl (Xb rfl (Kg22 _ (Ag.put ((Ag.put ((Ag.put ((Ag.put ((Ag.put (Ag.base rfl) rfl)) rfl)) rfl)) rfl)) rfl) (by rw [hb22]; rfl))))
 exact Xb rfl (dn (re rfl func69 rfl (Xq rfl Xe) rfl ⟨_, rfl, rfl, z.ky Ky13⟩))
def spec_KeyOk.f (a0 : Item) : Option (Bool) :=
 ((spec_ItemOk.f a0).bind fun r6 => ((if (r6 && (a0.Kind != (0 : Int))) = true then ((if (fcmp .f64 a0.F (0 : Nat) == some .eq) = true then ((spec_FloatBits.f a0.F).bind fun r13 => (some (r13 != (0 : Int)))) else (some false)).bind fun y12 => (some (!y12))) else (some false)).bind fun y10 => (some y10)))
def spec_KeyOk.Q (w : World) (F : Nat → Prop) (r : Bool) (v : Value) (w' : World) : Prop :=
 v = (.bool r) ∧ Ky [] w w'
theorem spec_KeyOk.calls (a0 : Item) (w : World) (F : Nat → Prop) (w0_0 : Value) (w0_1 : Value) (h0_0 : Kd.flt.rd w [w0_0] a0.F F) (h0_1 : Yd.rd w [w0_1] a0.T F) (r : Bool) (m : spec_KeyOk.f a0 = some r) :
  Calls prog 48 #[(.agg #[(iI a0.Kind), (iI a0.N), w0_0, w0_1])] w (RT (spec_KeyOk.Q w F) r) := by
 obtain ⟨s0, rfl, kp0, z⟩ := Xj w F
 have A0_0 := fl_of h0_0
 refine Xd (args := [(.agg #[(iI a0.Kind), (iI a0.N), w0_0, w0_1])]) func48 ntmps48 rfl rfl m ?_
 unfold spec_KeyOk.f
 refine sr (bx' (cs := [(iI a0.Kind), (iI a0.N), w0_0, w0_1]) 40 rfl rfl (fun b2 s2 p2 B2 => ?_))
 refine Xb rfl (dn (sr (lda' (es := [(iI a0.Kind), (iI a0.N), w0_0, w0_1]) B2 u60 z60 rfl ?_)))
 have K4 := kp0.st p2 rfl
 refine clV 41 rfl func69 rfl (spec_ItemOk.calls a0 s2.w (mm [0] s2) w0_0 w0_1 ((Xl (s := s2) A0_0).sub (D := [0]) rfl) ((z.rd h0_1).kp K4)) (fun r6 s7 p7 n7 => ?_)
 refine Xb rfl (jy [5, 6, 7, 8, 9] [7, 8, 9, 10, 11, 12, 13, 14, 15, 16, 17, 18, 19] 9 (.bool (r6 && (a0.Kind != (0 : Int)))) rfl (fun Kg8 => ?_) (fun j8 => ?_))
 ·
  rcases bft r6 with hb8 | hb8
  ·
   refine Xs hb8 (Xw fa60_0 rfl ?_)
   exact ld' (B2.st p7 rfl) u3 rfl (Xb rfl (Xb rfl (Kg8 _ (Ag.put ((Ag.put ((Ag.put ((Ag.put (Ag.base rfl) rfl)) rfl)) rfl)) rfl) (by rw [hb8]; rfl))))
  exact Xs hb8 (Xf rfl (Xf rfl (Xf rfl (Xb rfl (Kg8 _ (Ag.put ((Ag.put ((Ag.put ((Ag.put (Ag.base rfl) rfl)) rfl)) rfl)) rfl) (by rw [hb8]; rfl))))))
 refine Xb rfl (ji [19] (fun (y10 : Bool) e w => ∃ (s : St) (e0 : Env), w = s.w ∧ e = upd e0 21 (.bool y10) ∧ Kp s0 s) (fun Gj10 Kj10 => ?_) ?_)
 ·
  rcases bft (r6 && (a0.Kind != (0 : Int))) with hb10 | hb10
  ·
   refine Xs hb10 ?_
   rw [if_pos hb10]
   refine Xw fa60_2 rfl ?_
   have A11 := B2.st p7 rfl
   refine ld' A11 u58 rfl (fq_ A0_0 (fl_c rfl) rfl rfl rfl rfl rfl rfl rfl rfl (Xb rfl (ji [17, 18, 19] (fun (y12 : Bool) e w => ∃ (s : St) (e0 : Env), w = s.w ∧ e = upd (upd e0 10 (.bool true)) 19 (.bool y12) ∧ Kp s0 s) (fun Gj12 Kj12 => ?_) ?_)))
   ·
    rcases bft (fcmp .f64 a0.F (0 : Nat) == some .eq) with hb12 | hb12
    ·
     refine Xs hb12 ?_
     rw [if_pos hb12]
     refine Xw fa60_2 rfl (ld' A11 u58 rfl (clV 42 rfl func70 rfl (spec_FloatBits.calls a0.F s7.w (mm [] s7) w0_0 (Xl (s := s7) A0_0)) (fun r13 s14 p14 n14 => ?_)))
     refine Xb rfl (Xb rfl ?_)
     exact Kj12 _ _ _ ⟨s14, _, rfl, (ue (ue rfl rfl) rfl), (K4.st (Xm p7 p14) rfl)⟩
    refine Xs hb12 ?_
    rw [if_neg (by rw [hb12]; decide)]
    refine Xf rfl (Xf rfl (Xf rfl (Xf rfl (Xb rfl ?_))))
    exact Kj12 _ _ _ ⟨s7, _, rfl, (ue (ue rfl rfl) rfl), (K4.st p7 rfl)⟩
   rintro y12 _ _ ⟨s17, _, rfl, rfl, Ky12⟩
   exact Xb rfl (Xb rfl (Kj10 _ _ _ ⟨s17, _, rfl, (ue rfl rfl), Ky12⟩))
  refine Xs hb10 ?_
  rw [if_neg (by rw [hb10]; decide)]
  refine Xf rfl (Xf rfl (Xf rfl (Xf rfl (Xf rfl (Xf rfl (Xf rfl (Xf rfl (Xf rfl (Xf rfl (Xb rfl ?_))))))))))
  exact Kj10 _ _ _ ⟨s7, _, rfl, (ue rfl rfl), (K4.st p7 rfl)⟩
 rintro y10 _ _ ⟨s19, _, rfl, rfl, Ky10⟩
 exact Xb rfl (dn (re rfl func48 rfl (Xq rfl Xe) rfl ⟨_, rfl, rfl, z.ky Ky10⟩))
def spec_FloatRank.f (a0 : Nat) : Option (Int) :=
 ((spec_FloatBits.f a0).bind fun r1 => (if (r1 == (9221120237041090560 : Int)) = true then (some (18446744073709551615 : Int)) else (if (fcmp .f64 a0 (0 : Nat) == some .eq) = true then (some (9223372036854775808 : Int)) else (if ((ishr .u64 r1 (63 : Int)) == (1 : Int)) = true then (some (ixor .u64 (IntKind.max .u64) r1)) else (some (ior .u64 r1 (9223372036854775808 : Int)))))))
def spec_FloatRank.Q (w : World) (F : Nat → Prop) (r : Int) (v : Value) (w' : World) : Prop :=
 v = (.int .u64 r) ∧ Ky [] w w'
theorem spec_FloatRank.calls (a0 : Nat) (w : World) (F : Nat → Prop) (w0_0 : Value) (h0_0 : Kd.flt.rd w [w0_0] a0 F) (r : Int) (m : spec_FloatRank.f a0 = some r) :
  Calls prog 91 #[w0_0] w (RT (spec_FloatRank.Q w F) r) := by
 obtain ⟨s0, rfl, kp0, z⟩ := Xj w F
 have A0_0 := fl_of h0_0
 refine Xd (args := [w0_0]) func91 ntmps91 rfl rfl m ?_
 unfold spec_FloatRank.f
 refine sr (Xb rfl (dn (sr (Xp w0_0 rfl (clV 40 rfl func70 rfl (spec_FloatBits.calls a0 s0.w (mm [] s0) w0_0 (Xl (s := s0) A0_0)) (fun r1 s2 p2 n2 => ?_))))))
 refine Xb rfl (dn (sq (sr (Xb rfl (Xb rfl (dn (cd rfl (fun h3 => ?_) (fun h3 => ?_))))))))
 ·
  refine sr (Xb rfl (dn ?_))
  exact re rfl func91 rfl (Xq rfl Xe) rfl ⟨_, rfl, rfl, z.ky (kp0.st p2 rfl)⟩
 refine sk (sq (sr (Xp w0_0 rfl (fq_ A0_0 (fl_c rfl) rfl rfl rfl rfl rfl rfl rfl rfl (dn (cd rfl (fun h5 => ?_) (fun h5 => ?_)))))))
 ·
  refine sr (Xb rfl (dn ?_))
  exact re rfl func91 rfl (Xq rfl Xe) rfl ⟨_, rfl, rfl, z.ky (kp0.st p2 rfl)⟩
 refine sk (sq (sr (Xb rfl (shrK rfl rfl rfl rfl rfl rfl rfl rfl (Xb rfl (dn (cd rfl (fun h7 => ?_) (fun h7 => ?_))))))))
 ·
  refine sr (Xb rfl (Xb rfl (Xb rfl (dn ?_))))
  exact re rfl func91 rfl (Xq rfl Xe) rfl ⟨_, rfl, rfl, z.ky (kp0.st p2 rfl)⟩
 refine sk (sr (Xb rfl (Xb rfl (Xb rfl (dn ?_)))))
 exact re rfl func91 rfl (Xq rfl Xe) rfl ⟨_, rfl, rfl, z.ky (kp0.st p2 rfl)⟩
def spec_FloatCompare.f (a0 : Nat) (a1 : Nat) : Option (Int) :=
 ((spec_FloatRank.f a0).bind fun r1 => ((spec_FloatRank.f a1).bind fun r3 => (if (decide (r1 < r3)) = true then (some (-1 : Int)) else (if (decide (r1 > r3)) = true then (some (1 : Int)) else (some (0 : Int))))))
def spec_FloatCompare.Q (w : World) (F : Nat → Prop) (r : Int) (v : Value) (w' : World) : Prop :=
 v = (iI r) ∧ Ky [] w w'
theorem spec_FloatCompare.calls (a0 : Nat) (a1 : Nat) (w : World) (F : Nat → Prop) (w0_0 : Value) (w1_0 : Value) (h0_0 : Kd.flt.rd w [w0_0] a0 F) (h1_0 : Kd.flt.rd w [w1_0] a1 F) (r : Int) (m : spec_FloatCompare.f a0 a1 = some r) :
  Calls prog 79 #[w0_0, w1_0] w (RT (spec_FloatCompare.Q w F) r) := by
 obtain ⟨s0, rfl, kp0, z⟩ := Xj w F
 refine Xd (args := [w0_0, w1_0]) func79 ntmps79 rfl rfl m ?_
 unfold spec_FloatCompare.f
 refine sr (Xb rfl (dn (sr (Xp w0_0 rfl (clV 40 rfl func91 rfl (spec_FloatRank.calls a0 s0.w (mm [] s0) w0_0 (Xl (s := s0) (fl_of h0_0))) (fun r1 s2 p2 n2 => ?_))))))
 refine Xb rfl (dn (sr (Xp w1_0 rfl (clV 41 rfl func91 rfl (spec_FloatRank.calls a1 s2.w (mm [] s2) w1_0 (Xl (s := s2) (fl_of h1_0))) (fun r3 s4 p4 n4 => ?_)))))
 refine Xb rfl (dn (sq (sr (Xb rfl (Xb rfl (Xb rfl (dn (cd rfl (fun h5 => ?_) (fun h5 => ?_)))))))))
 ·
  refine sr (Xb rfl (dn ?_))
  exact re rfl func79 rfl (Xq rfl Xe) rfl ⟨_, rfl, rfl, z.ky (kp0.st (Xm p2 p4) rfl)⟩
 refine sk (sq (sr (Xb rfl (Xb rfl (Xb rfl (dn (cd rfl (fun h7 => ?_) (fun h7 => ?_))))))))
 ·
  refine sr (Xb rfl (dn ?_))
  exact re rfl func79 rfl (Xq rfl Xe) rfl ⟨_, rfl, rfl, z.ky (kp0.st (Xm p2 p4) rfl)⟩
 refine sk (sr (Xb rfl (dn ?_)))
 exact re rfl func79 rfl (Xq rfl Xe) rfl ⟨_, rfl, rfl, z.ky (kp0.st (Xm p2 p4) rfl)⟩
def spec_l3texts.b0 (a0 : (List Int)) (a1 : (List Int)) (x3 : Int) : Option (Int ⊕ Int) :=
 (if ((decide (x3 < (a0.length : Int))) && (decide (x3 < (a1.length : Int)))) = true then (if 0 ≤ x3 ∧ x3 < (a0.length : Int) then (if 0 ≤ x3 ∧ x3 < (a1.length : Int) then (if (decide ((at_ a0 x3) < (at_ a1 x3))) = true then (some (Sum.inr (-1 : Int))) else (if 0 ≤ x3 ∧ x3 < (a0.length : Int) then (if 0 ≤ x3 ∧ x3 < (a1.length : Int) then (if (decide ((at_ a0 x3) > (at_ a1 x3))) = true then (some (Sum.inr (1 : Int))) else (some (Sum.inl (IntKind.wrap .i64 (x3 + (1 : Int)))))) else none) else none)) else none) else none) else ((if (decide ((a0.length : Int) < (a1.length : Int))) = true then (some (-1 : Int)) else (if (decide ((a0.length : Int) > (a1.length : Int))) = true then (some (1 : Int)) else (some (0 : Int)))).bind fun o => some (Sum.inr o)))
def spec_l3texts.f (a0 : (List Int)) (a1 : (List Int)) : Option (Int) :=
 (iter (spec_l3texts.b0 a0 a1) (0 : Int))
def spec_l3texts.Q (w : World) (F : Nat → Prop) (r : Int) (v : Value) (w' : World) : Prop :=
 v = (iI r) ∧ Ky [] w w'
theorem spec_l3texts.calls (a0 : (List Int)) (a1 : (List Int)) (w : World) (F : Nat → Prop) (w0_0 : Value) (w1_0 : Value) (h0_0 : Yd.rd w [w0_0] a0 F) (h1_0 : Yd.rd w [w1_0] a1 F) (r : Int) (m : spec_l3texts.f a0 a1 = some r) :
  Calls prog 80 #[w0_0, w1_0] w (RT (spec_l3texts.Q w F) r) := by
 obtain ⟨s0, rfl, kp0, z⟩ := Xj w F
 have A0_0 := z.rd h0_0
 have A1_0 := z.rd h1_0
 refine Xd (args := [w0_0, w1_0]) func80 ntmps80 rfl rfl m ?_
 unfold spec_l3texts.f
 refine sr (Xb rfl (dn (sq (sr (Xb rfl (dn (bl (lpI (fun (x3 : Int) e w => ∃ (s : St) (e0 : Env), w = s.w ∧ e = upd (upd (upd e0 0 w0_0) 1 w1_0) 5 (iI x3) ∧ Kp s0 s) ⟨s0, _, rfl, (ue (ue (ue rfl rfl) rfl) rfl), kp0⟩ (fun g3 ih3 => ?_)))))))))
 rintro x3 _ _ ⟨s4, _, rfl, rfl, Kx3⟩
 unfold spec_l3texts.b0
 refine sq (sr (Xb rfl (Xp w0_0 rfl ?_)))
 have A5 := A0_0.kp Kx3
 refine ln' A5 u22 rfl (Xb rfl (Xb rfl (jy [10, 11, 12, 13, 14, 15] [] 15 (.bool ((decide (x3 < (a0.length : Int))) && (decide (x3 < (a1.length : Int))))) rfl (fun Kg6 => ?_) (fun j6 => ?_))))
 ·
  rcases bft (decide (x3 < (a0.length : Int))) with hb6 | hb6
  ·
   refine Xs hb6 (Xb rfl (Xp w1_0 rfl ?_))
   exact ln' (A1_0.kp Kx3) u22 rfl (Xb rfl (Xb rfl (Kg6 _ (Ag.put ((Ag.put ((Ag.put ((Ag.put ((Ag.put (Ag.base rfl) rfl)) rfl)) rfl)) rfl)) rfl) (by rw [hb6]; rfl))))
  exact Xs hb6 (Xf rfl (Xf rfl (Xf rfl (Xf rfl (Xb rfl (Kg6 _ (Ag.put ((Ag.put ((Ag.put ((Ag.put ((Ag.put (Ag.base rfl) rfl)) rfl)) rfl)) rfl)) rfl) (by rw [hb6]; rfl)))))))
 refine dn (cd rfl (fun h8 => ?_) (fun h8 => ?_))
 ·
  refine sk (sq (bl (sq (sq (zdraw [[], [], [0, 1], [2], [], [], [4, 5], [6], [3, 7]] [some 18, some 19, some 20, some 21, some 22, some 23, some 24, some 25, some 26] [[0], [5], [18, 19], [20], [1], [5], [22, 23], [24], [21, 25]] [0, 1, 2, 3, 4, 5, 6, 7, 8] ⟨by kernel_rfl, by kernel_rfl, by kernel_rfl⟩ (by kernel_rfl) (fun s9 p9 l9 tb9 zd9 => ?_))))))
  have K12 := Kx3.st p9 rfl
  have A13 := A0_0.kp K12
  refine mg fun hg14 => ?_
  obtain ⟨ad14, es14, he14, ce14, ia14⟩ := ix_e A13 rfl hg14.1 hg14.2
  obtain rfl := he14
  have A20 := A1_0.kp K12
  refine mg fun hg21 => ?_
  obtain ⟨ad21, es21, he21, ce21, ia21⟩ := ix_e A20 rfl hg21.1 hg21.2
  obtain rfl := he21
  refine zfin [8] tb9 ((((((((zd9.add 0 18 w0_0 rfl).add 1 19 (iI x3) rfl).add 2 20 (.pointer (some ad14)) rfl).add 3 21 (.int .u8 (at_ a0 x3)) rfl).add 4 22 w1_0 rfl).add 5 23 (iI x3) rfl).add 6 24 (.pointer (some ad21)) rfl).add 7 25 (.int .u8 (at_ a1 x3)) rfl) (Xa (lc0_q ce21 u5 rfl rfl rfl rfl rfl rfl rfl rfl) rfl (Xa (ix_q' A20 u22 z5 hg21.1 hg21.2 ia21 rfl) rfl (Xa (Xg rfl) rfl (Xa (Xu w1_0 rfl) rfl (Xa (lc0_q ce14 u5 rfl rfl rfl rfl rfl rfl rfl rfl) rfl (Xa (ix_q' A13 u22 z5 hg14.1 hg14.2 ia14 rfl) rfl (Xa (Xg rfl) rfl (Xa (Xu w0_0 rfl) rfl Xk)))))))) (by kernel_rfl) (by decide) (Xb rfl (dn (cd rfl (fun h25 => ?_) (fun h25 => ?_))))
  ·
   exact sr (Xb rfl (dn (sgi (re rfl func80 rfl (Xq rfl Xe) rfl ⟨_, rfl, rfl, z.ky K12⟩))))
  refine sk (sq (zdraw [[], [], [0, 1], [2], [], [], [4, 5], [6], [3, 7]] [some 27, some 28, some 29, some 30, some 31, some 32, some 33, some 34, some 35] [[0], [5], [27, 28], [29], [1], [5], [31, 32], [33], [30, 34]] [0, 1, 2, 3, 4, 5, 6, 7, 8] ⟨by kernel_rfl, by kernel_rfl, by kernel_rfl⟩ (by kernel_rfl) (fun s26 p26 l26 tb26 zd26 => ?_)))
  have K29 := K12.st p26 rfl
  have A30 := A0_0.kp K29
  refine mg fun hg31 => ?_
  obtain ⟨ad31, es31, he31, ce31, ia31⟩ := ix_e A30 rfl hg31.1 hg31.2
  obtain rfl := he31
  have A37 := A1_0.kp K29
  refine mg fun hg38 => ?_
  obtain ⟨ad38, es38, he38, ce38, ia38⟩ := ix_e A37 rfl hg38.1 hg38.2
  obtain rfl := he38
  refine zfin [8] tb26 ((((((((zd26.add 0 27 w0_0 rfl).add 1 28 (iI x3) rfl).add 2 29 (.pointer (some ad31)) rfl).add 3 30 (.int .u8 (at_ a0 x3)) rfl).add 4 31 w1_0 rfl).add 5 32 (iI x3) rfl).add 6 33 (.pointer (some ad38)) rfl).add 7 34 (.int .u8 (at_ a1 x3)) rfl) (Xa (lc0_q ce38 u5 rfl rfl rfl rfl rfl rfl rfl rfl) rfl (Xa (ix_q' A37 u22 z5 hg38.1 hg38.2 ia38 rfl) rfl (Xa (Xg rfl) rfl (Xa (Xu w1_0 rfl) rfl (Xa (lc0_q ce31 u5 rfl rfl rfl rfl rfl rfl rfl rfl) rfl (Xa (ix_q' A30 u22 z5 hg31.1 hg31.2 ia31 rfl) rfl (Xa (Xg rfl) rfl (Xa (Xu w0_0 rfl) rfl Xk)))))))) (by kernel_rfl) (by decide) (Xb rfl (dn (cd rfl (fun h42 => ?_) (fun h42 => ?_))))
  ·
   exact sr (Xb rfl (dn (sgi (re rfl func80 rfl (Xq rfl Xe) rfl ⟨_, rfl, rfl, z.ky K29⟩))))
  exact sk (ib (rg (Xb rfl (Xb rfl (Xb rfl (dn (lb ih3 ⟨s26, _, rfl, (ue (ue (ue rfl rfl) rfl) rfl), K29⟩)))))))
 refine xt rfl (sgb (sq (sr (Xp w0_0 rfl (ln' A5 u22 rfl (Xp w1_0 rfl ?_))))))
 have A43 := A1_0.kp Kx3
 refine ln' A43 u22 rfl (Xb rfl (dn (cd rfl (fun h44 => ?_) (fun h44 => ?_))))
 ·
  exact sr (Xb rfl (dn (re rfl func80 rfl (Xq rfl Xe) rfl ⟨_, rfl, rfl, z.ky Kx3⟩)))
 refine sk (sq (sr (Xp w0_0 rfl (ln' A5 u22 rfl (Xp w1_0 rfl (ln' A43 u22 rfl (Xb rfl (dn (cd rfl (fun h45 => ?_) (fun h45 => ?_))))))))))
 ·
  exact sr (Xb rfl (dn (re rfl func80 rfl (Xq rfl Xe) rfl ⟨_, rfl, rfl, z.ky Kx3⟩)))
 exact sk (sr (Xb rfl (dn (re rfl func80 rfl (Xq rfl Xe) rfl ⟨_, rfl, rfl, z.ky Kx3⟩))))
def spec_ItemCompare.f (a0 : Item) (a1 : Item) : Option (Int) :=
 ((spec_ItemOk.f a0).bind fun r10 => ((if (!r10) = true then (some true) else ((spec_ItemOk.f a1).bind fun r19 => (some (!r19)))).bind fun y12 => (if y12 = true then (some (-2 : Int)) else (if (a0.Kind != a1.Kind) = true then (if (decide (a0.Kind < a1.Kind)) = true then (some (-1 : Int)) else (some (1 : Int))) else (if (a0.N != a1.N) = true then (if (decide (a0.N < a1.N)) = true then (some (-1 : Int)) else (some (1 : Int))) else ((spec_FloatCompare.f a0.F a1.F).bind fun r32 => (if (r32 != (0 : Int)) = true then (some r32) else ((spec_l3texts.f a0.T a1.T).bind fun r41 => (some r41)))))))))
def spec_ItemCompare.Q (w : World) (F : Nat → Prop) (r : Int) (v : Value) (w' : World) : Prop :=
 v = (iI r) ∧ Ky [] w w'
theorem spec_ItemCompare.calls (a0 : Item) (a1 : Item) (w : World) (F : Nat → Prop) (w0_0 : Value) (w0_1 : Value) (w1_0 : Value) (w1_1 : Value) (h0_0 : Kd.flt.rd w [w0_0] a0.F F) (h0_1 : Yd.rd w [w0_1] a0.T F) (h1_0 : Kd.flt.rd w [w1_0] a1.F F) (h1_1 : Yd.rd w [w1_1] a1.T F) (r : Int) (m : spec_ItemCompare.f a0 a1 = some r) :
  Calls prog 61 #[(.agg #[(iI a0.Kind), (iI a0.N), w0_0, w0_1]), (.agg #[(iI a1.Kind), (iI a1.N), w1_0, w1_1])] w (RT (spec_ItemCompare.Q w F) r) := by
 obtain ⟨s0, rfl, kp0, z⟩ := Xj w F
 have A0_0 := fl_of h0_0
 have A0_1 := z.rd h0_1
 have A1_0 := fl_of h1_0
 have A1_1 := z.rd h1_1
 refine Xd (args := [(.agg #[(iI a0.Kind), (iI a0.N), w0_0, w0_1]), (.agg #[(iI a1.Kind), (iI a1.N), w1_0, w1_1])]) func61 ntmps61 rfl rfl m ?_
 unfold spec_ItemCompare.f
 refine sr (bx' (cs := [(iI a0.Kind), (iI a0.N), w0_0, w0_1]) 40 rfl rfl (fun b3 s3 p3 B3 => ?_))
 refine bx' (cs := [(iI a1.Kind), (iI a1.N), w1_0, w1_1]) 41 rfl rfl (fun b5 s5 p5 B5 => ?_)
 refine Xb rfl (dn (sq (sr ?_)))
 have A7 := B3.st p5 rfl
 refine lda' (es := [(iI a0.Kind), (iI a0.N), w0_0, w0_1]) A7 u60 z60 rfl ?_
 have K8 := kp0.st (Xm p3 p5) rfl
 refine clV 42 rfl func69 rfl (spec_ItemOk.calls a0 s5.w (mm [0] s5) w0_0 w0_1 ((Xl (s := s5) A0_0).sub (D := [0]) rfl) (A0_1.kp K8)) (fun r10 s11 p11 n11 => ?_)
 refine Xb rfl (Xb rfl (ji [] (fun (y12 : Bool) e w => ∃ (s : St) (e0 : Env), w = s.w ∧ e = upd (upd (upd e0 2 (pB b3)) 3 (pB b5)) 13 (.bool y12) ∧ Kp s0 s ∧ BlF s b5 60 [(iI a1.Kind), (iI a1.N), w1_0, w1_1] 41 ∧ BlF s b3 60 [(iI a0.Kind), (iI a0.N), w0_0, w0_1] 40) (fun Gj12 Kj12 => ?_) ?_))
 ·
  rcases bft (!r10) with hb12 | hb12
  ·
   refine Xs hb12 ?_
   rw [if_pos hb12]
   refine Xf rfl (Xf rfl (Xf rfl (Xb rfl ?_)))
   exact Kj12 _ _ _ ⟨s11, _, rfl, (ue (ue (ue rfl rfl) rfl) rfl), (K8.st p11 rfl), (B5.st p11 rfl), (A7.st p11 rfl)⟩
  refine Xs hb12 ?_
  rw [if_neg (by rw [hb12]; decide)]
  have A16 := B5.st p11 rfl
  refine lda' (es := [(iI a1.Kind), (iI a1.N), w1_0, w1_1]) A16 u60 z60 rfl ?_
  have K17 := K8.st p11 rfl
  refine clV 43 rfl func69 rfl (spec_ItemOk.calls a1 s11.w (mm [0] s11) w1_0 w1_1 ((Xl (s := s11) A1_0).sub (D := [0]) rfl) (A1_1.kp K17)) (fun r19 s20 p20 n20 => ?_)
  refine Xb rfl (Xb rfl ?_)
  exact Kj12 _ _ _ ⟨s20, _, rfl, (ue (ue (ue rfl rfl) rfl) rfl), (K17.st p20 rfl), (A16.st p20 rfl), (A7.st (Xm p11 p20) rfl)⟩
 rintro y12 _ _ ⟨s24, _, rfl, rfl, Ky12, By12_b5, By12_b3⟩
 refine dn (cd rfl (fun h27 => ?_) (fun h27 => ?_))
 ·
  exact sr (Xb rfl (dn (re rfl func61 rfl (Xq rfl Xe) rfl ⟨_, rfl, rfl, z.ky Ky12⟩)))
 refine sk (sq (sr (Xw fa60_0 rfl (ld' By12_b3 u3 rfl (Xw fa60_0 rfl (ld' By12_b5 u3 rfl (Xb rfl (dn (cd rfl (fun h28 => ?_) (fun h28 => ?_))))))))))
 ·
  refine sq (sr (Xw fa60_0 rfl (ld' By12_b3 u3 rfl (Xw fa60_0 rfl (ld' By12_b5 u3 rfl (Xb rfl (dn (cd rfl (fun h29 => ?_) (fun h29 => ?_)))))))))
  ·
   exact sr (Xb rfl (dn (re rfl func61 rfl (Xq rfl Xe) rfl ⟨_, rfl, rfl, z.ky Ky12⟩)))
  exact sk (sr (Xb rfl (dn (re rfl func61 rfl (Xq rfl Xe) rfl ⟨_, rfl, rfl, z.ky Ky12⟩))))
 refine sk (sq (sr (Xw fa60_1 rfl (ld' By12_b3 u3 rfl (Xw fa60_1 rfl (ld' By12_b5 u3 rfl (Xb rfl (dn (cd rfl (fun h30 => ?_) (fun h30 => ?_))))))))))
 ·
  refine sq (sr (Xw fa60_1 rfl (ld' By12_b3 u3 rfl (Xw fa60_1 rfl (ld' By12_b5 u3 rfl (Xb rfl (dn (cd rfl (fun h31 => ?_) (fun h31 => ?_)))))))))
  ·
   exact sr (Xb rfl (dn (re rfl func61 rfl (Xq rfl Xe) rfl ⟨_, rfl, rfl, z.ky Ky12⟩)))
  exact sk (sr (Xb rfl (dn (re rfl func61 rfl (Xq rfl Xe) rfl ⟨_, rfl, rfl, z.ky Ky12⟩))))
 refine sk (sr (Xw fa60_2 rfl (ld' By12_b3 u58 rfl (Xw fa60_2 rfl (ld' By12_b5 u58 rfl (clV 44 rfl func79 rfl (spec_FloatCompare.calls a0.F a1.F s24.w (mm [] s24) w0_0 w1_0 (Xl (s := s24) A0_0) (Xl (s := s24) A1_0)) (fun r32 s33 p33 n33 => ?_)))))))
 refine Xb rfl (dn (sq (sr (Xb rfl (Xb rfl (dn (cd rfl (fun h34 => ?_) (fun h34 => ?_))))))))
 ·
  refine sr (Xb rfl (Xb rfl (dn ?_)))
  exact re rfl func61 rfl (Xq rfl Xe) rfl ⟨_, rfl, rfl, z.ky (Ky12.st p33 rfl)⟩
 refine sk (sr (Xw fa60_3 rfl ?_))
 refine ld' (By12_b3.st p33 rfl) u22 rfl (Xw fa60_3 rfl ?_)
 refine ld' (By12_b5.st p33 rfl) u22 rfl ?_
 have K38 := Ky12.st p33 rfl
 refine clV 45 rfl func80 rfl (spec_l3texts.calls a0.T a1.T s33.w (mm [0] s33) w0_1 w1_1 (A0_1.kp K38) (A1_1.kp K38)) (fun r41 s42 p42 n42 => ?_)
 refine Xb rfl (dn ?_)
 exact re rfl func61 rfl (Xq rfl Xe) rfl ⟨_, rfl, rfl, z.ky (K38.st p42 rfl)⟩
def spec_SpanOk.f (a0 : Span) : Option (Bool) :=
 ((spec_KeyOk.f a0.From).bind fun r7 => ((if r7 = true then ((spec_KeyOk.f a0.To).bind fun r13 => (some r13)) else (some false)).bind fun y9 => ((if y9 = true then ((spec_ItemCompare.f a0.From a0.To).bind fun r24 => (some (decide (r24 ≤ (0 : Int))))) else (some false)).bind fun y21 => (some y21))))
def spec_SpanOk.Q (w : World) (F : Nat → Prop) (r : Bool) (v : Value) (w' : World) : Prop :=
 v = (.bool r) ∧ Ky [] w w'
theorem spec_SpanOk.calls (a0 : Span) (w : World) (F : Nat → Prop) (w0_0 : Value) (w0_1 : Value) (w0_2 : Value) (w0_3 : Value) (h0_0 : Kd.flt.rd w [w0_0] a0.From.F F) (h0_1 : Yd.rd w [w0_1] a0.From.T F) (h0_2 : Kd.flt.rd w [w0_2] a0.To.F F) (h0_3 : Yd.rd w [w0_3] a0.To.T F) (r : Bool) (m : spec_SpanOk.f a0 = some r) :
  Calls prog 47 #[(.agg #[(iI a0.From.Kind), (iI a0.From.N), w0_0, w0_1, (iI a0.To.Kind), (iI a0.To.N), w0_2, w0_3])] w (RT (spec_SpanOk.Q w F) r) := by
 obtain ⟨s0, rfl, kp0, z⟩ := Xj w F
 have A0_0 := fl_of h0_0
 have A0_1 := z.rd h0_1
 have A0_2 := fl_of h0_2
 have A0_3 := z.rd h0_3
 refine Xd (args := [(.agg #[(iI a0.From.Kind), (iI a0.From.N), w0_0, w0_1, (iI a0.To.Kind), (iI a0.To.N), w0_2, w0_3])]) func47 ntmps47 rfl rfl m ?_
 unfold spec_SpanOk.f
 refine sr (bx' (cs := [(iI a0.From.Kind), (iI a0.From.N), w0_0, w0_1, (iI a0.To.Kind), (iI a0.To.N), w0_2, w0_3]) 40 rfl rfl (fun b3 s3 p3 B3 => ?_))
 refine Xb rfl (dn (sr (Xw fa62_0 rfl (lda' (es := [(iI a0.From.Kind), (iI a0.From.N), w0_0, w0_1]) B3 u60 z60 rfl ?_))))
 have K5 := kp0.st p3 rfl
 refine clV 41 rfl func48 rfl (spec_KeyOk.calls a0.From s3.w (mm [0] s3) w0_0 w0_1 ((Xl (s := s3) A0_0).sub (D := [0]) rfl) (A0_1.kp K5)) (fun r7 s8 p8 n8 => ?_)
 refine Xb rfl (ji [8, 9, 10, 11, 12, 13, 14, 15, 16] (fun (y9 : Bool) e w => ∃ (s : St) (e0 : Env), w = s.w ∧ e = upd (upd e0 1 (pB b3)) 10 (.bool y9) ∧ Kp s0 s ∧ BlF s b3 62 [(iI a0.From.Kind), (iI a0.From.N), w0_0, w0_1, (iI a0.To.Kind), (iI a0.To.N), w0_2, w0_3] 40) (fun Gj9 Kj9 => ?_) ?_)
 ·
  rcases bft r7 with hb9 | hb9
  ·
   refine Xs hb9 ?_
   rw [if_pos hb9]
   refine Xw fa62_1 rfl ?_
   have A10 := B3.st p8 rfl
   refine lda' (es := [(iI a0.To.Kind), (iI a0.To.N), w0_2, w0_3]) A10 u60 z60 rfl ?_
   have K11 := K5.st p8 rfl
   refine clV 42 rfl func48 rfl (spec_KeyOk.calls a0.To s8.w (mm [0] s8) w0_2 w0_3 ((Xl (s := s8) A0_2).sub (D := [0]) rfl) (A0_3.kp K11)) (fun r13 s14 p14 n14 => ?_)
   exact Xb rfl (Kj9 _ _ _ ⟨s14, _, rfl, (ue (ue rfl rfl) rfl), (K11.st p14 rfl), (A10.st p14 rfl)⟩)
  refine Xs hb9 ?_
  rw [if_neg (by rw [hb9]; decide)]
  refine Xf rfl (Xf rfl (Xf rfl (Xb rfl ?_)))
  exact Kj9 _ _ _ ⟨s8, _, rfl, (ue (ue rfl rfl) rfl), (K5.st p8 rfl), (B3.st p8 rfl)⟩
 rintro y9 _ _ ⟨s19, _, rfl, rfl, Ky9, By9_b3⟩
 refine Xb rfl (ji [16] (fun (y21 : Bool) e w => ∃ (s : St) (e0 : Env), w = s.w ∧ e = upd e0 18 (.bool y21) ∧ Kp s0 s) (fun Gj21 Kj21 => ?_) ?_)
 ·
  rcases bft y9 with hb21 | hb21
  ·
   refine Xs hb21 ?_
   rw [if_pos hb21]
   refine Xw fa62_0 rfl (lda' (es := [(iI a0.From.Kind), (iI a0.From.N), w0_0, w0_1]) By9_b3 u60 z60 rfl (Xw fa62_1 rfl (lda' (es := [(iI a0.To.Kind), (iI a0.To.N), w0_2, w0_3]) By9_b3 u60 z60 rfl ?_)))
   refine clV 43 rfl func61 rfl (spec_ItemCompare.calls a0.From a0.To s19.w (mm [0] s19) w0_0 w0_1 w0_2 w0_3 ((Xl (s := s19) A0_0).sub (D := [0]) rfl) (A0_1.kp Ky9) ((Xl (s := s19) A0_2).sub (D := [0]) rfl) (A0_3.kp Ky9)) (fun r24 s25 p25 n25 => ?_)
   refine Xb rfl (Xb rfl ?_)
   exact Kj21 _ _ _ ⟨s25, _, rfl, (ue rfl rfl), (Ky9.st p25 rfl)⟩
  refine Xs hb21 ?_
  rw [if_neg (by rw [hb21]; decide)]
  exact Xf rfl (Xf rfl (Xf rfl (Xf rfl (Xf rfl (Xf rfl (Xb rfl (Kj21 _ _ _ ⟨s19, _, rfl, (ue rfl rfl), Ky9⟩)))))))
 rintro y21 _ _ ⟨s27, _, rfl, rfl, Ky21⟩
 exact Xb rfl (dn (re rfl func47 rfl (Xq rfl Xe) rfl ⟨_, rfl, rfl, z.ky Ky21⟩))
def spec_TracksOk.b3 (a0 : (List Track)) (x3 : Int) (x71 : Int) : Option (Int ⊕ (Int ⊕ Bool)) :=
 (if (decide (x71 < x3)) = true then (if 0 ≤ x71 ∧ x71 < (a0.length : Int) then (if ((at_ a0 x71).Xid == (at_ a0 x3).Xid) = true then (some (Sum.inr (Sum.inr false))) else (some (Sum.inl (IntKind.wrap .i64 (x71 + (1 : Int)))))) else none) else ((some (Sum.inl (IntKind.wrap .i64 (x3 + (1 : Int))))).bind fun o => some (Sum.inr o)))
def spec_TracksOk.b2 (a0 : (List Track)) (x3 : Int) (x56 : Int) : Option (Int ⊕ (Int ⊕ Bool)) :=
 (if (decide (x56 < (((at_ a0 x3).Writes).length : Int))) = true then (if 0 ≤ x56 ∧ x56 < (((at_ a0 x3).Writes).length : Int) then ((spec_KeyOk.f (at_ ((at_ a0 x3).Writes) x56)).bind fun r63 => (if (!r63) = true then (some (Sum.inr (Sum.inr false))) else (some (Sum.inl (IntKind.wrap .i64 (x56 + (1 : Int))))))) else none) else ((iter (spec_TracksOk.b3 a0 x3) (0 : Int)).bind fun o => some (Sum.inr o)))
def spec_TracksOk.b1 (a0 : (List Track)) (x3 : Int) (x36 : Int) : Option (Int ⊕ (Int ⊕ Bool)) :=
 (if (decide (x36 < (((at_ a0 x3).Reads).length : Int))) = true then (if 0 ≤ x36 ∧ x36 < (((at_ a0 x3).Reads).length : Int) then ((spec_SpanOk.f (Span.mk ((at_ ((at_ a0 x3).Reads) x36).From) ((at_ ((at_ a0 x3).Reads) x36).To))).bind fun r48 => (if (!r48) = true then (some (Sum.inr (Sum.inr false))) else (some (Sum.inl (IntKind.wrap .i64 (x36 + (1 : Int))))))) else none) else ((iter (spec_TracksOk.b2 a0 x3) (0 : Int)).bind fun o => some (Sum.inr o)))
def spec_TracksOk.b0 (a0 : (List Track)) (x3 : Int) : Option (Int ⊕ Bool) :=
 (if (decide (x3 < (a0.length : Int))) = true then (if 0 ≤ x3 ∧ x3 < (a0.length : Int) then ((spec_l5in.f ((at_ a0 x3).Xid) (1 : Int) (400 : Int)).bind fun r17 => (if ((((((!r17) || (decide ((at_ a0 x3).Begun < (1 : Int)))) || (((at_ a0 x3).Ended != (0 : Int)) && (decide ((at_ a0 x3).Ended ≤ (at_ a0 x3).Begun)))) || (decide ((((at_ a0 x3).Reads).length : Int) > (6 : Int)))) || ((at_ a0 x3).All && (decide ((((at_ a0 x3).Reads).length : Int) > (0 : Int))))) || (decide ((((at_ a0 x3).Writes).length : Int) > (200 : Int)))) = true then (some (Sum.inr false)) else (iter (spec_TracksOk.b1 a0 x3) (0 : Int)))) else none) else ((some true).bind fun o => some (Sum.inr o)))
def spec_TracksOk.f (a0 : (List Track)) : Option (Bool) :=
 (if (decide ((a0.length : Int) > (64 : Int))) = true then (some false) else (iter (spec_TracksOk.b0 a0) (0 : Int)))
def spec_TracksOk.Q (w : World) (F : Nat → Prop) (r : Bool) (v : Value) (w' : World) : Prop :=
 v = (.bool r) ∧ Ky [] w w'
theorem spec_TracksOk.calls (a0 : (List Track)) (w : World) (F : Nat → Prop) (w0_0 : Value) (h0_0 : Yc.rd w [w0_0] a0 F) (r : Bool) (m : spec_TracksOk.f a0 = some r) :
  Calls prog 24 #[w0_0] w (RT (spec_TracksOk.Q w F) r) := by
 obtain ⟨s0, rfl, kp0, z⟩ := Xj w F
 have A0_0 := z.rd h0_0
 refine Xd (args := [w0_0]) func24 ntmps24 rfl rfl m ?_
 unfold spec_TracksOk.f
 refine sr (Xb rfl (dn (sq (sr (Xp w0_0 rfl (ln' A0_0 u30 rfl (Xb rfl (dn (cd rfl (fun h2 => ?_) (fun h2 => ?_))))))))))
 ·
  exact sr (Xb rfl (dn (re rfl func24 rfl (Xq rfl Xe) rfl ⟨_, rfl, rfl, z.ky kp0⟩)))
 refine sk (sq (sr (Xb rfl (dn (bl (lpI (fun (x3 : Int) e w => ∃ (s : St) (e0 : Env), w = s.w ∧ e = upd (upd e0 0 w0_0) 3 (iI x3) ∧ Kp s0 s) ⟨s0, _, rfl, (ue (ue rfl rfl) rfl), kp0⟩ (fun g3 ih3 => ?_)))))))
 rintro x3 _ _ ⟨s4, _, rfl, rfl, Kx3⟩
 unfold spec_TracksOk.b0
 refine sq (sr (Xb rfl (Xp w0_0 rfl ?_)))
 have A5 := A0_0.kp Kx3
 refine ln' A5 u30 rfl (Xb rfl (dn (cd rfl (fun h6 => ?_) (fun h6 => ?_))))
 ·
  refine sk (sq (bl (sr (Xp w0_0 rfl (Xb rfl (ix' A5 u30 z27 rfl (fun ad7 es7 h0_7 h1_7 he7 ce7 ia7 => ?_)))))))
  obtain ⟨v7_0, v7_1, rfl, A7_0, A7_1⟩ := op27 he7
  refine lca ce7 u27 z27 rfl rfl rfl rfl rfl rfl rfl (al (cs := [(iI 0), (iI 0), (iI 0), (.bool false), (.slice none 0 0), (.slice none 0 0), (.bool false), (.bool false)]) 40 rfl rfl rfl rfl rfl o27 rfl (fun b11 s11 p11 B11 => ?_))
  have A13 := A7_1.st p11 rfl
  have A14 := A7_0.st p11 rfl
  refine sva' (vs := [(iI ((at_ a0 x3).Xid)), (iI ((at_ a0 x3).Begun)), (iI ((at_ a0 x3).Ended)), (.bool ((at_ a0 x3).All)), v7_0, v7_1, (.bool ((at_ a0 x3).In)), (.bool ((at_ a0 x3).Out))]) B11 z27 rfl (Xc rfl (Xc rfl (Xc rfl (Xc rfl (Xc A14.one (Xc A13.one (Xc rfl (Xc rfl Xx)))))))) rfl (fun s15 p15 B15 => ?_)
  refine dn (sq (sr (Xw fa27_0 rfl (ld' B15 u3 rfl (clV 41 rfl func46 rfl (spec_l5in.calls ((at_ a0 x3).Xid) (1 : Int) (400 : Int) s15.w (mm [] s15)) (fun r17 s18 p18 n18 => ?_))))))
  refine Xb rfl (Xb rfl (jy [25, 26, 27, 28, 29] [9, 10, 11, 12, 13, 14, 15, 16, 17, 18, 19, 20, 21, 22, 23, 24, 25, 26, 27, 28, 29, 30, 31, 32, 33, 34, 35, 36, 37, 38, 39, 40, 41, 42] 29 (.bool ((!r17) || (decide ((at_ a0 x3).Begun < (1 : Int))))) rfl (fun Kg19 => ?_) (fun j19 => ?_)))
  ·
   rcases bft (!r17) with hb19 | hb19
   ·
    exact Xs hb19 (Xf rfl (Xf rfl (Xf rfl (Xb rfl (Kg19 _ (Ag.put ((Ag.put ((Ag.put ((Ag.put (Ag.base rfl) rfl)) rfl)) rfl)) rfl) (by rw [hb19]; rfl))))))
   refine Xs hb19 (Xw fa27_1 rfl ?_)
   exact ld' (B15.st p18 rfl) u3 rfl (Xb rfl (Xb rfl (Kg19 _ (Ag.put ((Ag.put ((Ag.put ((Ag.put (Ag.base rfl) rfl)) rfl)) rfl)) rfl) (by rw [hb19]; rfl))))
  refine Xb rfl (jy [30, 31, 32, 33, 34, 35, 36, 37, 38, 39, 40, 41] [21, 22, 23, 24, 25, 26, 27, 28, 29, 30, 31, 32, 33, 34, 35, 36, 37, 38, 39, 40, 41, 42] 41 (.bool (((!r17) || (decide ((at_ a0 x3).Begun < (1 : Int)))) || (((at_ a0 x3).Ended != (0 : Int)) && (decide ((at_ a0 x3).Ended ≤ (at_ a0 x3).Begun))))) rfl (fun Kg21 => ?_) (fun j21 => ?_))
  ·
   rcases bft ((!r17) || (decide ((at_ a0 x3).Begun < (1 : Int)))) with hb21 | hb21
   ·
    exact Xs hb21 (Xf rfl (Xf rfl (Xf rfl (Xf rfl (Xf rfl (Xf rfl (Xf rfl (Xf rfl (Xf rfl (Xf rfl (Xb rfl (Kg21 _ (Ag.put ((Ag.put ((Ag.put ((Ag.put ((Ag.put ((Ag.put ((Ag.put ((Ag.put ((Ag.put ((Ag.put ((Ag.put (Ag.base rfl) rfl)) rfl)) rfl)) rfl)) rfl)) rfl)) rfl)) rfl)) rfl)) rfl)) rfl) (by rw [hb21]; rfl)))))))))))))
   refine Xs hb21 (Xw fa27_2 rfl ?_)
   have A22 := B15.st p18 rfl
   refine ld' A22 u3 rfl (Xb rfl (Xb rfl (jy [34, 35, 36, 37, 38, 39, 40] [20, 21, 22, 23, 24, 25, 26, 27, 28, 29, 30, 31, 32, 33, 34, 35, 36, 37, 38, 39, 40, 41, 42] 40 (.bool (((at_ a0 x3).Ended != (0 : Int)) && (decide ((at_ a0 x3).Ended ≤ (at_ a0 x3).Begun)))) rfl (fun Kg23 => ?_) (fun j23 => ?_))))
   ·
    rcases bft ((at_ a0 x3).Ended != (0 : Int)) with hb23 | hb23
    ·
     exact Xs hb23 (Xw fa27_2 rfl (ld' A22 u3 rfl (Xw fa27_1 rfl (ld' A22 u3 rfl (Xb rfl (Xb rfl (Kg23 _ (Ag.put ((Ag.put ((Ag.put ((Ag.put ((Ag.put ((Ag.put (Ag.base rfl) rfl)) rfl)) rfl)) rfl)) rfl)) rfl) (by rw [hb23]; rfl))))))))
    exact Xs hb23 (Xf rfl (Xf rfl (Xf rfl (Xf rfl (Xf rfl (Xb rfl (Kg23 _ (Ag.put ((Ag.put ((Ag.put ((Ag.put ((Ag.put ((Ag.put (Ag.base rfl) rfl)) rfl)) rfl)) rfl)) rfl)) rfl) (by rw [hb23]; rfl))))))))
   exact Xb rfl (Kg21 _ (Ag.put ((Ag.put ((Ag.ov ((Ag.put ((Ag.put ((Ag.put ((Ag.put (Ag.base rfl) rfl)) rfl)) rfl)) rfl)) rfl)) rfl)) rfl) (by rw [hb21]; rfl))
  refine Xb rfl (jy [42, 43, 44, 45, 46, 47] [27, 28, 29, 30, 31, 32, 33, 34, 35, 36, 37, 38, 39, 40, 41, 42] 47 (.bool ((((!r17) || (decide ((at_ a0 x3).Begun < (1 : Int)))) || (((at_ a0 x3).Ended != (0 : Int)) && (decide ((at_ a0 x3).Ended ≤ (at_ a0 x3).Begun)))) || (decide ((((at_ a0 x3).Reads).length : Int) > (6 : Int))))) rfl (fun Kg24 => ?_) (fun j24 => ?_))
  ·
   rcases bft (((!r17) || (decide ((at_ a0 x3).Begun < (1 : Int)))) || (((at_ a0 x3).Ended != (0 : Int)) && (decide ((at_ a0 x3).Ended ≤ (at_ a0 x3).Begun)))) with hb24 | hb24
   ·
    exact Xs hb24 (Xf rfl (Xf rfl (Xf rfl (Xf rfl (Xb rfl (Kg24 _ (Ag.put ((Ag.put ((Ag.put ((Ag.put ((Ag.put (Ag.base rfl) rfl)) rfl)) rfl)) rfl)) rfl) (by rw [hb24]; rfl)))))))
   refine Xs hb24 (Xw fa27_4 rfl ?_)
   exact ld' (B15.st p18 rfl) u24 rfl (ln' (A14.st (Xm p15 p18) rfl) u24 rfl (Xb rfl (Xb rfl (Kg24 _ (Ag.put ((Ag.put ((Ag.put ((Ag.put ((Ag.put (Ag.base rfl) rfl)) rfl)) rfl)) rfl)) rfl) (by rw [hb24]; rfl)))))
  refine Xb rfl (jy [48, 49, 50, 51, 52, 53, 54, 55, 56, 57] [37, 38, 39, 40, 41, 42] 57 (.bool (((((!r17) || (decide ((at_ a0 x3).Begun < (1 : Int)))) || (((at_ a0 x3).Ended != (0 : Int)) && (decide ((at_ a0 x3).Ended ≤ (at_ a0 x3).Begun)))) || (decide ((((at_ a0 x3).Reads).length : Int) > (6 : Int)))) || ((at_ a0 x3).All && (decide ((((at_ a0 x3).Reads).length : Int) > (0 : Int)))))) rfl (fun Kg27 => ?_) (fun j27 => ?_))
  ·
   rcases bft ((((!r17) || (decide ((at_ a0 x3).Begun < (1 : Int)))) || (((at_ a0 x3).Ended != (0 : Int)) && (decide ((at_ a0 x3).Ended ≤ (at_ a0 x3).Begun)))) || (decide ((((at_ a0 x3).Reads).length : Int) > (6 : Int)))) with hb27 | hb27
   ·
    exact Xs hb27 (Xf rfl (Xf rfl (Xf rfl (Xf rfl (Xf rfl (Xf rfl (Xf rfl (Xf rfl (Xb rfl (Kg27 _ (Ag.put ((Ag.put ((Ag.put ((Ag.put ((Ag.put ((Ag.put ((Ag.put ((Ag.put ((Ag.put (Ag.base rfl) rfl)) rfl)) rfl)) rfl)) rfl)) rfl)) rfl)) rfl)) rfl) (by rw [hb27]; rfl)))))))))))
   refine Xs hb27 (Xw fa27_3 rfl ?_)
   have A28 := B15.st p18 rfl
   refine ld' A28 u4 rfl (Xb rfl (jy [51, 52, 53, 54, 55, 56] [36, 37, 38, 39, 40, 41, 42] 56 (.bool ((at_ a0 x3).All && (decide ((((at_ a0 x3).Reads).length : Int) > (0 : Int))))) rfl (fun Kg29 => ?_) (fun j29 => ?_)))
   ·
    rcases bft ((at_ a0 x3).All) with hb29 | hb29
    ·
     refine Xs hb29 (Xw fa27_4 rfl (ld' A28 u24 rfl ?_))
     exact ln' (A14.st (Xm p15 p18) rfl) u24 rfl (Xb rfl (Xb rfl (Kg29 _ (Ag.put ((Ag.put ((Ag.put ((Ag.put ((Ag.put (Ag.base rfl) rfl)) rfl)) rfl)) rfl)) rfl) (by rw [hb29]; rfl))))
    exact Xs hb29 (Xf rfl (Xf rfl (Xf rfl (Xf rfl (Xb rfl (Kg29 _ (Ag.put ((Ag.put ((Ag.put ((Ag.put ((Ag.put (Ag.base rfl) rfl)) rfl)) rfl)) rfl)) rfl) (by rw [hb29]; rfl)))))))
   exact Xb rfl (Kg27 _ (Ag.put ((Ag.put ((Ag.ov ((Ag.put ((Ag.put ((Ag.put (Ag.base rfl) rfl)) rfl)) rfl)) rfl)) rfl)) rfl) (by rw [hb27]; rfl))
  refine Xb rfl (jy [58, 59, 60, 61, 62, 63] [] 63 (.bool ((((((!r17) || (decide ((at_ a0 x3).Begun < (1 : Int)))) || (((at_ a0 x3).Ended != (0 : Int)) && (decide ((at_ a0 x3).Ended ≤ (at_ a0 x3).Begun)))) || (decide ((((at_ a0 x3).Reads).length : Int) > (6 : Int)))) || ((at_ a0 x3).All && (decide ((((at_ a0 x3).Reads).length : Int) > (0 : Int))))) || (decide ((((at_ a0 x3).Writes).length : Int) > (200 : Int))))) rfl (fun Kg31 => ?_) (fun j31 => ?_))
  ·
   rcases bft (((((!r17) || (decide ((at_ a0 x3).Begun < (1 : Int)))) || (((at_ a0 x3).Ended != (0 : Int)) && (decide ((at_ a0 x3).Ended ≤ (at_ a0 x3).Begun)))) || (decide ((((at_ a0 x3).Reads).length : Int) > (6 : Int)))) || ((at_ a0 x3).All && (decide ((((at_ a0 x3).Reads).length : Int) > (0 : Int))))) with hb31 | hb31
   ·
    exact Xs hb31 (Xf rfl (Xf rfl (Xf rfl (Xf rfl (Xb rfl (Kg31 _ (Ag.put ((Ag.put ((Ag.put ((Ag.put ((Ag.put (Ag.base rfl) rfl)) rfl)) rfl)) rfl)) rfl) (by rw [hb31]; rfl)))))))
   refine Xs hb31 (Xw fa27_5 rfl ?_)
   exact ld' (B15.st p18 rfl) u25 rfl (ln' (A13.st (Xm p15 p18) rfl) u25 rfl (Xb rfl (Xb rfl (Kg31 _ (Ag.put ((Ag.put ((Ag.put ((Ag.put ((Ag.put (Ag.base rfl) rfl)) rfl)) rfl)) rfl)) rfl) (by rw [hb31]; rfl)))))
  refine dn (cd rfl (fun h34 => ?_) (fun h34 => ?_))
  ·
   refine sr (Xb rfl (dn (sgi ?_)))
   exact re rfl func24 rfl (Xq rfl Xe) rfl ⟨_, rfl, rfl, z.ky (Kx3.st (Yb p11 p15 p18) rfl)⟩
  refine sk (sq (sr (Xb rfl (dn (bl ?_)))))
  refine lpI (fun (x36 : Int) e w => ∃ (s : St) (e0 : Env), w = s.w ∧ e = upd (upd (upd (upd e0 0 w0_0) 3 (iI x3)) 4 (pB b11)) 5 (iI x36) ∧ Kp s0 s ∧ BlF s b11 27 [(iI ((at_ a0 x3).Xid)), (iI ((at_ a0 x3).Begun)), (iI ((at_ a0 x3).Ended)), (.bool ((at_ a0 x3).All)), v7_0, v7_1, (.bool ((at_ a0 x3).In)), (.bool ((at_ a0 x3).Out))] 40 ∧ RdF Yf s [v7_0] ((at_ a0 x3).Reads) [0] ∧ RdF Ye s [v7_1] ((at_ a0 x3).Writes) [0]) ⟨s18, _, rfl, (ue (ue (ue (ue rfl rfl) rfl) rfl) rfl), (Kx3.st (Yb p11 p15 p18) rfl), (B15.st p18 rfl), (A14.st (Xm p15 p18) rfl), (A13.st (Xm p15 p18) rfl)⟩ (fun g36 ih36 => ?_)
  rintro x36 _ _ ⟨s41, _, rfl, rfl, Kx36, Bx36_b11, Cx36_8, Cx36_9⟩
  unfold spec_TracksOk.b1
  refine sq (sr (Xb rfl (Xw fa27_4 rfl (ld' Bx36_b11 u24 rfl (ln' Cx36_8 u24 rfl (Xb rfl (dn (cd rfl (fun h43 => ?_) (fun h43 => ?_)))))))))
  ·
   refine sk (sq (bl (sr (Xw fa27_4 rfl (ld' Bx36_b11 u24 rfl (Xb rfl (ix' Cx36_8 u24 z62 rfl (fun ad44 es44 h0_44 h1_44 he44 ce44 ia44 => ?_))))))))
   obtain ⟨v44_0, v44_1, v44_2, v44_3, rfl, A44_0, A44_1, A44_2, A44_3⟩ := op62 he44
   refine lca ce44 u62 z62 rfl rfl rfl rfl rfl rfl rfl (clV 42 rfl func47 rfl (spec_SpanOk.calls (Span.mk ((at_ ((at_ a0 x3).Reads) x36).From) ((at_ ((at_ a0 x3).Reads) x36).To)) s41.w (mm [0] s41) v44_0 v44_1 v44_2 v44_3 ((Xl (s := s41) A44_0).sub (D := [0]) rfl) A44_1 ((Xl (s := s41) A44_2).sub (D := [0]) rfl) A44_3) (fun r48 s49 p49 n49 => ?_))
   refine Xb rfl (dn (cd rfl (fun h50 => ?_) (fun h50 => ?_)))
   ·
    refine sr (Xb rfl (dn (sgi (sgi ?_))))
    exact re rfl func24 rfl (Xq rfl Xe) rfl ⟨_, rfl, rfl, z.ky (Kx36.st p49 rfl)⟩
   refine sk (ib (rg (Xb rfl (Xb rfl (Xb rfl (dn ?_))))))
   exact lb ih36 ⟨s49, _, rfl, (ue (ue (ue (ue rfl rfl) rfl) rfl) rfl), (Kx36.st p49 rfl), (Bx36_b11.st p49 rfl), (Cx36_8.st p49 rfl), (Cx36_9.st p49 rfl)⟩
  refine xt rfl (sgb (sq (sr (Xb rfl (dn (bl (lpI (fun (x56 : Int) e w => ∃ (s : St) (e0 : Env), w = s.w ∧ e = upd (upd (upd (upd e0 0 w0_0) 3 (iI x3)) 4 (pB b11)) 6 (iI x56) ∧ Kp s0 s ∧ BlF s b11 27 [(iI ((at_ a0 x3).Xid)), (iI ((at_ a0 x3).Begun)), (iI ((at_ a0 x3).Ended)), (.bool ((at_ a0 x3).All)), v7_0, v7_1, (.bool ((at_ a0 x3).In)), (.bool ((at_ a0 x3).Out))] 40 ∧ RdF Yf s [v7_0] ((at_ a0 x3).Reads) [0] ∧ RdF Ye s [v7_1] ((at_ a0 x3).Writes) [0]) ⟨s41, _, rfl, (ue (ue (ue (ue rfl rfl) rfl) rfl) rfl), Kx36, Bx36_b11, Cx36_8, Cx36_9⟩ (fun g56 ih56 => ?_))))))))
  rintro x56 _ _ ⟨s57, _, rfl, rfl, Kx56, Bx56_b11, Cx56_8, Cx56_9⟩
  unfold spec_TracksOk.b2
  refine sq (sr (Xb rfl (Xw fa27_5 rfl (ld' Bx56_b11 u25 rfl (ln' Cx56_9 u25 rfl (Xb rfl (dn (cd rfl (fun h59 => ?_) (fun h59 => ?_)))))))))
  ·
   refine sk (sq (bl (sr (Xw fa27_5 rfl (ld' Bx56_b11 u25 rfl (Xb rfl (ix' Cx56_9 u25 z60 rfl (fun ad60 es60 h0_60 h1_60 he60 ce60 ia60 => ?_))))))))
   obtain ⟨v60_0, v60_1, rfl, A60_0, A60_1⟩ := op60 he60
   refine lca ce60 u60 z60 rfl rfl rfl rfl rfl rfl rfl (clV 43 rfl func48 rfl (spec_KeyOk.calls (at_ ((at_ a0 x3).Writes) x56) s57.w (mm [0] s57) v60_0 v60_1 ((Xl (s := s57) A60_0).sub (D := [0]) rfl) A60_1) (fun r63 s64 p64 n64 => ?_))
   refine Xb rfl (dn (cd rfl (fun h65 => ?_) (fun h65 => ?_)))
   ·
    refine sr (Xb rfl (dn (sgi (sgi ?_))))
    exact re rfl func24 rfl (Xq rfl Xe) rfl ⟨_, rfl, rfl, z.ky (Kx56.st p64 rfl)⟩
   refine sk (ib (rg (Xb rfl (Xb rfl (Xb rfl (dn ?_))))))
   exact lb ih56 ⟨s64, _, rfl, (ue (ue (ue (ue rfl rfl) rfl) rfl) rfl), (Kx56.st p64 rfl), (Bx56_b11.st p64 rfl), (Cx56_8.st p64 rfl), (Cx56_9.st p64 rfl)⟩
  refine xt rfl (sgb (sr (Xb rfl (dn (bl (lpI (fun (x71 : Int) e w => ∃ (s : St) (e0 : Env), w = s.w ∧ e = upd (upd (upd (upd e0 0 w0_0) 3 (iI x3)) 4 (pB b11)) 7 (iI x71) ∧ Kp s0 s ∧ BlF s b11 27 [(iI ((at_ a0 x3).Xid)), (iI ((at_ a0 x3).Begun)), (iI ((at_ a0 x3).Ended)), (.bool ((at_ a0 x3).All)), v7_0, v7_1, (.bool ((at_ a0 x3).In)), (.bool ((at_ a0 x3).Out))] 40 ∧ RdF Yf s [v7_0] ((at_ a0 x3).Reads) [0] ∧ RdF Ye s [v7_1] ((at_ a0 x3).Writes) [0]) ⟨s57, _, rfl, (ue (ue (ue (ue rfl rfl) rfl) rfl) rfl), Kx56, Bx56_b11, Cx56_8, Cx56_9⟩ (fun g71 ih71 => ?_)))))))
  rintro x71 _ _ ⟨s72, _, rfl, rfl, Kx71, Bx71_b11, Cx71_8, Cx71_9⟩
  unfold spec_TracksOk.b3
  refine sq (sr (Xb rfl (Xb rfl (Xb rfl (dn (cd rfl (fun h74 => ?_) (fun h74 => ?_)))))))
  ·
   refine sk (sq (bl (sq (zdraw [[], [], [0, 1], [2], [3], [], [5], [4, 6]] [some 97, some 98, some 99, some 100, some 101, some 102, some 103, some 104] [[0], [7], [97, 98], [99], [100], [4], [102], [101, 103]] [0, 1, 2, 3, 4, 5, 6, 7] ⟨by kernel_rfl, by kernel_rfl, by kernel_rfl⟩ (by kernel_rfl) (fun s75 p75 l75 tb75 zd75 => ?_)))))
   have K78 := Kx71.st p75 rfl
   have A79 := A0_0.kp K78
   refine mg fun hg80 => ?_
   obtain ⟨ad80, es80, he80, ce80, ia80⟩ := ix_e A79 rfl hg80.1 hg80.2
   obtain ⟨v80_0, v80_1, rfl, A80_0, A80_1⟩ := op27 he80
   refine zfin [7] tb75 (((((((zd75.add 0 97 w0_0 rfl).add 1 98 (iI x71) rfl).add 2 99 (.pointer (some ad80)) rfl).add 3 100 (.pointer (some ad80)) rfl).add 4 101 (iI ((at_ a0 x71).Xid)) rfl).add 5 102 (pB b11) rfl).add 6 103 (iI ((at_ a0 x3).Xid)) rfl) (Xa (Ya (Bx71_b11.st p75 rfl) u3 rfl) rfl (Xa (Xo fa27_0 rfl) rfl (Xa (lc0_q ce80 u3 rfl rfl rfl rfl rfl rfl rfl rfl) rfl (Xa (Xo fa27_0 rfl) rfl (Xa (ix_q' A79 u30 z27 hg80.1 hg80.2 ia80 rfl) rfl (Xa (Xg rfl) rfl (Xa (Xu w0_0 rfl) rfl Xk))))))) (by kernel_rfl) (by decide) (Xb rfl (dn (cd rfl (fun h91 => ?_) (fun h91 => ?_))))
   ·
    exact sr (Xb rfl (dn (sgi (sgi (re rfl func24 rfl (Xq rfl Xe) rfl ⟨_, rfl, rfl, z.ky K78⟩)))))
   refine sk (ib (rg (Xb rfl (Xb rfl (Xb rfl (dn ?_))))))
   exact lb ih71 ⟨s75, _, rfl, (ue (ue (ue (ue rfl rfl) rfl) rfl) rfl), K78, (Bx71_b11.st p75 rfl), (Cx71_8.st p75 rfl), (Cx71_9.st p75 rfl)⟩
  exact xt rfl (sgb (ib (rg (Xb rfl (Xb rfl (Xb rfl (dn (lb ih3 ⟨s72, _, rfl, (ue (ue rfl rfl) rfl), Kx71⟩))))))))
 exact xt rfl (sgb (sr (Xb rfl (dn (re rfl func24 rfl (Xq rfl Xe) rfl ⟨_, rfl, rfl, z.ky Kx3⟩)))))
def spec_EdgeBegin.f (a0 : (List Track)) (a1 : Int) (a2 : Int) : Option ((List Track) × Int) :=
 ((spec_l13copy.f a0).bind fun r2 => (if r2.length + ([(Track.mk a1 a2 (0 : Int) false ([] : (List Span)) ([] : (List Item)) false false)]).length ≤ Lim then ((spec_TracksOk.f a0).bind fun r15 => ((if (!r15) = true then (some true) else ((spec_TracksOk.f (r2 ++ [(Track.mk a1 a2 (0 : Int) false ([] : (List Span)) ([] : (List Item)) false false)])).bind fun r21 => (some (!r21)))).bind fun y17 => (if y17 = true then (some (([] : (List Track)), (1 : Int))) else (some ((r2 ++ [(Track.mk a1 a2 (0 : Int) false ([] : (List Span)) ([] : (List Item)) false false)]), (0 : Int)))))) else none))
def spec_EdgeBegin.Q (w : World) (F : Nat → Prop) (r : (List Track) × Int) (v : Value) (w' : World) : Prop :=
 ∃ (v0 : Value), v = .tuple #[v0, (iI r.2)] ∧ FO Yc w w' [v0] r.1 ∧ Ky [] w w'
theorem spec_EdgeBegin.calls (a0 : (List Track)) (a1 : Int) (a2 : Int) (w : World) (F : Nat → Prop) (w0_0 : Value) (h0_0 : Yc.rd w [w0_0] a0 F) (r : (List Track) × Int) (m : spec_EdgeBegin.f a0 a1 a2 = some r) :
  Calls prog 31 #[w0_0, (iI a1), (iI a2)] w (RT (spec_EdgeBegin.Q w F) r) := by
 obtain ⟨s0, rfl, kp0, z⟩ := Xj w F
 have A0_0 := z.rd h0_0
 refine Xd (args := [w0_0, (iI a1), (iI a2)]) func31 ntmps31 rfl rfl m ?_
 unfold spec_EdgeBegin.f
 refine sr (Xb rfl (Xb rfl (dn (sr (Xp w0_0 rfl (clO 40 rfl func25 rfl (spec_l13copy.calls a0 s0.w (mm [0] s0) w0_0 A0_0) (fun r2 v2_0 s3 p3 A2_0 => ?_)))))))
 refine Xb rfl (Xb rfl (bd (cells := [(iI a1), (iI a2), (iI 0), (.bool false), (.slice none 0 0), (.slice none 0 0), (.bool false), (.bool false)]) pl27 o27 rfl rfl rfl rfl rfl rfl ?_))
 have A5 : OwF kd27 s3 [(iI a1), (iI a2), (iI 0), (.bool false), (.slice none 0 0), (.slice none 0 0), (.bool false), (.bool false)] (Track.mk a1 a2 (0 : Int) false ([] : (List Span)) ([] : (List Item)) false false) 42 := ow_z _ _ (fz_iso (fun x : Track => (x.Xid, x.Begun, x.Ended, x.All, x.Reads, x.Writes, x.In, x.Out)) (Track.mk a1 a2 (0 : Int) false ([] : (List Span)) ([] : (List Item)) false false) (Xn (Xi .i64 a1) (Xn (Xi .i64 a2) (Xn (Xi .i64 (0 : Int)) (Xn (Xz false) (Xn (fz_nil 62 kd62) (Xn (fz_nil 60 kd60) (Xn (Xz false) (Xz false)))))))))
 refine ltO (K := kd27) (cells := [(iI a1), (iI a2), (iI 0), (.bool false), (.slice none 0 0), (.slice none 0 0), (.bool false), (.bool false)]) [(Track.mk a1 a2 (0 : Int) false ([] : (List Span)) ([] : (List Item)) false false)] 42 u30 z27 o27 (lo_one A5) rfl rfl rfl rfl rfl rfl rfl rfl rfl rfl (fun v8 s8 p8 A8 => ?_)
 refine apO sl30 (A2_0.st p8 rfl) A8 rfl rfl rfl rfl rfl rfl rfl rfl rfl (fun v11 s11 p11 A11 => ?_)
 refine Xy v11 rfl (dn (sq (sr (Xp w0_0 rfl ?_))))
 have K13 := kp0.st (Yb p3 p8 p11) rfl
 refine clV 43 rfl func24 rfl (spec_TracksOk.calls a0 s11.w (mm [0] s11) w0_0 (A0_0.kp K13)) (fun r15 s16 p16 n16 => ?_)
 refine Xb rfl (Xb rfl (ji [] (fun (y17 : Bool) e w => ∃ (s : St) (e0 : Env), w = s.w ∧ e = upd (upd e0 8 v11) 23 (.bool y17) ∧ Kp s0 s ∧ OwF Yc s [v11] (r2 ++ [(Track.mk a1 a2 (0 : Int) false ([] : (List Span)) ([] : (List Item)) false false)]) 40) (fun Gj17 Kj17 => ?_) ?_))
 ·
  rcases bft (!r15) with hb17 | hb17
  ·
   refine Xs hb17 ?_
   rw [if_pos hb17]
   refine Xf rfl (Xf rfl (Xf rfl (Xb rfl ?_)))
   exact Kj17 _ _ _ ⟨s16, _, rfl, (ue (ue rfl rfl) rfl), (K13.st p16 rfl), (A11.st p16 rfl)⟩
  refine Xs hb17 ?_
  rw [if_neg (by rw [hb17]; decide)]
  refine Xp v11 rfl ?_
  have A20 := A11.st p16 rfl
  refine clV 44 rfl func24 rfl (spec_TracksOk.calls (r2 ++ [(Track.mk a1 a2 (0 : Int) false ([] : (List Span)) ([] : (List Item)) false false)]) s16.w (mm [40] s16) v11 A20.rd) (fun r21 s22 p22 n22 => ?_)
  refine Xb rfl (Xb rfl ?_)
  exact Kj17 _ _ _ ⟨s22, _, rfl, (ue (ue rfl rfl) rfl), (K13.st (Xm p16 p22) rfl), (A20.st p22 rfl)⟩
 rintro y17 _ _ ⟨s25, _, rfl, rfl, Ky17, Cy17_12⟩
 refine dn (cd rfl (fun h26 => ?_) (fun h26 => ?_))
 ·
  exact sr (Xb rfl (Xb rfl (dn (re rfl func31 rfl (Xq rfl (Xq rfl Xe)) rfl ⟨_, rfl, (.slice none 0 0), rfl, (ow_nil 27 kd27 s25 40).fo Ky17 rfl z.l, z.ky Ky17⟩))))
 exact sk (sr (Xp v11 rfl (Xy v11 rfl (Xb rfl (dn (re rfl func31 rfl (Xq rfl (Xq rfl Xe)) rfl ⟨_, rfl, v11, rfl, Cy17_12.fo Ky17 rfl z.l, z.ky Ky17⟩))))))
def spec_ItemClean.f (a0 : Item) : Option (Item) :=
 ((spec_ItemOk.f a0).bind fun r9 => (if (!r9) = true then (some (Item.mk (0 : Int) (0 : Int) (0 : Nat) ([] : (List Int)))) else ((spec_l3copy.f a0).bind fun r21 => ((if (fcmp .f64 a0.F (0 : Nat) == some .eq) = true then (some (0 : Nat)) else (some r21.F)).bind fun y30 => (some (Item.mk r21.Kind r21.N y30 r21.T))))))
def spec_ItemClean.Q (w : World) (F : Nat → Prop) (r : Item) (v : Value) (w' : World) : Prop :=
 ∃ (v0 : Value) (v1 : Value), v = (.agg #[(iI r.Kind), (iI r.N), v0, v1]) ∧ FO kd60 w w' [(iI r.Kind), (iI r.N), v0, v1] r ∧ Ky [] w w'
theorem spec_ItemClean.calls (a0 : Item) (w : World) (F : Nat → Prop) (w0_0 : Value) (w0_1 : Value) (h0_0 : Kd.flt.rd w [w0_0] a0.F F) (h0_1 : Yd.rd w [w0_1] a0.T F) (r : Item) (m : spec_ItemClean.f a0 = some r) :
  Calls prog 64 #[(.agg #[(iI a0.Kind), (iI a0.N), w0_0, w0_1])] w (RT (spec_ItemClean.Q w F) r) := by
 obtain ⟨s0, rfl, kp0, z⟩ := Xj w F
 have A0_0 := fl_of h0_0
 have A0_1 := z.rd h0_1
 refine Xd (args := [(.agg #[(iI a0.Kind), (iI a0.N), w0_0, w0_1])]) func64 ntmps64 rfl rfl m ?_
 unfold spec_ItemClean.f
 refine sr (bx' (cs := [(iI a0.Kind), (iI a0.N), w0_0, w0_1]) 40 rfl rfl (fun b2 s2 p2 B2 => ?_))
 refine al (cs := [(iI 0), (iI 0), (.float .f64 0), (.slice none 0 0)]) 41 rfl rfl rfl rfl rfl o60 rfl (fun b4 s4 p4 B4 => ?_)
 refine dn (sq (sr ?_))
 have A6 := B2.st p4 rfl
 refine lda' (es := [(iI a0.Kind), (iI a0.N), w0_0, w0_1]) A6 u60 z60 rfl ?_
 have K7 := kp0.st (Xm p2 p4) rfl
 refine clV 42 rfl func69 rfl (spec_ItemOk.calls a0 s4.w (mm [0] s4) w0_0 w0_1 ((Xl (s := s4) A0_0).sub (D := [0]) rfl) (A0_1.kp K7)) (fun r9 s10 p10 n10 => ?_)
 refine Xb rfl (dn (cd rfl (fun h11 => ?_) (fun h11 => ?_)))
 ·
  refine sr (bd (cells := [(iI 0), (iI 0), (.float .f64 0), (.slice none 0 0)]) pl60 o60 rfl rfl rfl rfl rfl rfl ?_)
  refine sva' (vs := [(iI 0), (iI 0), (.float .f64 0), (.slice none 0 0)]) (B4.st p10 rfl) z60 rfl (Xc rfl (Xc rfl (Xc (FL.one (fl_c rfl)) (Xc rfl Xx)))) rfl (fun s13 p13 B13 => ?_)
  refine dn ?_
  have A15 : OwF kd60 s13 [(iI 0), (iI 0), (.float .f64 0), (.slice none 0 0)] (Item.mk (0 : Int) (0 : Int) (0 : Nat) ([] : (List Int))) 43 := ow_z _ _ (fz_iso (fun x : Item => (x.Kind, x.N, x.F, x.T)) (Item.mk (0 : Int) (0 : Int) (0 : Nat) ([] : (List Int))) (Xn (Xi .i64 (0 : Int)) (Xn (Xi .i64 (0 : Int)) (Xn (fz_flt (fl_c rfl)) (fz_nil 5 (Kd.int .u8))))))
  have K17 := K7.st (Xm p10 p13) rfl
  exact re rfl func64 rfl (r_b B13 u60 rfl z60 rfl Xe) rfl ⟨_, rfl, (.float .f64 0), (.slice none 0 0), rfl, A15.fo K17 rfl z.l, z.ky K17⟩
 refine sk (sr ?_)
 have A18 := A6.st p10 rfl
 refine lda' (es := [(iI a0.Kind), (iI a0.N), w0_0, w0_1]) A18 u60 z60 rfl ?_
 have K19 := K7.st p10 rfl
 refine cl' rfl func60 rfl (spec_l3copy.calls a0 s10.w (mm [0] s10) w0_0 w0_1 ((Xl (s := s10) A0_0).sub (D := [0]) rfl) (A0_1.kp K19)) ?_
 rintro r21 _ w21 m21 ⟨v21_0, v21_1, rfl, f21_0, ky21⟩
 obtain ⟨s22, rfl, p22, n22⟩ := nwx s10 w21 44 ky21
 obtain ⟨hu21_0_0, Au21_0_1⟩ := ap60 (f21_0.c n22)
 refine al (cs := [(iI 0), (iI 0), (.float .f64 0), (.slice none 0 0)]) 45 rfl rfl rfl rfl rfl o60 rfl (fun b24 s24 p24 B24 => ?_)
 have A26 := Au21_0_1.st p24 rfl
 refine sva' (vs := [(iI r21.Kind), (iI r21.N), v21_0, v21_1]) B24 z60 rfl (Xc rfl (Xc rfl (Xc (FL.one hu21_0_0) (Xc A26.rd.one Xx)))) rfl (fun s27 p27 B27 => ?_)
 refine dn (sq (sr (Xw fa60_2 rfl ?_)))
 refine ld' (A18.st (Yb p22 p24 p27) rfl) u58 rfl (fq_ A0_0 (fl_c rfl) rfl rfl rfl rfl rfl rfl rfl rfl (dn (jc (fun (y30 : Nat) e w => ∃ (s : St) (e0 : Env) (uy30_0 : Value), w = s.w ∧ e = upd (upd e0 2 (pB b4)) 3 (pB b24) ∧ Kp s0 s ∧ FL uy30_0 y30 ∧ BlF s b24 60 [(iI r21.Kind), (iI r21.N), uy30_0, v21_1] 45 ∧ BlF s b4 60 [(iI 0), (iI 0), (.float .f64 0), (.slice none 0 0)] 41 ∧ OwF Yd s [v21_1] r21.T 44) (fun Gj30 Kj30 => ?_) ?_)))
 ·
  refine cd rfl (fun h31 => ?_) (fun h31 => ?_)
  ·
   refine rg (Xw fa60_2 rfl (sv' B27 z58 rfl (FL.one (fl_c rfl)) rfl (fun s32 p32 B32 => ?_)))
   exact dn (Kj30 _ _ _ ⟨s32, _, (.float .f64 0), rfl, (ue (ue rfl rfl) rfl), (K19.st (tr4 p22 p24 p27 p32) rfl), (fl_c rfl), B32, (B4.st (tr5 p10 p22 p24 p27 p32) rfl), (A26.st (Xm p27 p32) rfl)⟩)
  exact sk (Kj30 _ _ _ ⟨s27, _, v21_0, rfl, (ue (ue rfl rfl) rfl), (K19.st (Yb p22 p24 p27) rfl), hu21_0_0, B27, (B4.st (tr4 p10 p22 p24 p27) rfl), (A26.st p27 rfl)⟩)
 rintro y30 _ _ ⟨s40, _, uy30_0, rfl, rfl, Ky30, Fy30_0, By30_b24, By30_b4, Cy30_23⟩
 refine sr (lda' (es := [(iI r21.Kind), (iI r21.N), uy30_0, v21_1]) By30_b24 u60 z60 rfl (sva' (vs := [(iI r21.Kind), (iI r21.N), uy30_0, v21_1]) By30_b4 z60 rfl (Xc rfl (Xc rfl (Xc (FL.one Fy30_0) (Xc Cy30_23.rd.one Xx)))) rfl (fun s43 p43 B43 => ?_)))
 refine dn ?_
 have A45 : OwF kd60 s43 [(iI r21.Kind), (iI r21.N), uy30_0, v21_1] (Item.mk r21.Kind r21.N y30 r21.T) 44 := (Xv (fun x : Item => (x.Kind, x.N, x.F, x.T)) (Item.mk r21.Kind r21.N y30 r21.T) (Xt (Xi .i64 r21.Kind) (Xt (Xi .i64 r21.N) (Xt (fz_flt Fy30_0) (Cy30_23.st p43 rfl)))))
 have K48 := Ky30.st p43 rfl
 exact re rfl func64 rfl (r_b B43 u60 rfl z60 rfl Xe) rfl ⟨_, rfl, uy30_0, v21_1, rfl, A45.fo K48 rfl z.l, z.ky K48⟩
def spec_l2bits.b0 (a0 : l1Cur) (x3 : Int × Int × Int × Int) : Option ((Int × Int × Int × Int) ⊕ (Int × l1Cur)) :=
 (if (decide (x3.2.1 < (8 : Int))) = true then ((spec_l1Byte.f (l1Cur.mk a0.b x3.2.2.1 x3.2.2.2)).bind fun r8 => (some (Sum.inl ((IntKind.wrap .u64 ((IntKind.wrap .u64 (x3.1 * (256 : Int))) + (IntKind.wrap .u64 r8.1))), (IntKind.wrap .i64 (x3.2.1 + (1 : Int))), r8.2.i, r8.2.h)))) else (((spec_l1Below.f (l1Cur.mk a0.b x3.2.2.1 x3.2.2.2) (9 : Int)).bind fun r13 => (if (r13.1 == (0 : Int)) = true then ((spec_l1Below.f (l1Cur.mk a0.b r13.2.i r13.2.h) (2 : Int)).bind fun r19 => ((spec_l1Below.f (l1Cur.mk a0.b r19.2.i r19.2.h) (3 : Int)).bind fun r24 => (some ((ior .u64 (ishl .u64 (IntKind.wrap .u64 r19.1) (63 : Int)) (IntKind.wrap .u64 r24.1)), (l1Cur.mk a0.b r24.2.i r24.2.h))))) else (if (r13.1 == (1 : Int)) = true then ((spec_l1Below.f (l1Cur.mk a0.b r13.2.i r13.2.h) (2 : Int)).bind fun r31 => ((spec_l1Below.f (l1Cur.mk a0.b r31.2.i r31.2.h) (3 : Int)).bind fun r36 => (some ((ior .u64 (ishl .u64 (IntKind.wrap .u64 r31.1) (63 : Int)) (IntKind.wrap .u64 ((9218868437227405311 : Int) + (IntKind.wrap .u64 r36.1)))), (l1Cur.mk a0.b r36.2.i r36.2.h))))) else (if (r13.1 == (2 : Int)) = true then ((spec_l1Below.f (l1Cur.mk a0.b r13.2.i r13.2.h) (2 : Int)).bind fun r43 => (some ((ior .u64 (ior .u64 (ishl .u64 (IntKind.wrap .u64 r43.1) (63 : Int)) (9218868437227405312 : Int)) (ishr .u64 x3.1 (12 : Int))), (l1Cur.mk a0.b r43.2.i r43.2.h)))) else (if (r13.1 == (3 : Int)) = true then ((spec_l1Below.f (l1Cur.mk a0.b r13.2.i r13.2.h) (2 : Int)).bind fun r50 => ((spec_l1Below.f (l1Cur.mk a0.b r50.2.i r50.2.h) (3 : Int)).bind fun r55 => (some ((ior .u64 (ishl .u64 (IntKind.wrap .u64 r50.1) (63 : Int)) (IntKind.wrap .u64 ((4503599627370495 : Int) + (IntKind.wrap .u64 r55.1)))), (l1Cur.mk a0.b r55.2.i r55.2.h))))) else (if (r13.1 == (4 : Int)) = true then ((spec_l1Below.f (l1Cur.mk a0.b r13.2.i r13.2.h) (12 : Int)).bind fun r62 => ((spec_l1Below.f (l1Cur.mk a0.b r62.2.i r62.2.h) (16 : Int)).bind fun r67 => (some ((ior .u64 (ishl .u64 (IntKind.wrap .u64 (IntKind.wrap .i64 ((1023 : Int) + r62.1))) (52 : Int)) (ishl .u64 (IntKind.wrap .u64 r67.1) (48 : Int))), (l1Cur.mk a0.b r67.2.i r67.2.h))))) else (if (r13.1 == (5 : Int)) = true then ((spec_l1Below.f (l1Cur.mk a0.b r13.2.i r13.2.h) (21 : Int)).bind fun r74 => ((spec_FloatBits.f (FloatKind.f64.nearest (IntKind.wrap .i64 (r74.1 - (10 : Int))))).bind fun r78 => (some (r78, (l1Cur.mk a0.b r74.2.i r74.2.h))))) else (some (x3.1, (l1Cur.mk a0.b r13.2.i r13.2.h)))))))))).bind fun o => some (Sum.inr o)))
def spec_l2bits.f (a0 : l1Cur) : Option (Int × l1Cur) :=
 (iter (spec_l2bits.b0 a0) ((0 : Int), (0 : Int), a0.i, a0.h))
def spec_l2bits.Q (w : World) (F : Nat → Prop) (p0 : Nat) (w0_0 : Value) (r : Int × l1Cur) (v : Value) (w' : World) : Prop :=
 v = (.int .u64 r.1) ∧ BlW w' p0 54 [w0_0, (iI r.2.i), (iI r.2.h)] ∧ Ky [p0] w w'
theorem spec_l2bits.calls (a0 : l1Cur) (w : World) (F : Nat → Prop) (p0 : Nat) (w0_0 : Value) (h0_0 : Yd.rd w [w0_0] a0.b F) (hb0 : BlW w p0 54 [w0_0, (iI a0.i), (iI a0.h)]) (hF : ∀ b, F b → b ∉ [p0]) (r : Int × l1Cur) (m : spec_l2bits.f a0 = some r) :
  Calls prog 82 #[(pB p0)] w (RT (spec_l2bits.Q w F p0 w0_0) r) := by
 obtain ⟨s0, rfl, kp0, z⟩ := start1 w F [p0] hF
 have A0_0 := z.rd h0_0
 refine Xd (args := [(pB p0)]) func82 ntmps82 rfl rfl m ?_
 unfold spec_l2bits.f
 refine sr (Xb rfl (dn (sr (Xb rfl (dn (sq (sr (Xb rfl (dn (bl (lpI (fun (x3 : Int × Int × Int × Int) e w => ∃ (s : St) (e0 : Env), w = s.w ∧ e = upd (upd (upd e0 0 (pB p0)) 3 (.int .u64 x3.1)) 4 (iI x3.2.1) ∧ Kp s0 s ∧ BlF s p0 54 [w0_0, (iI x3.2.2.1), (iI x3.2.2.2)] 2) ⟨s0, _, rfl, (ue (ue (ue rfl rfl) rfl) rfl), kp0, (z.bl hb0 (by simp))⟩ (fun g3 ih3 => ?_))))))))))))
 rintro x3 _ _ ⟨s4, _, rfl, rfl, Kx3, Bx3_p0⟩
 unfold spec_l2bits.b0
 refine sq (sr (Xb rfl (Xb rfl (dn (cd rfl (fun h6 => ?_) (fun h6 => ?_))))))
 ·
  refine sk (sq (bl (rg (Xb rfl (Xb rfl (Xb rfl ?_))))))
  refine clB Bx3_p0 rfl func30 rfl (spec_l1Byte.calls (l1Cur.mk a0.b x3.2.2.1 x3.2.2.2) s4.w (mm [0] s4) p0 w0_0 (A0_0.kp Kx3) Bx3_p0.w (Bx3_p0.apart rfl)) (fun r8 s9 p9 B9 => ?_)
  refine cv u88 u3 rfl rfl rfl rfl rfl rfl (Xb rfl (Xb rfl (dn (ib (rg (Xb rfl (Xb rfl (Xb rfl (dn ?_)))))))))
  exact lb ih3 ⟨s9, _, rfl, (ue (ue (ue rfl rfl) rfl) rfl), (Kx3.st p9 rfl), B9⟩
 refine xt rfl (sgb (sq (sr (Xb rfl ?_))))
 refine clB Bx3_p0 rfl func12 rfl (spec_l1Below.calls (l1Cur.mk a0.b x3.2.2.1 x3.2.2.2) (9 : Int) s4.w (mm [0] s4) p0 w0_0 (A0_0.kp Kx3) Bx3_p0.w (Bx3_p0.apart rfl)) (fun r13 s14 p14 B14 => ?_)
 refine dn (bl (sr (Xb rfl (Xb rfl (dn (cd rfl (fun h16 => ?_) (fun h16 => ?_)))))))
 ·
  refine sr (Xb rfl ?_)
  have K17 := Kx3.st p14 rfl
  refine clB B14 rfl func12 rfl (spec_l1Below.calls (l1Cur.mk a0.b r13.2.i r13.2.h) (2 : Int) s14.w (mm [0] s14) p0 w0_0 (A0_0.kp K17) B14.w (B14.apart rfl)) (fun r19 s20 p20 B20 => ?_)
  refine cv u88 u3 rfl rfl rfl rfl rfl rfl (shlK rfl rfl rfl rfl rfl rfl rfl rfl (Xb rfl ?_))
  have K22 := K17.st p20 rfl
  refine clB B20 rfl func12 rfl (spec_l1Below.calls (l1Cur.mk a0.b r19.2.i r19.2.h) (3 : Int) s20.w (mm [0] s20) p0 w0_0 (A0_0.kp K22) B20.w (B20.apart rfl)) (fun r24 s25 p25 B25 => ?_)
  refine cv u88 u3 rfl rfl rfl rfl rfl rfl (Xb rfl (Xb rfl (dn ?_)))
  exact re rfl func82 rfl (Xq rfl Xe) rfl ⟨_, rfl, rfl, B25.w, z.ky (K22.st p25 rfl)⟩
 refine sr (Xb rfl (Xb rfl (dn (cd rfl (fun h28 => ?_) (fun h28 => ?_)))))
 ·
  refine sr (Xb rfl ?_)
  have K29 := Kx3.st p14 rfl
  refine clB B14 rfl func12 rfl (spec_l1Below.calls (l1Cur.mk a0.b r13.2.i r13.2.h) (2 : Int) s14.w (mm [0] s14) p0 w0_0 (A0_0.kp K29) B14.w (B14.apart rfl)) (fun r31 s32 p32 B32 => ?_)
  refine cv u88 u3 rfl rfl rfl rfl rfl rfl (shlK rfl rfl rfl rfl rfl rfl rfl rfl (Xb rfl ?_))
  have K34 := K29.st p32 rfl
  refine clB B32 rfl func12 rfl (spec_l1Below.calls (l1Cur.mk a0.b r31.2.i r31.2.h) (3 : Int) s32.w (mm [0] s32) p0 w0_0 (A0_0.kp K34) B32.w (B32.apart rfl)) (fun r36 s37 p37 B37 => ?_)
  refine cv u88 u3 rfl rfl rfl rfl rfl rfl (Xb rfl (Xb rfl (Xb rfl (dn ?_))))
  exact re rfl func82 rfl (Xq rfl Xe) rfl ⟨_, rfl, rfl, B37.w, z.ky (K34.st p37 rfl)⟩
 refine sr (Xb rfl (Xb rfl (dn (cd rfl (fun h40 => ?_) (fun h40 => ?_)))))
 ·
  refine sr (Xb rfl ?_)
  have K41 := Kx3.st p14 rfl
  refine clB B14 rfl func12 rfl (spec_l1Below.calls (l1Cur.mk a0.b r13.2.i r13.2.h) (2 : Int) s14.w (mm [0] s14) p0 w0_0 (A0_0.kp K41) B14.w (B14.apart rfl)) (fun r43 s44 p44 B44 => ?_)
  refine cv u88 u3 rfl rfl rfl rfl rfl rfl (shlK rfl rfl rfl rfl rfl rfl rfl rfl (Xb rfl (Xb rfl (shrK rfl rfl rfl rfl rfl rfl rfl rfl (Xb rfl (Xb rfl (dn ?_)))))))
  exact re rfl func82 rfl (Xq rfl Xe) rfl ⟨_, rfl, rfl, B44.w, z.ky (K41.st p44 rfl)⟩
 refine sr (Xb rfl (Xb rfl (dn (cd rfl (fun h47 => ?_) (fun h47 => ?_)))))
 ·
  refine sr (Xb rfl ?_)
  have K48 := Kx3.st p14 rfl
  refine clB B14 rfl func12 rfl (spec_l1Below.calls (l1Cur.mk a0.b r13.2.i r13.2.h) (2 : Int) s14.w (mm [0] s14) p0 w0_0 (A0_0.kp K48) B14.w (B14.apart rfl)) (fun r50 s51 p51 B51 => ?_)
  refine cv u88 u3 rfl rfl rfl rfl rfl rfl (shlK rfl rfl rfl rfl rfl rfl rfl rfl (Xb rfl ?_))
  have K53 := K48.st p51 rfl
  refine clB B51 rfl func12 rfl (spec_l1Below.calls (l1Cur.mk a0.b r50.2.i r50.2.h) (3 : Int) s51.w (mm [0] s51) p0 w0_0 (A0_0.kp K53) B51.w (B51.apart rfl)) (fun r55 s56 p56 B56 => ?_)
  refine cv u88 u3 rfl rfl rfl rfl rfl rfl (Xb rfl (Xb rfl (Xb rfl (dn ?_))))
  exact re rfl func82 rfl (Xq rfl Xe) rfl ⟨_, rfl, rfl, B56.w, z.ky (K53.st p56 rfl)⟩
 refine sr (Xb rfl (Xb rfl (dn (cd rfl (fun h59 => ?_) (fun h59 => ?_)))))
 ·
  refine sr (Xb rfl ?_)
  have K60 := Kx3.st p14 rfl
  refine clB B14 rfl func12 rfl (spec_l1Below.calls (l1Cur.mk a0.b r13.2.i r13.2.h) (12 : Int) s14.w (mm [0] s14) p0 w0_0 (A0_0.kp K60) B14.w (B14.apart rfl)) (fun r62 s63 p63 B63 => ?_)
  refine Xb rfl (cv u88 u3 rfl rfl rfl rfl rfl rfl (shlK rfl rfl rfl rfl rfl rfl rfl rfl (Xb rfl ?_)))
  have K65 := K60.st p63 rfl
  refine clB B63 rfl func12 rfl (spec_l1Below.calls (l1Cur.mk a0.b r62.2.i r62.2.h) (16 : Int) s63.w (mm [0] s63) p0 w0_0 (A0_0.kp K65) B63.w (B63.apart rfl)) (fun r67 s68 p68 B68 => ?_)
  refine cv u88 u3 rfl rfl rfl rfl rfl rfl (shlK rfl rfl rfl rfl rfl rfl rfl rfl (Xb rfl (Xb rfl (dn ?_))))
  exact re rfl func82 rfl (Xq rfl Xe) rfl ⟨_, rfl, rfl, B68.w, z.ky (K65.st p68 rfl)⟩
 refine sr (Xb rfl (Xb rfl (dn (cd rfl (fun h71 => ?_) (fun h71 => ?_)))))
 ·
  refine sr (Xb rfl ?_)
  have K72 := Kx3.st p14 rfl
  refine clB B14 rfl func12 rfl (spec_l1Below.calls (l1Cur.mk a0.b r13.2.i r13.2.h) (21 : Int) s14.w (mm [0] s14) p0 w0_0 (A0_0.kp K72) B14.w (B14.apart rfl)) (fun r74 s75 p75 B75 => ?_)
  refine Xb rfl (i2f u58 u3 rfl rfl rfl rfl rfl rfl (fun v77 A77 => ?_))
  refine clV 52 rfl func70 rfl (spec_FloatBits.calls (FloatKind.f64.nearest (IntKind.wrap .i64 (r74.1 - (10 : Int)))) s75.w (mm [] s75) v77 (Xl (s := s75) A77)) (fun r78 s79 p79 n79 => ?_)
  refine Xb rfl (dn ?_)
  exact re rfl func82 rfl (Xq rfl Xe) rfl ⟨_, rfl, rfl, (BlF.w (B75.st p79 rfl)), z.ky (K72.st (Xm p75 p79) rfl)⟩
 refine sk (ib (sr (Xb rfl (Xb rfl (dn ?_)))))
 exact re rfl func82 rfl (Xq rfl Xe) rfl ⟨_, rfl, rfl, B14.w, z.ky (Kx3.st p14 rfl)⟩
def spec_FloatOf.b1  (x21 : Nat × Int) : Option ((Nat × Int) ⊕ (Nat ⊕ Nat)) :=
 (if (decide (x21.2 < (0 : Int))) = true then (some (Sum.inl ((far .quo x21.1 (4611686018427387904 : Nat)), (IntKind.wrap .i64 (x21.2 + (1 : Int)))))) else ((some (Sum.inl x21.1)).bind fun o => some (Sum.inr o)))
def spec_FloatOf.b0  (x16 : Nat × Int) : Option ((Nat × Int) ⊕ (Nat ⊕ Nat)) :=
 (if (decide (x16.2 > (0 : Int))) = true then (some (Sum.inl ((far .mul x16.1 (4611686018427387904 : Nat)), (IntKind.wrap .i64 (x16.2 - (1 : Int)))))) else ((iter spec_FloatOf.b1 (x16.1, x16.2)).bind fun o => some (Sum.inr o)))
def spec_FloatOf.f (a0 : Int) : Option (Nat) :=
 ((if ((IntKind.wrap .i64 (iand .u64 (ishr .u64 a0 (52 : Int)) (2047 : Int))) == (2047 : Int)) = true then (if ((iand .u64 a0 (4503599627370495 : Int)) != (0 : Int)) = true then (some (Sum.inr (far .quo (0 : Nat) (0 : Nat)))) else (some (Sum.inl (far .quo (4607182418800017408 : Nat) (0 : Nat))))) else ((if ((IntKind.wrap .i64 (iand .u64 (ishr .u64 a0 (52 : Int)) (2047 : Int))) == (0 : Int)) = true then (some ((far .quo (FloatKind.f64.nearest (iand .u64 a0 (4503599627370495 : Int))) (4841369599423283200 : Nat)), (-1022 : Int))) else (some ((far .add (far .quo (FloatKind.f64.nearest (iand .u64 a0 (4503599627370495 : Int))) (4841369599423283200 : Nat)) (4607182418800017408 : Nat)), (IntKind.wrap .i64 ((IntKind.wrap .i64 (iand .u64 (ishr .u64 a0 (52 : Int)) (2047 : Int))) - (1023 : Int)))))).bind fun y10 => (iter spec_FloatOf.b0 (y10.1, y10.2)))).bind (sel fun y3 => (if ((ishr .u64 a0 (63 : Int)) == (1 : Int)) = true then (some (fneg y3)) else (some y3))))
def spec_FloatOf.Q (w : World) (F : Nat → Prop) (r : Nat) (v : Value) (w' : World) : Prop :=
 FL v r ∧ Ky [] w w'
theorem spec_FloatOf.calls (a0 : Int) (w : World) (F : Nat → Prop)   (r : Nat) (m : spec_FloatOf.f a0 = some r) :
  Calls prog 81 #[(.int .u64 a0)] w (RT (spec_FloatOf.Q w F) r) := by
 obtain ⟨s0, rfl, kp0, z⟩ := Xj w F
 refine Xd (args := [(.int .u64 a0)]) func81 ntmps81 rfl rfl m ?_
 unfold spec_FloatOf.f
 refine sr (Xy (.float .f64 0) rfl (dn (sr (Xb rfl (shrK rfl rfl rfl rfl rfl rfl rfl rfl (Xb rfl (cv u3 u88 rfl rfl rfl rfl rfl rfl (Xb rfl (dn (sr (Xb rfl (Xb rfl (Xb rfl (dn ?_))))))))))))))
 refine sr (Xy (.float .f64 0) rfl (dn (sr (Xb rfl (i2f u58 u88 rfl rfl rfl rfl rfl rfl (fun v1 A1 => ?_))))))
 refine fa_ A1 (fl_c rfl) (by simp) rfl rfl rfl rfl rfl rfl rfl (fun v2 s2 p2 A2 => ?_)
 refine Xy v2 rfl (dn (sq (sr (Xb rfl (Xb rfl (dn (jr (fun (y3 : Nat) e w => ∃ (s : St) (e0 : Env) (uy3_0 : Value), w = s.w ∧ e = upd (upd e0 0 (.int .u64 a0)) 6 uy3_0 ∧ Kp s0 s ∧ FL uy3_0 y3) (fun Gj3 Kj3 hG3 => ?_) ?_)))))))
 ·
  refine cd rfl (fun h4 => ?_) (fun h4 => ?_)
  ·
   refine sq (sr (Xb rfl (Xb rfl (dn (cd rfl (fun h5 => ?_) (fun h5 => ?_))))))
   ·
    refine sr (Xp (.float .f64 0) rfl (Xp (.float .f64 0) rfl (fa_ (fl_c rfl) (fl_c rfl) (by simp) rfl rfl rfl rfl rfl rfl rfl (fun v6 s6 p6 A6 => ?_))))
    refine Xy v6 rfl (dn (jri hG3 ?_))
    exact re rfl func81 rfl (Xq rfl Xe) rfl ⟨_, rfl, A6, z.ky (kp0.st (Xm p2 p6) rfl)⟩
   refine sk (rg (Xp (.float .f64 0) rfl (fa_ (fl_c rfl) (fl_c rfl) (by simp) rfl rfl rfl rfl rfl rfl rfl (fun v8 s8 p8 A8 => ?_))))
   refine Xy v8 rfl (dn ?_)
   exact Kj3 _ _ _ ⟨s8, _, v8, rfl, (ue (ue rfl rfl) rfl), (kp0.st (Xm p2 p8) rfl), A8⟩
  refine sr (Xb rfl (Xb rfl (Xb rfl (dn (sq (sr (Xb rfl (Xb rfl (dn (jc (fun (y10 : Nat × Int) e w => ∃ (s : St) (e0 : Env) (uy10_0 : Value), w = s.w ∧ e = upd (upd (upd e0 0 (.int .u64 a0)) 6 uy10_0) 7 (iI y10.2) ∧ Kp s0 s ∧ FL uy10_0 y10.1) (fun Gj10 Kj10 => ?_) ?_))))))))))
  ·
   refine cd rfl (fun h11 => ?_) (fun h11 => ?_)
   ·
    refine rg (Xb rfl (dn ?_))
    exact Kj10 _ _ _ ⟨s2, _, v2, rfl, (ue (ue (ue rfl rfl) rfl) rfl), (kp0.st p2 rfl), A2⟩
   refine rg (Xp v2 rfl (fa_ A2 (fl_c rfl) (by simp) rfl rfl rfl rfl rfl rfl rfl (fun v13 s13 p13 A13 => ?_)))
   refine Xy v13 rfl (dn ?_)
   exact Kj10 _ _ _ ⟨s13, _, v13, rfl, (ue (ue (ue rfl rfl) rfl) rfl), (kp0.st (Xm p2 p13) rfl), A13⟩
  rintro y10 _ _ ⟨s15, _, uy10_0, rfl, rfl, Ky10, Fy10_0⟩
  refine sq (bl (lpI (fun (x16 : Nat × Int) e w => ∃ (s : St) (e0 : Env) (ux16_0 : Value), w = s.w ∧ e = upd (upd (upd e0 0 (.int .u64 a0)) 6 ux16_0) 7 (iI x16.2) ∧ Kp s0 s ∧ FL ux16_0 x16.1) ⟨s15, _, uy10_0, rfl, (ue (ue (ue rfl rfl) rfl) rfl), Ky10, Fy10_0⟩ (fun g16 ih16 => ?_)))
  rintro x16 _ _ ⟨s17, _, ux16_0, rfl, rfl, Kx16, Fx16_0⟩
  unfold spec_FloatOf.b0
  refine sq (sr (Xb rfl (Xb rfl (dn (cd rfl (fun h18 => ?_) (fun h18 => ?_))))))
  ·
   refine sk (sq (bl (rg (Xp ux16_0 rfl (fa_ Fx16_0 (fl_c rfl) (by simp) rfl rfl rfl rfl rfl rfl rfl (fun v19 s19 p19 A19 => ?_))))))
   refine Xy v19 rfl (dn (ib (rg (Xb rfl (Xb rfl (Xb rfl (dn ?_)))))))
   exact lb ih16 ⟨s19, _, v19, rfl, (ue (ue (ue rfl rfl) rfl) rfl), (Kx16.st p19 rfl), A19⟩
  refine xt rfl (sgb (bl (lpI (fun (x21 : Nat × Int) e w => ∃ (s : St) (e0 : Env) (ux21_0 : Value), w = s.w ∧ e = upd (upd (upd e0 0 (.int .u64 a0)) 6 ux21_0) 7 (iI x21.2) ∧ Kp s0 s ∧ FL ux21_0 x21.1) ⟨s17, _, ux16_0, rfl, (ue (ue (ue rfl rfl) rfl) rfl), Kx16, Fx16_0⟩ (fun g21 ih21 => ?_))))
  rintro x21 _ _ ⟨s22, _, ux21_0, rfl, rfl, Kx21, Fx21_0⟩
  unfold spec_FloatOf.b1
  refine sq (sr (Xb rfl (Xb rfl (dn (cd rfl (fun h23 => ?_) (fun h23 => ?_))))))
  ·
   refine sk (sq (bl (rg (Xp ux21_0 rfl (fa_ Fx21_0 (fl_c rfl) (by simp) rfl rfl rfl rfl rfl rfl rfl (fun v24 s24 p24 A24 => ?_))))))
   refine Xy v24 rfl (dn (ib (rg (Xb rfl (Xb rfl (Xb rfl (dn ?_)))))))
   exact lb ih21 ⟨s24, _, v24, rfl, (ue (ue (ue rfl rfl) rfl) rfl), (Kx21.st p24 rfl), A24⟩
  exact xt rfl (sgb (Kj3 _ _ _ ⟨s22, _, ux21_0, rfl, (ue (ue rfl rfl) rfl), Kx21, Fx21_0⟩))
 rintro y3 _ _ ⟨s26, _, uy3_0, rfl, rfl, Ky3, Fy3_0⟩
 refine sq (sr (Xb rfl (shrK rfl rfl rfl rfl rfl rfl rfl rfl (Xb rfl (dn (cd rfl (fun h27 => ?_) (fun h27 => ?_)))))))
 ·
  refine sr (Xp uy3_0 rfl (fng_ Fy3_0 rfl rfl rfl rfl rfl rfl (fun v28 A28 => ?_)))
  exact Xy v28 rfl (dn (re rfl func81 rfl (Xq rfl Xe) rfl ⟨_, rfl, A28, z.ky Ky3⟩))
 exact sk (sr (Xp uy3_0 rfl (Xy uy3_0 rfl (dn (re rfl func81 rfl (Xq rfl Xe) rfl ⟨_, rfl, Fy3_0, z.ky Ky3⟩)))))
def spec_l2float.f (a0 : l1Cur) : Option (Nat × l1Cur) :=
 ((spec_l2bits.f a0).bind fun r3 => ((spec_FloatOf.f r3.1).bind fun r6 => (some (r6, (l1Cur.mk a0.b r3.2.i r3.2.h)))))
def spec_l2float.Q (w : World) (F : Nat → Prop) (p0 : Nat) (w0_0 : Value) (r : Nat × l1Cur) (v : Value) (w' : World) : Prop :=
 FL v r.1 ∧ BlW w' p0 54 [w0_0, (iI r.2.i), (iI r.2.h)] ∧ Ky [p0] w w'
theorem spec_l2float.calls (a0 : l1Cur) (w : World) (F : Nat → Prop) (p0 : Nat) (w0_0 : Value) (h0_0 : Yd.rd w [w0_0] a0.b F) (hb0 : BlW w p0 54 [w0_0, (iI a0.i), (iI a0.h)]) (hF : ∀ b, F b → b ∉ [p0]) (r : Nat × l1Cur) (m : spec_l2float.f a0 = some r) :
  Calls prog 65 #[(pB p0)] w (RT (spec_l2float.Q w F p0 w0_0) r) := by
 obtain ⟨s0, rfl, kp0, z⟩ := start1 w F [p0] hF
 have B0 := z.bl hb0 (by simp)
 refine Xd (args := [(pB p0)]) func65 ntmps65 rfl rfl m ?_
 unfold spec_l2float.f
 refine sr (Xy (.float .f64 0) rfl (dn (sr (Xb rfl (clB B0 rfl func82 rfl (spec_l2bits.calls a0 s0.w (mm [0] s0) p0 w0_0 (z.rd h0_0) B0.w (B0.apart rfl)) (fun r3 s4 p4 B4 => ?_))))))
 refine cl' rfl func81 rfl (spec_FloatOf.calls r3.1 s4.w (mm [] s4)) ?_
 rintro r6 v6_0 w6 m6 ⟨f6_0, ky6⟩
 obtain ⟨s7, rfl, p7, n7⟩ := nwx s4 w6 41 ky6
 refine Xy v6_0 rfl (dn ?_)
 exact re rfl func65 rfl (Xq rfl Xe) rfl ⟨_, rfl, f6_0, (BlF.w (B4.st p7 rfl)), z.ky (kp0.st (Xm p4 p7) rfl)⟩
def spec_l1some.b0 (a0 : l1Cur) (r3 : Int × l1Cur) (x6 : (List Int) × Int × Int × Int) : Option (((List Int) × Int × Int × Int) ⊕ ((List Int) × l1Cur)) :=
 (if (decide (x6.2.1 < r3.1)) = true then ((spec_l1Byte.f (l1Cur.mk a0.b x6.2.2.1 x6.2.2.2)).bind fun r13 => (if x6.1.length + ([(IntKind.wrap .u8 r13.1)]).length ≤ Lim then (some (Sum.inl ((x6.1 ++ [(IntKind.wrap .u8 r13.1)]), (IntKind.wrap .i64 (x6.2.1 + (1 : Int))), r13.2.i, r13.2.h))) else none)) else ((some (x6.1, (l1Cur.mk a0.b x6.2.2.1 x6.2.2.2))).bind fun o => some (Sum.inr o)))
def spec_l1some.f (a0 : l1Cur) (a1 : Int) : Option ((List Int) × l1Cur) :=
 ((spec_l1Below.f a0 (IntKind.wrap .i64 (a1 + (1 : Int)))).bind fun r3 => (iter (spec_l1some.b0 a0 r3) (([] : (List Int)), (0 : Int), r3.2.i, r3.2.h)))
def spec_l1some.Q (w : World) (F : Nat → Prop) (p0 : Nat) (w0_0 : Value) (r : (List Int) × l1Cur) (v : Value) (w' : World) : Prop :=
 FO Yd w w' [v] r.1 ∧ BlW w' p0 54 [w0_0, (iI r.2.i), (iI r.2.h)] ∧ Ky [p0] w w'
theorem spec_l1some.calls (a0 : l1Cur) (a1 : Int) (w : World) (F : Nat → Prop) (p0 : Nat) (w0_0 : Value) (h0_0 : Yd.rd w [w0_0] a0.b F) (hb0 : BlW w p0 54 [w0_0, (iI a0.i), (iI a0.h)]) (hF : ∀ b, F b → b ∉ [p0]) (r : (List Int) × l1Cur) (m : spec_l1some.f a0 a1 = some r) :
  Calls prog 66 #[(pB p0), (iI a1)] w (RT (spec_l1some.Q w F p0 w0_0) r) := by
 obtain ⟨s0, rfl, kp0, z⟩ := start1 w F [p0] hF
 have A0_0 := z.rd h0_0
 have B0 := z.bl hb0 (by simp)
 refine Xd (args := [(pB p0), (iI a1)]) func66 ntmps66 rfl rfl m ?_
 unfold spec_l1some.f
 refine sr (Xb rfl (dn (sr (Xb rfl (dn (sr (Xb rfl (Xb rfl (Xb rfl (clB B0 rfl func12 rfl (spec_l1Below.calls a0 (IntKind.wrap .i64 (a1 + (1 : Int))) s0.w (mm [0] s0) p0 w0_0 A0_0 B0.w (B0.apart rfl)) (fun r3 s4 p4 B4 => ?_)))))))))))
 refine Xb rfl (dn (sq (sr (Xb rfl (dn (bl ?_))))))
 refine lpI (fun (x6 : (List Int) × Int × Int × Int) e w => ∃ (s : St) (e0 : Env) (vx6_0 : Value), w = s.w ∧ e = upd (upd (upd (upd e0 0 (pB p0)) 5 vx6_0) 6 (iI r3.1)) 7 (iI x6.2.1) ∧ Kp s0 s ∧ OwF Yd s [vx6_0] x6.1 42 ∧ BlF s p0 54 [w0_0, (iI x6.2.2.1), (iI x6.2.2.2)] 2) ⟨s4, _, (.slice none 0 0), rfl, (ue (ue (ue (ue rfl rfl) rfl) rfl) rfl), (kp0.st p4 rfl), (ow_nil 5 (Kd.int .u8) _ 42), B4⟩ (fun g6 ih6 => ?_)
 rintro x6 _ _ ⟨s8, _, vx6_0, rfl, rfl, Kx6, Ax6_0, Bx6_p0⟩
 unfold spec_l1some.b0
 refine sq (sr (Xb rfl (Xb rfl (Xb rfl (dn (cd rfl (fun h11 => ?_) (fun h11 => ?_)))))))
 ·
  refine sk (sq (bl (rg (Xp vx6_0 rfl (Xb rfl ?_)))))
  refine clB Bx6_p0 rfl func30 rfl (spec_l1Byte.calls (l1Cur.mk a0.b x6.2.2.1 x6.2.2.2) s8.w (mm [0] s8) p0 w0_0 (A0_0.kp Kx6) Bx6_p0.w (Bx6_p0.apart rfl)) (fun r13 s14 p14 B14 => ?_)
  refine cv u5 u3 rfl rfl rfl rfl rfl rfl (ltF (K := (Kd.int .u8)) (cells := [(.int .u8 (IntKind.wrap .u8 r13.1))]) [(IntKind.wrap .u8 r13.1)] 44 fl_int u22 z5 o5 (fun w => (els_flat _ _ _)) rfl rfl rfl rfl rfl rfl rfl rfl rfl rfl (fun v16 s16 p16 A16 => ?_))
  refine apF fl_int sl22 (Ax6_0.st (Xm p14 p16) rfl) A16.rd rfl rfl rfl rfl rfl rfl rfl (fun v19 s19 p19 A19 => ?_)
  refine Xy v19 rfl (dn (ib (rg (Xb rfl (Xb rfl (Xb rfl (dn ?_)))))))
  exact lb ih6 ⟨s19, _, v19, rfl, (ue (ue (ue (ue rfl rfl) rfl) rfl) rfl), (Kx6.st (Yb p14 p16 p19) rfl), A19, (B14.st (Xm p16 p19) rfl)⟩
 exact xt rfl (sgb (sr (Xp vx6_0 rfl (Xy vx6_0 rfl (dn (re rfl func66 rfl (Xq rfl Xe) rfl ⟨_, rfl, Ax6_0.fo Kx6 rfl z.l, Bx6_p0.w, z.ky Kx6⟩))))))
def spec_l3key.f (a0 : l1Cur) : Option (Item × l1Cur) :=
 ((spec_l1Below.f a0 (6 : Int)).bind fun r7 => (if (r7.1 == (0 : Int)) = true then ((spec_l1Below.f (l1Cur.mk a0.b r7.2.i r7.2.h) (3 : Int)).bind fun r14 => (some ((Item.mk (3 : Int) (0 : Int) (0 : Nat) ([(IntKind.wrap .u8 (IntKind.wrap .i64 ((97 : Int) + r14.1)))])), (l1Cur.mk a0.b r14.2.i r14.2.h)))) else (if (r7.1 == (1 : Int)) = true then ((spec_l1Below.f (l1Cur.mk a0.b r7.2.i r7.2.h) (5 : Int)).bind fun r30 => ((spec_ItemClean.f (Item.mk (2 : Int) (0 : Int) (far .quo (FloatKind.f64.nearest (IntKind.wrap .i64 (r30.1 - (2 : Int)))) (4611686018427387904 : Nat)) ([] : (List Int)))).bind fun r35 => (some (r35, (l1Cur.mk a0.b r30.2.i r30.2.h))))) else ((if (r7.1 == (2 : Int)) = true then ((spec_l1Once.f (l1Cur.mk a0.b r7.2.i r7.2.h) (3 : Int)).bind fun r50 => (if r50.1 = true then ((spec_l2float.f (l1Cur.mk a0.b r50.2.i r50.2.h)).bind fun r56 => ((spec_ItemClean.f (Item.mk (2 : Int) (0 : Int) r56.1 ([] : (List Int)))).bind fun r59 => (some (Sum.inr (r59, (l1Cur.mk a0.b r56.2.i r56.2.h)))))) else (some (Sum.inl (r50.2.i, r50.2.h))))) else ((if (r7.1 == (3 : Int)) = true then ((spec_l1Once.f (l1Cur.mk a0.b r7.2.i r7.2.h) (4 : Int)).bind fun r76 => (if r76.1 = true then ((spec_l1some.f (l1Cur.mk a0.b r76.2.i r76.2.h) (40 : Int)).bind fun r82 => (some (Sum.inr (Sum.inr ((Item.mk (3 : Int) (0 : Int) (0 : Nat) r82.1), (l1Cur.mk a0.b r82.2.i r82.2.h)))))) else (some (Sum.inl (r76.2.i, r76.2.h))))) else (some (Sum.inl (r7.2.i, r7.2.h)))).bind (sel fun y72 => (some (Sum.inl (y72.1, y72.2)))))).bind (sel fun y46 => ((spec_l1Below.f (l1Cur.mk a0.b y46.1 y46.2) (6 : Int)).bind fun r105 => (some ((Item.mk (1 : Int) (IntKind.wrap .i64 (r105.1 - (1 : Int))) (0 : Nat) ([] : (List Int))), (l1Cur.mk a0.b r105.2.i r105.2.h)))))))))
def spec_l3key.Q (w : World) (F : Nat → Prop) (p0 : Nat) (w0_0 : Value) (r : Item × l1Cur) (v : Value) (w' : World) : Prop :=
 ∃ (v0 : Value) (v1 : Value), v = (.agg #[(iI r.1.Kind), (iI r.1.N), v0, v1]) ∧ FO kd60 w w' [(iI r.1.Kind), (iI r.1.N), v0, v1] r.1 ∧ BlW w' p0 54 [w0_0, (iI r.2.i), (iI r.2.h)] ∧ Ky [p0] w w'
theorem spec_l3key.calls (a0 : l1Cur) (w : World) (F : Nat → Prop) (p0 : Nat) (w0_0 : Value) (h0_0 : Yd.rd w [w0_0] a0.b F) (hb0 : BlW w p0 54 [w0_0, (iI a0.i), (iI a0.h)]) (hF : ∀ b, F b → b ∉ [p0]) (r : Item × l1Cur) (m : spec_l3key.f a0 = some r) :
  Calls prog 35 #[(pB p0)] w (RT (spec_l3key.Q w F p0 w0_0) r) := by
 obtain ⟨s0, rfl, kp0, z⟩ := start1 w F [p0] hF
 have A0_0 := z.rd h0_0
 refine Xd (args := [(pB p0)]) func35 ntmps35 rfl rfl m ?_
 unfold spec_l3key.f
 refine sr (al (cs := [(iI 0), (iI 0), (.float .f64 0), (.slice none 0 0)]) 40 rfl rfl rfl rfl rfl o60 rfl (fun b3 s3 p3 B3 => ?_))
 refine dn (sq (sr (Xb rfl ?_)))
 have K5 := kp0.st p3 rfl
 have A8 := BlF.st (z.bl hb0 (by simp)) p3 rfl
 refine clB A8 rfl func12 rfl (spec_l1Below.calls a0 (6 : Int) s3.w (mm [0] s3) p0 w0_0 (A0_0.kp K5) A8.w (A8.apart rfl)) (fun r7 s9 p9 B9 => ?_)
 refine dn (bl (sr (Xb rfl (Xb rfl (dn (cd rfl (fun h11 => ?_) (fun h11 => ?_)))))))
 ·
  refine sr (Xb rfl ?_)
  have K12 := K5.st p9 rfl
  refine clB B9 rfl func12 rfl (spec_l1Below.calls (l1Cur.mk a0.b r7.2.i r7.2.h) (3 : Int) s9.w (mm [0] s9) p0 w0_0 (A0_0.kp K12) B9.w (B9.apart rfl)) (fun r14 s15 p15 B15 => ?_)
  refine Xb rfl (cv u5 u3 rfl rfl rfl rfl rfl rfl (ltF (K := (Kd.int .u8)) (cells := [(.int .u8 (IntKind.wrap .u8 (IntKind.wrap .i64 ((97 : Int) + r14.1))))]) [(IntKind.wrap .u8 (IntKind.wrap .i64 ((97 : Int) + r14.1)))] 43 fl_int u22 z5 o5 (fun w => (els_flat _ _ _)) rfl rfl rfl rfl rfl rfl rfl rfl rfl rfl (fun v17 s17 p17 A17 => ?_)))
  refine bd (cells := [(iI 3), (iI 0), (.float .f64 0), v17]) pl60 o60 rfl rfl rfl rfl rfl (lfill_pc (pc_c rfl (pc_c (oc A17.rd.one) pc_n)) rfl) (sva' (vs := [(iI 3), (iI 0), (.float .f64 0), v17]) (B3.st (Yb p9 p15 p17) rfl) z60 rfl (Xc rfl (Xc rfl (Xc (FL.one (fl_c rfl)) (Xc A17.rd.one Xx)))) rfl (fun s20 p20 B20 => ?_))
  refine dn ?_
  have A22 : OwF kd60 s20 [(iI 3), (iI 0), (.float .f64 0), v17] (Item.mk (3 : Int) (0 : Int) (0 : Nat) ([(IntKind.wrap .u8 (IntKind.wrap .i64 ((97 : Int) + r14.1)))])) 43 := (Xv (fun x : Item => (x.Kind, x.N, x.F, x.T)) (Item.mk (3 : Int) (0 : Int) (0 : Nat) ([(IntKind.wrap .u8 (IntKind.wrap .i64 ((97 : Int) + r14.1)))])) (Xt (Xi .i64 (3 : Int)) (Xt (Xi .i64 (0 : Int)) (Xt (fz_flt (fl_c rfl)) (A17.st p20 rfl)))))
  have K25 := K12.st (Yb p15 p17 p20) rfl
  exact re rfl func35 rfl (r_b B20 u60 rfl z60 rfl Xe) rfl ⟨_, rfl, (.float .f64 0), v17, rfl, A22.fo K25 rfl z.l, (BlF.w (B15.st (Xm p17 p20) rfl)), z.ky K25⟩
 refine sr (Xb rfl (Xb rfl (dn (cd rfl (fun h27 => ?_) (fun h27 => ?_)))))
 ·
  refine sr (Xb rfl ?_)
  have K28 := K5.st p9 rfl
  refine clB B9 rfl func12 rfl (spec_l1Below.calls (l1Cur.mk a0.b r7.2.i r7.2.h) (5 : Int) s9.w (mm [0] s9) p0 w0_0 (A0_0.kp K28) B9.w (B9.apart rfl)) (fun r30 s31 p31 B31 => ?_)
  refine Xb rfl (i2f u58 u3 rfl rfl rfl rfl rfl rfl (fun v33 A33 => ?_))
  refine fa_ A33 (fl_c rfl) (by simp) rfl rfl rfl rfl rfl rfl rfl (fun v34 s34 p34 A34 => ?_)
  refine bd (cells := [(iI 2), (iI 0), v34, (.slice none 0 0)]) pl60 o60 rfl rfl rfl rfl rfl (lfill_pc (pc_c rfl (pc_c (oc (FL.one A34)) pc_n)) rfl) (cl' rfl func64 rfl (spec_ItemClean.calls (Item.mk (2 : Int) (0 : Int) (far .quo (FloatKind.f64.nearest (IntKind.wrap .i64 (r30.1 - (2 : Int)))) (4611686018427387904 : Nat)) ([] : (List Int))) s34.w (mm [] s34) v34 (.slice none 0 0) (Xl (s := s34) A34) (rd_nil 5 (Kd.int .u8) s34 [])) ?_)
  rintro r35 _ w35 m35 ⟨v35_0, v35_1, rfl, f35_0, ky35⟩
  obtain ⟨s36, rfl, p36, n36⟩ := nwx s34 w35 45 ky35
  obtain ⟨hu35_0_0, Au35_0_1⟩ := ap60 (f35_0.c n36)
  refine sva' (vs := [(iI r35.Kind), (iI r35.N), v35_0, v35_1]) (B3.st (tr4 p9 p31 p34 p36) rfl) z60 rfl (Xc rfl (Xc rfl (Xc (FL.one hu35_0_0) (Xc Au35_0_1.rd.one Xx)))) rfl (fun s39 p39 B39 => ?_)
  refine dn ?_
  have A41 : OwF kd60 s39 [(iI r35.Kind), (iI r35.N), v35_0, v35_1] r35 45 := (Xv (fun x : Item => (x.Kind, x.N, x.F, x.T)) r35 (Xt (Xi .i64 r35.Kind) (Xt (Xi .i64 r35.N) (Xt (fz_flt hu35_0_0) (Au35_0_1.st p39 rfl)))))
  have K44 := K28.st (tr4 p31 p34 p36 p39) rfl
  exact re rfl func35 rfl (r_b B39 u60 rfl z60 rfl Xe) rfl ⟨_, rfl, v35_0, v35_1, rfl, A41.fo K44 rfl z.l, (BlF.w (B31.st (Yb p34 p36 p39) rfl)), z.ky K44⟩
 refine sr (Xb rfl (Xb rfl (dn (jr (fun (y46 : Int × Int) e w => ∃ (s : St) (e0 : Env), w = s.w ∧ e = upd (upd e0 0 (pB p0)) 2 (pB b3) ∧ Kp s0 s ∧ BlF s p0 54 [w0_0, (iI y46.1), (iI y46.2)] 2 ∧ BlF s b3 60 [(iI 0), (iI 0), (.float .f64 0), (.slice none 0 0)] 40) (fun Gj46 Kj46 hG46 => ?_) ?_))))
 ·
  refine cd rfl (fun h47 => ?_) (fun h47 => ?_)
  ·
   refine sr (Xb rfl ?_)
   have K48 := K5.st p9 rfl
   refine clB B9 rfl func13 rfl (spec_l1Once.calls (l1Cur.mk a0.b r7.2.i r7.2.h) (3 : Int) s9.w (mm [0] s9) p0 w0_0 (A0_0.kp K48) B9.w (B9.apart rfl)) (fun r50 s51 p51 B51 => ?_)
   refine dn (cd rfl (fun h53 => ?_) (fun h53 => ?_))
   ·
    refine sr (Xb rfl ?_)
    have K54 := K48.st p51 rfl
    refine cl' rfl func65 rfl (spec_l2float.calls (l1Cur.mk a0.b r50.2.i r50.2.h) s51.w (mm [0] s51) p0 w0_0 (A0_0.kp K54) B51.w (B51.apart rfl)) ?_
    rintro r56 v56_0 w56 m56 ⟨f56_0, bw56, ky56⟩
    obtain ⟨s57, rfl, p57, n57, g57⟩ := nwb 47 B51 ky56
    refine bd (cells := [(iI 2), (iI 0), v56_0, (.slice none 0 0)]) pl60 o60 rfl rfl rfl rfl rfl (lfill_pc (pc_c rfl (pc_c (oc (FL.one f56_0)) pc_n)) rfl) (cl' rfl func64 rfl (spec_ItemClean.calls (Item.mk (2 : Int) (0 : Int) r56.1 ([] : (List Int))) s57.w (mm [] s57) v56_0 (.slice none 0 0) (Xl (s := s57) f56_0) (rd_nil 5 (Kd.int .u8) s57 [])) ?_)
    rintro r59 _ w59 m59 ⟨v59_0, v59_1, rfl, f59_0, ky59⟩
    obtain ⟨s60, rfl, p60, n60⟩ := nwx s57 w59 48 ky59
    obtain ⟨hu59_0_0, Au59_0_1⟩ := ap60 (f59_0.c n60)
    refine sva' (vs := [(iI r59.Kind), (iI r59.N), v59_0, v59_1]) (B3.st (tr4 p9 p51 p57 p60) rfl) z60 rfl (Xc rfl (Xc rfl (Xc (FL.one hu59_0_0) (Xc Au59_0_1.rd.one Xx)))) rfl (fun s63 p63 B63 => ?_)
    refine dn (jri hG46 ?_)
    have A65 : OwF kd60 s63 [(iI r59.Kind), (iI r59.N), v59_0, v59_1] r59 48 := (Xv (fun x : Item => (x.Kind, x.N, x.F, x.T)) r59 (Xt (Xi .i64 r59.Kind) (Xt (Xi .i64 r59.N) (Xt (fz_flt hu59_0_0) (Au59_0_1.st p63 rfl)))))
    have K68 := K54.st (Yb p57 p60 p63) rfl
    exact re rfl func35 rfl (r_b B63 u60 rfl z60 rfl Xe) rfl ⟨_, rfl, v59_0, v59_1, rfl, A65.fo K68 rfl z.l, (BlF.w (BlF.st (blf_mk bw56 g57) (Xm p60 p63) rfl)), z.ky K68⟩
   exact sk (Kj46 _ _ _ ⟨s51, _, rfl, (ue (ue rfl rfl) rfl), (K48.st p51 rfl), B51, (B3.st (Xm p9 p51) rfl)⟩)
  refine sr (Xb rfl (Xb rfl (dn (jr (fun (y72 : Int × Int) e w => ∃ (s : St) (e0 : Env), w = s.w ∧ e = upd (upd e0 0 (pB p0)) 2 (pB b3) ∧ Kp s0 s ∧ BlF s p0 54 [w0_0, (iI y72.1), (iI y72.2)] 2 ∧ BlF s b3 60 [(iI 0), (iI 0), (.float .f64 0), (.slice none 0 0)] 40) (fun Gj72 Kj72 hG72 => ?_) ?_))))
  ·
   refine cd rfl (fun h73 => ?_) (fun h73 => ?_)
   ·
    refine sr (Xb rfl ?_)
    have K74 := K5.st p9 rfl
    refine clB B9 rfl func13 rfl (spec_l1Once.calls (l1Cur.mk a0.b r7.2.i r7.2.h) (4 : Int) s9.w (mm [0] s9) p0 w0_0 (A0_0.kp K74) B9.w (B9.apart rfl)) (fun r76 s77 p77 B77 => ?_)
    refine dn (cd rfl (fun h79 => ?_) (fun h79 => ?_))
    ·
     refine sr (Xb rfl ?_)
     have K80 := K74.st p77 rfl
     refine cl' rfl func66 rfl (spec_l1some.calls (l1Cur.mk a0.b r76.2.i r76.2.h) (40 : Int) s77.w (mm [0] s77) p0 w0_0 (A0_0.kp K80) B77.w (B77.apart rfl)) ?_
     rintro r82 v82_0 w82 m82 ⟨f82_0, bw82, ky82⟩
     obtain ⟨s83, rfl, p83, n83, g83⟩ := nwb 50 B77 ky82
     have A82_0 := f82_0.c n83
     refine bd (cells := [(iI 3), (iI 0), (.float .f64 0), v82_0]) pl60 o60 rfl rfl rfl rfl rfl (lfill_pc (pc_c rfl (pc_c (oc A82_0.rd.one) pc_n)) rfl) (sva' (vs := [(iI 3), (iI 0), (.float .f64 0), v82_0]) (B3.st (Yb p9 p77 p83) rfl) z60 rfl (Xc rfl (Xc rfl (Xc (FL.one (fl_c rfl)) (Xc A82_0.rd.one Xx)))) rfl (fun s87 p87 B87 => ?_))
     refine dn (jri hG72 (jri hG46 ?_))
     have A89 : OwF kd60 s87 [(iI 3), (iI 0), (.float .f64 0), v82_0] (Item.mk (3 : Int) (0 : Int) (0 : Nat) r82.1) 50 := (Xv (fun x : Item => (x.Kind, x.N, x.F, x.T)) (Item.mk (3 : Int) (0 : Int) (0 : Nat) r82.1) (Xt (Xi .i64 (3 : Int)) (Xt (Xi .i64 (0 : Int)) (Xt (fz_flt (fl_c rfl)) (A82_0.st p87 rfl)))))
     have K92 := K80.st (Xm p83 p87) rfl
     exact re rfl func35 rfl (r_b B87 u60 rfl z60 rfl Xe) rfl ⟨_, rfl, (.float .f64 0), v82_0, rfl, A89.fo K92 rfl z.l, (BlF.w (BlF.st (blf_mk bw82 g83) p87 rfl)), z.ky K92⟩
    exact sk (Kj72 _ _ _ ⟨s77, _, rfl, (ue (ue rfl rfl) rfl), (K74.st p77 rfl), B77, (B3.st (Xm p9 p77) rfl)⟩)
   exact sk (Kj72 _ _ _ ⟨s9, _, rfl, (ue (ue rfl rfl) rfl), (K5.st p9 rfl), B9, (B3.st p9 rfl)⟩)
  rintro y72 _ _ ⟨s98, _, rfl, rfl, Ky72, By72_p0, By72_b3⟩
  exact Kj46 _ _ _ ⟨s98, _, rfl, (ue (ue rfl rfl) rfl), Ky72, By72_p0, By72_b3⟩
 rintro y46 _ _ ⟨s101, _, rfl, rfl, Ky46, By46_p0, By46_b3⟩
 refine ib (sr (Xb rfl ?_))
 refine clB By46_p0 rfl func12 rfl (spec_l1Below.calls (l1Cur.mk a0.b y46.1 y46.2) (6 : Int) s101.w (mm [0] s101) p0 w0_0 (A0_0.kp Ky46) By46_p0.w (By46_p0.apart rfl)) (fun r105 s106 p106 B106 => ?_)
 refine Xb rfl (bd (cells := [(iI 1), (iI (IntKind.wrap .i64 (r105.1 - (1 : Int)))), (.float .f64 0), (.slice none 0 0)]) pl60 o60 rfl rfl rfl rfl rfl rfl ?_)
 refine sva' (vs := [(iI 1), (iI (IntKind.wrap .i64 (r105.1 - (1 : Int)))), (.float .f64 0), (.slice none 0 0)]) (By46_b3.st p106 rfl) z60 rfl (Xc rfl (Xc rfl (Xc (FL.one (fl_c rfl)) (Xc rfl Xx)))) rfl (fun s109 p109 B109 => ?_)
 refine dn ?_
 have A111 : OwF kd60 s109 [(iI 1), (iI (IntKind.wrap .i64 (r105.1 - (1 : Int)))), (.float .f64 0), (.slice none 0 0)] (Item.mk (1 : Int) (IntKind.wrap .i64 (r105.1 - (1 : Int))) (0 : Nat) ([] : (List Int))) 52 := ow_z _ _ (fz_iso (fun x : Item => (x.Kind, x.N, x.F, x.T)) (Item.mk (1 : Int) (IntKind.wrap .i64 (r105.1 - (1 : Int))) (0 : Nat) ([] : (List Int))) (Xn (Xi .i64 (1 : Int)) (Xn (Xi .i64 (IntKind.wrap .i64 (r105.1 - (1 : Int)))) (Xn (fz_flt (fl_c rfl)) (fz_nil 5 (Kd.int .u8))))))
 have K113 := Ky46.st (Xm p106 p109) rfl
 exact re rfl func35 rfl (r_b B109 u60 rfl z60 rfl Xe) rfl ⟨_, rfl, (.float .f64 0), (.slice none 0 0), rfl, A111.fo K113 rfl z.l, (BlF.w (B106.st p109 rfl)), z.ky K113⟩
def spec_l13span.f (a0 : l1Cur) : Option (Span × l1Cur) :=
 ((spec_l3key.f a0).bind fun r7 => ((spec_l3key.f (l1Cur.mk a0.b r7.2.i r7.2.h)).bind fun r14 => ((spec_l1Once.f (l1Cur.mk a0.b r14.2.i r14.2.h) (2 : Int)).bind fun r26 => ((if r26.1 = true then ((spec_l3copy.f r7.1).bind fun r34 => (some (r34.Kind, r34.N, r34.F, r34.T))) else (some (r14.1.Kind, r14.1.N, r14.1.F, r14.1.T))).bind fun y30 => ((spec_ItemCompare.f r7.1 (Item.mk y30.1 y30.2.1 y30.2.2.1 y30.2.2.2)).bind fun r59 => ((if (decide (r59 > (0 : Int))) = true then ((spec_l1Once.f (l1Cur.mk a0.b r26.2.i r26.2.h) (12 : Int)).bind fun r64 => (some ((!r64.1), r64.2.i, r64.2.h))) else (some (false, r26.2.i, r26.2.h))).bind fun y61 => ((if y61.1 = true then (some (y30.1, y30.2.1, y30.2.2.1, y30.2.2.2, r7.1.Kind, r7.1.N, r7.1.F, r7.1.T)) else (some (r7.1.Kind, r7.1.N, r7.1.F, r7.1.T, y30.1, y30.2.1, y30.2.2.1, y30.2.2.2))).bind fun y83 => (some ((Span.mk (Item.mk y83.1 y83.2.1 y83.2.2.1 y83.2.2.2.1) (Item.mk y83.2.2.2.2.1 y83.2.2.2.2.2.1 y83.2.2.2.2.2.2.1 y83.2.2.2.2.2.2.2)), (l1Cur.mk a0.b y61.2.1 y61.2.2))))))))))
def spec_l13span.Q (w : World) (F : Nat → Prop) (p0 : Nat) (w0_0 : Value) (r : Span × l1Cur) (v : Value) (w' : World) : Prop :=
 ∃ (v0 : Value) (v1 : Value) (v2 : Value) (v3 : Value), v = (.agg #[(iI r.1.From.Kind), (iI r.1.From.N), v0, v1, (iI r.1.To.Kind), (iI r.1.To.N), v2, v3]) ∧ FO kd62 w w' [(iI r.1.From.Kind), (iI r.1.From.N), v0, v1, (iI r.1.To.Kind), (iI r.1.To.N), v2, v3] r.1 ∧ BlW w' p0 54 [w0_0, (iI r.2.i), (iI r.2.h)] ∧ Ky [p0] w w'
theorem spec_l13span.calls (a0 : l1Cur) (w : World) (F : Nat → Prop) (p0 : Nat) (w0_0 : Value) (h0_0 : Yd.rd w [w0_0] a0.b F) (hb0 : BlW w p0 54 [w0_0, (iI a0.i), (iI a0.h)]) (hF : ∀ b, F b → b ∉ [p0]) (r : Span × l1Cur) (m : spec_l13span.f a0 = some r) :
  Calls prog 33 #[(pB p0)] w (RT (spec_l13span.Q w F p0 w0_0) r) := by
 obtain ⟨s0, rfl, kp0, z⟩ := start1 w F [p0] hF
 have A0_0 := z.rd h0_0
 refine Xd (args := [(pB p0)]) func33 ntmps33 rfl rfl m ?_
 unfold spec_l13span.f
 refine sr (al (cs := [(iI 0), (iI 0), (.float .f64 0), (.slice none 0 0), (iI 0), (iI 0), (.float .f64 0), (.slice none 0 0)]) 40 rfl rfl rfl rfl rfl o62 rfl (fun b3 s3 p3 B3 => ?_))
 refine dn (sr (Xb rfl ?_))
 have K5 := kp0.st p3 rfl
 have A8 := BlF.st (z.bl hb0 (by simp)) p3 rfl
 refine cl' rfl func35 rfl (spec_l3key.calls a0 s3.w (mm [0] s3) p0 w0_0 (A0_0.kp K5) A8.w (A8.apart rfl)) ?_
 rintro r7 _ w7 m7 ⟨v7_0, v7_1, rfl, f7_0, bw7, ky7⟩
 obtain ⟨s9, rfl, p9, n9, g9⟩ := nwb 41 A8 ky7
 obtain ⟨hu7_0_0, Au7_0_1⟩ := ap60 (f7_0.c n9)
 have B9 := blf_mk bw7 g9
 refine Xb rfl ?_
 have K12 := K5.st p9 rfl
 refine cl' rfl func35 rfl (spec_l3key.calls (l1Cur.mk a0.b r7.2.i r7.2.h) s9.w (mm [0] s9) p0 w0_0 (A0_0.kp K12) B9.w (B9.apart rfl)) ?_
 rintro r14 _ w14 m14 ⟨v14_0, v14_1, rfl, f14_0, bw14, ky14⟩
 obtain ⟨s15, rfl, p15, n15, g15⟩ := nwb 42 B9 ky14
 obtain ⟨hu14_0_0, Au14_0_1⟩ := ap60 (f14_0.c n15)
 refine bd (cells := [(iI r7.1.Kind), (iI r7.1.N), v7_0, v7_1, (iI r14.1.Kind), (iI r14.1.N), v14_0, v14_1]) pl62 o62 rfl rfl rfl rfl rfl rfl (al (cs := [(iI 0), (iI 0), (.float .f64 0), (.slice none 0 0), (iI 0), (iI 0), (.float .f64 0), (.slice none 0 0)]) 43 rfl rfl rfl rfl rfl o62 rfl (fun b18 s18 p18 B18 => ?_))
 have A20 := Au14_0_1.st p18 rfl
 have A21 := Au7_0_1.st (Xm p15 p18) rfl
 refine sva' (vs := [(iI r7.1.Kind), (iI r7.1.N), v7_0, v7_1, (iI r14.1.Kind), (iI r14.1.N), v14_0, v14_1]) B18 z62 rfl (Xc rfl (Xc rfl (Xc (FL.one hu7_0_0) (Xc A21.rd.one (Xc rfl (Xc rfl (Xc (FL.one hu14_0_0) (Xc A20.rd.one Xx)))))))) rfl (fun s22 p22 B22 => ?_)
 refine dn (sq (sr (Xb rfl ?_)))
 have K24 := K12.st (Yb p15 p18 p22) rfl
 have A27 := BlF.st (blf_mk bw14 g15) (Xm p18 p22) rfl
 refine clB A27 rfl func13 rfl (spec_l1Once.calls (l1Cur.mk a0.b r14.2.i r14.2.h) (2 : Int) s22.w (mm [0] s22) p0 w0_0 (A0_0.kp K24) A27.w (A27.apart rfl)) (fun r26 s28 p28 B28 => ?_)
 refine dn (jc (fun (y30 : Int × Int × Nat × (List Int)) e w => ∃ (s : St) (e0 : Env) (vy30_0 uy30_0 : Value), w = s.w ∧ e = upd (upd (upd e0 0 (pB p0)) 2 (pB b3)) 3 (pB b18) ∧ Kp s0 s ∧ OwF Yd s [vy30_0] y30.2.2.2 45 ∧ FL uy30_0 y30.2.2.1 ∧ BlF s p0 54 [w0_0, (iI r26.2.i), (iI r26.2.h)] 2 ∧ BlF s b18 62 [(iI r7.1.Kind), (iI r7.1.N), v7_0, v7_1, (iI y30.1), (iI y30.2.1), uy30_0, vy30_0] 43 ∧ BlF s b3 62 [(iI 0), (iI 0), (.float .f64 0), (.slice none 0 0), (iI 0), (iI 0), (.float .f64 0), (.slice none 0 0)] 40 ∧ OwF Yd s [v7_1] r7.1.T 41) (fun Gj30 Kj30 => ?_) ?_)
 ·
  refine cd rfl (fun h31 => ?_) (fun h31 => ?_)
  ·
   refine rg (Xw fa62_0 rfl ?_)
   have A32 := B22.st p28 rfl
   refine lda' (es := [(iI r7.1.Kind), (iI r7.1.N), v7_0, v7_1]) A32 u60 z60 rfl ?_
   have A33 := A21.st (Xm p22 p28) rfl
   refine cl' rfl func60 rfl (spec_l3copy.calls r7.1 s28.w (mm [41] s28) v7_0 v7_1 ((Xl (s := s28) hu7_0_0).sub (D := [41]) rfl) A33.rd) ?_
   rintro r34 _ w34 m34 ⟨v34_0, v34_1, rfl, f34_0, ky34⟩
   obtain ⟨s35, rfl, p35, n35⟩ := nwx s28 w34 46 ky34
   obtain ⟨hu34_0_0, Au34_0_1⟩ := ap60 (f34_0.c n35)
   refine Xw fa62_1 rfl (sva' (vs := [(iI r34.Kind), (iI r34.N), v34_0, v34_1]) (A32.st p35 rfl) z60 rfl (Xc rfl (Xc rfl (Xc (FL.one hu34_0_0) (Xc Au34_0_1.rd.one Xx)))) rfl (fun s38 p38 B38 => ?_))
   refine dn ?_
   obtain ⟨s41, hw41, p41, A41⟩ := (Au34_0_1.st p38 rfl).rc 45 rfl
   rw [hw41]
   exact Kj30 _ _ _ ⟨s41, _, v34_1, v34_0, rfl, (ue (ue (ue rfl rfl) rfl) rfl), (K24.st (tr4 p28 p35 p38 p41) rfl), A41, hu34_0_0, (B28.st (Yb p35 p38 p41) rfl), (B38.st p41 rfl), (B3.st (tr8 p9 p15 p18 p22 p28 p35 p38 p41) rfl), (A33.st (Yb p35 p38 p41) rfl)⟩
  refine sk ?_
  obtain ⟨s48, hw48, p48, A48⟩ := (A20.st (Xm p22 p28) rfl).rc 45 rfl
  rw [hw48]
  exact Kj30 _ _ _ ⟨s48, _, v14_1, v14_0, rfl, (ue (ue (ue rfl rfl) rfl) rfl), (K24.st (Xm p28 p48) rfl), A48, hu14_0_0, (B28.st p48 rfl), (B22.st (Xm p28 p48) rfl), (B3.st (tr6 p9 p15 p18 p22 p28 p48) rfl), (A21.st (Yb p22 p28 p48) rfl)⟩
 rintro y30 _ _ ⟨s54, _, vy30_0, uy30_0, rfl, rfl, Ky30, Ay30_0, Fy30_0, By30_p0, By30_b18, By30_b3, Cy30_10⟩
 refine sq (sr (Xw fa62_0 rfl (lda' (es := [(iI r7.1.Kind), (iI r7.1.N), v7_0, v7_1]) By30_b18 u60 z60 rfl (Xw fa62_1 rfl (lda' (es := [(iI y30.1), (iI y30.2.1), uy30_0, vy30_0]) By30_b18 u60 z60 rfl (clV 47 rfl func61 rfl (spec_ItemCompare.calls r7.1 (Item.mk y30.1 y30.2.1 y30.2.2.1 y30.2.2.2) s54.w (mm [41, 45] s54) v7_0 v7_1 uy30_0 vy30_0 ((Xl (s := s54) hu7_0_0).sub (D := [41, 45]) rfl) (Cy30_10.rd.sub (D := [41, 45]) rfl) ((Xl (s := s54) Fy30_0).sub (D := [41, 45]) rfl) (Ay30_0.rd.sub (D := [41, 45]) rfl)) (fun r59 s60 p60 n60 => ?_)))))))
 refine Xb rfl (Xb rfl (ji [] (fun (y61 : Bool × Int × Int) e w => ∃ (s : St) (e0 : Env), w = s.w ∧ e = upd (upd (upd e0 2 (pB b3)) 3 (pB b18)) 25 (.bool y61.1) ∧ Kp s0 s ∧ BlF s p0 54 [w0_0, (iI y61.2.1), (iI y61.2.2)] 2 ∧ BlF s b18 62 [(iI r7.1.Kind), (iI r7.1.N), v7_0, v7_1, (iI y30.1), (iI y30.2.1), uy30_0, vy30_0] 43 ∧ BlF s b3 62 [(iI 0), (iI 0), (.float .f64 0), (.slice none 0 0), (iI 0), (iI 0), (.float .f64 0), (.slice none 0 0)] 40 ∧ OwF Yd s [v7_1] r7.1.T 41 ∧ OwF Yd s [vy30_0] y30.2.2.2 45) (fun Gj61 Kj61 => ?_) ?_))
 ·
  rcases bft (decide (r59 > (0 : Int))) with hb61 | hb61
  ·
   refine Xs hb61 ?_
   rw [if_pos hb61]
   refine Xb rfl ?_
   have K62 := Ky30.st p60 rfl
   have A65 := By30_p0.st p60 rfl
   refine clB A65 rfl func13 rfl (spec_l1Once.calls (l1Cur.mk a0.b r26.2.i r26.2.h) (12 : Int) s60.w (mm [0] s60) p0 w0_0 (A0_0.kp K62) A65.w (A65.apart rfl)) (fun r64 s66 p66 B66 => ?_)
   refine Xb rfl (Xb rfl ?_)
   exact Kj61 _ _ _ ⟨s66, _, rfl, (ue (ue (ue rfl rfl) rfl) rfl), (K62.st p66 rfl), B66, (By30_b18.st (Xm p60 p66) rfl), (By30_b3.st (Xm p60 p66) rfl), (Cy30_10.st (Xm p60 p66) rfl), (Ay30_0.st (Xm p60 p66) rfl)⟩
  refine Xs hb61 ?_
  rw [if_neg (by rw [hb61]; decide)]
  refine Xf rfl (Xf rfl (Xf rfl (Xb rfl ?_)))
  exact Kj61 _ _ _ ⟨s60, _, rfl, (ue (ue (ue rfl rfl) rfl) rfl), (Ky30.st p60 rfl), (By30_p0.st p60 rfl), (By30_b18.st p60 rfl), (By30_b3.st p60 rfl), (Cy30_10.st p60 rfl), (Ay30_0.st p60 rfl)⟩
 rintro y61 _ _ ⟨s79, _, rfl, rfl, Ky61, By61_p0, By61_b18, By61_b3, Cy61_10, Cy61_55⟩
 refine dn (jc (fun (y83 : Int × Int × Nat × (List Int) × Int × Int × Nat × (List Int)) e w => ∃ (s : St) (e0 : Env) (vy83_0 vy83_1 uy83_0 uy83_1 : Value), w = s.w ∧ e = upd (upd e0 2 (pB b3)) 3 (pB b18) ∧ Kp s0 s ∧ OwF Yd s [vy83_0] y83.2.2.2.1 49 ∧ OwF Yd s [vy83_1] y83.2.2.2.2.2.2.2 50 ∧ FL uy83_0 y83.2.2.1 ∧ FL uy83_1 y83.2.2.2.2.2.2.1 ∧ BlF s p0 54 [w0_0, (iI y61.2.1), (iI y61.2.2)] 2 ∧ BlF s b18 62 [(iI y83.1), (iI y83.2.1), uy83_0, vy83_0, (iI y83.2.2.2.2.1), (iI y83.2.2.2.2.2.1), uy83_1, vy83_1] 43 ∧ BlF s b3 62 [(iI 0), (iI 0), (.float .f64 0), (.slice none 0 0), (iI 0), (iI 0), (.float .f64 0), (.slice none 0 0)] 40) (fun Gj83 Kj83 => ?_) ?_)
 ·
  refine cd rfl (fun h84 => ?_) (fun h84 => ?_)
  ·
   refine rg (Xw fa62_1 rfl (lda' (es := [(iI y30.1), (iI y30.2.1), uy30_0, vy30_0]) By61_b18 u60 z60 rfl (Xw fa62_0 rfl (lda' (es := [(iI r7.1.Kind), (iI r7.1.N), v7_0, v7_1]) By61_b18 u60 z60 rfl (bd (cells := [(iI y30.1), (iI y30.2.1), uy30_0, vy30_0, (iI r7.1.Kind), (iI r7.1.N), v7_0, v7_1]) pl62 o62 rfl rfl rfl rfl rfl rfl (sva' (vs := [(iI y30.1), (iI y30.2.1), uy30_0, vy30_0, (iI r7.1.Kind), (iI r7.1.N), v7_0, v7_1]) By61_b18 z62 rfl (Xc rfl (Xc rfl (Xc (FL.one Fy30_0) (Xc Cy61_55.rd.one (Xc rfl (Xc rfl (Xc (FL.one hu7_0_0) (Xc Cy61_10.rd.one Xx)))))))) rfl (fun s85 p85 B85 => ?_)))))))
   refine dn ?_
   obtain ⟨s88, hw88, p88, A88⟩ := (Cy61_55.st p85 rfl).rc 49 rfl
   rw [hw88]
   obtain ⟨s90, hw90, p90, A90⟩ := (Cy61_10.st (Xm p85 p88) rfl).rc 50 rfl
   rw [hw90]
   exact Kj83 _ _ _ ⟨s90, _, vy30_0, v7_1, uy30_0, v7_0, rfl, (ue (ue rfl rfl) rfl), (Ky61.st (Yb p85 p88 p90) rfl), (A88.st p90 rfl), A90, Fy30_0, hu7_0_0, (By61_p0.st (Yb p85 p88 p90) rfl), (B85.st (Xm p88 p90) rfl), (By61_b3.st (Yb p85 p88 p90) rfl)⟩
  refine sk ?_
  obtain ⟨s96, hw96, p96, A96⟩ := Cy61_10.rc 49 rfl
  rw [hw96]
  obtain ⟨s98, hw98, p98, A98⟩ := (Cy61_55.st p96 rfl).rc 50 rfl
  rw [hw98]
  exact Kj83 _ _ _ ⟨s98, _, v7_1, vy30_0, v7_0, uy30_0, rfl, (ue (ue rfl rfl) rfl), (Ky61.st (Xm p96 p98) rfl), (A96.st p98 rfl), A98, hu7_0_0, Fy30_0, (By61_p0.st (Xm p96 p98) rfl), (By61_b18.st (Xm p96 p98) rfl), (By61_b3.st (Xm p96 p98) rfl)⟩
 rintro y83 _ _ ⟨s104, _, vy83_0, vy83_1, uy83_0, uy83_1, rfl, rfl, Ky83, Ay83_0, Ay83_1, Fy83_0, Fy83_1, By83_p0, By83_b18, By83_b3⟩
 refine sr (lda' (es := [(iI y83.1), (iI y83.2.1), uy83_0, vy83_0, (iI y83.2.2.2.2.1), (iI y83.2.2.2.2.2.1), uy83_1, vy83_1]) By83_b18 u62 z62 rfl (sva' (vs := [(iI y83.1), (iI y83.2.1), uy83_0, vy83_0, (iI y83.2.2.2.2.1), (iI y83.2.2.2.2.2.1), uy83_1, vy83_1]) By83_b3 z62 rfl (Xc rfl (Xc rfl (Xc (FL.one Fy83_0) (Xc Ay83_0.rd.one (Xc rfl (Xc rfl (Xc (FL.one Fy83_1) (Xc Ay83_1.rd.one Xx)))))))) rfl (fun s110 p110 B110 => ?_)))
 refine dn ?_
 obtain ⟨s114, hw114, p114, A114⟩ := ow_2 (Xv (fun x : Item => (x.Kind, x.N, x.F, x.T)) (Item.mk y83.1 y83.2.1 y83.2.2.1 y83.2.2.2.1) (Xt (Xi .i64 y83.1) (Xt (Xi .i64 y83.2.1) (Xt (fz_flt Fy83_0) (Ay83_0.st p110 rfl))))) (Xv (fun x : Item => (x.Kind, x.N, x.F, x.T)) (Item.mk y83.2.2.2.2.1 y83.2.2.2.2.2.1 y83.2.2.2.2.2.2.1 y83.2.2.2.2.2.2.2) (Xt (Xi .i64 y83.2.2.2.2.1) (Xt (Xi .i64 y83.2.2.2.2.2.1) (Xt (fz_flt Fy83_1) (Ay83_1.st p110 rfl))))) rfl rfl
 rw [hw114]
 have A116 : OwF kd62 s114 [(iI y83.1), (iI y83.2.1), uy83_0, vy83_0, (iI y83.2.2.2.2.1), (iI y83.2.2.2.2.2.1), uy83_1, vy83_1] (Span.mk (Item.mk y83.1 y83.2.1 y83.2.2.1 y83.2.2.2.1) (Item.mk y83.2.2.2.2.1 y83.2.2.2.2.2.1 y83.2.2.2.2.2.2.1 y83.2.2.2.2.2.2.2)) 49 := (Xv (fun x : Span => (x.From, x.To)) (Span.mk (Item.mk y83.1 y83.2.1 y83.2.2.1 y83.2.2.2.1) (Item.mk y83.2.2.2.2.1 y83.2.2.2.2.2.1 y83.2.2.2.2.2.2.1 y83.2.2.2.2.2.2.2)) A114)
 have K119 := Ky83.st (Xm p110 p114) rfl
 exact re rfl func33 rfl (r_b (B110.st p114 rfl) u62 rfl z62 rfl Xe) rfl ⟨_, rfl, uy83_0, vy83_0, uy83_1, vy83_1, rfl, A116.fo K119 rfl z.l, (BlF.w (By83_p0.st (Xm p110 p114) rfl)), z.ky K119⟩
def spec_l13at.b0 (a0 : (List Track)) (a1 : Int) (x2 : Int) : Option (Int ⊕ Int) :=
 (if (decide (x2 < (a0.length : Int))) = true then (if 0 ≤ x2 ∧ x2 < (a0.length : Int) then ((if ((at_ a0 x2).Xid == a1) = true then (if 0 ≤ x2 ∧ x2 < (a0.length : Int) then (some ((at_ a0 x2).Ended == (0 : Int))) else none) else (some false)).bind fun y10 => (if y10 = true then (some (Sum.inr x2)) else (some (Sum.inl (IntKind.wrap .i64 (x2 + (1 : Int))))))) else none) else ((some (-1 : Int)).bind fun o => some (Sum.inr o)))
def spec_l13at.f (a0 : (List Track)) (a1 : Int) : Option (Int) :=
 (iter (spec_l13at.b0 a0 a1) (0 : Int))
def spec_l13at.Q (w : World) (F : Nat → Prop) (r : Int) (v : Value) (w' : World) : Prop :=
 v = (iI r) ∧ Ky [] w w'
theorem spec_l13at.calls (a0 : (List Track)) (a1 : Int) (w : World) (F : Nat → Prop) (w0_0 : Value) (h0_0 : Yc.rd w [w0_0] a0 F) (r : Int) (m : spec_l13at.f a0 a1 = some r) :
  Calls prog 23 #[w0_0, (iI a1)] w (RT (spec_l13at.Q w F) r) := by
 obtain ⟨s0, rfl, kp0, z⟩ := Xj w F
 refine Xd (args := [w0_0, (iI a1)]) func23 ntmps23 rfl rfl m ?_
 unfold spec_l13at.f
 refine sr (Xb rfl (dn (sq (sr (Xb rfl (dn (bl (lpI (fun (x2 : Int) e w => ∃ (s : St) (e0 : Env), w = s.w ∧ e = upd (upd (upd e0 0 w0_0) 1 (iI a1)) 5 (iI x2) ∧ Kp s0 s) ⟨s0, _, rfl, (ue (ue (ue rfl rfl) rfl) rfl), kp0⟩ (fun g2 ih2 => ?_)))))))))
 rintro x2 _ _ ⟨s3, _, rfl, rfl, Kx2⟩
 unfold spec_l13at.b0
 refine sq (sr (Xb rfl (Xp w0_0 rfl ?_)))
 have A4 := (z.rd h0_0).kp Kx2
 refine ln' A4 u30 rfl (Xb rfl (dn (cd rfl (fun h5 => ?_) (fun h5 => ?_))))
 ·
  refine sk (sq (bl (sr (Xp w0_0 rfl (Xb rfl (ix' A4 u30 z27 rfl (fun ad6 es6 h0_6 h1_6 he6 ce6 ia6 => ?_)))))))
  obtain ⟨v6_0, v6_1, rfl, A6_0, A6_1⟩ := op27 he6
  refine Xw fa27_0 rfl (lc0 ce6 u3 rfl rfl rfl rfl rfl rfl rfl rfl (Xb rfl (Xb rfl (Xb rfl (ji [] (fun (y10 : Bool) e w => ∃ (s : St) (e0 : Env), w = s.w ∧ e = upd (upd (upd (upd e0 0 w0_0) 1 (iI a1)) 5 (iI x2)) 26 (.bool y10) ∧ Kp s0 s) (fun Gj10 Kj10 => ?_) ?_)))))
  ·
   rcases bft ((at_ a0 x2).Xid == a1) with hb10 | hb10
   ·
    refine Xs hb10 ?_
    rw [if_pos hb10]
    refine Xp w0_0 rfl (Xb rfl (ix' A4 u30 z27 rfl (fun ad11 es11 h0_11 h1_11 he11 ce11 ia11 => ?_)))
    obtain ⟨v11_0, v11_1, rfl, A11_0, A11_1⟩ := op27 he11
    exact Xw fa27_2 rfl (lc ce11 u3 rfl rfl rfl rfl rfl rfl rfl rfl (Xb rfl (Xb rfl (Kj10 _ _ _ ⟨s3, _, rfl, (ue (ue (ue (ue rfl rfl) rfl) rfl) rfl), Kx2⟩))))
   refine Xs hb10 ?_
   rw [if_neg (by rw [hb10]; decide)]
   exact Xf rfl (Xf rfl (Xf rfl (Xf rfl (Xf rfl (Xf rfl (Xb rfl (Kj10 _ _ _ ⟨s3, _, rfl, (ue (ue (ue (ue rfl rfl) rfl) rfl) rfl), Kx2⟩)))))))
  rintro y10 _ _ ⟨s15, _, rfl, rfl, Ky10⟩
  refine dn (cd rfl (fun h16 => ?_) (fun h16 => ?_))
  ·
   exact sr (Xb rfl (Xb rfl (dn (sgi (re rfl func23 rfl (Xq rfl Xe) rfl ⟨_, rfl, rfl, z.ky Ky10⟩)))))
  exact sk (ib (rg (Xb rfl (Xb rfl (Xb rfl (dn (lb ih2 ⟨s15, _, rfl, (ue (ue (ue rfl rfl) rfl) rfl), Ky10⟩)))))))
 exact xt rfl (sgb (sr (Xb rfl (dn (re rfl func23 rfl (Xq rfl Xe) rfl ⟨_, rfl, rfl, z.ky Kx2⟩)))))
def spec_InSpan.f (a0 : Item) (a1 : Item) (a2 : Item) : Option (Bool) :=
 ((spec_KeyOk.f a0).bind fun r13 => ((if r13 = true then ((spec_KeyOk.f a1).bind fun r19 => (some r19)) else (some false)).bind fun y15 => ((if y15 = true then ((spec_KeyOk.f a2).bind fun r35 => (some r35)) else (some false)).bind fun y33 => ((if y33 = true then ((spec_ItemCompare.f a0 a2).bind fun r48 => (some (decide (r48 ≤ (0 : Int))))) else (some false)).bind fun y45 => ((if y45 = true then ((spec_ItemCompare.f a2 a1).bind fun r59 => (some (decide (r59 ≤ (0 : Int))))) else (some false)).bind fun y56 => (some y56))))))
def spec_InSpan.Q (w : World) (F : Nat → Prop) (r : Bool) (v : Value) (w' : World) : Prop :=
 v = (.bool r) ∧ Ky [] w w'
theorem spec_InSpan.calls (a0 : Item) (a1 : Item) (a2 : Item) (w : World) (F : Nat → Prop) (w0_0 : Value) (w0_1 : Value) (w1_0 : Value) (w1_1 : Value) (w2_0 : Value) (w2_1 : Value) (h0_0 : Kd.flt.rd w [w0_0] a0.F F) (h0_1 : Yd.rd w [w0_1] a0.T F) (h1_0 : Kd.flt.rd w [w1_0] a1.F F) (h1_1 : Yd.rd w [w1_1] a1.T F) (h2_0 : Kd.flt.rd w [w2_0] a2.F F) (h2_1 : Yd.rd w [w2_1] a2.T F) (r : Bool) (m : spec_InSpan.f a0 a1 a2 = some r) :
  Calls prog 58 #[(.agg #[(iI a0.Kind), (iI a0.N), w0_0, w0_1]), (.agg #[(iI a1.Kind), (iI a1.N), w1_0, w1_1]), (.agg #[(iI a2.Kind), (iI a2.N), w2_0, w2_1])] w (RT (spec_InSpan.Q w F) r) := by
 obtain ⟨s0, rfl, kp0, z⟩ := Xj w F
 have A0_0 := fl_of h0_0
 have A0_1 := z.rd h0_1
 have A1_0 := fl_of h1_0
 have A1_1 := z.rd h1_1
 have A2_0 := fl_of h2_0
 have A2_1 := z.rd h2_1
 refine Xd (args := [(.agg #[(iI a0.Kind), (iI a0.N), w0_0, w0_1]), (.agg #[(iI a1.Kind), (iI a1.N), w1_0, w1_1]), (.agg #[(iI a2.Kind), (iI a2.N), w2_0, w2_1])]) func58 ntmps58 rfl rfl m ?_
 unfold spec_InSpan.f
 refine sr (bx' (cs := [(iI a0.Kind), (iI a0.N), w0_0, w0_1]) 40 rfl rfl (fun b4 s4 p4 B4 => ?_))
 refine bx' (cs := [(iI a1.Kind), (iI a1.N), w1_0, w1_1]) 41 rfl rfl (fun b6 s6 p6 B6 => ?_)
 refine bx' (cs := [(iI a2.Kind), (iI a2.N), w2_0, w2_1]) 42 rfl rfl (fun b8 s8 p8 B8 => ?_)
 refine Xb rfl (dn (sr ?_))
 have A10 := B4.st (Xm p6 p8) rfl
 refine lda' (es := [(iI a0.Kind), (iI a0.N), w0_0, w0_1]) A10 u60 z60 rfl ?_
 have K11 := kp0.st (Yb p4 p6 p8) rfl
 refine clV 43 rfl func48 rfl (spec_KeyOk.calls a0 s8.w (mm [0] s8) w0_0 w0_1 ((Xl (s := s8) A0_0).sub (D := [0]) rfl) (A0_1.kp K11)) (fun r13 s14 p14 n14 => ?_)
 refine Xb rfl (ji [6, 7, 8, 9, 10, 11, 12, 13, 14, 15, 16, 17, 18, 19, 20, 21, 22] (fun (y15 : Bool) e w => ∃ (s : St) (e0 : Env), w = s.w ∧ e = upd (upd (upd (upd e0 3 (pB b4)) 4 (pB b6)) 5 (pB b8)) 12 (.bool y15) ∧ Kp s0 s ∧ BlF s b8 60 [(iI a2.Kind), (iI a2.N), w2_0, w2_1] 42 ∧ BlF s b6 60 [(iI a1.Kind), (iI a1.N), w1_0, w1_1] 41 ∧ BlF s b4 60 [(iI a0.Kind), (iI a0.N), w0_0, w0_1] 40) (fun Gj15 Kj15 => ?_) ?_)
 ·
  rcases bft r13 with hb15 | hb15
  ·
   refine Xs hb15 ?_
   rw [if_pos hb15]
   have A16 := B6.st (Xm p8 p14) rfl
   refine lda' (es := [(iI a1.Kind), (iI a1.N), w1_0, w1_1]) A16 u60 z60 rfl ?_
   have K17 := K11.st p14 rfl
   refine clV 44 rfl func48 rfl (spec_KeyOk.calls a1 s14.w (mm [0] s14) w1_0 w1_1 ((Xl (s := s14) A1_0).sub (D := [0]) rfl) (A1_1.kp K17)) (fun r19 s20 p20 n20 => ?_)
   exact Xb rfl (Kj15 _ _ _ ⟨s20, _, rfl, (ue (ue (ue (ue rfl rfl) rfl) rfl) rfl), (K17.st p20 rfl), (B8.st (Xm p14 p20) rfl), (A16.st p20 rfl), (A10.st (Xm p14 p20) rfl)⟩)
  refine Xs hb15 ?_
  rw [if_neg (by rw [hb15]; decide)]
  refine Xf rfl (Xf rfl (Xb rfl ?_))
  exact Kj15 _ _ _ ⟨s14, _, rfl, (ue (ue (ue (ue rfl rfl) rfl) rfl) rfl), (K11.st p14 rfl), (B8.st p14 rfl), (B6.st (Xm p8 p14) rfl), (A10.st p14 rfl)⟩
 rintro y15 _ _ ⟨s29, _, rfl, rfl, Ky15, By15_b8, By15_b6, By15_b4⟩
 refine Xb rfl (ji [10, 11, 12, 13, 14, 15, 16, 17, 18, 19, 20, 21, 22] (fun (y33 : Bool) e w => ∃ (s : St) (e0 : Env), w = s.w ∧ e = upd (upd (upd (upd e0 3 (pB b4)) 4 (pB b6)) 5 (pB b8)) 16 (.bool y33) ∧ Kp s0 s ∧ BlF s b8 60 [(iI a2.Kind), (iI a2.N), w2_0, w2_1] 42 ∧ BlF s b6 60 [(iI a1.Kind), (iI a1.N), w1_0, w1_1] 41 ∧ BlF s b4 60 [(iI a0.Kind), (iI a0.N), w0_0, w0_1] 40) (fun Gj33 Kj33 => ?_) ?_)
 ·
  rcases bft y15 with hb33 | hb33
  ·
   refine Xs hb33 ?_
   rw [if_pos hb33]
   refine lda' (es := [(iI a2.Kind), (iI a2.N), w2_0, w2_1]) By15_b8 u60 z60 rfl (clV 45 rfl func48 rfl (spec_KeyOk.calls a2 s29.w (mm [0] s29) w2_0 w2_1 ((Xl (s := s29) A2_0).sub (D := [0]) rfl) (A2_1.kp Ky15)) (fun r35 s36 p36 n36 => ?_))
   exact Xb rfl (Kj33 _ _ _ ⟨s36, _, rfl, (ue (ue (ue (ue rfl rfl) rfl) rfl) rfl), (Ky15.st p36 rfl), (By15_b8.st p36 rfl), (By15_b6.st p36 rfl), (By15_b4.st p36 rfl)⟩)
  refine Xs hb33 ?_
  rw [if_neg (by rw [hb33]; decide)]
  exact Xf rfl (Xf rfl (Xb rfl (Kj33 _ _ _ ⟨s29, _, rfl, (ue (ue (ue (ue rfl rfl) rfl) rfl) rfl), Ky15, By15_b8, By15_b6, By15_b4⟩)))
 rintro y33 _ _ ⟨s41, _, rfl, rfl, Ky33, By33_b8, By33_b6, By33_b4⟩
 refine Xb rfl (ji [16, 17, 18, 19, 20, 21, 22] (fun (y45 : Bool) e w => ∃ (s : St) (e0 : Env), w = s.w ∧ e = upd (upd (upd e0 4 (pB b6)) 5 (pB b8)) 22 (.bool y45) ∧ Kp s0 s ∧ BlF s b8 60 [(iI a2.Kind), (iI a2.N), w2_0, w2_1] 42 ∧ BlF s b6 60 [(iI a1.Kind), (iI a1.N), w1_0, w1_1] 41) (fun Gj45 Kj45 => ?_) ?_)
 ·
  rcases bft y33 with hb45 | hb45
  ·
   refine Xs hb45 ?_
   rw [if_pos hb45]
   refine lda' (es := [(iI a0.Kind), (iI a0.N), w0_0, w0_1]) By33_b4 u60 z60 rfl (lda' (es := [(iI a2.Kind), (iI a2.N), w2_0, w2_1]) By33_b8 u60 z60 rfl ?_)
   refine clV 46 rfl func61 rfl (spec_ItemCompare.calls a0 a2 s41.w (mm [0] s41) w0_0 w0_1 w2_0 w2_1 ((Xl (s := s41) A0_0).sub (D := [0]) rfl) (A0_1.kp Ky33) ((Xl (s := s41) A2_0).sub (D := [0]) rfl) (A2_1.kp Ky33)) (fun r48 s49 p49 n49 => ?_)
   refine Xb rfl (Xb rfl ?_)
   exact Kj45 _ _ _ ⟨s49, _, rfl, (ue (ue (ue rfl rfl) rfl) rfl), (Ky33.st p49 rfl), (By33_b8.st p49 rfl), (By33_b6.st p49 rfl)⟩
  refine Xs hb45 ?_
  rw [if_neg (by rw [hb45]; decide)]
  exact Xf rfl (Xf rfl (Xf rfl (Xf rfl (Xb rfl (Kj45 _ _ _ ⟨s41, _, rfl, (ue (ue (ue rfl rfl) rfl) rfl), Ky33, By33_b8, By33_b6⟩)))))
 rintro y45 _ _ ⟨s53, _, rfl, rfl, Ky45, By45_b8, By45_b6⟩
 refine Xb rfl (ji [22] (fun (y56 : Bool) e w => ∃ (s : St) (e0 : Env), w = s.w ∧ e = upd e0 28 (.bool y56) ∧ Kp s0 s) (fun Gj56 Kj56 => ?_) ?_)
 ·
  rcases bft y45 with hb56 | hb56
  ·
   refine Xs hb56 ?_
   rw [if_pos hb56]
   refine lda' (es := [(iI a2.Kind), (iI a2.N), w2_0, w2_1]) By45_b8 u60 z60 rfl (lda' (es := [(iI a1.Kind), (iI a1.N), w1_0, w1_1]) By45_b6 u60 z60 rfl ?_)
   refine clV 47 rfl func61 rfl (spec_ItemCompare.calls a2 a1 s53.w (mm [0] s53) w2_0 w2_1 w1_0 w1_1 ((Xl (s := s53) A2_0).sub (D := [0]) rfl) (A2_1.kp Ky45) ((Xl (s := s53) A1_0).sub (D := [0]) rfl) (A1_1.kp Ky45)) (fun r59 s60 p60 n60 => ?_)
   refine Xb rfl (Xb rfl ?_)
   exact Kj56 _ _ _ ⟨s60, _, rfl, (ue rfl rfl), (Ky45.st p60 rfl)⟩
  refine Xs hb56 ?_
  rw [if_neg (by rw [hb56]; decide)]
  exact Xf rfl (Xf rfl (Xf rfl (Xf rfl (Xb rfl (Kj56 _ _ _ ⟨s53, _, rfl, (ue rfl rfl), Ky45⟩)))))
 rintro y56 _ _ ⟨s62, _, rfl, rfl, Ky56⟩
 exact Xb rfl (dn (re rfl func58 rfl (Xq rfl Xe) rfl ⟨_, rfl, rfl, z.ky Ky56⟩))
def spec_Concurrent.f (a0 : Track) (a1 : Track) : Option (Bool) :=
 (some (((a0.Ended == (0 : Int)) || (decide (a0.Ended > a1.Begun))) && ((a1.Ended == (0 : Int)) || (decide (a1.Ended > a0.Begun)))))
def spec_Concurrent.Q (w : World) (F : Nat → Prop) (r : Bool) (v : Value) (w' : World) : Prop :=
 v = (.bool r) ∧ Ky [] w w'
theorem spec_Concurrent.calls (a0 : Track) (a1 : Track) (w : World) (F : Nat → Prop) (w0_0 : Value) (w0_1 : Value) (w1_0 : Value) (w1_1 : Value) (h0_0 : Yf.rd w [w0_0] a0.Reads F) (h0_1 : Ye.rd w [w0_1] a0.Writes F) (h1_0 : Yf.rd w [w1_0] a1.Reads F) (h1_1 : Ye.rd w [w1_1] a1.Writes F) (r : Bool) (m : spec_Concurrent.f a0 a1 = some r) :
  Calls prog 59 #[(.agg #[(iI a0.Xid), (iI a0.Begun), (iI a0.Ended), (.bool a0.All), w0_0, w0_1, (.bool a0.In), (.bool a0.Out)]), (.agg #[(iI a1.Xid), (iI a1.Begun), (iI a1.Ended), (.bool a1.All), w1_0, w1_1, (.bool a1.In), (.bool a1.Out)])] w (RT (spec_Concurrent.Q w F) r) := by
 obtain ⟨s0, rfl, kp0, z⟩ := Xj w F
 refine Xd (args := [(.agg #[(iI a0.Xid), (iI a0.Begun), (iI a0.Ended), (.bool a0.All), w0_0, w0_1, (.bool a0.In), (.bool a0.Out)]), (.agg #[(iI a1.Xid), (iI a1.Begun), (iI a1.Ended), (.bool a1.All), w1_0, w1_1, (.bool a1.In), (.bool a1.Out)])]) func59 ntmps59 rfl rfl m ?_
 unfold spec_Concurrent.f
 refine sr (bx' (cs := [(iI a0.Xid), (iI a0.Begun), (iI a0.Ended), (.bool a0.All), w0_0, w0_1, (.bool a0.In), (.bool a0.Out)]) 40 rfl rfl (fun b5 s5 p5 B5 => ?_))
 refine bx' (cs := [(iI a1.Xid), (iI a1.Begun), (iI a1.Ended), (.bool a1.All), w1_0, w1_1, (.bool a1.In), (.bool a1.Out)]) 41 rfl rfl (fun b7 s7 p7 B7 => ?_)
 refine Xb rfl (dn (sr (Xw fa27_2 rfl ?_)))
 have A9 := B5.st p7 rfl
 refine ld' A9 u3 rfl (Xb rfl (Xb rfl (jy [8, 9, 10, 11, 12, 13, 14] [10, 11, 12, 13, 14, 15, 16, 17, 18, 19, 20, 21, 22] 14 (.bool ((a0.Ended == (0 : Int)) || (decide (a0.Ended > a1.Begun)))) rfl (fun Kg10 => ?_) (fun j10 => ?_))))
 ·
  rcases bft (a0.Ended == (0 : Int)) with hb10 | hb10
  ·
   exact Xs hb10 (Xf rfl (Xf rfl (Xf rfl (Xf rfl (Xf rfl (Xb rfl (Kg10 _ (Ag.put ((Ag.put ((Ag.put ((Ag.put ((Ag.put ((Ag.put (Ag.base rfl) rfl)) rfl)) rfl)) rfl)) rfl)) rfl) (by rw [hb10]; rfl))))))))
  exact Xs hb10 (Xw fa27_2 rfl (ld' A9 u3 rfl (Xw fa27_1 rfl (ld' B7 u3 rfl (Xb rfl (Xb rfl (Kg10 _ (Ag.put ((Ag.put ((Ag.put ((Ag.put ((Ag.put ((Ag.put (Ag.base rfl) rfl)) rfl)) rfl)) rfl)) rfl)) rfl) (by rw [hb10]; rfl))))))))
 refine Xb rfl (jy [15, 16, 17, 18, 19, 20, 21, 22, 23, 24, 25, 26] [22] 26 (.bool (((a0.Ended == (0 : Int)) || (decide (a0.Ended > a1.Begun))) && ((a1.Ended == (0 : Int)) || (decide (a1.Ended > a0.Begun))))) rfl (fun Kg11 => ?_) (fun j11 => ?_))
 ·
  rcases bft ((a0.Ended == (0 : Int)) || (decide (a0.Ended > a1.Begun))) with hb11 | hb11
  ·
   refine Xs hb11 (Xw fa27_2 rfl (ld' B7 u3 rfl (Xb rfl (Xb rfl (jy [19, 20, 21, 22, 23, 24, 25] [21, 22] 25 (.bool ((a1.Ended == (0 : Int)) || (decide (a1.Ended > a0.Begun)))) rfl (fun Kg12 => ?_) (fun j12 => ?_))))))
   ·
    rcases bft (a1.Ended == (0 : Int)) with hb12 | hb12
    ·
     exact Xs hb12 (Xf rfl (Xf rfl (Xf rfl (Xf rfl (Xf rfl (Xb rfl (Kg12 _ (Ag.put ((Ag.put ((Ag.put ((Ag.put ((Ag.put ((Ag.put (Ag.base rfl) rfl)) rfl)) rfl)) rfl)) rfl)) rfl) (by rw [hb12]; rfl))))))))
    exact Xs hb12 (Xw fa27_2 rfl (ld' B7 u3 rfl (Xw fa27_1 rfl (ld' A9 u3 rfl (Xb rfl (Xb rfl (Kg12 _ (Ag.put ((Ag.put ((Ag.put ((Ag.put ((Ag.put ((Ag.put (Ag.base rfl) rfl)) rfl)) rfl)) rfl)) rfl)) rfl) (by rw [hb12]; rfl))))))))
   exact Xb rfl (Kg11 _ (Ag.put ((Ag.put ((Ag.ov ((Ag.put ((Ag.put ((Ag.put ((Ag.put (Ag.base rfl) rfl)) rfl)) rfl)) rfl)) rfl)) rfl)) rfl) (by rw [hb11]; rfl))
  exact Xs hb11 (Xf rfl (Xf rfl (Xf rfl (Xf rfl (Xf rfl (Xf rfl (Xf rfl (Xf rfl (Xf rfl (Xf rfl (Xb rfl (Kg11 _ (Ag.put ((Ag.put ((Ag.put ((Ag.put ((Ag.put ((Ag.put ((Ag.put ((Ag.put ((Ag.put ((Ag.put ((Ag.put (Ag.base rfl) rfl)) rfl)) rfl)) rfl)) rfl)) rfl)) rfl)) rfl)) rfl)) rfl)) rfl) (by rw [hb11]; rfl)))))))))))))
 refine Xb rfl (dn ?_)
 exact re rfl func59 rfl (Xq rfl Xe) rfl ⟨_, rfl, rfl, z.ky (kp0.st (Xm p5 p7) rfl)⟩
def spec_EdgeRead.b1 (a0 : (List Track)) (a2 : Span) (r8 : Int) (x119 : (List Track) × Int × Int × Bool) (x137 : Bool × Int) : Option ((Bool × Int) ⊕ ((List Track) × Int × Bool)) :=
 (if (decide (x137.2 < (((at_ x119.1 x119.2.2.1).Writes).length : Int))) = true then ((if x137.1 = true then (some true) else (if 0 ≤ x137.2 ∧ x137.2 < (((at_ x119.1 x119.2.2.1).Writes).length : Int) then ((spec_InSpan.f a2.From a2.To (at_ ((at_ x119.1 x119.2.2.1).Writes) x137.2)).bind fun r199 => (some r199)) else none)).bind fun y156 => (some (Sum.inl (y156, (IntKind.wrap .i64 (x137.2 + (1 : Int))))))) else (((if (x119.2.2.1 == r8) = true then (some true) else ((if (!x137.1) = true then (some (true, true)) else (if 0 ≤ r8 ∧ r8 < (a0.length : Int) then ((spec_Concurrent.f (at_ a0 r8) (at_ x119.1 x119.2.2.1)).bind fun r278 => (some (false, (!r278)))) else none)).bind fun y246 => (some y246.2))).bind fun y221 => (if y221 = true then (some (x119.1, x119.2.1, x119.2.2.2)) else (if 0 ≤ x119.2.2.1 ∧ x119.2.2.1 < (x119.1.length : Int) then ((some (x119.1.set (x119.2.2.1).toNat (Track.mk ((at_ x119.1 x119.2.2.1).Xid) ((at_ x119.1 x119.2.2.1).Begun) ((at_ x119.1 x119.2.2.1).Ended) ((at_ x119.1 x119.2.2.1).All) ((at_ x119.1 x119.2.2.1).Reads) ((at_ x119.1 x119.2.2.1).Writes) true ((at_ x119.1 x119.2.2.1).Out)))).bind fun y318 => ((if ((decide ((at_ x119.1 x119.2.2.1).Ended > (0 : Int))) && (at_ x119.1 x119.2.2.1).Out) = true then (some (2 : Int)) else (some x119.2.1)).bind fun y321 => (some (y318, y321, true)))) else none))).bind fun o => some (Sum.inr o)))
def spec_EdgeRead.b0 (a0 : (List Track)) (a2 : Span) (r8 : Int) (r30 : (List Track)) (y43 : (List Track) × Bool × (List Span) × (List Item)) (x119 : (List Track) × Int × Int × Bool) : Option (((List Track) × Int × Int × Bool) ⊕ ((List Track) × Int)) :=
 (if (decide (x119.2.2.1 < (x119.1.length : Int))) = true then ((if 0 ≤ x119.2.2.1 ∧ x119.2.2.1 < (x119.1.length : Int) then (iter (spec_EdgeRead.b1 a0 a2 r8 x119) (false, (0 : Int))) else none).bind fun y126 => (some (Sum.inl (y126.1, y126.2.1, (IntKind.wrap .i64 (x119.2.2.1 + (1 : Int))), y126.2.2)))) else ((if 0 ≤ r8 ∧ r8 < (x119.1.length : Int) then ((some (x119.1.set (r8).toNat (Track.mk ((at_ r30 r8).Xid) ((at_ r30 r8).Begun) ((at_ r30 r8).Ended) y43.2.1 y43.2.2.1 y43.2.2.2 ((at_ r30 r8).In) x119.2.2.2))).bind fun y352 => ((if ((at_ r30 r8).In && x119.2.2.2) = true then (some (2 : Int)) else (some x119.2.1)).bind fun y355 => (some (y352, y355)))) else none).bind fun o => some (Sum.inr o)))
def spec_EdgeRead.f (a0 : (List Track)) (a1 : Int) (a2 : Span) : Option ((List Track) × Int) :=
 ((spec_l13at.f a0 a1).bind fun r8 => ((spec_TracksOk.f a0).bind fun r12 => ((if ((!r12) || (decide (r8 < (0 : Int)))) = true then (some true) else ((spec_SpanOk.f a2).bind fun r22 => (some (!r22)))).bind fun y15 => (if y15 = true then (some (([] : (List Track)), (1 : Int))) else ((spec_l13copy.f a0).bind fun r30 => (if 0 ≤ r8 ∧ r8 < (r30.length : Int) then ((if (!((at_ r30 r8).All)) = true then ((spec_l13spans.f ([a2])).bind fun r62 => (if ((at_ r30 r8).Reads).length + r62.length ≤ Lim then ((if (decide ((((at_ r30 r8).Reads ++ r62).length : Int) > (6 : Int))) = true then (some (true, ([] : (List Span)))) else (some ((at_ r30 r8).All, ((at_ r30 r8).Reads ++ r62)))).bind fun y82 => (some (r30, y82.1, y82.2, (at_ r30 r8).Writes))) else none)) else (some (r30, (at_ r30 r8).All, (at_ r30 r8).Reads, (at_ r30 r8).Writes))).bind fun y43 => (iter (spec_EdgeRead.b0 a0 a2 r8 r30 y43) (y43.1, (0 : Int), (0 : Int), (at_ r30 r8).Out))) else none))))))
def spec_EdgeRead.Q (w : World) (F : Nat → Prop) (r : (List Track) × Int) (v : Value) (w' : World) : Prop :=
 ∃ (v0 : Value), v = .tuple #[v0, (iI r.2)] ∧ FO Yc w w' [v0] r.1 ∧ Ky [] w w'
theorem spec_EdgeRead.calls (a0 : (List Track)) (a1 : Int) (a2 : Span) (w : World) (F : Nat → Prop) (w0_0 : Value) (w2_0 : Value) (w2_1 : Value) (w2_2 : Value) (w2_3 : Value) (h0_0 : Yc.rd w [w0_0] a0 F) (h2_0 : Kd.flt.rd w [w2_0] a2.From.F F) (h2_1 : Yd.rd w [w2_1] a2.From.T F) (h2_2 : Kd.flt.rd w [w2_2] a2.To.F F) (h2_3 : Yd.rd w [w2_3] a2.To.T F) (r : (List Track) × Int) (m : spec_EdgeRead.f a0 a1 a2 = some r) :
  Calls prog 32 #[w0_0, (iI a1), (.agg #[(iI a2.From.Kind), (iI a2.From.N), w2_0, w2_1, (iI a2.To.Kind), (iI a2.To.N), w2_2, w2_3])] w (RT (spec_EdgeRead.Q w F) r) := by
 obtain ⟨s0, rfl, kp0, z⟩ := Xj w F
 have A0_0 := z.rd h0_0
 have A2_0 := fl_of h2_0
 have A2_1 := z.rd h2_1
 have A2_2 := fl_of h2_2
 have A2_3 := z.rd h2_3
 refine Xd (args := [w0_0, (iI a1), (.agg #[(iI a2.From.Kind), (iI a2.From.N), w2_0, w2_1, (iI a2.To.Kind), (iI a2.To.N), w2_2, w2_3])]) func32 ntmps32 rfl rfl m ?_
 unfold spec_EdgeRead.f
 refine sr (bx' (cs := [(iI a2.From.Kind), (iI a2.From.N), w2_0, w2_1, (iI a2.To.Kind), (iI a2.To.N), w2_2, w2_3]) 40 rfl rfl (fun b4 s4 p4 B4 => ?_))
 refine Xb rfl (Xb rfl (dn (sr (Xp w0_0 rfl (Xb rfl ?_)))))
 have K6 := kp0.st p4 rfl
 refine clV 41 rfl func23 rfl (spec_l13at.calls a0 a1 s4.w (mm [0] s4) w0_0 (A0_0.kp K6)) (fun r8 s9 p9 n9 => ?_)
 refine Xb rfl (dn (sq (sr (Xp w0_0 rfl ?_))))
 have K10 := K6.st p9 rfl
 refine clV 42 rfl func24 rfl (spec_TracksOk.calls a0 s9.w (mm [0] s9) w0_0 (A0_0.kp K10)) (fun r12 s13 p13 n13 => ?_)
 refine Xb rfl (Xb rfl (jy [22, 23, 24, 25] [7, 8, 9, 10, 11] 25 (.bool ((!r12) || (decide (r8 < (0 : Int))))) rfl (fun Kg14 => ?_) (fun j14 => ?_)))
 ·
  rcases bft (!r12) with hb14 | hb14
  ·
   exact Xs hb14 (Xf rfl (Xf rfl (Xb rfl (Kg14 _ (Ag.put ((Ag.put ((Ag.put (Ag.base rfl) rfl)) rfl)) rfl) (by rw [hb14]; rfl)))))
  exact Xs hb14 (Xb rfl (Xb rfl (Xb rfl (Kg14 _ (Ag.put ((Ag.put ((Ag.put (Ag.base rfl) rfl)) rfl)) rfl) (by rw [hb14]; rfl)))))
 refine Xb rfl (ji [] (fun (y15 : Bool) e w => ∃ (s : St) (e0 : Env), w = s.w ∧ e = upd (upd (upd (upd e0 0 w0_0) 5 (pB b4)) 8 (iI r8)) 30 (.bool y15) ∧ Kp s0 s ∧ BlF s b4 62 [(iI a2.From.Kind), (iI a2.From.N), w2_0, w2_1, (iI a2.To.Kind), (iI a2.To.N), w2_2, w2_3] 40) (fun Gj15 Kj15 => ?_) ?_)
 ·
  rcases bft ((!r12) || (decide (r8 < (0 : Int)))) with hb15 | hb15
  ·
   refine Xs hb15 ?_
   rw [if_pos hb15]
   refine Xf rfl (Xf rfl (Xf rfl (Xb rfl ?_)))
   exact Kj15 _ _ _ ⟨s13, _, rfl, (ue (ue (ue (ue rfl rfl) rfl) rfl) rfl), (K10.st p13 rfl), (B4.st (Xm p9 p13) rfl)⟩
  refine Xs hb15 ?_
  rw [if_neg (by rw [hb15]; decide)]
  have A18 := B4.st (Xm p9 p13) rfl
  refine lda' (es := [(iI a2.From.Kind), (iI a2.From.N), w2_0, w2_1, (iI a2.To.Kind), (iI a2.To.N), w2_2, w2_3]) A18 u62 z62 rfl ?_
  have K19 := K10.st p13 rfl
  refine clV 43 rfl func47 rfl (spec_SpanOk.calls a2 s13.w (mm [0] s13) w2_0 w2_1 w2_2 w2_3 ((Xl (s := s13) A2_0).sub (D := [0]) rfl) (A2_1.kp K19) ((Xl (s := s13) A2_2).sub (D := [0]) rfl) (A2_3.kp K19)) (fun r22 s23 p23 n23 => ?_)
  refine Xb rfl (Xb rfl ?_)
  exact Kj15 _ _ _ ⟨s23, _, rfl, (ue (ue (ue (ue rfl rfl) rfl) rfl) rfl), (K19.st p23 rfl), (A18.st p23 rfl)⟩
 rintro y15 _ _ ⟨s26, _, rfl, rfl, Ky15, By15_b4⟩
 refine dn (cd rfl (fun h28 => ?_) (fun h28 => ?_))
 ·
  exact sr (Xb rfl (Xb rfl (dn (re rfl func32 rfl (Xq rfl (Xq rfl Xe)) rfl ⟨_, rfl, (.slice none 0 0), rfl, (ow_nil 27 kd27 s26 40).fo Ky15 rfl z.l, z.ky Ky15⟩))))
 refine sk (sr (Xp w0_0 rfl ?_))
 refine clO 44 rfl func25 rfl (spec_l13copy.calls a0 s26.w (mm [0] s26) w0_0 (A0_0.kp Ky15)) (fun r30 v30_0 s31 p31 A30_0 => ?_)
 refine Xy v30_0 rfl (dn (sr (Xp v30_0 rfl (Xb rfl (ix' A30_0.rd u30 z27 rfl (fun ad33 es33 h0_33 h1_33 he33 ce33 ia33 => ?_))))))
 obtain ⟨v33_0, v33_1, rfl, A33_0, A33_1⟩ := op27 he33
 refine lca ce33 u27 z27 rfl rfl rfl rfl rfl rfl rfl (al (cs := [(iI 0), (iI 0), (iI 0), (.bool false), (.slice none 0 0), (.slice none 0 0), (.bool false), (.bool false)]) 45 rfl rfl rfl rfl rfl o27 rfl (fun b37 s37 p37 B37 => ?_))
 refine sva' (vs := [(iI ((at_ r30 r8).Xid)), (iI ((at_ r30 r8).Begun)), (iI ((at_ r30 r8).Ended)), (.bool ((at_ r30 r8).All)), v33_0, v33_1, (.bool ((at_ r30 r8).In)), (.bool ((at_ r30 r8).Out))]) B37 z27 rfl (Xc rfl (Xc rfl (Xc rfl (Xc rfl (Xc (A33_0.st p37 rfl).one (Xc (A33_1.st p37 rfl).one (Xc rfl (Xc rfl Xx)))))))) rfl (fun s41 p41 B41 => ?_)
 refine dn (sq (sr (Xw fa27_3 rfl (ld' B41 u4 rfl (Xb rfl (dn (jc (fun (y43 : (List Track) × Bool × (List Span) × (List Item)) e w => ∃ (s : St) (e0 : Env) (vy43_1 : Value), w = s.w ∧ e = upd (upd (upd (upd (upd e0 0 w0_0) 5 (pB b4)) 8 (iI r8)) 9 v30_0) 10 (pB b37) ∧ Kp s0 s ∧ RwF 27 kd27 s v30_0 y43.1 44 [900, 904, 905] ∧ OwF Yf s [vy43_1] y43.2.2.1 904 ∧ OwF Ye s [v33_1] y43.2.2.2 905 ∧ HoG 27 kd27 s v30_0 y43.1 r8 44 900 ∧ BlF s b37 27 [(iI ((at_ r30 r8).Xid)), (iI ((at_ r30 r8).Begun)), (iI ((at_ r30 r8).Ended)), (.bool y43.2.1), vy43_1, v33_1, (.bool ((at_ r30 r8).In)), (.bool ((at_ r30 r8).Out))] 45 ∧ BlF s b4 62 [(iI a2.From.Kind), (iI a2.From.N), w2_0, w2_1, (iI a2.To.Kind), (iI a2.To.N), w2_2, w2_3] 40) (fun Gj43 Kj43 => ?_) ?_)))))))
 ·
  refine cd rfl (fun h44 => ?_) (fun h44 => ?_)
  ·
   refine sq (zdraw [[], [0], [], [2], [3], [1, 4, 4], [0, 1, 2, 3, 4, 5], [6, 5, 5, 0, 1, 2, 3, 4, 5]] [some 40, some 41, some 42, some 43, some 44, some 45, some 46, none] [[10], [40], [5], [42], [43], [41, 44], [10], [46, 45]] [0, 1, 2, 3, 4, 5, 6, 7] ⟨by kernel_rfl, by kernel_rfl, by kernel_rfl⟩ (by kernel_rfl) (fun s45 p45 l45 tb45 zd45 => ?_))
   refine zstep 3 [some 41, some 40] tb45 (((zd45.add 0 40 (pO b37 4) rfl).add 1 41 v33_0 rfl).add 2 42 (.agg #[(iI a2.From.Kind), (iI a2.From.N), w2_0, w2_1, (iI a2.To.Kind), (iI a2.To.N), w2_2, w2_3]) rfl) (Xa (lda_q' (es := [(iI a2.From.Kind), (iI a2.From.N), w2_0, w2_1, (iI a2.To.Kind), (iI a2.To.N), w2_2, w2_3]) (By15_b4.st (tr4 p31 p37 p41 p45) rfl) u62 z62 rfl) rfl (Xa (Ya (B41.st p45 rfl) u24 rfl) rfl (Xa (Xo fa27_4 rfl) rfl Xk))) (by kernel_rfl) rfl (fun l51 e51 zd51 => ?_)
   have K54 := Ky15.st (tr4 p31 p37 p41 p45) rfl
   refine ltR (K := kd62) (cells := [(iI a2.From.Kind), (iI a2.From.N), w2_0, w2_1, (iI a2.To.Kind), (iI a2.To.N), w2_2, w2_3]) [a2] 46 [0] rfl u24 z62 o62 (el_cons (mk62 (x := a2) A2_0 (A2_1.kp K54) A2_2 (A2_3.kp K54)) el_nil) rfl rfl rfl rfl rfl rfl rfl rfl rfl rfl (fun v57 s57 p57 A57 => ?_)
   refine zdone (L' := [1, 0]) (D' := [2, 3]) zd51 rfl rfl rfl (fun zd59 => ?_)
   refine zstep 4 [some 41, some 40] tb45 zd59 (Xa (Ya (B41.st (Xm p45 p57) rfl) u24 rfl) rfl (Xa (Xo fa27_4 rfl) rfl Xk)) (by kernel_rfl) rfl (fun l60 e60 zd60 => ?_)
   refine clO 47 rfl func49 rfl (spec_l13spans.calls ([a2]) s57.w (mm [46, 0] s57) v57 A57.rd) (fun r62 v62_0 s63 p63 A62_0 => ?_)
   refine zdone (L' := [1, 0]) (D' := [4, 2, 3]) zd60 rfl rfl rfl (fun zd65 => ?_)
   refine zfin [5, 6, 7] tb45 zd65 (Xa (Ya (B41.st (Yb p45 p57 p63) rfl) u24 rfl) rfl (Xa (Xo fa27_4 rfl) rfl Xk)) (by kernel_rfl) (by decide) ?_
   obtain ⟨s69, hw69, p69, A69, B69, G69, R69, ce69⟩ := takeG 904 905 900 (lg_iso (fun x : Track => (x.Xid, x.Begun, x.Ended, x.All, x.Reads, x.Writes, x.In, x.Out)) (fun x => x.Reads) (fun x y => (Track.mk x.Xid x.Begun x.Ended x.All y x.Writes x.In x.Out)) (Xh (Xh (Xh (Xh (lg_left lg_id))))) (fun _ => rfl) (fun _ _ => rfl)) (lg_iso (fun x : Track => (x.Xid, x.Begun, x.Ended, x.All, x.Reads, x.Writes, x.In, x.Out)) (fun x => x.Writes) (fun x y => (Track.mk x.Xid x.Begun x.Ended x.All x.Reads y x.In x.Out)) (Xh (Xh (Xh (Xh (Xh (lg_left lg_id)))))) (fun _ => rfl) (fun _ _ => rfl)) (fun _ => rfl) (fun _ _ => rfl) (fz_nil 62 kd62) (A30_0.st (tr5 p37 p41 p45 p57 p63) rfl) h0_33 h1_33 ia33 (ce33.st (tr5 p37 p41 p45 p57 p63) rfl rfl) rfl rfl rfl rfl rfl rfl rfl
   rw [hw69]
   refine apk1 sl24 A69 (A62_0.st p69 rfl) rfl rfl rfl rfl rfl rfl rfl rfl rfl (fun v74 s74 p74 A74 O74 => ?_)
   have W74 : RwF 27 kd27 s74 v30_0 r30 44 [900, 904, 905] := (HoR.rw (R69.st p74 rfl rfl) O74).sub rfl
   refine Xw fa27_4 rfl (sv' (B41.st (tr5 p45 p57 p63 p69 p74) rfl) z24 rfl A74.rd.one rfl (fun s79 p79 B79 => ?_))
   refine dn (sr (Xw fa27_4 rfl (ld' B79 u24 rfl ?_)))
   have A81 := A74.st p79 rfl
   refine ln' A81.rd u24 rfl (Xb rfl (dn (jc (fun (y82 : Bool × (List Span)) e w => ∃ (s : St) (e0 : Env) (vy82_0 : Value), w = s.w ∧ e = upd (upd (upd (upd (upd e0 0 w0_0) 5 (pB b4)) 8 (iI r8)) 9 v30_0) 10 (pB b37) ∧ Kp s0 s ∧ OwF Yf s [vy82_0] y82.2 904 ∧ BlF s b37 27 [(iI ((at_ r30 r8).Xid)), (iI ((at_ r30 r8).Begun)), (iI ((at_ r30 r8).Ended)), (.bool y82.1), vy82_0, v33_1, (.bool ((at_ r30 r8).In)), (.bool ((at_ r30 r8).Out))] 45 ∧ BlF s b4 62 [(iI a2.From.Kind), (iI a2.From.N), w2_0, w2_1, (iI a2.To.Kind), (iI a2.To.N), w2_2, w2_3] 40 ∧ RwF 27 kd27 s v30_0 r30 44 [900, 904, 905] ∧ HoG 27 kd27 s v30_0 r30 r8 44 900 ∧ OwF Ye s [v33_1] ((at_ r30 r8).Writes) 905) (fun Gj82 Kj82 => ?_) ?_)))
   ·
    refine cd rfl (fun h83 => ?_) (fun h83 => ?_)
    ·
     refine sr (Xw fa27_3 rfl (sv' B79 z4 rfl rfl rfl (fun s84 p84 B84 => ?_)))
     refine dn (rg (Xw fa27_4 rfl (sv' B84 z24 rfl rfl rfl (fun s86 p86 B86 => ?_))))
     exact dn (Kj82 _ _ _ ⟨s86, _, (.slice none 0 0), rfl, (ue (ue (ue (ue (ue rfl rfl) rfl) rfl) rfl) rfl), (K54.st (tr7 p57 p63 p69 p74 p79 p84 p86) rfl), (ow_nil 62 kd62 _ 904), B86, (By15_b4.st (tr11 p31 p37 p41 p45 p57 p63 p69 p74 p79 p84 p86) rfl), (W74.st (Yb p79 p84 p86) rfl rfl), (G69.st (tr4 p74 p79 p84 p86) rfl), (B69.st (tr4 p74 p79 p84 p86) rfl)⟩)
    exact sk (Kj82 _ _ _ ⟨s79, _, v74, rfl, (ue (ue (ue (ue (ue rfl rfl) rfl) rfl) rfl) rfl), (K54.st (tr5 p57 p63 p69 p74 p79) rfl), A81, B79, (By15_b4.st (tr9 p31 p37 p41 p45 p57 p63 p69 p74 p79) rfl), (W74.st p79 rfl rfl), (G69.st (Xm p74 p79) rfl), (B69.st (Xm p74 p79) rfl)⟩)
   rintro y82 _ _ ⟨s98, _, vy82_0, rfl, rfl, Ky82, Ay82_0, By82_b37, By82_b4, Cy82_75, Cy82_72, Cy82_71⟩
   exact Kj43 _ _ _ ⟨s98, _, vy82_0, rfl, (ue (ue (ue (ue (ue rfl rfl) rfl) rfl) rfl) rfl), Ky82, Cy82_75, Ay82_0, Cy82_71, Cy82_72, By82_b37, By82_b4⟩
  obtain ⟨s104, hw104, p104, A104, B104, G104, R104, ce104⟩ := takeG 904 905 900 (lg_iso (fun x : Track => (x.Xid, x.Begun, x.Ended, x.All, x.Reads, x.Writes, x.In, x.Out)) (fun x => x.Reads) (fun x y => (Track.mk x.Xid x.Begun x.Ended x.All y x.Writes x.In x.Out)) (Xh (Xh (Xh (Xh (lg_left lg_id))))) (fun _ => rfl) (fun _ _ => rfl)) (lg_iso (fun x : Track => (x.Xid, x.Begun, x.Ended, x.All, x.Reads, x.Writes, x.In, x.Out)) (fun x => x.Writes) (fun x y => (Track.mk x.Xid x.Begun x.Ended x.All x.Reads y x.In x.Out)) (Xh (Xh (Xh (Xh (Xh (lg_left lg_id)))))) (fun _ => rfl) (fun _ _ => rfl)) (fun _ => rfl) (fun _ _ => rfl) (fz_nil 62 kd62) (A30_0.st (Xm p37 p41) rfl) h0_33 h1_33 ia33 (ce33.st (Xm p37 p41) rfl rfl) rfl rfl rfl rfl rfl rfl rfl
  rw [hw104]
  have W104 : RwF 27 kd27 s104 v30_0 r30 44 [900, 904, 905] := (HoR.rw R104 A104).sub rfl
  exact sk (Kj43 _ _ _ ⟨s104, _, v33_0, rfl, (ue (ue (ue (ue (ue rfl rfl) rfl) rfl) rfl) rfl), (Ky15.st (tr4 p31 p37 p41 p104) rfl), W104, A104, B104, G104, (B41.st p104 rfl), (By15_b4.st (tr4 p31 p37 p41 p104) rfl)⟩)
 rintro y43 _ _ ⟨s112, _, vy43_1, rfl, rfl, Ky43, Ay43_0, Ay43_1, Ay43_2, Gy43_0, By43_b37, By43_b4⟩
 refine sr (Xb rfl (dn (sq (sr (Xb rfl (dn (bl (lpI (fun (x119 : (List Track) × Int × Int × Bool) e w => ∃ (s : St) (e0 : Env), w = s.w ∧ e = upd (upd (upd (upd (upd (upd (upd e0 0 w0_0) 5 (pB b4)) 8 (iI r8)) 9 v30_0) 10 (pB b37)) 11 (iI x119.2.1)) 12 (iI x119.2.2.1) ∧ Kp s0 s ∧ RwF 27 kd27 s v30_0 x119.1 44 [900, 904, 905] ∧ HoG 27 kd27 s v30_0 x119.1 r8 44 900 ∧ BlF s b37 27 [(iI ((at_ r30 r8).Xid)), (iI ((at_ r30 r8).Begun)), (iI ((at_ r30 r8).Ended)), (.bool y43.2.1), vy43_1, v33_1, (.bool ((at_ r30 r8).In)), (.bool x119.2.2.2)] 45 ∧ BlF s b4 62 [(iI a2.From.Kind), (iI a2.From.N), w2_0, w2_1, (iI a2.To.Kind), (iI a2.To.N), w2_2, w2_3] 40 ∧ OwF Yf s [vy43_1] y43.2.2.1 904 ∧ OwF Ye s [v33_1] y43.2.2.2 905) ⟨s112, _, rfl, (ue (ue (ue (ue (ue (ue (ue rfl rfl) rfl) rfl) rfl) rfl) rfl) rfl), Ky43, Ay43_0, Gy43_0, By43_b37, By43_b4, Ay43_1, Ay43_2⟩ (fun g119 ih119 => ?_)))))))))
 rintro x119 _ _ ⟨s120, _, rfl, rfl, Kx119, Ax119_0, Gx119_0, Bx119_b37, Bx119_b4, Cx119_115, Cx119_116⟩
 unfold spec_EdgeRead.b0
 refine sq (sr (Xb rfl (Xp v30_0 rfl (ln' Ax119_0.rd u30 rfl (Xb rfl (dn (cd rfl (fun h125 => ?_) (fun h125 => ?_))))))))
 ·
  refine sk (sq (jc (fun (y126 : (List Track) × Int × Bool) e w => ∃ (s : St) (e0 : Env), w = s.w ∧ e = upd (upd (upd (upd (upd (upd (upd e0 0 w0_0) 5 (pB b4)) 8 (iI r8)) 9 v30_0) 10 (pB b37)) 11 (iI y126.2.1)) 12 (iI x119.2.2.1) ∧ Kp s0 s ∧ RwF 27 kd27 s v30_0 y126.1 44 [900, 904, 905] ∧ HoG 27 kd27 s v30_0 y126.1 r8 44 900 ∧ BlF s b37 27 [(iI ((at_ r30 r8).Xid)), (iI ((at_ r30 r8).Begun)), (iI ((at_ r30 r8).Ended)), (.bool y43.2.1), vy43_1, v33_1, (.bool ((at_ r30 r8).In)), (.bool y126.2.2)] 45 ∧ BlF s b4 62 [(iI a2.From.Kind), (iI a2.From.N), w2_0, w2_1, (iI a2.To.Kind), (iI a2.To.N), w2_2, w2_3] 40 ∧ OwF Yf s [vy43_1] y43.2.2.1 904 ∧ OwF Ye s [v33_1] y43.2.2.2 905) (fun Gj126 Kj126 => ?_) ?_))
  ·
   refine bl (sr (Xp v30_0 rfl (Xb rfl (ix' Ax119_0.rd u30 z27 rfl (fun ad127 es127 h0_127 h1_127 he127 ce127 ia127 => ?_)))))
   replace he127 := rw_sharp Ax119_0 h0_127 h1_127 ia127 ce127 he127
   obtain ⟨v127_0, v127_1, rfl, A127_0, A127_1⟩ := op27 he127
   refine lca ce127 u27 z27 rfl rfl rfl rfl rfl rfl rfl (al (cs := [(iI 0), (iI 0), (iI 0), (.bool false), (.slice none 0 0), (.slice none 0 0), (.bool false), (.bool false)]) 48 rfl rfl rfl rfl rfl o27 rfl (fun b131 s131 p131 B131 => ?_))
   have A133 := A127_1.st p131 rfl
   have A134 := A127_0.st p131 rfl
   refine sva' (vs := [(iI ((at_ x119.1 x119.2.2.1).Xid)), (iI ((at_ x119.1 x119.2.2.1).Begun)), (iI ((at_ x119.1 x119.2.2.1).Ended)), (.bool ((at_ x119.1 x119.2.2.1).All)), v127_0, v127_1, (.bool ((at_ x119.1 x119.2.2.1).In)), (.bool ((at_ x119.1 x119.2.2.1).Out))]) B131 z27 rfl (Xc rfl (Xc rfl (Xc rfl (Xc rfl (Xc A134.one (Xc A133.one (Xc rfl (Xc rfl Xx)))))))) rfl (fun s135 p135 B135 => ?_)
   refine dn (sr (Xb rfl (dn (sq (sr (Xb rfl (dn (bl ?_))))))))
   have A138 := Bx119_b37.st (Xm p131 p135) rfl
   have A139 := Bx119_b4.st (Xm p131 p135) rfl
   have A140 := Ax119_0.st (Xm p131 p135) rfl rfl
   have A141 := Gx119_0.st (Xm p131 p135) rfl
   have A142 := A134.st p135 rfl
   have A143 := ce127.st (Xm p131 p135) rfl rfl
   have A144 := A133.st p135 rfl
   have A145 := Cx119_115.st (Xm p131 p135) rfl
   have A146 := Cx119_116.st (Xm p131 p135) rfl
   have K147 := Kx119.st (Xm p131 p135) rfl
   refine lpI (fun (x137 : Bool × Int) e w => ∃ (s : St) (e0 : Env), w = s.w ∧ e = upd (upd (upd (upd (upd (upd (upd (upd (upd (upd e0 0 w0_0) 5 (pB b4)) 8 (iI r8)) 9 v30_0) 10 (pB b37)) 11 (iI x119.2.1)) 12 (iI x119.2.2.1)) 13 (pB b131)) 14 (.bool x137.1)) 15 (iI x137.2) ∧ Kp s0 s ∧ BlF s b131 27 [(iI ((at_ x119.1 x119.2.2.1).Xid)), (iI ((at_ x119.1 x119.2.2.1).Begun)), (iI ((at_ x119.1 x119.2.2.1).Ended)), (.bool ((at_ x119.1 x119.2.2.1).All)), v127_0, v127_1, (.bool ((at_ x119.1 x119.2.2.1).In)), (.bool ((at_ x119.1 x119.2.2.1).Out))] 48 ∧ BlF s b37 27 [(iI ((at_ r30 r8).Xid)), (iI ((at_ r30 r8).Begun)), (iI ((at_ r30 r8).Ended)), (.bool y43.2.1), vy43_1, v33_1, (.bool ((at_ r30 r8).In)), (.bool x119.2.2.2)] 45 ∧ BlF s b4 62 [(iI a2.From.Kind), (iI a2.From.N), w2_0, w2_1, (iI a2.To.Kind), (iI a2.To.N), w2_2, w2_3] 40 ∧ RwF 27 kd27 s v30_0 x119.1 44 [900, 904, 905] ∧ HoG 27 kd27 s v30_0 x119.1 r8 44 900 ∧ RdF Yf s [v127_0] ((at_ x119.1 x119.2.2.1).Reads) [900, 904, 905] ∧ CeF s ad127 [(iI ((at_ x119.1 x119.2.2.1).Xid)), (iI ((at_ x119.1 x119.2.2.1).Begun)), (iI ((at_ x119.1 x119.2.2.1).Ended)), (.bool ((at_ x119.1 x119.2.2.1).All)), v127_0, v127_1, (.bool ((at_ x119.1 x119.2.2.1).In)), (.bool ((at_ x119.1 x119.2.2.1).Out))] [44, 900, 904, 905] ∧ RdF Ye s [v127_1] ((at_ x119.1 x119.2.2.1).Writes) [900, 904, 905] ∧ OwF Yf s [vy43_1] y43.2.2.1 904 ∧ OwF Ye s [v33_1] y43.2.2.2 905) ⟨s135, _, rfl, (ue (ue (ue (ue (ue (ue (ue (ue (ue (ue rfl rfl) rfl) rfl) rfl) rfl) rfl) rfl) rfl) rfl) rfl), K147, B135, A138, A139, A140, A141, A142, A143, A144, A145, A146⟩ (fun g137 ih137 => ?_)
   rintro x137 _ _ ⟨s148, _, rfl, rfl, Kx137, Bx137_b131, Bx137_b37, Bx137_b4, Cx137_121, Cx137_122, Cx137_128, Cx137_130, Cx137_129, Cx137_115, Cx137_116⟩
   unfold spec_EdgeRead.b1
   refine sq (sr (Xb rfl (Xw fa27_5 rfl (ld' Bx137_b131 u25 rfl (ln' Cx137_129 u25 rfl (Xb rfl (dn (cd rfl (fun h152 => ?_) (fun h152 => ?_)))))))))
   ·
    refine sk (sq (bl (zdraw [[], [0], [1], [2, 1], [1], [4, 1], [1], [6, 1], [1], [7, 8, 1], [9, 1], [3, 5, 10, 1, 1], [1, 11], [12, 11, 0, 1, 2, 3, 4, 5, 6, 7, 8, 9, 10, 11, 12]] [some 70, some 71, some 72, some 73, some 74, some 75, some 76, some 77, some 78, some 79, some 80, some 81, some 82, some 14] [[14], [70], [5, 71], [72, 71], [5, 71], [74, 71], [13, 71], [76, 71], [15, 71], [77, 78, 71], [79, 71], [73, 75, 80, 71], [71, 81], [82]] [0, 1, 2, 3, 4, 5, 6, 7, 8, 9, 10, 11, 12, 13] ⟨by kernel_rfl, by kernel_rfl, by kernel_rfl⟩ (by kernel_rfl) (fun s153 p153 l153 tb153 zd153 => ?_))))
    have zd155 := (zd153.add 0 70 (.bool x137.1) rfl).add 1 71 (.bool x137.1) rfl
    refine ji [13] (fun (y156 : Bool) e w => ∃ (s : St) (e0 : Env), w = s.w ∧ e = upd (upd (upd (upd (upd (upd (upd (upd (upd (upd e0 0 w0_0) 5 (pB b4)) 8 (iI r8)) 9 v30_0) 10 (pB b37)) 11 (iI x119.2.1)) 12 (iI x119.2.2.1)) 13 (pB b131)) 15 (iI x137.2)) 82 (.bool y156) ∧ Kp s0 s ∧ BlF s b131 27 [(iI ((at_ x119.1 x119.2.2.1).Xid)), (iI ((at_ x119.1 x119.2.2.1).Begun)), (iI ((at_ x119.1 x119.2.2.1).Ended)), (.bool ((at_ x119.1 x119.2.2.1).All)), v127_0, v127_1, (.bool ((at_ x119.1 x119.2.2.1).In)), (.bool ((at_ x119.1 x119.2.2.1).Out))] 48 ∧ BlF s b37 27 [(iI ((at_ r30 r8).Xid)), (iI ((at_ r30 r8).Begun)), (iI ((at_ r30 r8).Ended)), (.bool y43.2.1), vy43_1, v33_1, (.bool ((at_ r30 r8).In)), (.bool x119.2.2.2)] 45 ∧ BlF s b4 62 [(iI a2.From.Kind), (iI a2.From.N), w2_0, w2_1, (iI a2.To.Kind), (iI a2.To.N), w2_2, w2_3] 40 ∧ RwF 27 kd27 s v30_0 x119.1 44 [900, 904, 905] ∧ HoG 27 kd27 s v30_0 x119.1 r8 44 900 ∧ RdF Yf s [v127_0] ((at_ x119.1 x119.2.2.1).Reads) [900, 904, 905] ∧ CeF s ad127 [(iI ((at_ x119.1 x119.2.2.1).Xid)), (iI ((at_ x119.1 x119.2.2.1).Begun)), (iI ((at_ x119.1 x119.2.2.1).Ended)), (.bool ((at_ x119.1 x119.2.2.1).All)), v127_0, v127_1, (.bool ((at_ x119.1 x119.2.2.1).In)), (.bool ((at_ x119.1 x119.2.2.1).Out))] [44, 900, 904, 905] ∧ RdF Ye s [v127_1] ((at_ x119.1 x119.2.2.1).Writes) [900, 904, 905] ∧ OwF Yf s [vy43_1] y43.2.2.1 904 ∧ OwF Ye s [v33_1] y43.2.2.2 905) (fun Gj156 Kj156 => ?_) ?_
    ·
     rcases bft x137.1 with hb156 | hb156
     ·
      rw [if_pos hb156]
      rw [hb156] at zd155
      try rw [hb156]
      refine zfin [11, 12, 13] tb153 (((((((((zd155.add 2 72 undef rfl).add 3 73 undef rfl).add 4 74 undef rfl).add 5 75 undef rfl).add 6 76 undef rfl).add 7 77 undef rfl).add 8 78 undef rfl).add 9 79 undef rfl).add 10 80 undef rfl) (Xa (Xr rfl) rfl (Xa (Xr rfl) rfl (Xa (Xr rfl) rfl (Xa (Xr rfl) rfl (Xa (Xr rfl) rfl (Xa (Xr rfl) rfl (Xa (Xr rfl) rfl (Xa (Xr rfl) rfl (Xa (Xr rfl) rfl (Xa (Xg rfl) rfl (Xa (Xg rfl) rfl Xk))))))))))) (by kernel_rfl) (by decide) (Xf rfl (Xb rfl ?_))
      exact Kj156 _ _ _ ⟨s153, _, rfl, (ue (ue (ue (ue (ue (ue (ue (ue (ue (ue rfl rfl) rfl) rfl) rfl) rfl) rfl) rfl) rfl) rfl) rfl), (Kx137.st p153 rfl), (Bx137_b131.st p153 rfl), (Bx137_b37.st p153 rfl), (Bx137_b4.st p153 rfl), (Cx137_121.st p153 rfl rfl), (Cx137_122.st p153 rfl), (Cx137_128.st p153 rfl), (Cx137_130.st p153 rfl rfl), (Cx137_129.st p153 rfl), (Cx137_115.st p153 rfl), (Cx137_116.st p153 rfl)⟩
     rw [if_neg (by rw [hb156]; decide)]
     rw [hb156] at zd155
     try rw [hb156]
     have A187 := Cx137_129.st p153 rfl
     refine mg fun hg188 => ?_
     obtain ⟨ad188, es188, he188, ce188, ia188⟩ := ix_e A187 rfl hg188.1 hg188.2
     obtain ⟨v188_0, v188_1, rfl, A188_0, A188_1⟩ := op60 he188
     refine zfin [11, 12, 13] tb153 (((((((((zd155.add 2 72 (pB b4) rfl).add 3 73 (.agg #[(iI a2.From.Kind), (iI a2.From.N), w2_0, w2_1]) rfl).add 4 74 (pO b4 4) rfl).add 5 75 (.agg #[(iI a2.To.Kind), (iI a2.To.N), w2_2, w2_3]) rfl).add 6 76 (pO b131 5) rfl).add 7 77 v127_1 rfl).add 8 78 (iI x137.2) rfl).add 9 79 (.pointer (some ad188)) rfl).add 10 80 (.agg #[(iI ((at_ ((at_ x119.1 x119.2.2.1).Writes) x137.2).Kind)), (iI ((at_ ((at_ x119.1 x119.2.2.1).Writes) x137.2).N)), v188_0, v188_1]) rfl) (Xa (lca_q ce188 u60 z60 rfl rfl rfl rfl rfl rfl rfl) rfl (Xa (ix_q' A187 u25 z60 hg188.1 hg188.2 ia188 rfl) rfl (Xa (Xg rfl) rfl (Xa (Ya (Bx137_b131.st p153 rfl) u25 rfl) rfl (Xa (Xo fa27_5 rfl) rfl (Xa (lda_q' (es := [(iI a2.To.Kind), (iI a2.To.N), w2_2, w2_3]) (Bx137_b4.st p153 rfl) u60 z60 rfl) rfl (Xa (Xo fa62_1 rfl) rfl (Xa (lda_q' (es := [(iI a2.From.Kind), (iI a2.From.N), w2_0, w2_1]) (Bx137_b4.st p153 rfl) u60 z60 rfl) rfl (Xa (Xo fa62_0 rfl) rfl (Xa (Xg rfl) rfl (Xa (Xg rfl) rfl Xk))))))))))) (by kernel_rfl) (by decide) ?_
     have K196 := Kx137.st p153 rfl
     refine clV 49 rfl func58 rfl (spec_InSpan.calls a2.From a2.To (at_ ((at_ x119.1 x119.2.2.1).Writes) x137.2) s153.w (mm [0, 900, 904, 905] s153) w2_0 w2_1 w2_2 w2_3 v188_0 v188_1 ((Xl (s := s153) A2_0).sub (D := [0, 900, 904, 905]) rfl) ((A2_1.kp K196).sub (D := [0, 900, 904, 905]) rfl) ((Xl (s := s153) A2_2).sub (D := [0, 900, 904, 905]) rfl) ((A2_3.kp K196).sub (D := [0, 900, 904, 905]) rfl) ((Xl (s := s153) A188_0).sub (D := [0, 900, 904, 905]) rfl) (A188_1.sub (D := [0, 900, 904, 905]) rfl)) (fun r199 s200 p200 n200 => ?_)
     exact Xb rfl (Kj156 _ _ _ ⟨s200, _, rfl, (ue (ue (ue (ue (ue (ue (ue (ue (ue (ue rfl rfl) rfl) rfl) rfl) rfl) rfl) rfl) rfl) rfl) rfl), (K196.st p200 rfl), (Bx137_b131.st (Xm p153 p200) rfl), (Bx137_b37.st (Xm p153 p200) rfl), (Bx137_b4.st (Xm p153 p200) rfl), (Cx137_121.st (Xm p153 p200) rfl rfl), (Cx137_122.st (Xm p153 p200) rfl), (Cx137_128.st (Xm p153 p200) rfl), (Cx137_130.st (Xm p153 p200) rfl rfl), (A187.st p200 rfl), (Cx137_115.st (Xm p153 p200) rfl), (Cx137_116.st (Xm p153 p200) rfl)⟩)
    rintro y156 _ _ ⟨s212, _, rfl, rfl, Ky156, By156_b131, By156_b37, By156_b4, Cy156_121, Cy156_122, Cy156_128, Cy156_130, Cy156_129, Cy156_115, Cy156_116⟩
    exact Xb rfl (dn (ib (rg (Xb rfl (Xb rfl (Xb rfl (dn (lb ih137 ⟨s212, _, rfl, (ue (ue (ue (ue (ue (ue (ue (ue (ue (ue rfl rfl) rfl) rfl) rfl) rfl) rfl) rfl) rfl) rfl) rfl), Ky156, By156_b131, By156_b37, By156_b4, Cy156_121, Cy156_122, Cy156_128, Cy156_130, Cy156_129, Cy156_115, Cy156_116⟩))))))))
   refine xt rfl (sgb (sq (sq (zdraw [[], [], [0, 1], [2], [3], [4, 3], [3, 5], [6, 3], [7], [7], [8, 9, 7], [10, 7], [7], [11, 12, 7, 7], [13, 7], [7, 14]] [some 83, some 84, some 85, some 86, some 87, some 88, some 89, some 90, some 91, some 92, some 93, some 94, some 95, some 96, some 97, some 98] [[12], [8], [83, 84], [85], [14, 86], [87, 86], [86, 88], [89], [0, 90], [8, 90], [91, 92, 90], [93, 90], [13, 90], [94, 95, 90], [96, 90], [90, 97]] [0, 1, 2, 3, 4, 5, 6, 7, 8, 9, 10, 11, 12, 13, 14, 15] ⟨by kernel_rfl, by kernel_rfl, by kernel_rfl⟩ (by kernel_rfl) (fun s216 p216 l216 tb216 zd216 => ?_)))))
   have zd220 := (((zd216.add 0 83 (iI x119.2.2.1) rfl).add 1 84 (iI r8) rfl).add 2 85 (.bool (x119.2.2.1 == r8)) rfl).add 3 86 (.bool (x119.2.2.1 == r8)) rfl
   refine ji [] (fun (y221 : Bool) e w => ∃ (s : St) (e0 : Env), w = s.w ∧ e = upd (upd (upd (upd (upd (upd (upd (upd (upd e0 0 w0_0) 5 (pB b4)) 8 (iI r8)) 9 v30_0) 10 (pB b37)) 11 (iI x119.2.1)) 12 (iI x119.2.2.1)) 13 (pB b131)) 98 (.bool y221) ∧ Kp s0 s ∧ BlF s b131 27 [(iI ((at_ x119.1 x119.2.2.1).Xid)), (iI ((at_ x119.1 x119.2.2.1).Begun)), (iI ((at_ x119.1 x119.2.2.1).Ended)), (.bool ((at_ x119.1 x119.2.2.1).All)), v127_0, v127_1, (.bool ((at_ x119.1 x119.2.2.1).In)), (.bool ((at_ x119.1 x119.2.2.1).Out))] 48 ∧ BlF s b37 27 [(iI ((at_ r30 r8).Xid)), (iI ((at_ r30 r8).Begun)), (iI ((at_ r30 r8).Ended)), (.bool y43.2.1), vy43_1, v33_1, (.bool ((at_ r30 r8).In)), (.bool x119.2.2.2)] 45 ∧ BlF s b4 62 [(iI a2.From.Kind), (iI a2.From.N), w2_0, w2_1, (iI a2.To.Kind), (iI a2.To.N), w2_2, w2_3] 40 ∧ RwF 27 kd27 s v30_0 x119.1 44 [900, 904, 905] ∧ HoG 27 kd27 s v30_0 x119.1 r8 44 900 ∧ RdF Yf s [v127_0] ((at_ x119.1 x119.2.2.1).Reads) [900, 904, 905] ∧ CeF s ad127 [(iI ((at_ x119.1 x119.2.2.1).Xid)), (iI ((at_ x119.1 x119.2.2.1).Begun)), (iI ((at_ x119.1 x119.2.2.1).Ended)), (.bool ((at_ x119.1 x119.2.2.1).All)), v127_0, v127_1, (.bool ((at_ x119.1 x119.2.2.1).In)), (.bool ((at_ x119.1 x119.2.2.1).Out))] [44, 900, 904, 905] ∧ RdF Ye s [v127_1] ((at_ x119.1 x119.2.2.1).Writes) [900, 904, 905] ∧ OwF Yf s [vy43_1] y43.2.2.1 904 ∧ OwF Ye s [v33_1] y43.2.2.2 905) (fun Gj221 Kj221 => ?_) ?_
   ·
    rcases bft (x119.2.2.1 == r8) with hb221 | hb221
    ·
     rw [if_pos hb221]
     rw [hb221] at zd220
     try rw [hb221]
     refine zfin [13, 14, 15] tb216 (((((((((zd220.add 4 87 undef rfl).add 5 88 undef rfl).add 6 89 (.bool true) rfl).add 7 90 (.bool true) rfl).add 8 91 undef rfl).add 9 92 undef rfl).add 10 93 undef rfl).add 11 94 undef rfl).add 12 95 undef rfl) (Xa (Xr rfl) rfl (Xa (Xr rfl) rfl (Xa (Xr rfl) rfl (Xa (Xr rfl) rfl (Xa (Xr rfl) rfl (Xa (Xg rfl) rfl (Xa (Xg rfl) rfl (Xa (Xr rfl) rfl (Xa (Xr rfl) rfl (Xa (Xg rfl) rfl (Xa (qv_b (Xg rfl) hb221) rfl (Xa (Xg rfl) rfl (Xa (Xg rfl) rfl Xk))))))))))))) (by kernel_rfl) (by decide) (Xf rfl (Xf rfl (Xb rfl ?_)))
     exact Kj221 _ _ _ ⟨s216, _, rfl, (ue (ue (ue (ue (ue (ue (ue (ue (ue rfl rfl) rfl) rfl) rfl) rfl) rfl) rfl) rfl) rfl), (Kx137.st p216 rfl), (Bx137_b131.st p216 rfl), (Bx137_b37.st p216 rfl), (Bx137_b4.st p216 rfl), (Cx137_121.st p216 rfl rfl), (Cx137_122.st p216 rfl), (Cx137_128.st p216 rfl), (Cx137_130.st p216 rfl rfl), (Cx137_129.st p216 rfl), (Cx137_115.st p216 rfl), (Cx137_116.st p216 rfl)⟩
    rw [if_neg (by rw [hb221]; decide)]
    rw [hb221] at zd220
    try rw [hb221]
    have zd245 := (((zd220.add 4 87 (.bool x137.1) rfl).add 5 88 (.bool (!x137.1)) rfl).add 6 89 (.bool (!x137.1)) rfl).add 7 90 (.bool (!x137.1)) rfl
    refine ji [] (fun (y246 : Bool × Bool) e w => ∃ (s : St) (e0 : Env), w = s.w ∧ e = upd (upd (upd (upd (upd (upd (upd (upd (upd (upd (upd e0 0 w0_0) 5 (pB b4)) 8 (iI r8)) 9 v30_0) 10 (pB b37)) 11 (iI x119.2.1)) 12 (iI x119.2.2.1)) 13 (pB b131)) 87 (.bool x137.1)) 88 (.bool y246.1)) 98 (.bool y246.2) ∧ Kp s0 s ∧ BlF s b131 27 [(iI ((at_ x119.1 x119.2.2.1).Xid)), (iI ((at_ x119.1 x119.2.2.1).Begun)), (iI ((at_ x119.1 x119.2.2.1).Ended)), (.bool ((at_ x119.1 x119.2.2.1).All)), v127_0, v127_1, (.bool ((at_ x119.1 x119.2.2.1).In)), (.bool ((at_ x119.1 x119.2.2.1).Out))] 48 ∧ BlF s b37 27 [(iI ((at_ r30 r8).Xid)), (iI ((at_ r30 r8).Begun)), (iI ((at_ r30 r8).Ended)), (.bool y43.2.1), vy43_1, v33_1, (.bool ((at_ r30 r8).In)), (.bool x119.2.2.2)] 45 ∧ BlF s b4 62 [(iI a2.From.Kind), (iI a2.From.N), w2_0, w2_1, (iI a2.To.Kind), (iI a2.To.N), w2_2, w2_3] 40 ∧ RwF 27 kd27 s v30_0 x119.1 44 [900, 904, 905] ∧ HoG 27 kd27 s v30_0 x119.1 r8 44 900 ∧ RdF Yf s [v127_0] ((at_ x119.1 x119.2.2.1).Reads) [900, 904, 905] ∧ CeF s ad127 [(iI ((at_ x119.1 x119.2.2.1).Xid)), (iI ((at_ x119.1 x119.2.2.1).Begun)), (iI ((at_ x119.1 x119.2.2.1).Ended)), (.bool ((at_ x119.1 x119.2.2.1).All)), v127_0, v127_1, (.bool ((at_ x119.1 x119.2.2.1).In)), (.bool ((at_ x119.1 x119.2.2.1).Out))] [44, 900, 904, 905] ∧ RdF Ye s [v127_1] ((at_ x119.1 x119.2.2.1).Writes) [900, 904, 905] ∧ OwF Yf s [vy43_1] y43.2.2.1 904 ∧ OwF Ye s [v33_1] y43.2.2.2 905) (fun Gj246 Kj246 => ?_) ?_
    ·
     rcases bft (!x137.1) with hb246 | hb246
     ·
      rw [if_pos hb246]
      rw [hb246] at zd245
      try rw [hb246]
      refine zfin [13, 14, 15] tb216 (((((zd245.add 8 91 undef rfl).add 9 92 undef rfl).add 10 93 undef rfl).add 11 94 undef rfl).add 12 95 undef rfl) (Xa (Xr rfl) rfl (Xa (Xr rfl) rfl (Xa (Xr rfl) rfl (Xa (Xr rfl) rfl (Xa (Xr rfl) rfl (Xa (Xg rfl) rfl (Xa (Xg rfl) rfl (Xa (qv_b (Xg rfl) hb246) rfl (Xa (Xg rfl) rfl (Xa (Xg rfl) rfl (Xa (qv_b (Xg rfl) hb221) rfl (Xa (Xg rfl) rfl (Xa (Xg rfl) rfl Xk))))))))))))) (by kernel_rfl) (by decide) (Xf rfl (Xf rfl (Xb rfl ?_)))
      exact Kj246 _ _ _ ⟨s216, _, rfl, (ue (ue (ue (ue (ue (ue (ue (ue (ue (ue (ue rfl rfl) rfl) rfl) rfl) rfl) rfl) rfl) rfl) rfl) rfl) rfl), (Kx137.st p216 rfl), (Bx137_b131.st p216 rfl), (Bx137_b37.st p216 rfl), (Bx137_b4.st p216 rfl), (Cx137_121.st p216 rfl rfl), (Cx137_122.st p216 rfl), (Cx137_128.st p216 rfl), (Cx137_130.st p216 rfl rfl), (Cx137_129.st p216 rfl), (Cx137_115.st p216 rfl), (Cx137_116.st p216 rfl)⟩
     rw [if_neg (by rw [hb246]; decide)]
     rw [hb246] at zd245
     try rw [hb246]
     have K265 := Kx137.st p216 rfl
     have A266 := A0_0.kp K265
     refine mg fun hg267 => ?_
     obtain ⟨ad267, es267, he267, ce267, ia267⟩ := ix_e A266 rfl hg267.1 hg267.2
     obtain ⟨v267_0, v267_1, rfl, A267_0, A267_1⟩ := op27 he267
     refine zfin [13, 14, 15] tb216 (((((zd245.add 8 91 w0_0 rfl).add 9 92 (iI r8) rfl).add 10 93 (.pointer (some ad267)) rfl).add 11 94 (.agg #[(iI ((at_ a0 r8).Xid)), (iI ((at_ a0 r8).Begun)), (iI ((at_ a0 r8).Ended)), (.bool ((at_ a0 r8).All)), v267_0, v267_1, (.bool ((at_ a0 r8).In)), (.bool ((at_ a0 r8).Out))]) rfl).add 12 95 (.agg #[(iI ((at_ x119.1 x119.2.2.1).Xid)), (iI ((at_ x119.1 x119.2.2.1).Begun)), (iI ((at_ x119.1 x119.2.2.1).Ended)), (.bool ((at_ x119.1 x119.2.2.1).All)), v127_0, v127_1, (.bool ((at_ x119.1 x119.2.2.1).In)), (.bool ((at_ x119.1 x119.2.2.1).Out))]) rfl) (Xa (lda_q' (es := [(iI ((at_ x119.1 x119.2.2.1).Xid)), (iI ((at_ x119.1 x119.2.2.1).Begun)), (iI ((at_ x119.1 x119.2.2.1).Ended)), (.bool ((at_ x119.1 x119.2.2.1).All)), v127_0, v127_1, (.bool ((at_ x119.1 x119.2.2.1).In)), (.bool ((at_ x119.1 x119.2.2.1).Out))]) (Bx137_b131.st p216 rfl) u27 z27 rfl) rfl (Xa (lca_q ce267 u27 z27 rfl rfl rfl rfl rfl rfl rfl) rfl (Xa (ix_q' A266 u30 z27 hg267.1 hg267.2 ia267 rfl) rfl (Xa (Xg rfl) rfl (Xa (Xu w0_0 rfl) rfl (Xa (Xg rfl) rfl (Xa (Xg rfl) rfl (Xa (qv_b (Xg rfl) hb246) rfl (Xa (Xg rfl) rfl (Xa (Xg rfl) rfl (Xa (qv_b (Xg rfl) hb221) rfl (Xa (Xg rfl) rfl (Xa (Xg rfl) rfl Xk))))))))))))) (by kernel_rfl) (by decide) ?_
     have A276 := Cx137_128.st p216 rfl
     have A277 := Cx137_129.st p216 rfl
     refine clV 50 rfl func59 rfl (spec_Concurrent.calls (at_ a0 r8) (at_ x119.1 x119.2.2.1) s216.w (mm [0, 900, 904, 905] s216) v267_0 v267_1 v127_0 v127_1 (A267_0.sub (D := [0, 900, 904, 905]) rfl) (A267_1.sub (D := [0, 900, 904, 905]) rfl) (A276.sub (D := [0, 900, 904, 905]) rfl) (A277.sub (D := [0, 900, 904, 905]) rfl)) (fun r278 s279 p279 n279 => ?_)
     refine Xb rfl (Xb rfl ?_)
     exact Kj246 _ _ _ ⟨s279, _, rfl, (ue (ue (ue (ue (ue (ue (ue (ue (ue (ue (ue rfl rfl) rfl) rfl) rfl) rfl) rfl) rfl) rfl) rfl) rfl) rfl), (K265.st p279 rfl), (Bx137_b131.st (Xm p216 p279) rfl), (Bx137_b37.st (Xm p216 p279) rfl), (Bx137_b4.st (Xm p216 p279) rfl), (Cx137_121.st (Xm p216 p279) rfl rfl), (Cx137_122.st (Xm p216 p279) rfl), (A276.st p279 rfl), (Cx137_130.st (Xm p216 p279) rfl rfl), (A277.st p279 rfl), (Cx137_115.st (Xm p216 p279) rfl), (Cx137_116.st (Xm p216 p279) rfl)⟩
    rintro y246 _ _ ⟨s291, _, rfl, rfl, Ky246, By246_b131, By246_b37, By246_b4, Cy246_121, Cy246_122, Cy246_128, Cy246_130, Cy246_129, Cy246_115, Cy246_116⟩
    exact Kj221 _ _ _ ⟨s291, _, rfl, (ue (ue (ue (ue (ue (ue (ue (ue (ue rfl rfl) rfl) rfl) rfl) rfl) rfl) rfl) rfl) rfl), Ky246, By246_b131, By246_b37, By246_b4, Cy246_121, Cy246_122, Cy246_128, Cy246_130, Cy246_129, Cy246_115, Cy246_116⟩
   rintro y221 _ _ ⟨s295, _, rfl, rfl, Ky221, By221_b131, By221_b37, By221_b4, Cy221_121, Cy221_122, Cy221_128, Cy221_130, Cy221_129, Cy221_115, Cy221_116⟩
   refine dn (cd rfl (fun h299 => ?_) (fun h299 => ?_))
   ·
    exact xt rfl (Kj126 _ _ _ ⟨s295, _, rfl, (ue (ue (ue (ue (ue (ue (ue rfl rfl) rfl) rfl) rfl) rfl) rfl) rfl), Ky221, Cy221_121, Cy221_122, By221_b37, By221_b4, Cy221_115, Cy221_116⟩)
   refine sk (sr (Xw fa27_6 rfl (sv' By221_b131 z4 rfl rfl rfl (fun s300 p300 B300 => ?_))))
   refine dn (sr (Xw fa27_7 rfl ?_))
   refine sv' (By221_b37.st p300 rfl) z4 rfl rfl rfl (fun s303 p303 B303 => ?_)
   refine dn (sr (Xp v30_0 rfl (Xb rfl ?_)))
   have A305 := B300.st p303 rfl
   refine lda' (es := [(iI ((at_ x119.1 x119.2.2.1).Xid)), (iI ((at_ x119.1 x119.2.2.1).Begun)), (iI ((at_ x119.1 x119.2.2.1).Ended)), (.bool ((at_ x119.1 x119.2.2.1).All)), v127_0, v127_1, (.bool true), (.bool ((at_ x119.1 x119.2.2.1).Out))]) A305 u27 z27 rfl ?_
   have A306 := Cy221_121.st (Xm p300 p303) rfl rfl
   refine ix' A306.rd u30 z27 rfl (fun ad307 es307 h0_307 h1_307 he307 ce307 ia307 => ?_)
   replace he307 := rw_sharp A306 h0_307 h1_307 ia307 ce307 he307
   obtain ⟨v307_0, v307_1, rfl, A307_0, A307_1⟩ := op27 he307
   refine soG (x' := (Track.mk ((at_ x119.1 x119.2.2.1).Xid) ((at_ x119.1 x119.2.2.1).Begun) ((at_ x119.1 x119.2.2.1).Ended) ((at_ x119.1 x119.2.2.1).All) ((at_ x119.1 x119.2.2.1).Reads) ((at_ x119.1 x119.2.2.1).Writes) true ((at_ x119.1 x119.2.2.1).Out))) (lg_iso (fun x : Track => (x.Xid, x.Begun, x.Ended, x.All, x.Reads, x.Writes, x.In, x.Out)) (fun x => x.In) (fun x y => (Track.mk x.Xid x.Begun x.Ended x.All x.Reads x.Writes y x.Out)) (Xh (Xh (Xh (Xh (Xh (Xh (lg_left lg_id))))))) (fun _ => rfl) (fun _ _ => rfl)) (Cy221_122.st (Xm p300 p303) rfl) A306 ia307 h0_307 h1_307 ia127 (Cy221_130.st (Xm p300 p303) rfl rfl) rfl (Xz true) rfl rfl (mk27 (x := (Track.mk ((at_ x119.1 x119.2.2.1).Xid) ((at_ x119.1 x119.2.2.1).Begun) ((at_ x119.1 x119.2.2.1).Ended) ((at_ x119.1 x119.2.2.1).All) ((at_ x119.1 x119.2.2.1).Reads) ((at_ x119.1 x119.2.2.1).Writes) true ((at_ x119.1 x119.2.2.1).Out))) (Cy221_128.st (Xm p300 p303) rfl) (Cy221_129.st (Xm p300 p303) rfl)) rfl rfl z27 rfl rfl rfl rfl rfl rfl (fun s315 p315 A315 G315 => ?_)
   refine nb (fun y318 h318 => ?_)
   have A318 : RwF 27 kd27 s315 v30_0 y318 44 [900, 904, 905] := by rw [h318]; exact A315.sub (D := [900, 904, 905]) rfl
   have G318 : HoG 27 kd27 s315 v30_0 y318 r8 44 900 := by rw [h318]; exact G315
   refine dn (sr (Xw fa27_2 rfl ?_))
   have A319 := A305.st p315 rfl
   refine ld' A319 u3 rfl (Xb rfl (Xb rfl (jy [108, 109, 110, 111] [] 111 (.bool ((decide ((at_ x119.1 x119.2.2.1).Ended > (0 : Int))) && (at_ x119.1 x119.2.2.1).Out)) rfl (fun Kg320 => ?_) (fun j320 => ?_))))
   ·
    rcases bft (decide ((at_ x119.1 x119.2.2.1).Ended > (0 : Int))) with hb320 | hb320
    ·
     exact Xs hb320 (Xw fa27_7 rfl (ld' A319 u4 rfl (Xb rfl (Kg320 _ (Ag.put ((Ag.put ((Ag.put (Ag.base rfl) rfl)) rfl)) rfl) (by rw [hb320]; rfl)))))
    exact Xs hb320 (Xf rfl (Xf rfl (Xb rfl (Kg320 _ (Ag.put ((Ag.put ((Ag.put (Ag.base rfl) rfl)) rfl)) rfl) (by rw [hb320]; rfl)))))
   refine dn (jc (fun (y321 : Int) e w => ∃ (s : St) (e0 : Env), w = s.w ∧ e = upd (upd (upd (upd (upd (upd (upd e0 0 w0_0) 5 (pB b4)) 8 (iI r8)) 9 v30_0) 10 (pB b37)) 11 (iI y321)) 12 (iI x119.2.2.1) ∧ Kp s0 s ∧ BlF s b37 27 [(iI ((at_ r30 r8).Xid)), (iI ((at_ r30 r8).Begun)), (iI ((at_ r30 r8).Ended)), (.bool y43.2.1), vy43_1, v33_1, (.bool ((at_ r30 r8).In)), (.bool true)] 45 ∧ BlF s b4 62 [(iI a2.From.Kind), (iI a2.From.N), w2_0, w2_1, (iI a2.To.Kind), (iI a2.To.N), w2_2, w2_3] 40 ∧ RwF 27 kd27 s v30_0 y318 44 [900, 904, 905] ∧ HoG 27 kd27 s v30_0 y318 r8 44 900 ∧ OwF Yf s [vy43_1] y43.2.2.1 904 ∧ OwF Ye s [v33_1] y43.2.2.2 905) (fun Gj321 Kj321 => ?_) ?_)
   ·
    refine cd rfl (fun h322 => ?_) (fun h322 => ?_)
    ·
     refine rg (Xb rfl (dn ?_))
     exact Kj321 _ _ _ ⟨s315, _, rfl, (ue (ue (ue (ue (ue (ue (ue rfl rfl) rfl) rfl) rfl) rfl) rfl) rfl), (Ky221.st (Yb p300 p303 p315) rfl), (B303.st p315 rfl), (By221_b4.st (Yb p300 p303 p315) rfl), A318, G318, (Cy221_115.st (Yb p300 p303 p315) rfl), (Cy221_116.st (Yb p300 p303 p315) rfl)⟩
    exact sk (Kj321 _ _ _ ⟨s315, _, rfl, (ue (ue (ue (ue (ue (ue (ue rfl rfl) rfl) rfl) rfl) rfl) rfl) rfl), (Ky221.st (Yb p300 p303 p315) rfl), (B303.st p315 rfl), (By221_b4.st (Yb p300 p303 p315) rfl), A318, G318, (Cy221_115.st (Yb p300 p303 p315) rfl), (Cy221_116.st (Yb p300 p303 p315) rfl)⟩)
   rintro y321 _ _ ⟨s333, _, rfl, rfl, Ky321, By321_b37, By321_b4, Cy321_316, Cy321_317, Cy321_115, Cy321_116⟩
   exact ib (Kj126 _ _ _ ⟨s333, _, rfl, (ue (ue (ue (ue (ue (ue (ue rfl rfl) rfl) rfl) rfl) rfl) rfl) rfl), Ky321, Cy321_316, Cy321_317, By321_b37, By321_b4, Cy321_115, Cy321_116⟩)
  rintro y126 _ _ ⟨s336, _, rfl, rfl, Ky126, Ay126_0, Gy126_0, By126_b37, By126_b4, Cy126_115, Cy126_116⟩
  exact rg (Xb rfl (Xb rfl (Xb rfl (dn (lb ih119 ⟨s336, _, rfl, (ue (ue (ue (ue (ue (ue (ue rfl rfl) rfl) rfl) rfl) rfl) rfl) rfl), Ky126, Ay126_0, Gy126_0, By126_b37, By126_b4, Cy126_115, Cy126_116⟩)))))
 refine xt rfl (sgb (sr (Xp v30_0 rfl (Xb rfl (lda' (es := [(iI ((at_ r30 r8).Xid)), (iI ((at_ r30 r8).Begun)), (iI ((at_ r30 r8).Ended)), (.bool y43.2.1), vy43_1, v33_1, (.bool ((at_ r30 r8).In)), (.bool x119.2.2.2)]) Bx119_b37 u27 z27 rfl (ix' Ax119_0.rd u30 z27 rfl (fun ad341 es341 h0_341 h1_341 he341 ce341 ia341 => ?_)))))))
 replace he341 := rw_sharp Ax119_0 h0_341 h1_341 ia341 ce341 he341
 obtain ⟨v341_0, v341_1, rfl, A341_0, A341_1⟩ := op27 he341
 obtain ⟨s345, hw345, p345, A345⟩ := ow_2 Cx119_115 (ow_r Cx119_116 (Xn (Xz ((at_ r30 r8).In)) (Xz x119.2.2.2))) rfl rfl
 rw [hw345]
 have A347 : OwF kd27 s345 [(iI ((at_ r30 r8).Xid)), (iI ((at_ r30 r8).Begun)), (iI ((at_ r30 r8).Ended)), (.bool y43.2.1), vy43_1, v33_1, (.bool ((at_ r30 r8).In)), (.bool x119.2.2.2)] (Track.mk ((at_ r30 r8).Xid) ((at_ r30 r8).Begun) ((at_ r30 r8).Ended) y43.2.1 y43.2.2.1 y43.2.2.2 ((at_ r30 r8).In) x119.2.2.2) 904 := (Xv (fun x : Track => (x.Xid, x.Begun, x.Ended, x.All, x.Reads, x.Writes, x.In, x.Out)) (Track.mk ((at_ r30 r8).Xid) ((at_ r30 r8).Begun) ((at_ r30 r8).Ended) y43.2.1 y43.2.2.1 y43.2.2.2 ((at_ r30 r8).In) x119.2.2.2) (Xt (Xi .i64 ((at_ r30 r8).Xid)) (Xt (Xi .i64 ((at_ r30 r8).Begun)) (Xt (Xi .i64 ((at_ r30 r8).Ended)) (Xt (Xz y43.2.1) A345)))))
 refine soC (x' := (Track.mk ((at_ r30 r8).Xid) ((at_ r30 r8).Begun) ((at_ r30 r8).Ended) y43.2.1 y43.2.2.1 y43.2.2.2 ((at_ r30 r8).In) x119.2.2.2)) (Gx119_0.st p345 rfl) ia341 A347 rfl z27 rfl rfl rfl rfl rfl rfl (fun s350 p350 A350 => ?_)
 refine nb (fun y352 h352 => ?_)
 have A352 : OwF Yc s350 [v30_0] y352 44 := by rw [h352]; exact A350
 refine dn (sq (sr (Xw fa27_6 rfl ?_)))
 have A353 := Bx119_b37.st (Xm p345 p350) rfl
 refine ld' A353 u4 rfl (Xb rfl (jy [118, 119, 120, 121] [] 121 (.bool ((at_ r30 r8).In && x119.2.2.2)) rfl (fun Kg354 => ?_) (fun j354 => ?_)))
 ·
  rcases bft ((at_ r30 r8).In) with hb354 | hb354
  ·
   exact Xs hb354 (Xw fa27_7 rfl (ld' A353 u4 rfl (Xb rfl (Kg354 _ (Ag.put ((Ag.put ((Ag.put (Ag.base rfl) rfl)) rfl)) rfl) (by rw [hb354]; rfl)))))
  exact Xs hb354 (Xf rfl (Xf rfl (Xb rfl (Kg354 _ (Ag.put ((Ag.put ((Ag.put (Ag.base rfl) rfl)) rfl)) rfl) (by rw [hb354]; rfl)))))
 refine dn (jc (fun (y355 : Int) e w => ∃ (s : St) (e0 : Env), w = s.w ∧ e = upd (upd e0 9 v30_0) 11 (iI y355) ∧ Kp s0 s ∧ OwF Yc s [v30_0] y352 44) (fun Gj355 Kj355 => ?_) ?_)
 ·
  refine cd rfl (fun h356 => ?_) (fun h356 => ?_)
  ·
   refine rg (Xb rfl (dn ?_))
   exact Kj355 _ _ _ ⟨s350, _, rfl, (ue (ue rfl rfl) rfl), (Kx119.st (Xm p345 p350) rfl), A352⟩
  exact sk (Kj355 _ _ _ ⟨s350, _, rfl, (ue (ue rfl rfl) rfl), (Kx119.st (Xm p345 p350) rfl), A352⟩)
 rintro y355 _ _ ⟨s359, _, rfl, rfl, Ky355, Cy355_351⟩
 exact sr (Xp v30_0 rfl (Xb rfl (Xy v30_0 rfl (Xb rfl (dn (re rfl func32 rfl (Xq rfl (Xq rfl Xe)) rfl ⟨_, rfl, v30_0, rfl, Cy355_351.fo Ky355 rfl z.l, z.ky Ky355⟩))))))
def spec_l13has.b0 (a0 : (List Item)) (a1 : Item) (x5 : Int) : Option (Int ⊕ Bool) :=
 (if (decide (x5 < (a0.length : Int))) = true then (if 0 ≤ x5 ∧ x5 < (a0.length : Int) then ((spec_ItemCompare.f (at_ a0 x5) a1).bind fun r25 => (if (r25 == (0 : Int)) = true then (some (Sum.inr true)) else (some (Sum.inl (IntKind.wrap .i64 (x5 + (1 : Int))))))) else none) else ((some false).bind fun o => some (Sum.inr o)))
def spec_l13has.f (a0 : (List Item)) (a1 : Item) : Option (Bool) :=
 (iter (spec_l13has.b0 a0 a1) (0 : Int))
def spec_l13has.Q (w : World) (F : Nat → Prop) (r : Bool) (v : Value) (w' : World) : Prop :=
 v = (.bool r) ∧ Ky [] w w'
theorem spec_l13has.calls (a0 : (List Item)) (a1 : Item) (w : World) (F : Nat → Prop) (w0_0 : Value) (w1_0 : Value) (w1_1 : Value) (h0_0 : Ye.rd w [w0_0] a0 F) (h1_0 : Kd.flt.rd w [w1_0] a1.F F) (h1_1 : Yd.rd w [w1_1] a1.T F) (r : Bool) (m : spec_l13has.f a0 a1 = some r) :
  Calls prog 62 #[w0_0, (.agg #[(iI a1.Kind), (iI a1.N), w1_0, w1_1])] w (RT (spec_l13has.Q w F) r) := by
 obtain ⟨s0, rfl, kp0, z⟩ := Xj w F
 have A0_0 := z.rd h0_0
 refine Xd (args := [w0_0, (.agg #[(iI a1.Kind), (iI a1.N), w1_0, w1_1])]) func62 ntmps62 rfl rfl m ?_
 unfold spec_l13has.f
 refine sr (bx' (cs := [(iI a1.Kind), (iI a1.N), w1_0, w1_1]) 40 rfl rfl (fun b3 s3 p3 B3 => ?_))
 refine Xb rfl (dn (sq (sr (Xb rfl (dn (bl ?_))))))
 refine lpI (fun (x5 : Int) e w => ∃ (s : St) (e0 : Env), w = s.w ∧ e = upd (upd (upd e0 0 w0_0) 3 (pB b3)) 5 (iI x5) ∧ Kp s0 s ∧ BlF s b3 60 [(iI a1.Kind), (iI a1.N), w1_0, w1_1] 40) ⟨s3, _, rfl, (ue (ue (ue rfl rfl) rfl) rfl), (kp0.st p3 rfl), B3⟩ (fun g5 ih5 => ?_)
 rintro x5 _ _ ⟨s7, _, rfl, rfl, Kx5, Bx5_b3⟩
 unfold spec_l13has.b0
 refine sq (sr (Xb rfl (Xp w0_0 rfl ?_)))
 refine ln' (A0_0.kp Kx5) u25 rfl (Xb rfl (dn (cd rfl (fun h10 => ?_) (fun h10 => ?_))))
 ·
  refine sk (sq (bl (sq (zdraw [[], [], [0, 1], [2], [], [3, 4], [5]] [some 12, some 13, some 14, some 15, some 16, some 17, some 18] [[0], [5], [12, 13], [14], [3], [15, 16], [17]] [0, 1, 2, 3, 4, 5, 6] ⟨by kernel_rfl, by kernel_rfl, by kernel_rfl⟩ (by kernel_rfl) (fun s11 p11 l11 tb11 zd11 => ?_)))))
  have K14 := Kx5.st p11 rfl
  have A15 := A0_0.kp K14
  refine mg fun hg16 => ?_
  obtain ⟨ad16, es16, he16, ce16, ia16⟩ := ix_e A15 rfl hg16.1 hg16.2
  obtain ⟨v16_0, v16_1, rfl, A16_0, A16_1⟩ := op60 he16
  refine zfin [5, 6] tb11 (((((zd11.add 0 12 w0_0 rfl).add 1 13 (iI x5) rfl).add 2 14 (.pointer (some ad16)) rfl).add 3 15 (.agg #[(iI ((at_ a0 x5).Kind)), (iI ((at_ a0 x5).N)), v16_0, v16_1]) rfl).add 4 16 (.agg #[(iI a1.Kind), (iI a1.N), w1_0, w1_1]) rfl) (Xa (lda_q' (es := [(iI a1.Kind), (iI a1.N), w1_0, w1_1]) (Bx5_b3.st p11 rfl) u60 z60 rfl) rfl (Xa (lca_q ce16 u60 z60 rfl rfl rfl rfl rfl rfl rfl) rfl (Xa (ix_q' A15 u25 z60 hg16.1 hg16.2 ia16 rfl) rfl (Xa (Xg rfl) rfl (Xa (Xu w0_0 rfl) rfl Xk))))) (by kernel_rfl) (by decide) (clV 41 rfl func61 rfl (spec_ItemCompare.calls (at_ a0 x5) a1 s11.w (mm [0] s11) v16_0 v16_1 w1_0 w1_1 ((Xl (s := s11) A16_0).sub (D := [0]) rfl) A16_1 ((Xl (s := s11) (fl_of h1_0)).sub (D := [0]) rfl) ((z.rd h1_1).kp K14)) (fun r25 s26 p26 n26 => ?_))
  refine Xb rfl (dn (cd rfl (fun h27 => ?_) (fun h27 => ?_)))
  ·
   refine sr (Xb rfl (dn (sgi ?_)))
   exact re rfl func62 rfl (Xq rfl Xe) rfl ⟨_, rfl, rfl, z.ky (K14.st p26 rfl)⟩
  refine sk (ib (rg (Xb rfl (Xb rfl (Xb rfl (dn ?_))))))
  exact lb ih5 ⟨s26, _, rfl, (ue (ue (ue rfl rfl) rfl) rfl), (K14.st p26 rfl), (Bx5_b3.st (Xm p11 p26) rfl)⟩
 exact xt rfl (sgb (sr (Xb rfl (dn (re rfl func62 rfl (Xq rfl Xe) rfl ⟨_, rfl, rfl, z.ky Kx5⟩)))))
def spec_TrackReads.b0 (a0 : Track) (a1 : Item) (x14 : Int) : Option (Int ⊕ Bool) :=
 (if (decide (x14 < (a0.Reads.length : Int))) = true then (if 0 ≤ x14 ∧ x14 < (a0.Reads.length : Int) then (if 0 ≤ x14 ∧ x14 < (a0.Reads.length : Int) then ((spec_InSpan.f ((at_ a0.Reads x14).From) ((at_ a0.Reads x14).To) a1).bind fun r54 => (if r54 = true then (some (Sum.inr true)) else (some (Sum.inl (IntKind.wrap .i64 (x14 + (1 : Int))))))) else none) else none) else ((some a0.All).bind fun o => some (Sum.inr o)))
def spec_TrackReads.f (a0 : Track) (a1 : Item) : Option (Bool) :=
 ((spec_KeyOk.f a1).bind fun r10 => (if (!r10) = true then (some false) else (iter (spec_TrackReads.b0 a0 a1) (0 : Int))))
def spec_TrackReads.Q (w : World) (F : Nat → Prop) (r : Bool) (v : Value) (w' : World) : Prop :=
 v = (.bool r) ∧ Ky [] w w'
theorem spec_TrackReads.calls (a0 : Track) (a1 : Item) (w : World) (F : Nat → Prop) (w0_0 : Value) (w0_1 : Value) (w1_0 : Value) (w1_1 : Value) (h0_0 : Yf.rd w [w0_0] a0.Reads F) (h0_1 : Ye.rd w [w0_1] a0.Writes F) (h1_0 : Kd.flt.rd w [w1_0] a1.F F) (h1_1 : Yd.rd w [w1_1] a1.T F) (r : Bool) (m : spec_TrackReads.f a0 a1 = some r) :
  Calls prog 63 #[(.agg #[(iI a0.Xid), (iI a0.Begun), (iI a0.Ended), (.bool a0.All), w0_0, w0_1, (.bool a0.In), (.bool a0.Out)]), (.agg #[(iI a1.Kind), (iI a1.N), w1_0, w1_1])] w (RT (spec_TrackReads.Q w F) r) := by
 obtain ⟨s0, rfl, kp0, z⟩ := Xj w F
 have A0_0 := z.rd h0_0
 have A1_0 := fl_of h1_0
 have A1_1 := z.rd h1_1
 refine Xd (args := [(.agg #[(iI a0.Xid), (iI a0.Begun), (iI a0.Ended), (.bool a0.All), w0_0, w0_1, (.bool a0.In), (.bool a0.Out)]), (.agg #[(iI a1.Kind), (iI a1.N), w1_0, w1_1])]) func63 ntmps63 rfl rfl m ?_
 unfold spec_TrackReads.f
 refine sr (bx' (cs := [(iI a0.Xid), (iI a0.Begun), (iI a0.Ended), (.bool a0.All), w0_0, w0_1, (.bool a0.In), (.bool a0.Out)]) 40 rfl rfl (fun b4 s4 p4 B4 => ?_))
 refine bx' (cs := [(iI a1.Kind), (iI a1.N), w1_0, w1_1]) 41 rfl rfl (fun b6 s6 p6 B6 => ?_)
 refine Xb rfl (dn (sq (sr (lda' (es := [(iI a1.Kind), (iI a1.N), w1_0, w1_1]) B6 u60 z60 rfl ?_))))
 have K8 := kp0.st (Xm p4 p6) rfl
 refine clV 42 rfl func48 rfl (spec_KeyOk.calls a1 s6.w (mm [0] s6) w1_0 w1_1 ((Xl (s := s6) A1_0).sub (D := [0]) rfl) (A1_1.kp K8)) (fun r10 s11 p11 n11 => ?_)
 refine Xb rfl (dn (cd rfl (fun h12 => ?_) (fun h12 => ?_)))
 ·
  refine sr (Xb rfl (dn ?_))
  exact re rfl func63 rfl (Xq rfl Xe) rfl ⟨_, rfl, rfl, z.ky (K8.st p11 rfl)⟩
 refine sk (sq (sr (Xb rfl (dn (bl ?_)))))
 refine lpI (fun (x14 : Int) e w => ∃ (s : St) (e0 : Env), w = s.w ∧ e = upd (upd (upd e0 2 (pB b4)) 3 (pB b6)) 5 (iI x14) ∧ Kp s0 s ∧ BlF s b6 60 [(iI a1.Kind), (iI a1.N), w1_0, w1_1] 41 ∧ BlF s b4 27 [(iI a0.Xid), (iI a0.Begun), (iI a0.Ended), (.bool a0.All), w0_0, w0_1, (.bool a0.In), (.bool a0.Out)] 40) ⟨s11, _, rfl, (ue (ue (ue rfl rfl) rfl) rfl), (K8.st p11 rfl), (B6.st p11 rfl), (B4.st (Xm p6 p11) rfl)⟩ (fun g14 ih14 => ?_)
 rintro x14 _ _ ⟨s18, _, rfl, rfl, Kx14, Bx14_b6, Bx14_b4⟩
 unfold spec_TrackReads.b0
 refine sq (sr (Xb rfl (Xw fa27_4 rfl (ld' Bx14_b4 u24 rfl ?_))))
 refine ln' (A0_0.kp Kx14) u24 rfl (Xb rfl (dn (cd rfl (fun h22 => ?_) (fun h22 => ?_))))
 ·
  refine sk (sq (bl (sq (zdraw [[], [0], [], [1, 2], [3], [4], [], [6], [], [7, 8], [9], [10], [], [5, 11, 12]] [some 16, some 17, some 18, some 19, some 20, some 21, some 22, some 23, some 24, some 25, some 26, some 27, some 28, some 29] [[2], [16], [5], [17, 18], [19], [20], [2], [22], [5], [23, 24], [25], [26], [3], [21, 27, 28]] [0, 1, 2, 3, 4, 5, 6, 7, 8, 9, 10, 11, 12, 13] ⟨by kernel_rfl, by kernel_rfl, by kernel_rfl⟩ (by kernel_rfl) (fun s23 p23 l23 tb23 zd23 => ?_)))))
  have K28 := Kx14.st p23 rfl
  have A29 := A0_0.kp K28
  refine mg fun hg30 => ?_
  obtain ⟨ad30, es30, he30, ce30, ia30⟩ := ix_e A29 rfl hg30.1 hg30.2
  obtain ⟨v30_0, v30_1, v30_2, v30_3, rfl, A30_0, A30_1, A30_2, A30_3⟩ := op62 he30
  have zd36 := (((((zd23.add 0 16 (pO b4 4) rfl).add 1 17 w0_0 rfl).add 2 18 (iI x14) rfl).add 3 19 (.pointer (some ad30)) rfl).add 4 20 (.pointer (some ad30)) rfl).add 5 21 (.agg #[(iI (((at_ a0.Reads x14).From).Kind)), (iI (((at_ a0.Reads x14).From).N)), v30_0, v30_1]) rfl
  refine mg fun hg41 => ?_
  obtain ⟨ad41, es41, he41, ce41, ia41⟩ := ix_e A29 rfl hg41.1 hg41.2
  obtain ⟨v41_0, v41_1, v41_2, v41_3, rfl, A41_0, A41_1, A41_2, A41_3⟩ := op62 he41
  refine zfin [13] tb23 (((((((zd36.add 6 22 (pO b4 4) rfl).add 7 23 w0_0 rfl).add 8 24 (iI x14) rfl).add 9 25 (.pointer (some ad41)) rfl).add 10 26 (.pointer (some (ad41.add 4))) rfl).add 11 27 (.agg #[(iI (((at_ a0.Reads x14).To).Kind)), (iI (((at_ a0.Reads x14).To).N)), v41_2, v41_3]) rfl).add 12 28 (.agg #[(iI a1.Kind), (iI a1.N), w1_0, w1_1]) rfl) (Xa (lda_q' (es := [(iI a1.Kind), (iI a1.N), w1_0, w1_1]) (Bx14_b6.st p23 rfl) u60 z60 rfl) rfl (Xa (lcq_q (q := 4) (es' := [(iI (((at_ a0.Reads x14).To).Kind)), (iI (((at_ a0.Reads x14).To).N)), v41_2, v41_3]) ce41 u60 z60 rfl rfl rfl rfl rfl rfl rfl rfl) rfl (Xa (Xo fa62_1 rfl) rfl (Xa (ix_q' A29 u24 z62 hg41.1 hg41.2 ia41 rfl) rfl (Xa (Xg rfl) rfl (Xa (Ya (Bx14_b4.st p23 rfl) u24 rfl) rfl (Xa (Xo fa27_4 rfl) rfl (Xa (lcq_q (q := 0) (es' := [(iI (((at_ a0.Reads x14).From).Kind)), (iI (((at_ a0.Reads x14).From).N)), v30_0, v30_1]) ce30 u60 z60 rfl rfl rfl rfl rfl rfl rfl rfl) rfl (Xa (Xo fa62_0 rfl) rfl (Xa (ix_q' A29 u24 z62 hg30.1 hg30.2 ia30 rfl) rfl (Xa (Xg rfl) rfl (Xa (Ya (Bx14_b4.st p23 rfl) u24 rfl) rfl (Xa (Xo fa27_4 rfl) rfl Xk))))))))))))) (by kernel_rfl) (by decide) (clV 43 rfl func58 rfl (spec_InSpan.calls ((at_ a0.Reads x14).From) ((at_ a0.Reads x14).To) a1 s23.w (mm [0] s23) v30_0 v30_1 v41_2 v41_3 w1_0 w1_1 ((Xl (s := s23) A30_0).sub (D := [0]) rfl) A30_1 ((Xl (s := s23) A41_2).sub (D := [0]) rfl) A41_3 ((Xl (s := s23) A1_0).sub (D := [0]) rfl) (A1_1.kp K28)) (fun r54 s55 p55 n55 => ?_))
  refine dn (cd rfl (fun h56 => ?_) (fun h56 => ?_))
  ·
   refine sr (Xb rfl (dn (sgi ?_)))
   exact re rfl func63 rfl (Xq rfl Xe) rfl ⟨_, rfl, rfl, z.ky (K28.st p55 rfl)⟩
  refine sk (ib (rg (Xb rfl (Xb rfl (Xb rfl (dn ?_))))))
  exact lb ih14 ⟨s55, _, rfl, (ue (ue (ue rfl rfl) rfl) rfl), (K28.st p55 rfl), (Bx14_b6.st (Xm p23 p55) rfl), (Bx14_b4.st (Xm p23 p55) rfl)⟩
 exact xt rfl (sgb (sr (Xw fa27_3 rfl (ld' Bx14_b4 u4 rfl (Xb rfl (dn (re rfl func63 rfl (Xq rfl Xe) rfl ⟨_, rfl, rfl, z.ky Kx14⟩)))))))
end Go.Proofs.Ytcgbhldenkeplaa
