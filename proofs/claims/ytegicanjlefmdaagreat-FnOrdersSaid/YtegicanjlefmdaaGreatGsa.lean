/- The functions as models, and that the calls come to what the models tell. -/
import Derived.Test.YtegicanjlefmdaaGreatGt
set_option linter.unusedVariables false
set_option linter.unusedSimpArgs false
set_option maxHeartbeats 4000000
set_option maxRecDepth 100000
noncomputable section
namespace Go.Proofs.YtegicanjlefmdaaGreat
open Go V Tryz
def laws_big.f (a0 : (List Int)) : Option (Bool) :=
 (some (decide ((a0.length : Int) > (1048576 : Int))))
def laws_big.Q (w : World) (F : Nat → Prop) (r : Bool) (v : Value) (w' : World) : Prop :=
 v = (.bool r) ∧ Ky [] w w'
theorem laws_big.calls (a0 : (List Int)) (w : World) (F : Nat → Prop) (w0_0 : Value) (h0_0 : Xx.rd w [w0_0] a0 F) (r : Bool) (m : laws_big.f a0 = some r) :
  Calls prog 9 #[w0_0] w (RT (laws_big.Q w F) r) := by
 obtain ⟨s0, rfl, kp0, z⟩ := Xi w F
 refine Xc (args := [w0_0]) func9 ntmps9 rfl rfl m ?_
 unfold laws_big.f
 exact sr (Xb rfl (dn (sr (Xp w0_0 rfl (ln' (z.rd h0_0) u22 rfl (Xb rfl (Xb rfl (dn (re rfl func9 rfl (Xs rfl Xg) rfl ⟨_, rfl, rfl, z.ky kp0⟩)))))))))
def spec_l1New.b0 (a0 : (List Int)) (x2 : Int × Int) : Option ((Int × Int) ⊕ l1Cur) :=
 (if ((decide (x2.2 < (a0.length : Int))) && (decide (x2.2 < (4000 : Int)))) = true then (if 0 ≤ x2.2 ∧ x2.2 < (a0.length : Int) then (some (Sum.inl ((iand .i64 (IntKind.wrap .i64 ((IntKind.wrap .i64 ((IntKind.wrap .i64 (x2.1 * (131 : Int))) + (IntKind.wrap .i64 (at_ a0 x2.2)))) + (7 : Int))) (1073741823 : Int)), (IntKind.wrap .i64 (x2.2 + (1 : Int)))))) else none) else ((some (l1Cur.mk a0 (0 : Int) x2.1)).bind fun o => some (Sum.inr o)))
def spec_l1New.f (a0 : (List Int)) : Option (l1Cur) :=
 (iter (spec_l1New.b0 a0) ((IntKind.wrap .i64 ((25252 : Int) + (a0.length : Int))), (0 : Int)))
def spec_l1New.Q (w : World) (F : Nat → Prop) (r : l1Cur) (v : Value) (w' : World) : Prop :=
 ∃ (v0 : Nat) (v1 : Value), v = (pB v0) ∧ BlN w w' v0 184 [v1, (iI r.i), (iI r.h)] ∧ FRF Xx F w w' [v1] r.b ∧ Ky [] w w'
theorem spec_l1New.calls (a0 : (List Int)) (w : World) (F : Nat → Prop) (w0_0 : Value) (h0_0 : Xx.rd w [w0_0] a0 F) (r : l1Cur) (m : spec_l1New.f a0 = some r) :
  Calls prog 67 #[w0_0] w (RT (spec_l1New.Q w F) r) := by
 obtain ⟨s0, rfl, kp0, z⟩ := Xi w F
 have A0_0 := z.rd h0_0
 refine Xc (args := [w0_0]) func67 ntmps67 rfl rfl m ?_
 unfold spec_l1New.f
 refine sr (Xb rfl (dn (sr (Xp w0_0 rfl (ln' A0_0 u22 rfl (Xb rfl (Xb rfl (dn (sq (sr (Xb rfl (dn (bl (lpI (fun (x2 : Int × Int) e w => ∃ (s : St) (e0 : Env), w = s.w ∧ e = upd (upd (upd e0 0 w0_0) 3 (iI x2.1)) 4 (iI x2.2) ∧ Kp s0 s) ⟨s0, _, rfl, (ue (ue (ue rfl rfl) rfl) rfl), kp0⟩ (fun g2 ih2 => ?_)))))))))))))))
 rintro x2 _ _ ⟨s3, _, rfl, rfl, Kx2⟩
 unfold spec_l1New.b0
 refine sq (sr (Xb rfl (Xp w0_0 rfl ?_)))
 have A4 := A0_0.kp Kx2
 refine ln' A4 u22 rfl (Xb rfl (Xb rfl (jy [12, 13, 14, 15] [] 15 (.bool ((decide (x2.2 < (a0.length : Int))) && (decide (x2.2 < (4000 : Int))))) rfl (fun Kg5 => ?_) (fun j5 => ?_))))
 ·
  rcases bft (decide (x2.2 < (a0.length : Int))) with hb5 | hb5
  ·
   exact Xv hb5 (Xb rfl (Xb rfl (Xb rfl (Kg5 _ (Ag.put ((Ag.put ((Ag.put (Ag.base rfl) rfl)) rfl)) rfl) (by rw [hb5]; rfl)))))
  exact Xv hb5 (Xj rfl (Xj rfl (Xb rfl (Kg5 _ (Ag.put ((Ag.put ((Ag.put (Ag.base rfl) rfl)) rfl)) rfl) (by rw [hb5]; rfl)))))
 refine dn (cd rfl (fun h6 => ?_) (fun h6 => ?_))
 ·
  refine sk (sq (bl (rg (Xb rfl (Xb rfl (Xp w0_0 rfl (Xb rfl (ix' A4 u22 z5 rfl (fun ad7 es7 h0_7 h1_7 he7 ce7 ia7 => ?_)))))))))
  obtain rfl := he7
  exact lc0' ce7 u5 rfl (cv u3 u5 rfl rfl rfl rfl rfl rfl (Xb rfl (Xb rfl (Xb rfl (Xb rfl (dn (ib (rg (Xb rfl (Xb rfl (Xb rfl (dn (lb ih2 ⟨s3, _, rfl, (ue (ue (ue rfl rfl) rfl) rfl), Kx2⟩)))))))))))))
 refine xt rfl (sgb (sr (Xp w0_0 rfl (Xb rfl (bd (cells := [w0_0, (iI 0), (iI x2.1)]) pl184 o184 rfl rfl rfl rfl rfl (lfill_pc (pc_c (oc A4.one) (pc_c rfl pc_n)) rfl) (bx' (cs := [w0_0, (iI 0), (iI x2.1)]) 40 rfl rfl (fun b9 s9 p9 B9 => ?_)))))))
 refine Xb rfl (dn ?_)
 have K11 := Kx2.st p9 rfl
 exact re rfl func67 rfl (Xs rfl Xg) rfl ⟨_, rfl, b9, w0_0, rfl, BlF.fo B9 K11 rfl z.l, z.rf K11 A0_0, z.ky K11⟩
def spec_l1Size.f (a0 : (List Int)) (a1 : Int) : Option (Int) :=
 (if (decide ((IntKind.wrap .i64 ((2 : Int) + (IntKind.wrap .i64 ((a0.length : Int).tdiv (20 : Int))))) > a1)) = true then (some a1) else (some (IntKind.wrap .i64 ((2 : Int) + (IntKind.wrap .i64 ((a0.length : Int).tdiv (20 : Int)))))))
def spec_l1Size.Q (w : World) (F : Nat → Prop) (r : Int) (v : Value) (w' : World) : Prop :=
 v = (iI r) ∧ Ky [] w w'
theorem spec_l1Size.calls (a0 : (List Int)) (a1 : Int) (w : World) (F : Nat → Prop) (w0_0 : Value) (h0_0 : Xx.rd w [w0_0] a0 F) (r : Int) (m : spec_l1Size.f a0 a1 = some r) :
  Calls prog 69 #[w0_0, (iI a1)] w (RT (spec_l1Size.Q w F) r) := by
 obtain ⟨s0, rfl, kp0, z⟩ := Xi w F
 refine Xc (args := [w0_0, (iI a1)]) func69 ntmps69 rfl rfl m ?_
 unfold spec_l1Size.f
 refine sr (Xb rfl (dn (sr (Xp w0_0 rfl (ln' (z.rd h0_0) u22 rfl (quoK rfl rfl rfl rfl rfl rfl rfl rfl (Xb rfl (Xb rfl (dn (sq (sr (Xb rfl (Xb rfl (Xb rfl ?_))))))))))))))
 refine dn (cd rfl (fun h2 => ?_) (fun h2 => ?_))
 ·
  exact sr (Xb rfl (Xb rfl (dn (re rfl func69 rfl (Xs rfl Xg) rfl ⟨_, rfl, rfl, z.ky kp0⟩))))
 exact sk (sr (Xb rfl (Xb rfl (dn (re rfl func69 rfl (Xs rfl Xg) rfl ⟨_, rfl, rfl, z.ky kp0⟩)))))
def spec_l1Byte.f (a0 : l1Cur) : Option (Int × l1Cur) :=
 ((if (decide (a0.i < (a0.b.length : Int))) = true then (if 0 ≤ a0.i ∧ a0.i < (a0.b.length : Int) then (some ((iand .i64 (IntKind.wrap .i64 ((iand .i64 (ixor .i64 (ishr .i64 (IntKind.wrap .i64 ((IntKind.wrap .i64 (a0.h * (6364136223846793005 : Int))) + (1442695040888963407 : Int))) (33 : Int)) (ishr .i64 (IntKind.wrap .i64 ((IntKind.wrap .i64 (a0.h * (6364136223846793005 : Int))) + (1442695040888963407 : Int))) (45 : Int))) (255 : Int)) + (IntKind.wrap .i64 (at_ a0.b a0.i)))) (255 : Int)), (IntKind.wrap .i64 (a0.i + (1 : Int))))) else none) else (some ((iand .i64 (ixor .i64 (ishr .i64 (IntKind.wrap .i64 ((IntKind.wrap .i64 (a0.h * (6364136223846793005 : Int))) + (1442695040888963407 : Int))) (33 : Int)) (ishr .i64 (IntKind.wrap .i64 ((IntKind.wrap .i64 (a0.h * (6364136223846793005 : Int))) + (1442695040888963407 : Int))) (45 : Int))) (255 : Int)), a0.i))).bind fun y38 => (some (y38.1, (l1Cur.mk a0.b y38.2 (IntKind.wrap .i64 ((IntKind.wrap .i64 (a0.h * (6364136223846793005 : Int))) + (1442695040888963407 : Int)))))))
def spec_l1Byte.Q (w : World) (F : Nat → Prop) (p0 : Nat) (w0_0 : Value) (r : Int × l1Cur) (v : Value) (w' : World) : Prop :=
 v = (iI r.1) ∧ BlW w' p0 184 [w0_0, (iI r.2.i), (iI r.2.h)] ∧ Ky [p0] w w'
theorem spec_l1Byte.calls (a0 : l1Cur) (w : World) (F : Nat → Prop) (p0 : Nat) (w0_0 : Value) (h0_0 : Xx.rd w [w0_0] a0.b F) (hb0 : BlW w p0 184 [w0_0, (iI a0.i), (iI a0.h)]) (hF : ∀ b, F b → b ∉ [p0]) (r : Int × l1Cur) (m : spec_l1Byte.f a0 = some r) :
  Calls prog 163 #[(pB p0)] w (RT (spec_l1Byte.Q w F p0 w0_0) r) := by
 obtain ⟨s0, rfl, kp0, z⟩ := start1 w F [p0] hF
 have A0_0 := z.rd h0_0
 have B0 := z.bl hb0 (by simp)
 refine Xc (args := [(pB p0)]) func163 ntmps163 rfl rfl m ?_
 unfold spec_l1Byte.f
 refine sr (Xb rfl (dn (sr (Xb rfl (Xb rfl (Xb rfl (fa' fa184_2 rfl (ld' B0 u3 rfl (Xb rfl (Xb rfl (Xb rfl (fa' fa184_2 rfl (sv B0 z3 rfl rfl rfl rfl rfl rfl rfl rfl (fun s3 p3 B3 => ?_))))))))))))))
 refine dn (sq (zdraw [[], [0], [1], [2], [3], [], [5], [6], [7], [8], [4, 9], [10], [11, 0, 1, 2, 3, 4, 5, 6, 7, 8, 9, 10, 11]] [some 13, some 14, some 15, some 16, some 17, some 18, some 19, some 20, some 21, some 22, some 23, some 24, some 3] [[0], [13], [14], [15], [16], [0], [18], [19], [20], [21], [17, 22], [23], [24]] [0, 1, 2, 3, 4, 5, 6, 7, 8, 9, 10, 11, 12] ⟨by kernel_rfl, by kernel_rfl, by kernel_rfl⟩ (by kernel_rfl) (fun s5 p5 l5 tb5 zd5 => ?_)))
 have zd10 := (((zd5.add 0 13 (pB p0) rfl).add 1 14 (pB p0) rfl).add 2 15 (pO p0 2) rfl).add 3 16 (iI (IntKind.wrap .i64 ((IntKind.wrap .i64 (a0.h * (6364136223846793005 : Int))) + (1442695040888963407 : Int)))) rfl
 refine zfin [10, 11, 12] tb5 ((((((zd10.add 4 17 (iI (ishr .i64 (IntKind.wrap .i64 ((IntKind.wrap .i64 (a0.h * (6364136223846793005 : Int))) + (1442695040888963407 : Int))) (33 : Int))) rfl).add 5 18 (pB p0) rfl).add 6 19 (pB p0) rfl).add 7 20 (pO p0 2) rfl).add 8 21 (iI (IntKind.wrap .i64 ((IntKind.wrap .i64 (a0.h * (6364136223846793005 : Int))) + (1442695040888963407 : Int)))) rfl).add 9 22 (iI (ishr .i64 (IntKind.wrap .i64 ((IntKind.wrap .i64 (a0.h * (6364136223846793005 : Int))) + (1442695040888963407 : Int))) (45 : Int))) rfl) (Xa (shrK_q rfl rfl rfl rfl rfl rfl rfl rfl) rfl (Xa (Xr (B3.st p5 rfl) u3 rfl) rfl (Xa (Xm fa184_2 rfl) rfl (Xa (Xd rfl) rfl (Xa (Xd rfl) rfl (Xa (shrK_q rfl rfl rfl rfl rfl rfl rfl rfl) rfl (Xa (Xr (B3.st p5 rfl) u3 rfl) rfl (Xa (Xm fa184_2 rfl) rfl (Xa (Xd rfl) rfl (Xa (Xd rfl) rfl Xh)))))))))) (by kernel_rfl) (by decide) (Xb rfl (Xb rfl (Xb rfl (dn (sq (sq (zdraw [[], [0], [1], [2], [], [4], [5], [6], [7], [3, 8]] [some 25, some 26, some 27, some 28, some 29, some 30, some 31, some 32, some 33, some 34] [[0], [25], [26], [27], [0], [29], [30], [31], [32], [28, 33]] [0, 1, 2, 3, 4, 5, 6, 7, 8, 9] ⟨by kernel_rfl, by kernel_rfl, by kernel_rfl⟩ (by kernel_rfl) (fun s20 p20 l20 tb20 zd20 => ?_))))))))
 refine zfin [9] tb20 (((((((((zd20.add 0 25 (pB p0) rfl).add 1 26 (pB p0) rfl).add 2 27 (pO p0 1) rfl).add 3 28 (iI a0.i) rfl).add 4 29 (pB p0) rfl).add 5 30 (pB p0) rfl).add 6 31 (pB p0) rfl).add 7 32 w0_0 rfl).add 8 33 (iI (a0.b.length : Int)) rfl) (Xa (ln_q (A0_0.kp (kp0.st (tr3 p3 p5 p20) rfl)) u22 rfl rfl rfl rfl rfl rfl) rfl (Xa (Xr (B3.st (Xq p5 p20) rfl) u22 rfl) rfl (Xa (Xm fa184_0 rfl) rfl (Xa (Xd rfl) rfl (Xa (Xd rfl) rfl (Xa (Xr (B3.st (Xq p5 p20) rfl) u3 rfl) rfl (Xa (Xm fa184_1 rfl) rfl (Xa (Xd rfl) rfl (Xa (Xd rfl) rfl Xh))))))))) (by kernel_rfl) (by decide) (Xb rfl (dn (jc (fun (y38 : Int × Int) e w => ∃ (s : St) (e0 : Env), w = s.w ∧ e = upd e0 3 (iI y38.1) ∧ Kp s0 s ∧ BlF s p0 184 [w0_0, (iI y38.2), (iI (IntKind.wrap .i64 ((IntKind.wrap .i64 (a0.h * (6364136223846793005 : Int))) + (1442695040888963407 : Int))))] 2) (fun Gj38 Kj38 => ?_) ?_)))
 ·
  refine cd rfl (fun h39 => ?_) (fun h39 => ?_)
  ·
   refine sq (zdraw [[], [], [1], [2], [3], [], [5], [6], [7], [4, 8], [9], [10], [0, 11], [12], [13, 0, 1, 2, 3, 4, 5, 6, 7, 8, 9, 10, 11, 12, 13]] [some 35, some 36, some 37, some 38, some 39, some 40, some 41, some 42, some 43, some 44, some 45, some 46, some 47, some 48, some 3] [[3], [0], [36], [37], [38], [0], [40], [41], [42], [39, 43], [44], [45], [35, 46], [47], [48]] [0, 1, 2, 3, 4, 5, 6, 7, 8, 9, 10, 11, 12, 13, 14] ⟨by kernel_rfl, by kernel_rfl, by kernel_rfl⟩ (by kernel_rfl) (fun s40 p40 l40 tb40 zd40 => ?_))
   have zd41 := zd40.add 0 35 (iI (iand .i64 (ixor .i64 (ishr .i64 (IntKind.wrap .i64 ((IntKind.wrap .i64 (a0.h * (6364136223846793005 : Int))) + (1442695040888963407 : Int))) (33 : Int)) (ishr .i64 (IntKind.wrap .i64 ((IntKind.wrap .i64 (a0.h * (6364136223846793005 : Int))) + (1442695040888963407 : Int))) (45 : Int))) (255 : Int))) rfl
   have K52 := kp0.st (tr4 p3 p5 p20 p40) rfl
   have A53 := A0_0.kp K52
   refine mg fun hg54 => ?_
   obtain ⟨ad54, es54, he54, ce54, ia54⟩ := ix_e A53 rfl hg54.1 hg54.2
   obtain rfl := he54
   refine zfin [12, 13, 14] tb40 (((((((((((zd41.add 1 36 (pB p0) rfl).add 2 37 (pB p0) rfl).add 3 38 (pB p0) rfl).add 4 39 w0_0 rfl).add 5 40 (pB p0) rfl).add 6 41 (pB p0) rfl).add 7 42 (pO p0 1) rfl).add 8 43 (iI a0.i) rfl).add 9 44 (.pointer (some ad54)) rfl).add 10 45 (.int .u8 (at_ a0.b a0.i)) rfl).add 11 46 (iI (IntKind.wrap .i64 (at_ a0.b a0.i))) rfl) (Xa (cv_q u3 u5 rfl rfl rfl rfl rfl rfl) rfl (Xa (Xt ce54 u5 rfl) rfl (Xa (Xn A53 u22 z5 hg54.1 hg54.2 ia54 rfl) rfl (Xa (Xr (B3.st (tr3 p5 p20 p40) rfl) u3 rfl) rfl (Xa (Xm fa184_1 rfl) rfl (Xa (Xd rfl) rfl (Xa (Xd rfl) rfl (Xa (Xr (B3.st (tr3 p5 p20 p40) rfl) u22 rfl) rfl (Xa (Xm fa184_0 rfl) rfl (Xa (Xd rfl) rfl (Xa (Xd rfl) rfl (Xa (Xd rfl) rfl Xh)))))))))))) (by kernel_rfl) (by decide) (Xb rfl (Xb rfl (Xb rfl (dn (rg (Xb rfl (Xb rfl (Xb rfl (fa' fa184_1 rfl ?_)))))))))
   have A61 := B3.st (tr3 p5 p20 p40) rfl
   refine ld' A61 u3 rfl (Xb rfl (Xb rfl (fa' fa184_1 rfl (sv A61 z3 rfl rfl rfl rfl rfl rfl rfl rfl (fun s62 p62 B62 => ?_)))))
   exact dn (Kj38 _ _ _ ⟨s62, _, rfl, (ue rfl rfl), (K52.st p62 rfl), B62⟩)
  exact sk (Kj38 _ _ _ ⟨s20, _, rfl, (ue rfl rfl), (kp0.st (tr3 p3 p5 p20) rfl), (B3.st (Xq p5 p20) rfl)⟩)
 rintro y38 _ _ ⟨s67, _, rfl, rfl, Ky38, By38_p0⟩
 exact sr (Xb rfl (Xb rfl (dn (re rfl func163 rfl (Xs rfl Xg) rfl ⟨_, rfl, rfl, By38_p0.w, z.ky Ky38⟩))))
def spec_l1Below.f (a0 : l1Cur) (a1 : Int) : Option (Int × l1Cur) :=
 (if (decide (a1 ≤ (0 : Int))) = true then (some ((0 : Int), a0)) else (if (decide (a1 ≤ (256 : Int))) = true then ((spec_l1Byte.f a0).bind fun r5 => (if a1 ≠ 0 then (some ((r5.1.tmod a1), (l1Cur.mk a0.b r5.2.i r5.2.h))) else none)) else ((spec_l1Byte.f a0).bind fun r9 => ((spec_l1Byte.f (l1Cur.mk a0.b r9.2.i r9.2.h)).bind fun r14 => ((spec_l1Byte.f (l1Cur.mk a0.b r14.2.i r14.2.h)).bind fun r19 => ((spec_l1Byte.f (l1Cur.mk a0.b r19.2.i r19.2.h)).bind fun r24 => (if a1 ≠ 0 then (some (((IntKind.wrap .i64 ((IntKind.wrap .i64 ((IntKind.wrap .i64 ((IntKind.wrap .i64 (r9.1 * (16777216 : Int))) + (IntKind.wrap .i64 (r14.1 * (65536 : Int))))) + (IntKind.wrap .i64 (r19.1 * (256 : Int))))) + r24.1)).tmod a1), (l1Cur.mk a0.b r24.2.i r24.2.h))) else none)))))))
def spec_l1Below.Q (w : World) (F : Nat → Prop) (p0 : Nat) (w0_0 : Value) (r : Int × l1Cur) (v : Value) (w' : World) : Prop :=
 v = (iI r.1) ∧ BlW w' p0 184 [w0_0, (iI r.2.i), (iI r.2.h)] ∧ Ky [p0] w w'
theorem spec_l1Below.calls (a0 : l1Cur) (a1 : Int) (w : World) (F : Nat → Prop) (p0 : Nat) (w0_0 : Value) (h0_0 : Xx.rd w [w0_0] a0.b F) (hb0 : BlW w p0 184 [w0_0, (iI a0.i), (iI a0.h)]) (hF : ∀ b, F b → b ∉ [p0]) (r : Int × l1Cur) (m : spec_l1Below.f a0 a1 = some r) :
  Calls prog 74 #[(pB p0), (iI a1)] w (RT (spec_l1Below.Q w F p0 w0_0) r) := by
 obtain ⟨s0, rfl, kp0, z⟩ := start1 w F [p0] hF
 have A0_0 := z.rd h0_0
 have B0 := z.bl hb0 (by simp)
 refine Xc (args := [(pB p0), (iI a1)]) func74 ntmps74 rfl rfl m ?_
 unfold spec_l1Below.f
 refine sr (Xb rfl (dn (sq (sr (Xb rfl (Xb rfl (dn (cd rfl (fun h3 => ?_) (fun h3 => ?_)))))))))
 ·
  exact sr (Xb rfl (dn (re rfl func74 rfl (Xs rfl Xg) rfl ⟨_, rfl, rfl, B0.w, z.ky kp0⟩)))
 refine sk (sq (sr (Xb rfl (Xb rfl (dn (cd rfl (fun h4 => ?_) (fun h4 => ?_)))))))
 ·
  refine sr (Xb rfl (clB B0 rfl func163 rfl (spec_l1Byte.calls a0 s0.w (mm [0] s0) p0 w0_0 A0_0 B0.w (B0.apart rfl)) (fun r5 s6 p6 B6 => ?_)))
  refine Xb rfl (rem_ rfl rfl rfl rfl rfl rfl rfl (Xb rfl (dn ?_)))
  exact re rfl func74 rfl (Xs rfl Xg) rfl ⟨_, rfl, rfl, B6.w, z.ky (kp0.st p6 rfl)⟩
 refine sk (sr (Xb rfl (clB B0 rfl func163 rfl (spec_l1Byte.calls a0 s0.w (mm [0] s0) p0 w0_0 A0_0 B0.w (B0.apart rfl)) (fun r9 s10 p10 B10 => ?_))))
 refine Xb rfl (dn (sr (Xb rfl ?_)))
 have K12 := kp0.st p10 rfl
 refine clB B10 rfl func163 rfl (spec_l1Byte.calls (l1Cur.mk a0.b r9.2.i r9.2.h) s10.w (mm [0] s10) p0 w0_0 (A0_0.kp K12) B10.w (B10.apart rfl)) (fun r14 s15 p15 B15 => ?_)
 refine Xb rfl (dn (sr (Xb rfl ?_)))
 have K17 := K12.st p15 rfl
 refine clB B15 rfl func163 rfl (spec_l1Byte.calls (l1Cur.mk a0.b r14.2.i r14.2.h) s15.w (mm [0] s15) p0 w0_0 (A0_0.kp K17) B15.w (B15.apart rfl)) (fun r19 s20 p20 B20 => ?_)
 refine Xb rfl (dn (sr (Xb rfl ?_)))
 have K22 := K17.st p20 rfl
 refine clB B20 rfl func163 rfl (spec_l1Byte.calls (l1Cur.mk a0.b r19.2.i r19.2.h) s20.w (mm [0] s20) p0 w0_0 (A0_0.kp K22) B20.w (B20.apart rfl)) (fun r24 s25 p25 B25 => ?_)
 refine Xb rfl (dn (sr (Xb rfl (Xb rfl (Xb rfl (Xb rfl (Xb rfl (Xb rfl (Xb rfl (Xb rfl (Xb rfl (Xb rfl (Xb rfl (rem_ rfl rfl rfl rfl rfl rfl rfl ?_))))))))))))))
 refine Xb rfl (dn ?_)
 exact re rfl func74 rfl (Xs rfl Xg) rfl ⟨_, rfl, rfl, B25.w, z.ky (K22.st p25 rfl)⟩
def spec_FloatBits.b1 (y8 : Int × Nat) (x19 : Nat × Int) : Option ((Nat × Int) ⊕ Int) :=
 (if ((fcmp .f64 x19.1 (4607182418800017408 : Nat) == some .lt) && (decide (x19.2 > (-1022 : Int)))) = true then (some (Sum.inl ((far .mul x19.1 (4611686018427387904 : Nat)), (IntKind.wrap .i64 (x19.2 - (1 : Int)))))) else ((if (fcmp .f64 x19.1 (4607182418800017408 : Nat) == some .lt) = true then ((floatToIntVal .f64 (far .mul x19.1 (4841369599423283200 : Nat)) .u64).bind fun r27 => (some (ior .u64 y8.1 r27))) else ((floatToIntVal .f64 (far .mul (far .sub x19.1 (4607182418800017408 : Nat)) (4841369599423283200 : Nat)) .u64).bind fun r31 => (some (ior .u64 (ior .u64 y8.1 (ishl .u64 (IntKind.wrap .u64 (IntKind.wrap .i64 (x19.2 + (1023 : Int)))) (52 : Int))) r31)))).bind fun o => some (Sum.inr o)))
def spec_FloatBits.b0 (y8 : Int × Nat) (x14 : Nat × Int) : Option ((Nat × Int) ⊕ Int) :=
 (if (fcmp .f64 x14.1 (4611686018427387904 : Nat) == some .gt || fcmp .f64 x14.1 (4611686018427387904 : Nat) == some .eq) = true then (some (Sum.inl ((far .quo x14.1 (4611686018427387904 : Nat)), (IntKind.wrap .i64 (x14.2 + (1 : Int)))))) else ((iter (spec_FloatBits.b1 y8) (x14.1, x14.2)).bind fun o => some (Sum.inr o)))
def spec_FloatBits.f (a0 : Nat) : Option (Int) :=
 (if (fcmp .f64 a0 a0 != some .eq) = true then (some (9221120237041090560 : Int)) else ((if (fcmp .f64 a0 (0 : Nat) == some .lt) = true then (some true) else ((if (fcmp .f64 a0 (0 : Nat) == some .eq) = true then (some (fcmp .f64 (far .quo (4607182418800017408 : Nat) a0) (0 : Nat) == some .lt)) else (some false)).bind fun y3 => (some y3))).bind fun y2 => ((if y2 = true then (some ((9223372036854775808 : Int), (fneg a0))) else (some ((0 : Int), a0))).bind fun y8 => (if (fcmp .f64 y8.2 (0 : Nat) == some .eq) = true then (some y8.1) else (if (fcmp .f64 y8.2 (9218868437227405311 : Nat) == some .gt) = true then (some (ior .u64 y8.1 (9218868437227405312 : Int))) else (iter (spec_FloatBits.b0 y8) (y8.2, (0 : Int))))))))
def spec_FloatBits.Q (w : World) (F : Nat → Prop) (r : Int) (v : Value) (w' : World) : Prop :=
 v = (.int .u64 r) ∧ Ky [] w w'
theorem spec_FloatBits.calls (a0 : Nat) (w : World) (F : Nat → Prop) (w0_0 : Value) (h0_0 : Kd.flt.rd w [w0_0] a0 F) (r : Int) (m : spec_FloatBits.f a0 = some r) :
  Calls prog 95 #[w0_0] w (RT (spec_FloatBits.Q w F) r) := by
 obtain ⟨s0, rfl, kp0, z⟩ := Xi w F
 have A0_0 := Xu h0_0
 refine Xc (args := [w0_0]) func95 ntmps95 rfl rfl m ?_
 unfold spec_FloatBits.f
 refine sr (Xb rfl (dn (sq (sr (Xp w0_0 rfl (Xp w0_0 rfl (fq_ A0_0 A0_0 rfl rfl rfl rfl rfl rfl rfl rfl (dn (cd rfl (fun h1 => ?_) (fun h1 => ?_))))))))))
 ·
  exact sr (Xb rfl (dn (re rfl func95 rfl (Xs rfl Xg) rfl ⟨_, rfl, rfl, z.ky kp0⟩)))
 refine sk (sr (Xb rfl (dn (sr (Xp w0_0 rfl (asg' w0_0 rfl (dn (sq (sr (Xp w0_0 rfl (fq_ A0_0 (fl_c rfl) rfl rfl rfl rfl rfl rfl rfl rfl (Xb rfl (ji [] (fun (y2 : Bool) e w => ∃ (s : St) (e0 : Env), w = s.w ∧ e = upd (upd (upd (upd e0 0 w0_0) 3 (.int .u64 (0 : Int))) 4 w0_0) 20 (.bool y2) ∧ Kp s0 s) (fun Gj2 Kj2 => ?_) ?_)))))))))))))
 ·
  rcases bft (fcmp .f64 a0 (0 : Nat) == some .lt) with hb2 | hb2
  ·
   refine Xv hb2 ?_
   rw [if_pos hb2]
   exact Xj rfl (Xj rfl (Xj rfl (Xj rfl (Xj rfl (Xj rfl (Xj rfl (Xb rfl (Kj2 _ _ _ ⟨s0, _, rfl, (ue (ue (ue (ue rfl rfl) rfl) rfl) rfl), kp0⟩))))))))
  refine Xv hb2 ?_
  rw [if_neg (by rw [hb2]; decide)]
  refine Xp w0_0 rfl (fq_ A0_0 (fl_c rfl) rfl rfl rfl rfl rfl rfl rfl rfl (Xb rfl (ji [10] (fun (y3 : Bool) e w => ∃ (s : St) (e0 : Env), w = s.w ∧ e = upd (upd (upd (upd (upd e0 0 w0_0) 3 (.int .u64 (0 : Int))) 4 w0_0) 12 (.bool false)) 19 (.bool y3) ∧ Kp s0 s) (fun Gj3 Kj3 => ?_) ?_)))
  ·
   rcases bft (fcmp .f64 a0 (0 : Nat) == some .eq) with hb3 | hb3
   ·
    refine Xv hb3 ?_
    rw [if_pos hb3]
    refine Xp w0_0 rfl (fa_ (fl_c rfl) A0_0 (by simp) rfl rfl rfl rfl rfl rfl rfl (fun v4 s4 p4 A4 => ?_))
    refine fq_ A4 (fl_c rfl) rfl rfl rfl rfl rfl rfl rfl rfl (Xb rfl ?_)
    exact Kj3 _ _ _ ⟨s4, _, rfl, (ue (ue (ue (ue (ue rfl rfl) rfl) rfl) rfl) rfl), (kp0.st p4 rfl)⟩
   refine Xv hb3 ?_
   rw [if_neg (by rw [hb3]; decide)]
   exact Xj rfl (Xj rfl (Xj rfl (Xb rfl (Kj3 _ _ _ ⟨s0, _, rfl, (ue (ue (ue (ue (ue rfl rfl) rfl) rfl) rfl) rfl), kp0⟩))))
  rintro y3 _ _ ⟨s6, _, rfl, rfl, Ky3⟩
  exact Xb rfl (Kj2 _ _ _ ⟨s6, _, rfl, (ue (ue (ue (ue rfl rfl) rfl) rfl) rfl), Ky3⟩)
 rintro y2 _ _ ⟨s7, _, rfl, rfl, Ky2⟩
 refine dn (jc (fun (y8 : Int × Nat) e w => ∃ (s : St) (e0 : Env) (uy8_0 : Value), w = s.w ∧ e = upd (upd e0 3 (.int .u64 y8.1)) 4 uy8_0 ∧ Kp s0 s ∧ FL uy8_0 y8.2) (fun Gj8 Kj8 => ?_) ?_)
 ·
  refine cd rfl (fun h9 => ?_) (fun h9 => ?_)
  ·
   refine sr (Xb rfl (dn (rg (Xp w0_0 rfl (fng_ A0_0 rfl rfl rfl rfl rfl rfl (fun v10 A10 => ?_))))))
   exact asg' v10 rfl (dn (Kj8 _ _ _ ⟨s7, _, v10, rfl, (ue (ue rfl rfl) rfl), Ky2, A10⟩))
  exact sk (Kj8 _ _ _ ⟨s7, _, w0_0, rfl, (ue (ue rfl rfl) rfl), Ky2, A0_0⟩)
 rintro y8 _ _ ⟨s11, _, uy8_0, rfl, rfl, Ky8, Fy8_0⟩
 refine sq (sr (Xp uy8_0 rfl (fq_ Fy8_0 (fl_c rfl) rfl rfl rfl rfl rfl rfl rfl rfl (dn (cd rfl (fun h12 => ?_) (fun h12 => ?_))))))
 ·
  exact sr (Xb rfl (Xb rfl (dn (re rfl func95 rfl (Xs rfl Xg) rfl ⟨_, rfl, rfl, z.ky Ky8⟩))))
 refine sk (sq (sr (Xp uy8_0 rfl (fq_ Fy8_0 (fl_c rfl) rfl rfl rfl rfl rfl rfl rfl rfl (dn (cd rfl (fun h13 => ?_) (fun h13 => ?_)))))))
 ·
  exact sr (Xb rfl (Xb rfl (Xb rfl (dn (re rfl func95 rfl (Xs rfl Xg) rfl ⟨_, rfl, rfl, z.ky Ky8⟩)))))
 refine sk (sr (Xb rfl (dn (sq (bl (lpI (fun (x14 : Nat × Int) e w => ∃ (s : St) (e0 : Env) (ux14_0 : Value), w = s.w ∧ e = upd (upd (upd e0 3 (.int .u64 y8.1)) 4 ux14_0) 5 (iI x14.2) ∧ Kp s0 s ∧ FL ux14_0 x14.1) ⟨s11, _, uy8_0, rfl, (ue (ue (ue rfl rfl) rfl) rfl), Ky8, Fy8_0⟩ (fun g14 ih14 => ?_)))))))
 rintro x14 _ _ ⟨s15, _, ux14_0, rfl, rfl, Kx14, Fx14_0⟩
 unfold spec_FloatBits.b0
 refine sq (sr (Xp ux14_0 rfl (fq_ Fx14_0 (fl_c rfl) rfl rfl rfl rfl rfl rfl rfl rfl (dn (cd rfl (fun h16 => ?_) (fun h16 => ?_))))))
 ·
  refine sk (bl (sr (Xp ux14_0 rfl (fa_ Fx14_0 (fl_c rfl) (by simp) rfl rfl rfl rfl rfl rfl rfl (fun v17 s17 p17 A17 => ?_)))))
  refine asg' v17 rfl (dn (rg (Xb rfl (Xb rfl (Xb rfl (dn (ib ?_)))))))
  exact lb ih14 ⟨s17, _, v17, rfl, (ue (ue (ue rfl rfl) rfl) rfl), (Kx14.st p17 rfl), A17⟩
 refine xt rfl (sgb (sq (bl (lpI (fun (x19 : Nat × Int) e w => ∃ (s : St) (e0 : Env) (ux19_0 : Value), w = s.w ∧ e = upd (upd (upd e0 3 (.int .u64 y8.1)) 4 ux19_0) 5 (iI x19.2) ∧ Kp s0 s ∧ FL ux19_0 x19.1) ⟨s15, _, ux14_0, rfl, (ue (ue (ue rfl rfl) rfl) rfl), Kx14, Fx14_0⟩ (fun g19 ih19 => ?_)))))
 rintro x19 _ _ ⟨s20, _, ux19_0, rfl, rfl, Kx19, Fx19_0⟩
 unfold spec_FloatBits.b1
 refine sq (sr (Xp ux19_0 rfl (fq_ Fx19_0 (fl_c rfl) rfl rfl rfl rfl rfl rfl rfl rfl (Xb rfl (jy [38, 39, 40, 41] [] 41 (.bool ((fcmp .f64 x19.1 (4607182418800017408 : Nat) == some .lt) && (decide (x19.2 > (-1022 : Int))))) rfl (fun Kg21 => ?_) (fun j21 => ?_))))))
 ·
  rcases bft (fcmp .f64 x19.1 (4607182418800017408 : Nat) == some .lt) with hb21 | hb21
  ·
   exact Xv hb21 (Xb rfl (Xb rfl (Xb rfl (Kg21 _ (Ag.put ((Ag.put ((Ag.put (Ag.base rfl) rfl)) rfl)) rfl) (by rw [hb21]; rfl)))))
  exact Xv hb21 (Xj rfl (Xj rfl (Xb rfl (Kg21 _ (Ag.put ((Ag.put ((Ag.put (Ag.base rfl) rfl)) rfl)) rfl) (by rw [hb21]; rfl)))))
 refine dn (cd rfl (fun h22 => ?_) (fun h22 => ?_))
 ·
  refine sk (bl (sr (Xp ux19_0 rfl (fa_ Fx19_0 (fl_c rfl) (by simp) rfl rfl rfl rfl rfl rfl rfl (fun v23 s23 p23 A23 => ?_)))))
  refine asg' v23 rfl (dn (rg (Xb rfl (Xb rfl (Xb rfl (dn (ib ?_)))))))
  exact lb ih19 ⟨s23, _, v23, rfl, (ue (ue (ue rfl rfl) rfl) rfl), (Kx19.st p23 rfl), A23⟩
 refine xt rfl (sgb (sq (sr (Xp ux19_0 rfl (fq_ Fx19_0 (fl_c rfl) rfl rfl rfl rfl rfl rfl rfl rfl (dn (cd rfl (fun h25 => ?_) (fun h25 => ?_))))))))
 ·
  refine sr (Xb rfl (Xp ux19_0 rfl (fa_ Fx19_0 (fl_c rfl) (by simp) rfl rfl rfl rfl rfl rfl rfl (fun v26 s26 p26 A26 => ?_))))
  refine f2i A26 u129 u27 rfl rfl rfl rfl rfl rfl (fun r27 m27 => ?_)
  refine Xb rfl (Xb rfl (dn ?_))
  exact re rfl func95 rfl (Xs rfl Xg) rfl ⟨_, rfl, rfl, z.ky (Kx19.st p26 rfl)⟩
 refine sk (sr (Xb rfl (Xb rfl (Xb rfl (cv u129 u3 rfl rfl rfl rfl rfl rfl (shlK rfl rfl rfl rfl rfl rfl rfl rfl (Xb rfl (Xp ux19_0 rfl (fa_ Fx19_0 (fl_c rfl) (by simp) rfl rfl rfl rfl rfl rfl rfl (fun v29 s29 p29 A29 => ?_))))))))))
 refine fa_ A29 (fl_c rfl) (by simp) rfl rfl rfl rfl rfl rfl rfl (fun v30 s30 p30 A30 => ?_)
 refine f2i A30 u129 u27 rfl rfl rfl rfl rfl rfl (fun r31 m31 => ?_)
 refine Xb rfl (Xb rfl (dn ?_))
 exact re rfl func95 rfl (Xs rfl Xg) rfl ⟨_, rfl, rfl, z.ky (Kx19.st (Xq p29 p30) rfl)⟩
def spec_ItemOk.f (a0 : Item) : Option (Bool) :=
 (if (((decide (a0.Kind < (0 : Int))) || (decide (a0.Kind > (3 : Int)))) || (decide ((a0.T.length : Int) > (40 : Int)))) = true then (some false) else (if ((a0.Kind != (1 : Int)) && (a0.N != (0 : Int))) = true then (some false) else ((if (a0.Kind != (2 : Int)) = true then ((spec_FloatBits.f a0.F).bind fun r14 => (some (r14 != (0 : Int)))) else (some false)).bind fun y13 => (if y13 = true then (some false) else (some ((a0.Kind == (3 : Int)) || ((a0.T.length : Int) == (0 : Int))))))))
def spec_ItemOk.Q (w : World) (F : Nat → Prop) (r : Bool) (v : Value) (w' : World) : Prop :=
 v = (.bool r) ∧ Ky [] w w'
theorem spec_ItemOk.calls (a0 : Item) (w : World) (F : Nat → Prop) (w0_0 : Value) (w0_1 : Value) (h0_0 : Kd.flt.rd w [w0_0] a0.F F) (h0_1 : Xx.rd w [w0_1] a0.T F) (r : Bool) (m : spec_ItemOk.f a0 = some r) :
  Calls prog 105 #[(.agg #[(iI a0.Kind), (iI a0.N), w0_0, w0_1])] w (RT (spec_ItemOk.Q w F) r) := by
 obtain ⟨s0, rfl, kp0, z⟩ := Xi w F
 have A0_1 := z.rd h0_1
 refine Xc (args := [(.agg #[(iI a0.Kind), (iI a0.N), w0_0, w0_1])]) func105 ntmps105 rfl rfl m ?_
 unfold spec_ItemOk.f
 refine sr (bx' (cs := [(iI a0.Kind), (iI a0.N), w0_0, w0_1]) 40 rfl rfl (fun b2 s2 p2 B2 => ?_))
 refine Xb rfl (dn (sq (sr (fa' fa29_0 rfl (ld' B2 u3 rfl (Xb rfl (Xb rfl (jy [6, 7, 8, 9, 10] [8, 9, 10, 11, 12, 13] 10 (.bool ((decide (a0.Kind < (0 : Int))) || (decide (a0.Kind > (3 : Int))))) rfl (fun Kg4 => ?_) (fun j4 => ?_)))))))))
 ·
  rcases bft (decide (a0.Kind < (0 : Int))) with hb4 | hb4
  ·
   exact Xv hb4 (Xj rfl (Xj rfl (Xj rfl (Xb rfl (Kg4 _ (Ag.put ((Ag.put ((Ag.put ((Ag.put (Ag.base rfl) rfl)) rfl)) rfl)) rfl) (by rw [hb4]; rfl))))))
  exact Xv hb4 (fa' fa29_0 rfl (ld' B2 u3 rfl (Xb rfl (Xb rfl (Kg4 _ (Ag.put ((Ag.put ((Ag.put ((Ag.put (Ag.base rfl) rfl)) rfl)) rfl)) rfl) (by rw [hb4]; rfl))))))
 refine Xb rfl (jy [11, 12, 13, 14, 15, 16] [] 16 (.bool (((decide (a0.Kind < (0 : Int))) || (decide (a0.Kind > (3 : Int)))) || (decide ((a0.T.length : Int) > (40 : Int))))) rfl (fun Kg5 => ?_) (fun j5 => ?_))
 ·
  rcases bft ((decide (a0.Kind < (0 : Int))) || (decide (a0.Kind > (3 : Int)))) with hb5 | hb5
  ·
   exact Xv hb5 (Xj rfl (Xj rfl (Xj rfl (Xj rfl (Xb rfl (Kg5 _ (Ag.put ((Ag.put ((Ag.put ((Ag.put ((Ag.put (Ag.base rfl) rfl)) rfl)) rfl)) rfl)) rfl) (by rw [hb5]; rfl)))))))
  refine Xv hb5 (fa' fa29_3 rfl (ld' B2 u22 rfl ?_))
  exact ln' (A0_1.kp (kp0.st p2 rfl)) u22 rfl (Xb rfl (Xb rfl (Kg5 _ (Ag.put ((Ag.put ((Ag.put ((Ag.put ((Ag.put (Ag.base rfl) rfl)) rfl)) rfl)) rfl)) rfl) (by rw [hb5]; rfl))))
 refine dn (cd rfl (fun h8 => ?_) (fun h8 => ?_))
 ·
  refine sr (Xb rfl (dn ?_))
  exact re rfl func105 rfl (Xs rfl Xg) rfl ⟨_, rfl, rfl, z.ky (kp0.st p2 rfl)⟩
 refine sk (sq (sr (fa' fa29_0 rfl (ld' B2 u3 rfl (Xb rfl (Xb rfl (jy [20, 21, 22, 23, 24] [] 24 (.bool ((a0.Kind != (1 : Int)) && (a0.N != (0 : Int)))) rfl (fun Kg10 => ?_) (fun j10 => ?_))))))))
 ·
  rcases bft (a0.Kind != (1 : Int)) with hb10 | hb10
  ·
   exact Xv hb10 (fa' fa29_1 rfl (ld' B2 u3 rfl (Xb rfl (Xb rfl (Kg10 _ (Ag.put ((Ag.put ((Ag.put ((Ag.put (Ag.base rfl) rfl)) rfl)) rfl)) rfl) (by rw [hb10]; rfl))))))
  exact Xv hb10 (Xj rfl (Xj rfl (Xj rfl (Xb rfl (Kg10 _ (Ag.put ((Ag.put ((Ag.put ((Ag.put (Ag.base rfl) rfl)) rfl)) rfl)) rfl) (by rw [hb10]; rfl))))))
 refine dn (cd rfl (fun h11 => ?_) (fun h11 => ?_))
 ·
  refine sr (Xb rfl (dn ?_))
  exact re rfl func105 rfl (Xs rfl Xg) rfl ⟨_, rfl, rfl, z.ky (kp0.st p2 rfl)⟩
 refine sk (sq (sr (fa' fa29_0 rfl (ld' B2 u3 rfl (Xb rfl (Xb rfl (ji [] (fun (y13 : Bool) e w => ∃ (s : St) (e0 : Env), w = s.w ∧ e = upd (upd e0 1 (pB b2)) 33 (.bool y13) ∧ Kp s0 s ∧ BlF s b2 29 [(iI a0.Kind), (iI a0.N), w0_0, w0_1] 40) (fun Gj13 Kj13 => ?_) ?_)))))))
 ·
  rcases bft (a0.Kind != (2 : Int)) with hb13 | hb13
  ·
   refine Xv hb13 ?_
   rw [if_pos hb13]
   refine fa' fa29_2 rfl (ld' B2 u27 rfl (clV 41 rfl func95 rfl (spec_FloatBits.calls a0.F s2.w (mm [] s2) w0_0 (Xk (s := s2) (Xu h0_0))) (fun r14 s15 p15 n15 => ?_)))
   refine Xb rfl (Xb rfl ?_)
   exact Kj13 _ _ _ ⟨s15, _, rfl, (ue (ue rfl rfl) rfl), (kp0.st (Xq p2 p15) rfl), (B2.st p15 rfl)⟩
  refine Xv hb13 ?_
  rw [if_neg (by rw [hb13]; decide)]
  refine Xj rfl (Xj rfl (Xj rfl (Xj rfl (Xb rfl ?_))))
  exact Kj13 _ _ _ ⟨s2, _, rfl, (ue (ue rfl rfl) rfl), (kp0.st p2 rfl), B2⟩
 rintro y13 _ _ ⟨s19, _, rfl, rfl, Ky13, By13_b2⟩
 refine dn (cd rfl (fun h21 => ?_) (fun h21 => ?_))
 ·
  exact sr (Xb rfl (dn (re rfl func105 rfl (Xs rfl Xg) rfl ⟨_, rfl, rfl, z.ky Ky13⟩)))
 refine sk (sr (fa' fa29_0 rfl (ld' By13_b2 u3 rfl (Xb rfl (Xb rfl (jy [37, 38, 39, 40, 41, 42] [9] 42 (.bool ((a0.Kind == (3 : Int)) || ((a0.T.length : Int) == (0 : Int)))) rfl (fun Kg22 => ?_) (fun j22 => ?_)))))))
 ·
  rcases bft (a0.Kind == (3 : Int)) with hb22 | hb22
  ·
   exact Xv hb22 (Xj rfl (Xj rfl (Xj rfl (Xj rfl (Xb rfl (Kg22 _ (Ag.put ((Ag.put ((Ag.put ((Ag.put ((Ag.put (Ag.base rfl) rfl)) rfl)) rfl)) rfl)) rfl) (by rw [hb22]; rfl)))))))
  refine Xv hb22 (fa' fa29_3 rfl (ld' By13_b2 u22 rfl ?_))
  exact ln' (A0_1.kp Ky13) u22 rfl (Xb rfl (Xb rfl (Kg22 _ (Ag.put ((Ag.put ((Ag.put ((Ag.put ((Ag.put (Ag.base rfl) rfl)) rfl)) rfl)) rfl)) rfl) (by rw [hb22]; rfl))))
 exact Xb rfl (dn (re rfl func105 rfl (Xs rfl Xg) rfl ⟨_, rfl, rfl, z.ky Ky13⟩))
def spec_l3copy.f (a0 : Item) : Option (Item) :=
 (if ([] : (List Int)).length + a0.T.length ≤ Lim then (some (Item.mk a0.Kind a0.N a0.F (([] : (List Int)) ++ a0.T))) else none)
def spec_l3copy.Q (w : World) (F : Nat → Prop) (r : Item) (v : Value) (w' : World) : Prop :=
 ∃ (v0 : Value) (v1 : Value), v = (.agg #[(iI r.Kind), (iI r.N), v0, v1]) ∧ FO kd29 w w' [(iI r.Kind), (iI r.N), v0, v1] r ∧ Ky [] w w'
theorem spec_l3copy.calls (a0 : Item) (w : World) (F : Nat → Prop) (w0_0 : Value) (w0_1 : Value) (h0_0 : Kd.flt.rd w [w0_0] a0.F F) (h0_1 : Xx.rd w [w0_1] a0.T F) (r : Item) (m : spec_l3copy.f a0 = some r) :
  Calls prog 247 #[(.agg #[(iI a0.Kind), (iI a0.N), w0_0, w0_1])] w (RT (spec_l3copy.Q w F) r) := by
 obtain ⟨s0, rfl, kp0, z⟩ := Xi w F
 have A0_0 := Xu h0_0
 refine Xc (args := [(.agg #[(iI a0.Kind), (iI a0.N), w0_0, w0_1])]) func247 ntmps247 rfl rfl m ?_
 unfold spec_l3copy.f
 refine sr (bx' (cs := [(iI a0.Kind), (iI a0.N), w0_0, w0_1]) 40 rfl rfl (fun b2 s2 p2 B2 => ?_))
 refine al (cs := [(iI 0), (iI 0), (.float .f64 0), (.slice none 0 0)]) 41 rfl rfl rfl rfl rfl o29 rfl (fun b4 s4 p4 B4 => ?_)
 refine dn (sr (lt0 (K := (Kd.int .u8)) 42 u22 z5 rfl rfl rfl rfl rfl (fun v6 s6 p6 A6 => ?_)))
 refine fa' fa29_3 rfl ?_
 have A8 := B2.st (Xq p4 p6) rfl
 refine ld' A8 u22 rfl ?_
 have K9 := kp0.st (tr3 p2 p4 p6) rfl
 refine apF Xw sl22 A6 ((z.rd h0_1).kp K9) rfl rfl rfl rfl rfl rfl rfl (fun v11 s11 p11 A11 => ?_)
 refine fa' fa29_3 rfl (sv (A8.st p11 rfl) z22 rfl rfl rfl rfl rfl rfl A11.rd.one rfl (fun s14 p14 B14 => ?_))
 refine dn (sr (lda' (es := [(iI a0.Kind), (iI a0.N), w0_0, v11]) B14 u29 z29 rfl ?_))
 have A17 := A11.st p14 rfl
 refine sva' (vs := [(iI a0.Kind), (iI a0.N), w0_0, v11]) (B4.st (tr3 p6 p11 p14) rfl) z29 rfl (Xe rfl (Xe rfl (Xe (FL.one A0_0) (Xe A17.rd.one on_nil)))) rfl (fun s18 p18 B18 => ?_)
 refine dn ?_
 have A20 : OwF kd29 s18 [(iI a0.Kind), (iI a0.N), w0_0, v11] (Item.mk a0.Kind a0.N a0.F (([] : (List Int)) ++ a0.T)) 42 := (ow_isoz (fun x : Item => (x.Kind, x.N, x.F, x.T)) (Item.mk a0.Kind a0.N a0.F (([] : (List Int)) ++ a0.T)) (ow_l (Xo .i64 a0.Kind) (ow_l (Xo .i64 a0.N) (ow_l (fz_flt A0_0) (A17.st p18 rfl)))))
 have K23 := K9.st (tr3 p11 p14 p18) rfl
 exact re rfl func247 rfl (r_b B18 u29 rfl z29 rfl Xg) rfl ⟨_, rfl, w0_0, v11, rfl, A20.fo K23 rfl z.l, z.ky K23⟩
def spec_ItemClean.f (a0 : Item) : Option (Item) :=
 ((spec_ItemOk.f a0).bind fun r9 => (if (!r9) = true then (some (Item.mk (0 : Int) (0 : Int) (0 : Nat) ([] : (List Int)))) else ((spec_l3copy.f a0).bind fun r21 => ((if (fcmp .f64 a0.F (0 : Nat) == some .eq) = true then (some (0 : Nat)) else (some r21.F)).bind fun y30 => (some (Item.mk r21.Kind r21.N y30 r21.T))))))
def spec_ItemClean.Q (w : World) (F : Nat → Prop) (r : Item) (v : Value) (w' : World) : Prop :=
 ∃ (v0 : Value) (v1 : Value), v = (.agg #[(iI r.Kind), (iI r.N), v0, v1]) ∧ FO kd29 w w' [(iI r.Kind), (iI r.N), v0, v1] r ∧ Ky [] w w'
theorem spec_ItemClean.calls (a0 : Item) (w : World) (F : Nat → Prop) (w0_0 : Value) (w0_1 : Value) (h0_0 : Kd.flt.rd w [w0_0] a0.F F) (h0_1 : Xx.rd w [w0_1] a0.T F) (r : Item) (m : spec_ItemClean.f a0 = some r) :
  Calls prog 189 #[(.agg #[(iI a0.Kind), (iI a0.N), w0_0, w0_1])] w (RT (spec_ItemClean.Q w F) r) := by
 obtain ⟨s0, rfl, kp0, z⟩ := Xi w F
 have A0_0 := Xu h0_0
 have A0_1 := z.rd h0_1
 refine Xc (args := [(.agg #[(iI a0.Kind), (iI a0.N), w0_0, w0_1])]) func189 ntmps189 rfl rfl m ?_
 unfold spec_ItemClean.f
 refine sr (bx' (cs := [(iI a0.Kind), (iI a0.N), w0_0, w0_1]) 40 rfl rfl (fun b2 s2 p2 B2 => ?_))
 refine al (cs := [(iI 0), (iI 0), (.float .f64 0), (.slice none 0 0)]) 41 rfl rfl rfl rfl rfl o29 rfl (fun b4 s4 p4 B4 => ?_)
 refine dn (sq (sr ?_))
 have A6 := B2.st p4 rfl
 refine lda' (es := [(iI a0.Kind), (iI a0.N), w0_0, w0_1]) A6 u29 z29 rfl ?_
 have K7 := kp0.st (Xq p2 p4) rfl
 refine clV 42 rfl func105 rfl (spec_ItemOk.calls a0 s4.w (mm [0] s4) w0_0 w0_1 ((Xk (s := s4) A0_0).sub (D := [0]) rfl) (A0_1.kp K7)) (fun r9 s10 p10 n10 => ?_)
 refine Xb rfl (dn (cd rfl (fun h11 => ?_) (fun h11 => ?_)))
 ·
  refine sr (bd (cells := [(iI 0), (iI 0), (.float .f64 0), (.slice none 0 0)]) pl29 o29 rfl rfl rfl rfl rfl rfl ?_)
  refine sva' (vs := [(iI 0), (iI 0), (.float .f64 0), (.slice none 0 0)]) (B4.st p10 rfl) z29 rfl (Xe rfl (Xe rfl (Xe (FL.one (fl_c rfl)) (Xe rfl on_nil)))) rfl (fun s13 p13 B13 => ?_)
  refine dn ?_
  have A15 : OwF kd29 s13 [(iI 0), (iI 0), (.float .f64 0), (.slice none 0 0)] (Item.mk (0 : Int) (0 : Int) (0 : Nat) ([] : (List Int))) 43 := ow_z _ _ (fz_iso (fun x : Item => (x.Kind, x.N, x.F, x.T)) (Item.mk (0 : Int) (0 : Int) (0 : Nat) ([] : (List Int))) (fz_pair (Xo .i64 (0 : Int)) (fz_pair (Xo .i64 (0 : Int)) (fz_pair (fz_flt (fl_c rfl)) (fz_nil 5 (Kd.int .u8))))))
  have K17 := K7.st (Xq p10 p13) rfl
  exact re rfl func189 rfl (r_b B13 u29 rfl z29 rfl Xg) rfl ⟨_, rfl, (.float .f64 0), (.slice none 0 0), rfl, A15.fo K17 rfl z.l, z.ky K17⟩
 refine sk (sr ?_)
 have A18 := A6.st p10 rfl
 refine lda' (es := [(iI a0.Kind), (iI a0.N), w0_0, w0_1]) A18 u29 z29 rfl ?_
 have K19 := K7.st p10 rfl
 refine cl' rfl func247 rfl (spec_l3copy.calls a0 s10.w (mm [0] s10) w0_0 w0_1 ((Xk (s := s10) A0_0).sub (D := [0]) rfl) (A0_1.kp K19)) ?_
 rintro r21 _ w21 m21 ⟨v21_0, v21_1, rfl, f21_0, ky21⟩
 obtain ⟨s22, rfl, p22, n22⟩ := nwx s10 w21 44 ky21
 obtain ⟨hu21_0_0, Au21_0_1⟩ := ap29 (f21_0.c n22)
 refine al (cs := [(iI 0), (iI 0), (.float .f64 0), (.slice none 0 0)]) 45 rfl rfl rfl rfl rfl o29 rfl (fun b24 s24 p24 B24 => ?_)
 have A26 := Au21_0_1.st p24 rfl
 refine sva' (vs := [(iI r21.Kind), (iI r21.N), v21_0, v21_1]) B24 z29 rfl (Xe rfl (Xe rfl (Xe (FL.one hu21_0_0) (Xe A26.rd.one on_nil)))) rfl (fun s27 p27 B27 => ?_)
 refine dn (sq (sr (fa' fa29_2 rfl ?_)))
 refine ld' (A18.st (tr3 p22 p24 p27) rfl) u27 rfl (fq_ A0_0 (fl_c rfl) rfl rfl rfl rfl rfl rfl rfl rfl (dn (jc (fun (y30 : Nat) e w => ∃ (s : St) (e0 : Env) (uy30_0 : Value), w = s.w ∧ e = upd (upd e0 2 (pB b4)) 3 (pB b24) ∧ Kp s0 s ∧ FL uy30_0 y30 ∧ BlF s b24 29 [(iI r21.Kind), (iI r21.N), uy30_0, v21_1] 45 ∧ BlF s b4 29 [(iI 0), (iI 0), (.float .f64 0), (.slice none 0 0)] 41 ∧ OwF Xx s [v21_1] r21.T 44) (fun Gj30 Kj30 => ?_) ?_)))
 ·
  refine cd rfl (fun h31 => ?_) (fun h31 => ?_)
  ·
   refine rg (fa' fa29_2 rfl (sv B27 z27 rfl rfl rfl rfl rfl rfl (FL.one (fl_c rfl)) rfl (fun s32 p32 B32 => ?_)))
   exact dn (Kj30 _ _ _ ⟨s32, _, (.float .f64 0), rfl, (ue (ue rfl rfl) rfl), (K19.st (tr4 p22 p24 p27 p32) rfl), (fl_c rfl), B32, (B4.st (tr5 p10 p22 p24 p27 p32) rfl), (A26.st (Xq p27 p32) rfl)⟩)
  exact sk (Kj30 _ _ _ ⟨s27, _, v21_0, rfl, (ue (ue rfl rfl) rfl), (K19.st (tr3 p22 p24 p27) rfl), hu21_0_0, B27, (B4.st (tr4 p10 p22 p24 p27) rfl), (A26.st p27 rfl)⟩)
 rintro y30 _ _ ⟨s40, _, uy30_0, rfl, rfl, Ky30, Fy30_0, By30_b24, By30_b4, Cy30_23⟩
 refine sr (lda' (es := [(iI r21.Kind), (iI r21.N), uy30_0, v21_1]) By30_b24 u29 z29 rfl (sva' (vs := [(iI r21.Kind), (iI r21.N), uy30_0, v21_1]) By30_b4 z29 rfl (Xe rfl (Xe rfl (Xe (FL.one Fy30_0) (Xe Cy30_23.rd.one on_nil)))) rfl (fun s43 p43 B43 => ?_)))
 refine dn ?_
 have A45 : OwF kd29 s43 [(iI r21.Kind), (iI r21.N), uy30_0, v21_1] (Item.mk r21.Kind r21.N y30 r21.T) 44 := (ow_isoz (fun x : Item => (x.Kind, x.N, x.F, x.T)) (Item.mk r21.Kind r21.N y30 r21.T) (ow_l (Xo .i64 r21.Kind) (ow_l (Xo .i64 r21.N) (ow_l (fz_flt Fy30_0) (Cy30_23.st p43 rfl)))))
 have K48 := Ky30.st p43 rfl
 exact re rfl func189 rfl (r_b B43 u29 rfl z29 rfl Xg) rfl ⟨_, rfl, uy30_0, v21_1, rfl, A45.fo K48 rfl z.l, z.ky K48⟩
def spec_l1Once.f (a0 : l1Cur) (a1 : Int) : Option (Bool × l1Cur) :=
 ((spec_l1Below.f a0 a1).bind fun r3 => (some ((r3.1 == (0 : Int)), (l1Cur.mk a0.b r3.2.i r3.2.h))))
def spec_l1Once.Q (w : World) (F : Nat → Prop) (p0 : Nat) (w0_0 : Value) (r : Bool × l1Cur) (v : Value) (w' : World) : Prop :=
 v = (.bool r.1) ∧ BlW w' p0 184 [w0_0, (iI r.2.i), (iI r.2.h)] ∧ Ky [p0] w w'
theorem spec_l1Once.calls (a0 : l1Cur) (a1 : Int) (w : World) (F : Nat → Prop) (p0 : Nat) (w0_0 : Value) (h0_0 : Xx.rd w [w0_0] a0.b F) (hb0 : BlW w p0 184 [w0_0, (iI a0.i), (iI a0.h)]) (hF : ∀ b, F b → b ∉ [p0]) (r : Bool × l1Cur) (m : spec_l1Once.f a0 a1 = some r) :
  Calls prog 72 #[(pB p0), (iI a1)] w (RT (spec_l1Once.Q w F p0 w0_0) r) := by
 obtain ⟨s0, rfl, kp0, z⟩ := start1 w F [p0] hF
 have B0 := z.bl hb0 (by simp)
 refine Xc (args := [(pB p0), (iI a1)]) func72 ntmps72 rfl rfl m ?_
 unfold spec_l1Once.f
 refine sr (Xb rfl (dn (sr (Xb rfl (Xb rfl (clB B0 rfl func74 rfl (spec_l1Below.calls a0 a1 s0.w (mm [0] s0) p0 w0_0 (z.rd h0_0) B0.w (B0.apart rfl)) (fun r3 s4 p4 B4 => ?_)))))))
 refine Xb rfl (Xb rfl (dn ?_))
 exact re rfl func72 rfl (Xs rfl Xg) rfl ⟨_, rfl, rfl, B4.w, z.ky (kp0.st p4 rfl)⟩
def spec_l2bits.b0 (a0 : l1Cur) (x3 : Int × Int × Int × Int) : Option ((Int × Int × Int × Int) ⊕ (Int × l1Cur)) :=
 (if (decide (x3.2.1 < (8 : Int))) = true then ((spec_l1Byte.f (l1Cur.mk a0.b x3.2.2.1 x3.2.2.2)).bind fun r8 => (some (Sum.inl ((IntKind.wrap .u64 ((IntKind.wrap .u64 (x3.1 * (256 : Int))) + (IntKind.wrap .u64 r8.1))), (IntKind.wrap .i64 (x3.2.1 + (1 : Int))), r8.2.i, r8.2.h)))) else (((spec_l1Below.f (l1Cur.mk a0.b x3.2.2.1 x3.2.2.2) (9 : Int)).bind fun r13 => (if (r13.1 == (0 : Int)) = true then ((spec_l1Below.f (l1Cur.mk a0.b r13.2.i r13.2.h) (2 : Int)).bind fun r19 => ((spec_l1Below.f (l1Cur.mk a0.b r19.2.i r19.2.h) (3 : Int)).bind fun r24 => (some ((ior .u64 (ishl .u64 (IntKind.wrap .u64 r19.1) (63 : Int)) (IntKind.wrap .u64 r24.1)), (l1Cur.mk a0.b r24.2.i r24.2.h))))) else (if (r13.1 == (1 : Int)) = true then ((spec_l1Below.f (l1Cur.mk a0.b r13.2.i r13.2.h) (2 : Int)).bind fun r31 => ((spec_l1Below.f (l1Cur.mk a0.b r31.2.i r31.2.h) (3 : Int)).bind fun r36 => (some ((ior .u64 (ishl .u64 (IntKind.wrap .u64 r31.1) (63 : Int)) (IntKind.wrap .u64 ((9218868437227405311 : Int) + (IntKind.wrap .u64 r36.1)))), (l1Cur.mk a0.b r36.2.i r36.2.h))))) else (if (r13.1 == (2 : Int)) = true then ((spec_l1Below.f (l1Cur.mk a0.b r13.2.i r13.2.h) (2 : Int)).bind fun r43 => (some ((ior .u64 (ior .u64 (ishl .u64 (IntKind.wrap .u64 r43.1) (63 : Int)) (9218868437227405312 : Int)) (ishr .u64 x3.1 (12 : Int))), (l1Cur.mk a0.b r43.2.i r43.2.h)))) else (if (r13.1 == (3 : Int)) = true then ((spec_l1Below.f (l1Cur.mk a0.b r13.2.i r13.2.h) (2 : Int)).bind fun r50 => ((spec_l1Below.f (l1Cur.mk a0.b r50.2.i r50.2.h) (3 : Int)).bind fun r55 => (some ((ior .u64 (ishl .u64 (IntKind.wrap .u64 r50.1) (63 : Int)) (IntKind.wrap .u64 ((4503599627370495 : Int) + (IntKind.wrap .u64 r55.1)))), (l1Cur.mk a0.b r55.2.i r55.2.h))))) else (if (r13.1 == (4 : Int)) = true then ((spec_l1Below.f (l1Cur.mk a0.b r13.2.i r13.2.h) (12 : Int)).bind fun r62 => ((spec_l1Below.f (l1Cur.mk a0.b r62.2.i r62.2.h) (16 : Int)).bind fun r67 => (some ((ior .u64 (ishl .u64 (IntKind.wrap .u64 (IntKind.wrap .i64 ((1023 : Int) + r62.1))) (52 : Int)) (ishl .u64 (IntKind.wrap .u64 r67.1) (48 : Int))), (l1Cur.mk a0.b r67.2.i r67.2.h))))) else (if (r13.1 == (5 : Int)) = true then ((spec_l1Below.f (l1Cur.mk a0.b r13.2.i r13.2.h) (21 : Int)).bind fun r74 => ((spec_FloatBits.f (FloatKind.f64.nearest (IntKind.wrap .i64 (r74.1 - (10 : Int))))).bind fun r78 => (some (r78, (l1Cur.mk a0.b r74.2.i r74.2.h))))) else (some (x3.1, (l1Cur.mk a0.b r13.2.i r13.2.h)))))))))).bind fun o => some (Sum.inr o)))
def spec_l2bits.f (a0 : l1Cur) : Option (Int × l1Cur) :=
 (iter (spec_l2bits.b0 a0) ((0 : Int), (0 : Int), a0.i, a0.h))
def spec_l2bits.Q (w : World) (F : Nat → Prop) (p0 : Nat) (w0_0 : Value) (r : Int × l1Cur) (v : Value) (w' : World) : Prop :=
 v = (.int .u64 r.1) ∧ BlW w' p0 184 [w0_0, (iI r.2.i), (iI r.2.h)] ∧ Ky [p0] w w'
theorem spec_l2bits.calls (a0 : l1Cur) (w : World) (F : Nat → Prop) (p0 : Nat) (w0_0 : Value) (h0_0 : Xx.rd w [w0_0] a0.b F) (hb0 : BlW w p0 184 [w0_0, (iI a0.i), (iI a0.h)]) (hF : ∀ b, F b → b ∉ [p0]) (r : Int × l1Cur) (m : spec_l2bits.f a0 = some r) :
  Calls prog 232 #[(pB p0)] w (RT (spec_l2bits.Q w F p0 w0_0) r) := by
 obtain ⟨s0, rfl, kp0, z⟩ := start1 w F [p0] hF
 have A0_0 := z.rd h0_0
 refine Xc (args := [(pB p0)]) func232 ntmps232 rfl rfl m ?_
 unfold spec_l2bits.f
 refine sr (Xb rfl (dn (sr (Xb rfl (dn (sq (sr (Xb rfl (dn (bl (lpI (fun (x3 : Int × Int × Int × Int) e w => ∃ (s : St) (e0 : Env), w = s.w ∧ e = upd (upd (upd e0 0 (pB p0)) 3 (.int .u64 x3.1)) 4 (iI x3.2.1) ∧ Kp s0 s ∧ BlF s p0 184 [w0_0, (iI x3.2.2.1), (iI x3.2.2.2)] 2) ⟨s0, _, rfl, (ue (ue (ue rfl rfl) rfl) rfl), kp0, (z.bl hb0 (by simp))⟩ (fun g3 ih3 => ?_))))))))))))
 rintro x3 _ _ ⟨s4, _, rfl, rfl, Kx3, Bx3_p0⟩
 unfold spec_l2bits.b0
 refine sq (sr (Xb rfl (Xb rfl (dn (cd rfl (fun h6 => ?_) (fun h6 => ?_))))))
 ·
  refine sk (sq (bl (rg (Xb rfl (Xb rfl (Xb rfl ?_))))))
  refine clB Bx3_p0 rfl func163 rfl (spec_l1Byte.calls (l1Cur.mk a0.b x3.2.2.1 x3.2.2.2) s4.w (mm [0] s4) p0 w0_0 (A0_0.kp Kx3) Bx3_p0.w (Bx3_p0.apart rfl)) (fun r8 s9 p9 B9 => ?_)
  refine cv u129 u3 rfl rfl rfl rfl rfl rfl (Xb rfl (Xb rfl (dn (ib (rg (Xb rfl (Xb rfl (Xb rfl (dn ?_)))))))))
  exact lb ih3 ⟨s9, _, rfl, (ue (ue (ue rfl rfl) rfl) rfl), (Kx3.st p9 rfl), B9⟩
 refine xt rfl (sgb (sq (sr (Xb rfl ?_))))
 refine clB Bx3_p0 rfl func74 rfl (spec_l1Below.calls (l1Cur.mk a0.b x3.2.2.1 x3.2.2.2) (9 : Int) s4.w (mm [0] s4) p0 w0_0 (A0_0.kp Kx3) Bx3_p0.w (Bx3_p0.apart rfl)) (fun r13 s14 p14 B14 => ?_)
 refine dn (bl (sr (Xb rfl (Xb rfl (dn (cd rfl (fun h16 => ?_) (fun h16 => ?_)))))))
 ·
  refine sr (Xb rfl ?_)
  have K17 := Kx3.st p14 rfl
  refine clB B14 rfl func74 rfl (spec_l1Below.calls (l1Cur.mk a0.b r13.2.i r13.2.h) (2 : Int) s14.w (mm [0] s14) p0 w0_0 (A0_0.kp K17) B14.w (B14.apart rfl)) (fun r19 s20 p20 B20 => ?_)
  refine cv u129 u3 rfl rfl rfl rfl rfl rfl (shlK rfl rfl rfl rfl rfl rfl rfl rfl (Xb rfl ?_))
  have K22 := K17.st p20 rfl
  refine clB B20 rfl func74 rfl (spec_l1Below.calls (l1Cur.mk a0.b r19.2.i r19.2.h) (3 : Int) s20.w (mm [0] s20) p0 w0_0 (A0_0.kp K22) B20.w (B20.apart rfl)) (fun r24 s25 p25 B25 => ?_)
  refine cv u129 u3 rfl rfl rfl rfl rfl rfl (Xb rfl (Xb rfl (dn ?_)))
  exact re rfl func232 rfl (Xs rfl Xg) rfl ⟨_, rfl, rfl, B25.w, z.ky (K22.st p25 rfl)⟩
 refine sr (Xb rfl (Xb rfl (dn (cd rfl (fun h28 => ?_) (fun h28 => ?_)))))
 ·
  refine sr (Xb rfl ?_)
  have K29 := Kx3.st p14 rfl
  refine clB B14 rfl func74 rfl (spec_l1Below.calls (l1Cur.mk a0.b r13.2.i r13.2.h) (2 : Int) s14.w (mm [0] s14) p0 w0_0 (A0_0.kp K29) B14.w (B14.apart rfl)) (fun r31 s32 p32 B32 => ?_)
  refine cv u129 u3 rfl rfl rfl rfl rfl rfl (shlK rfl rfl rfl rfl rfl rfl rfl rfl (Xb rfl ?_))
  have K34 := K29.st p32 rfl
  refine clB B32 rfl func74 rfl (spec_l1Below.calls (l1Cur.mk a0.b r31.2.i r31.2.h) (3 : Int) s32.w (mm [0] s32) p0 w0_0 (A0_0.kp K34) B32.w (B32.apart rfl)) (fun r36 s37 p37 B37 => ?_)
  refine cv u129 u3 rfl rfl rfl rfl rfl rfl (Xb rfl (Xb rfl (Xb rfl (dn ?_))))
  exact re rfl func232 rfl (Xs rfl Xg) rfl ⟨_, rfl, rfl, B37.w, z.ky (K34.st p37 rfl)⟩
 refine sr (Xb rfl (Xb rfl (dn (cd rfl (fun h40 => ?_) (fun h40 => ?_)))))
 ·
  refine sr (Xb rfl ?_)
  have K41 := Kx3.st p14 rfl
  refine clB B14 rfl func74 rfl (spec_l1Below.calls (l1Cur.mk a0.b r13.2.i r13.2.h) (2 : Int) s14.w (mm [0] s14) p0 w0_0 (A0_0.kp K41) B14.w (B14.apart rfl)) (fun r43 s44 p44 B44 => ?_)
  refine cv u129 u3 rfl rfl rfl rfl rfl rfl (shlK rfl rfl rfl rfl rfl rfl rfl rfl (Xb rfl (Xb rfl (shrK rfl rfl rfl rfl rfl rfl rfl rfl (Xb rfl (Xb rfl (dn ?_)))))))
  exact re rfl func232 rfl (Xs rfl Xg) rfl ⟨_, rfl, rfl, B44.w, z.ky (K41.st p44 rfl)⟩
 refine sr (Xb rfl (Xb rfl (dn (cd rfl (fun h47 => ?_) (fun h47 => ?_)))))
 ·
  refine sr (Xb rfl ?_)
  have K48 := Kx3.st p14 rfl
  refine clB B14 rfl func74 rfl (spec_l1Below.calls (l1Cur.mk a0.b r13.2.i r13.2.h) (2 : Int) s14.w (mm [0] s14) p0 w0_0 (A0_0.kp K48) B14.w (B14.apart rfl)) (fun r50 s51 p51 B51 => ?_)
  refine cv u129 u3 rfl rfl rfl rfl rfl rfl (shlK rfl rfl rfl rfl rfl rfl rfl rfl (Xb rfl ?_))
  have K53 := K48.st p51 rfl
  refine clB B51 rfl func74 rfl (spec_l1Below.calls (l1Cur.mk a0.b r50.2.i r50.2.h) (3 : Int) s51.w (mm [0] s51) p0 w0_0 (A0_0.kp K53) B51.w (B51.apart rfl)) (fun r55 s56 p56 B56 => ?_)
  refine cv u129 u3 rfl rfl rfl rfl rfl rfl (Xb rfl (Xb rfl (Xb rfl (dn ?_))))
  exact re rfl func232 rfl (Xs rfl Xg) rfl ⟨_, rfl, rfl, B56.w, z.ky (K53.st p56 rfl)⟩
 refine sr (Xb rfl (Xb rfl (dn (cd rfl (fun h59 => ?_) (fun h59 => ?_)))))
 ·
  refine sr (Xb rfl ?_)
  have K60 := Kx3.st p14 rfl
  refine clB B14 rfl func74 rfl (spec_l1Below.calls (l1Cur.mk a0.b r13.2.i r13.2.h) (12 : Int) s14.w (mm [0] s14) p0 w0_0 (A0_0.kp K60) B14.w (B14.apart rfl)) (fun r62 s63 p63 B63 => ?_)
  refine Xb rfl (cv u129 u3 rfl rfl rfl rfl rfl rfl (shlK rfl rfl rfl rfl rfl rfl rfl rfl (Xb rfl ?_)))
  have K65 := K60.st p63 rfl
  refine clB B63 rfl func74 rfl (spec_l1Below.calls (l1Cur.mk a0.b r62.2.i r62.2.h) (16 : Int) s63.w (mm [0] s63) p0 w0_0 (A0_0.kp K65) B63.w (B63.apart rfl)) (fun r67 s68 p68 B68 => ?_)
  refine cv u129 u3 rfl rfl rfl rfl rfl rfl (shlK rfl rfl rfl rfl rfl rfl rfl rfl (Xb rfl (Xb rfl (dn ?_))))
  exact re rfl func232 rfl (Xs rfl Xg) rfl ⟨_, rfl, rfl, B68.w, z.ky (K65.st p68 rfl)⟩
 refine sr (Xb rfl (Xb rfl (dn (cd rfl (fun h71 => ?_) (fun h71 => ?_)))))
 ·
  refine sr (Xb rfl ?_)
  have K72 := Kx3.st p14 rfl
  refine clB B14 rfl func74 rfl (spec_l1Below.calls (l1Cur.mk a0.b r13.2.i r13.2.h) (21 : Int) s14.w (mm [0] s14) p0 w0_0 (A0_0.kp K72) B14.w (B14.apart rfl)) (fun r74 s75 p75 B75 => ?_)
  refine Xb rfl (i2f u27 u3 rfl rfl rfl rfl rfl rfl (fun v77 A77 => ?_))
  refine clV 52 rfl func95 rfl (spec_FloatBits.calls (FloatKind.f64.nearest (IntKind.wrap .i64 (r74.1 - (10 : Int)))) s75.w (mm [] s75) v77 (Xk (s := s75) A77)) (fun r78 s79 p79 n79 => ?_)
  refine Xb rfl (dn ?_)
  exact re rfl func232 rfl (Xs rfl Xg) rfl ⟨_, rfl, rfl, (BlF.w (B75.st p79 rfl)), z.ky (K72.st (Xq p75 p79) rfl)⟩
 refine sk (ib (sr (Xb rfl (Xb rfl (dn ?_)))))
 exact re rfl func232 rfl (Xs rfl Xg) rfl ⟨_, rfl, rfl, B14.w, z.ky (Kx3.st p14 rfl)⟩
def spec_FloatOf.b1  (x21 : Nat × Int) : Option ((Nat × Int) ⊕ (Nat ⊕ Nat)) :=
 (if (decide (x21.2 < (0 : Int))) = true then (some (Sum.inl ((far .quo x21.1 (4611686018427387904 : Nat)), (IntKind.wrap .i64 (x21.2 + (1 : Int)))))) else ((some (Sum.inl x21.1)).bind fun o => some (Sum.inr o)))
def spec_FloatOf.b0  (x16 : Nat × Int) : Option ((Nat × Int) ⊕ (Nat ⊕ Nat)) :=
 (if (decide (x16.2 > (0 : Int))) = true then (some (Sum.inl ((far .mul x16.1 (4611686018427387904 : Nat)), (IntKind.wrap .i64 (x16.2 - (1 : Int)))))) else ((iter spec_FloatOf.b1 (x16.1, x16.2)).bind fun o => some (Sum.inr o)))
def spec_FloatOf.f (a0 : Int) : Option (Nat) :=
 ((if ((IntKind.wrap .i64 (iand .u64 (ishr .u64 a0 (52 : Int)) (2047 : Int))) == (2047 : Int)) = true then (if ((iand .u64 a0 (4503599627370495 : Int)) != (0 : Int)) = true then (some (Sum.inr (far .quo (0 : Nat) (0 : Nat)))) else (some (Sum.inl (far .quo (4607182418800017408 : Nat) (0 : Nat))))) else ((if ((IntKind.wrap .i64 (iand .u64 (ishr .u64 a0 (52 : Int)) (2047 : Int))) == (0 : Int)) = true then (some ((far .quo (FloatKind.f64.nearest (iand .u64 a0 (4503599627370495 : Int))) (4841369599423283200 : Nat)), (-1022 : Int))) else (some ((far .add (far .quo (FloatKind.f64.nearest (iand .u64 a0 (4503599627370495 : Int))) (4841369599423283200 : Nat)) (4607182418800017408 : Nat)), (IntKind.wrap .i64 ((IntKind.wrap .i64 (iand .u64 (ishr .u64 a0 (52 : Int)) (2047 : Int))) - (1023 : Int)))))).bind fun y10 => (iter spec_FloatOf.b0 (y10.1, y10.2)))).bind (sel fun y3 => (if ((ishr .u64 a0 (63 : Int)) == (1 : Int)) = true then (some (fneg y3)) else (some y3))))
def spec_FloatOf.Q (w : World) (F : Nat → Prop) (r : Nat) (v : Value) (w' : World) : Prop :=
 FL v r ∧ Ky [] w w'
theorem spec_FloatOf.calls (a0 : Int) (w : World) (F : Nat → Prop)   (r : Nat) (m : spec_FloatOf.f a0 = some r) :
  Calls prog 231 #[(.int .u64 a0)] w (RT (spec_FloatOf.Q w F) r) := by
 obtain ⟨s0, rfl, kp0, z⟩ := Xi w F
 refine Xc (args := [(.int .u64 a0)]) func231 ntmps231 rfl rfl m ?_
 unfold spec_FloatOf.f
 refine sr (asg' (.float .f64 0) rfl (dn (sr (Xb rfl (shrK rfl rfl rfl rfl rfl rfl rfl rfl (Xb rfl (cv u3 u129 rfl rfl rfl rfl rfl rfl (Xb rfl (dn (sr (Xb rfl (Xb rfl (Xb rfl (dn ?_))))))))))))))
 refine sr (asg' (.float .f64 0) rfl (dn (sr (Xb rfl (i2f u27 u129 rfl rfl rfl rfl rfl rfl (fun v1 A1 => ?_))))))
 refine fa_ A1 (fl_c rfl) (by simp) rfl rfl rfl rfl rfl rfl rfl (fun v2 s2 p2 A2 => ?_)
 refine asg' v2 rfl (dn (sq (sr (Xb rfl (Xb rfl (dn (jr (fun (y3 : Nat) e w => ∃ (s : St) (e0 : Env) (uy3_0 : Value), w = s.w ∧ e = upd (upd e0 0 (.int .u64 a0)) 6 uy3_0 ∧ Kp s0 s ∧ FL uy3_0 y3) (fun Gj3 Kj3 hG3 => ?_) ?_)))))))
 ·
  refine cd rfl (fun h4 => ?_) (fun h4 => ?_)
  ·
   refine sq (sr (Xb rfl (Xb rfl (dn (cd rfl (fun h5 => ?_) (fun h5 => ?_))))))
   ·
    refine sr (Xp (.float .f64 0) rfl (Xp (.float .f64 0) rfl (fa_ (fl_c rfl) (fl_c rfl) (by simp) rfl rfl rfl rfl rfl rfl rfl (fun v6 s6 p6 A6 => ?_))))
    refine asg' v6 rfl (dn (jri hG3 ?_))
    exact re rfl func231 rfl (Xs rfl Xg) rfl ⟨_, rfl, A6, z.ky (kp0.st (Xq p2 p6) rfl)⟩
   refine sk (rg (Xp (.float .f64 0) rfl (fa_ (fl_c rfl) (fl_c rfl) (by simp) rfl rfl rfl rfl rfl rfl rfl (fun v8 s8 p8 A8 => ?_))))
   refine asg' v8 rfl (dn ?_)
   exact Kj3 _ _ _ ⟨s8, _, v8, rfl, (ue (ue rfl rfl) rfl), (kp0.st (Xq p2 p8) rfl), A8⟩
  refine sr (Xb rfl (Xb rfl (Xb rfl (dn (sq (sr (Xb rfl (Xb rfl (dn (jc (fun (y10 : Nat × Int) e w => ∃ (s : St) (e0 : Env) (uy10_0 : Value), w = s.w ∧ e = upd (upd (upd e0 0 (.int .u64 a0)) 6 uy10_0) 7 (iI y10.2) ∧ Kp s0 s ∧ FL uy10_0 y10.1) (fun Gj10 Kj10 => ?_) ?_))))))))))
  ·
   refine cd rfl (fun h11 => ?_) (fun h11 => ?_)
   ·
    refine rg (Xb rfl (dn ?_))
    exact Kj10 _ _ _ ⟨s2, _, v2, rfl, (ue (ue (ue rfl rfl) rfl) rfl), (kp0.st p2 rfl), A2⟩
   refine rg (Xp v2 rfl (fa_ A2 (fl_c rfl) (by simp) rfl rfl rfl rfl rfl rfl rfl (fun v13 s13 p13 A13 => ?_)))
   refine asg' v13 rfl (dn ?_)
   exact Kj10 _ _ _ ⟨s13, _, v13, rfl, (ue (ue (ue rfl rfl) rfl) rfl), (kp0.st (Xq p2 p13) rfl), A13⟩
  rintro y10 _ _ ⟨s15, _, uy10_0, rfl, rfl, Ky10, Fy10_0⟩
  refine sq (bl (lpI (fun (x16 : Nat × Int) e w => ∃ (s : St) (e0 : Env) (ux16_0 : Value), w = s.w ∧ e = upd (upd (upd e0 0 (.int .u64 a0)) 6 ux16_0) 7 (iI x16.2) ∧ Kp s0 s ∧ FL ux16_0 x16.1) ⟨s15, _, uy10_0, rfl, (ue (ue (ue rfl rfl) rfl) rfl), Ky10, Fy10_0⟩ (fun g16 ih16 => ?_)))
  rintro x16 _ _ ⟨s17, _, ux16_0, rfl, rfl, Kx16, Fx16_0⟩
  unfold spec_FloatOf.b0
  refine sq (sr (Xb rfl (Xb rfl (dn (cd rfl (fun h18 => ?_) (fun h18 => ?_))))))
  ·
   refine sk (sq (bl (rg (Xp ux16_0 rfl (fa_ Fx16_0 (fl_c rfl) (by simp) rfl rfl rfl rfl rfl rfl rfl (fun v19 s19 p19 A19 => ?_))))))
   refine asg' v19 rfl (dn (ib (rg (Xb rfl (Xb rfl (Xb rfl (dn ?_)))))))
   exact lb ih16 ⟨s19, _, v19, rfl, (ue (ue (ue rfl rfl) rfl) rfl), (Kx16.st p19 rfl), A19⟩
  refine xt rfl (sgb (bl (lpI (fun (x21 : Nat × Int) e w => ∃ (s : St) (e0 : Env) (ux21_0 : Value), w = s.w ∧ e = upd (upd (upd e0 0 (.int .u64 a0)) 6 ux21_0) 7 (iI x21.2) ∧ Kp s0 s ∧ FL ux21_0 x21.1) ⟨s17, _, ux16_0, rfl, (ue (ue (ue rfl rfl) rfl) rfl), Kx16, Fx16_0⟩ (fun g21 ih21 => ?_))))
  rintro x21 _ _ ⟨s22, _, ux21_0, rfl, rfl, Kx21, Fx21_0⟩
  unfold spec_FloatOf.b1
  refine sq (sr (Xb rfl (Xb rfl (dn (cd rfl (fun h23 => ?_) (fun h23 => ?_))))))
  ·
   refine sk (sq (bl (rg (Xp ux21_0 rfl (fa_ Fx21_0 (fl_c rfl) (by simp) rfl rfl rfl rfl rfl rfl rfl (fun v24 s24 p24 A24 => ?_))))))
   refine asg' v24 rfl (dn (ib (rg (Xb rfl (Xb rfl (Xb rfl (dn ?_)))))))
   exact lb ih21 ⟨s24, _, v24, rfl, (ue (ue (ue rfl rfl) rfl) rfl), (Kx21.st p24 rfl), A24⟩
  exact xt rfl (sgb (Kj3 _ _ _ ⟨s22, _, ux21_0, rfl, (ue (ue rfl rfl) rfl), Kx21, Fx21_0⟩))
 rintro y3 _ _ ⟨s26, _, uy3_0, rfl, rfl, Ky3, Fy3_0⟩
 refine sq (sr (Xb rfl (shrK rfl rfl rfl rfl rfl rfl rfl rfl (Xb rfl (dn (cd rfl (fun h27 => ?_) (fun h27 => ?_)))))))
 ·
  refine sr (Xp uy3_0 rfl (fng_ Fy3_0 rfl rfl rfl rfl rfl rfl (fun v28 A28 => ?_)))
  exact asg' v28 rfl (dn (re rfl func231 rfl (Xs rfl Xg) rfl ⟨_, rfl, A28, z.ky Ky3⟩))
 exact sk (sr (Xp uy3_0 rfl (asg' uy3_0 rfl (dn (re rfl func231 rfl (Xs rfl Xg) rfl ⟨_, rfl, Fy3_0, z.ky Ky3⟩)))))
def spec_l2float.f (a0 : l1Cur) : Option (Nat × l1Cur) :=
 ((spec_l2bits.f a0).bind fun r3 => ((spec_FloatOf.f r3.1).bind fun r6 => (some (r6, (l1Cur.mk a0.b r3.2.i r3.2.h)))))
def spec_l2float.Q (w : World) (F : Nat → Prop) (p0 : Nat) (w0_0 : Value) (r : Nat × l1Cur) (v : Value) (w' : World) : Prop :=
 FL v r.1 ∧ BlW w' p0 184 [w0_0, (iI r.2.i), (iI r.2.h)] ∧ Ky [p0] w w'
theorem spec_l2float.calls (a0 : l1Cur) (w : World) (F : Nat → Prop) (p0 : Nat) (w0_0 : Value) (h0_0 : Xx.rd w [w0_0] a0.b F) (hb0 : BlW w p0 184 [w0_0, (iI a0.i), (iI a0.h)]) (hF : ∀ b, F b → b ∉ [p0]) (r : Nat × l1Cur) (m : spec_l2float.f a0 = some r) :
  Calls prog 164 #[(pB p0)] w (RT (spec_l2float.Q w F p0 w0_0) r) := by
 obtain ⟨s0, rfl, kp0, z⟩ := start1 w F [p0] hF
 have B0 := z.bl hb0 (by simp)
 refine Xc (args := [(pB p0)]) func164 ntmps164 rfl rfl m ?_
 unfold spec_l2float.f
 refine sr (asg' (.float .f64 0) rfl (dn (sr (Xb rfl (clB B0 rfl func232 rfl (spec_l2bits.calls a0 s0.w (mm [0] s0) p0 w0_0 (z.rd h0_0) B0.w (B0.apart rfl)) (fun r3 s4 p4 B4 => ?_))))))
 refine cl' rfl func231 rfl (spec_FloatOf.calls r3.1 s4.w (mm [] s4)) ?_
 rintro r6 v6_0 w6 m6 ⟨f6_0, ky6⟩
 obtain ⟨s7, rfl, p7, n7⟩ := nwx s4 w6 41 ky6
 refine asg' v6_0 rfl (dn ?_)
 exact re rfl func164 rfl (Xs rfl Xg) rfl ⟨_, rfl, f6_0, (BlF.w (B4.st p7 rfl)), z.ky (kp0.st (Xq p4 p7) rfl)⟩
def spec_l1some.b0 (a0 : l1Cur) (r3 : Int × l1Cur) (x6 : (List Int) × Int × Int × Int) : Option (((List Int) × Int × Int × Int) ⊕ ((List Int) × l1Cur)) :=
 (if (decide (x6.2.1 < r3.1)) = true then ((spec_l1Byte.f (l1Cur.mk a0.b x6.2.2.1 x6.2.2.2)).bind fun r13 => (if x6.1.length + ([(IntKind.wrap .u8 r13.1)]).length ≤ Lim then (some (Sum.inl ((x6.1 ++ [(IntKind.wrap .u8 r13.1)]), (IntKind.wrap .i64 (x6.2.1 + (1 : Int))), r13.2.i, r13.2.h))) else none)) else ((some (x6.1, (l1Cur.mk a0.b x6.2.2.1 x6.2.2.2))).bind fun o => some (Sum.inr o)))
def spec_l1some.f (a0 : l1Cur) (a1 : Int) : Option ((List Int) × l1Cur) :=
 ((spec_l1Below.f a0 (IntKind.wrap .i64 (a1 + (1 : Int)))).bind fun r3 => (iter (spec_l1some.b0 a0 r3) (([] : (List Int)), (0 : Int), r3.2.i, r3.2.h)))
def spec_l1some.Q (w : World) (F : Nat → Prop) (p0 : Nat) (w0_0 : Value) (r : (List Int) × l1Cur) (v : Value) (w' : World) : Prop :=
 FO Xx w w' [v] r.1 ∧ BlW w' p0 184 [w0_0, (iI r.2.i), (iI r.2.h)] ∧ Ky [p0] w w'
theorem spec_l1some.calls (a0 : l1Cur) (a1 : Int) (w : World) (F : Nat → Prop) (p0 : Nat) (w0_0 : Value) (h0_0 : Xx.rd w [w0_0] a0.b F) (hb0 : BlW w p0 184 [w0_0, (iI a0.i), (iI a0.h)]) (hF : ∀ b, F b → b ∉ [p0]) (r : (List Int) × l1Cur) (m : spec_l1some.f a0 a1 = some r) :
  Calls prog 165 #[(pB p0), (iI a1)] w (RT (spec_l1some.Q w F p0 w0_0) r) := by
 obtain ⟨s0, rfl, kp0, z⟩ := start1 w F [p0] hF
 have A0_0 := z.rd h0_0
 have B0 := z.bl hb0 (by simp)
 refine Xc (args := [(pB p0), (iI a1)]) func165 ntmps165 rfl rfl m ?_
 unfold spec_l1some.f
 refine sr (Xb rfl (dn (sr (Xb rfl (dn (sr (Xb rfl (Xb rfl (Xb rfl (clB B0 rfl func74 rfl (spec_l1Below.calls a0 (IntKind.wrap .i64 (a1 + (1 : Int))) s0.w (mm [0] s0) p0 w0_0 A0_0 B0.w (B0.apart rfl)) (fun r3 s4 p4 B4 => ?_)))))))))))
 refine Xb rfl (dn (sq (sr (Xb rfl (dn (bl ?_))))))
 refine lpI (fun (x6 : (List Int) × Int × Int × Int) e w => ∃ (s : St) (e0 : Env) (vx6_0 : Value), w = s.w ∧ e = upd (upd (upd (upd e0 0 (pB p0)) 5 vx6_0) 6 (iI r3.1)) 7 (iI x6.2.1) ∧ Kp s0 s ∧ OwF Xx s [vx6_0] x6.1 42 ∧ BlF s p0 184 [w0_0, (iI x6.2.2.1), (iI x6.2.2.2)] 2) ⟨s4, _, (.slice none 0 0), rfl, (ue (ue (ue (ue rfl rfl) rfl) rfl) rfl), (kp0.st p4 rfl), (ow_nil 5 (Kd.int .u8) _ 42), B4⟩ (fun g6 ih6 => ?_)
 rintro x6 _ _ ⟨s8, _, vx6_0, rfl, rfl, Kx6, Ax6_0, Bx6_p0⟩
 unfold spec_l1some.b0
 refine sq (sr (Xb rfl (Xb rfl (Xb rfl (dn (cd rfl (fun h11 => ?_) (fun h11 => ?_)))))))
 ·
  refine sk (sq (bl (rg (Xp vx6_0 rfl (Xb rfl ?_)))))
  refine clB Bx6_p0 rfl func163 rfl (spec_l1Byte.calls (l1Cur.mk a0.b x6.2.2.1 x6.2.2.2) s8.w (mm [0] s8) p0 w0_0 (A0_0.kp Kx6) Bx6_p0.w (Bx6_p0.apart rfl)) (fun r13 s14 p14 B14 => ?_)
  refine cv u5 u3 rfl rfl rfl rfl rfl rfl (ltF' (K := (Kd.int .u8)) (cells := [(.int .u8 (IntKind.wrap .u8 r13.1))]) [(IntKind.wrap .u8 r13.1)] 44 Xw u22 z5 o5 (fun w => (els_flat _ _ _)) rfl (fun v16 s16 p16 A16 => ?_))
  refine apF Xw sl22 (Ax6_0.st (Xq p14 p16) rfl) A16.rd rfl rfl rfl rfl rfl rfl rfl (fun v19 s19 p19 A19 => ?_)
  refine asg' v19 rfl (dn (ib (rg (Xb rfl (Xb rfl (Xb rfl (dn ?_)))))))
  exact lb ih6 ⟨s19, _, v19, rfl, (ue (ue (ue (ue rfl rfl) rfl) rfl) rfl), (Kx6.st (tr3 p14 p16 p19) rfl), A19, (B14.st (Xq p16 p19) rfl)⟩
 exact xt rfl (sgb (sr (Xp vx6_0 rfl (asg' vx6_0 rfl (dn (re rfl func165 rfl (Xs rfl Xg) rfl ⟨_, rfl, Ax6_0.fo Kx6 rfl z.l, Bx6_p0.w, z.ky Kx6⟩))))))
def spec_l3key.f (a0 : l1Cur) : Option (Item × l1Cur) :=
 ((spec_l1Below.f a0 (6 : Int)).bind fun r7 => (if (r7.1 == (0 : Int)) = true then ((spec_l1Below.f (l1Cur.mk a0.b r7.2.i r7.2.h) (3 : Int)).bind fun r14 => (some ((Item.mk (3 : Int) (0 : Int) (0 : Nat) ([(IntKind.wrap .u8 (IntKind.wrap .i64 ((97 : Int) + r14.1)))])), (l1Cur.mk a0.b r14.2.i r14.2.h)))) else (if (r7.1 == (1 : Int)) = true then ((spec_l1Below.f (l1Cur.mk a0.b r7.2.i r7.2.h) (5 : Int)).bind fun r30 => ((spec_ItemClean.f (Item.mk (2 : Int) (0 : Int) (far .quo (FloatKind.f64.nearest (IntKind.wrap .i64 (r30.1 - (2 : Int)))) (4611686018427387904 : Nat)) ([] : (List Int)))).bind fun r35 => (some (r35, (l1Cur.mk a0.b r30.2.i r30.2.h))))) else ((if (r7.1 == (2 : Int)) = true then ((spec_l1Once.f (l1Cur.mk a0.b r7.2.i r7.2.h) (3 : Int)).bind fun r50 => (if r50.1 = true then ((spec_l2float.f (l1Cur.mk a0.b r50.2.i r50.2.h)).bind fun r56 => ((spec_ItemClean.f (Item.mk (2 : Int) (0 : Int) r56.1 ([] : (List Int)))).bind fun r59 => (some (Sum.inr (r59, (l1Cur.mk a0.b r56.2.i r56.2.h)))))) else (some (Sum.inl (r50.2.i, r50.2.h))))) else ((if (r7.1 == (3 : Int)) = true then ((spec_l1Once.f (l1Cur.mk a0.b r7.2.i r7.2.h) (4 : Int)).bind fun r76 => (if r76.1 = true then ((spec_l1some.f (l1Cur.mk a0.b r76.2.i r76.2.h) (40 : Int)).bind fun r82 => (some (Sum.inr (Sum.inr ((Item.mk (3 : Int) (0 : Int) (0 : Nat) r82.1), (l1Cur.mk a0.b r82.2.i r82.2.h)))))) else (some (Sum.inl (r76.2.i, r76.2.h))))) else (some (Sum.inl (r7.2.i, r7.2.h)))).bind (sel fun y72 => (some (Sum.inl (y72.1, y72.2)))))).bind (sel fun y46 => ((spec_l1Below.f (l1Cur.mk a0.b y46.1 y46.2) (6 : Int)).bind fun r105 => (some ((Item.mk (1 : Int) (IntKind.wrap .i64 (r105.1 - (1 : Int))) (0 : Nat) ([] : (List Int))), (l1Cur.mk a0.b r105.2.i r105.2.h)))))))))
def spec_l3key.Q (w : World) (F : Nat → Prop) (p0 : Nat) (w0_0 : Value) (r : Item × l1Cur) (v : Value) (w' : World) : Prop :=
 ∃ (v0 : Value) (v1 : Value), v = (.agg #[(iI r.1.Kind), (iI r.1.N), v0, v1]) ∧ FO kd29 w w' [(iI r.1.Kind), (iI r.1.N), v0, v1] r.1 ∧ BlW w' p0 184 [w0_0, (iI r.2.i), (iI r.2.h)] ∧ Ky [p0] w w'
theorem spec_l3key.calls (a0 : l1Cur) (w : World) (F : Nat → Prop) (p0 : Nat) (w0_0 : Value) (h0_0 : Xx.rd w [w0_0] a0.b F) (hb0 : BlW w p0 184 [w0_0, (iI a0.i), (iI a0.h)]) (hF : ∀ b, F b → b ∉ [p0]) (r : Item × l1Cur) (m : spec_l3key.f a0 = some r) :
  Calls prog 98 #[(pB p0)] w (RT (spec_l3key.Q w F p0 w0_0) r) := by
 obtain ⟨s0, rfl, kp0, z⟩ := start1 w F [p0] hF
 have A0_0 := z.rd h0_0
 refine Xc (args := [(pB p0)]) func98 ntmps98 rfl rfl m ?_
 unfold spec_l3key.f
 refine sr (al (cs := [(iI 0), (iI 0), (.float .f64 0), (.slice none 0 0)]) 40 rfl rfl rfl rfl rfl o29 rfl (fun b3 s3 p3 B3 => ?_))
 refine dn (sq (sr (Xb rfl ?_)))
 have K5 := kp0.st p3 rfl
 have A8 := BlF.st (z.bl hb0 (by simp)) p3 rfl
 refine clB A8 rfl func74 rfl (spec_l1Below.calls a0 (6 : Int) s3.w (mm [0] s3) p0 w0_0 (A0_0.kp K5) A8.w (A8.apart rfl)) (fun r7 s9 p9 B9 => ?_)
 refine dn (bl (sr (Xb rfl (Xb rfl (dn (cd rfl (fun h11 => ?_) (fun h11 => ?_)))))))
 ·
  refine sr (Xb rfl ?_)
  have K12 := K5.st p9 rfl
  refine clB B9 rfl func74 rfl (spec_l1Below.calls (l1Cur.mk a0.b r7.2.i r7.2.h) (3 : Int) s9.w (mm [0] s9) p0 w0_0 (A0_0.kp K12) B9.w (B9.apart rfl)) (fun r14 s15 p15 B15 => ?_)
  refine Xb rfl (cv u5 u3 rfl rfl rfl rfl rfl rfl (ltF' (K := (Kd.int .u8)) (cells := [(.int .u8 (IntKind.wrap .u8 (IntKind.wrap .i64 ((97 : Int) + r14.1))))]) [(IntKind.wrap .u8 (IntKind.wrap .i64 ((97 : Int) + r14.1)))] 43 Xw u22 z5 o5 (fun w => (els_flat _ _ _)) rfl (fun v17 s17 p17 A17 => ?_)))
  refine bd (cells := [(iI 3), (iI 0), (.float .f64 0), v17]) pl29 o29 rfl rfl rfl rfl rfl (lfill_pc (pc_c rfl (pc_c (oc A17.rd.one) pc_n)) rfl) (sva' (vs := [(iI 3), (iI 0), (.float .f64 0), v17]) (B3.st (tr3 p9 p15 p17) rfl) z29 rfl (Xe rfl (Xe rfl (Xe (FL.one (fl_c rfl)) (Xe A17.rd.one on_nil)))) rfl (fun s20 p20 B20 => ?_))
  refine dn ?_
  have A22 : OwF kd29 s20 [(iI 3), (iI 0), (.float .f64 0), v17] (Item.mk (3 : Int) (0 : Int) (0 : Nat) ([(IntKind.wrap .u8 (IntKind.wrap .i64 ((97 : Int) + r14.1)))])) 43 := (ow_isoz (fun x : Item => (x.Kind, x.N, x.F, x.T)) (Item.mk (3 : Int) (0 : Int) (0 : Nat) ([(IntKind.wrap .u8 (IntKind.wrap .i64 ((97 : Int) + r14.1)))])) (ow_l (Xo .i64 (3 : Int)) (ow_l (Xo .i64 (0 : Int)) (ow_l (fz_flt (fl_c rfl)) (A17.st p20 rfl)))))
  have K25 := K12.st (tr3 p15 p17 p20) rfl
  exact re rfl func98 rfl (r_b B20 u29 rfl z29 rfl Xg) rfl ⟨_, rfl, (.float .f64 0), v17, rfl, A22.fo K25 rfl z.l, (BlF.w (B15.st (Xq p17 p20) rfl)), z.ky K25⟩
 refine sr (Xb rfl (Xb rfl (dn (cd rfl (fun h27 => ?_) (fun h27 => ?_)))))
 ·
  refine sr (Xb rfl ?_)
  have K28 := K5.st p9 rfl
  refine clB B9 rfl func74 rfl (spec_l1Below.calls (l1Cur.mk a0.b r7.2.i r7.2.h) (5 : Int) s9.w (mm [0] s9) p0 w0_0 (A0_0.kp K28) B9.w (B9.apart rfl)) (fun r30 s31 p31 B31 => ?_)
  refine Xb rfl (i2f u27 u3 rfl rfl rfl rfl rfl rfl (fun v33 A33 => ?_))
  refine fa_ A33 (fl_c rfl) (by simp) rfl rfl rfl rfl rfl rfl rfl (fun v34 s34 p34 A34 => ?_)
  refine bd (cells := [(iI 2), (iI 0), v34, (.slice none 0 0)]) pl29 o29 rfl rfl rfl rfl rfl (lfill_pc (pc_c rfl (pc_c (oc (FL.one A34)) pc_n)) rfl) (cl' rfl func189 rfl (spec_ItemClean.calls (Item.mk (2 : Int) (0 : Int) (far .quo (FloatKind.f64.nearest (IntKind.wrap .i64 (r30.1 - (2 : Int)))) (4611686018427387904 : Nat)) ([] : (List Int))) s34.w (mm [] s34) v34 (.slice none 0 0) (Xk (s := s34) A34) (rd_nil 5 (Kd.int .u8) s34 [])) ?_)
  rintro r35 _ w35 m35 ⟨v35_0, v35_1, rfl, f35_0, ky35⟩
  obtain ⟨s36, rfl, p36, n36⟩ := nwx s34 w35 45 ky35
  obtain ⟨hu35_0_0, Au35_0_1⟩ := ap29 (f35_0.c n36)
  refine sva' (vs := [(iI r35.Kind), (iI r35.N), v35_0, v35_1]) (B3.st (tr4 p9 p31 p34 p36) rfl) z29 rfl (Xe rfl (Xe rfl (Xe (FL.one hu35_0_0) (Xe Au35_0_1.rd.one on_nil)))) rfl (fun s39 p39 B39 => ?_)
  refine dn ?_
  have A41 : OwF kd29 s39 [(iI r35.Kind), (iI r35.N), v35_0, v35_1] r35 45 := (ow_isoz (fun x : Item => (x.Kind, x.N, x.F, x.T)) r35 (ow_l (Xo .i64 r35.Kind) (ow_l (Xo .i64 r35.N) (ow_l (fz_flt hu35_0_0) (Au35_0_1.st p39 rfl)))))
  have K44 := K28.st (tr4 p31 p34 p36 p39) rfl
  exact re rfl func98 rfl (r_b B39 u29 rfl z29 rfl Xg) rfl ⟨_, rfl, v35_0, v35_1, rfl, A41.fo K44 rfl z.l, (BlF.w (B31.st (tr3 p34 p36 p39) rfl)), z.ky K44⟩
 refine sr (Xb rfl (Xb rfl (dn (jr (fun (y46 : Int × Int) e w => ∃ (s : St) (e0 : Env), w = s.w ∧ e = upd (upd e0 0 (pB p0)) 2 (pB b3) ∧ Kp s0 s ∧ BlF s p0 184 [w0_0, (iI y46.1), (iI y46.2)] 2 ∧ BlF s b3 29 [(iI 0), (iI 0), (.float .f64 0), (.slice none 0 0)] 40) (fun Gj46 Kj46 hG46 => ?_) ?_))))
 ·
  refine cd rfl (fun h47 => ?_) (fun h47 => ?_)
  ·
   refine sr (Xb rfl ?_)
   have K48 := K5.st p9 rfl
   refine clB B9 rfl func72 rfl (spec_l1Once.calls (l1Cur.mk a0.b r7.2.i r7.2.h) (3 : Int) s9.w (mm [0] s9) p0 w0_0 (A0_0.kp K48) B9.w (B9.apart rfl)) (fun r50 s51 p51 B51 => ?_)
   refine dn (cd rfl (fun h53 => ?_) (fun h53 => ?_))
   ·
    refine sr (Xb rfl ?_)
    have K54 := K48.st p51 rfl
    refine cl' rfl func164 rfl (spec_l2float.calls (l1Cur.mk a0.b r50.2.i r50.2.h) s51.w (mm [0] s51) p0 w0_0 (A0_0.kp K54) B51.w (B51.apart rfl)) ?_
    rintro r56 v56_0 w56 m56 ⟨f56_0, bw56, ky56⟩
    obtain ⟨s57, rfl, p57, n57, g57⟩ := nwb 47 B51 ky56
    refine bd (cells := [(iI 2), (iI 0), v56_0, (.slice none 0 0)]) pl29 o29 rfl rfl rfl rfl rfl (lfill_pc (pc_c rfl (pc_c (oc (FL.one f56_0)) pc_n)) rfl) (cl' rfl func189 rfl (spec_ItemClean.calls (Item.mk (2 : Int) (0 : Int) r56.1 ([] : (List Int))) s57.w (mm [] s57) v56_0 (.slice none 0 0) (Xk (s := s57) f56_0) (rd_nil 5 (Kd.int .u8) s57 [])) ?_)
    rintro r59 _ w59 m59 ⟨v59_0, v59_1, rfl, f59_0, ky59⟩
    obtain ⟨s60, rfl, p60, n60⟩ := nwx s57 w59 48 ky59
    obtain ⟨hu59_0_0, Au59_0_1⟩ := ap29 (f59_0.c n60)
    refine sva' (vs := [(iI r59.Kind), (iI r59.N), v59_0, v59_1]) (B3.st (tr4 p9 p51 p57 p60) rfl) z29 rfl (Xe rfl (Xe rfl (Xe (FL.one hu59_0_0) (Xe Au59_0_1.rd.one on_nil)))) rfl (fun s63 p63 B63 => ?_)
    refine dn (jri hG46 ?_)
    have A65 : OwF kd29 s63 [(iI r59.Kind), (iI r59.N), v59_0, v59_1] r59 48 := (ow_isoz (fun x : Item => (x.Kind, x.N, x.F, x.T)) r59 (ow_l (Xo .i64 r59.Kind) (ow_l (Xo .i64 r59.N) (ow_l (fz_flt hu59_0_0) (Au59_0_1.st p63 rfl)))))
    have K68 := K54.st (tr3 p57 p60 p63) rfl
    exact re rfl func98 rfl (r_b B63 u29 rfl z29 rfl Xg) rfl ⟨_, rfl, v59_0, v59_1, rfl, A65.fo K68 rfl z.l, (BlF.w (BlF.st (blf_mk bw56 g57) (Xq p60 p63) rfl)), z.ky K68⟩
   exact sk (Kj46 _ _ _ ⟨s51, _, rfl, (ue (ue rfl rfl) rfl), (K48.st p51 rfl), B51, (B3.st (Xq p9 p51) rfl)⟩)
  refine sr (Xb rfl (Xb rfl (dn (jr (fun (y72 : Int × Int) e w => ∃ (s : St) (e0 : Env), w = s.w ∧ e = upd (upd e0 0 (pB p0)) 2 (pB b3) ∧ Kp s0 s ∧ BlF s p0 184 [w0_0, (iI y72.1), (iI y72.2)] 2 ∧ BlF s b3 29 [(iI 0), (iI 0), (.float .f64 0), (.slice none 0 0)] 40) (fun Gj72 Kj72 hG72 => ?_) ?_))))
  ·
   refine cd rfl (fun h73 => ?_) (fun h73 => ?_)
   ·
    refine sr (Xb rfl ?_)
    have K74 := K5.st p9 rfl
    refine clB B9 rfl func72 rfl (spec_l1Once.calls (l1Cur.mk a0.b r7.2.i r7.2.h) (4 : Int) s9.w (mm [0] s9) p0 w0_0 (A0_0.kp K74) B9.w (B9.apart rfl)) (fun r76 s77 p77 B77 => ?_)
    refine dn (cd rfl (fun h79 => ?_) (fun h79 => ?_))
    ·
     refine sr (Xb rfl ?_)
     have K80 := K74.st p77 rfl
     refine cl' rfl func165 rfl (spec_l1some.calls (l1Cur.mk a0.b r76.2.i r76.2.h) (40 : Int) s77.w (mm [0] s77) p0 w0_0 (A0_0.kp K80) B77.w (B77.apart rfl)) ?_
     rintro r82 v82_0 w82 m82 ⟨f82_0, bw82, ky82⟩
     obtain ⟨s83, rfl, p83, n83, g83⟩ := nwb 50 B77 ky82
     have A82_0 := f82_0.c n83
     refine bd (cells := [(iI 3), (iI 0), (.float .f64 0), v82_0]) pl29 o29 rfl rfl rfl rfl rfl (lfill_pc (pc_c rfl (pc_c (oc A82_0.rd.one) pc_n)) rfl) (sva' (vs := [(iI 3), (iI 0), (.float .f64 0), v82_0]) (B3.st (tr3 p9 p77 p83) rfl) z29 rfl (Xe rfl (Xe rfl (Xe (FL.one (fl_c rfl)) (Xe A82_0.rd.one on_nil)))) rfl (fun s87 p87 B87 => ?_))
     refine dn (jri hG72 (jri hG46 ?_))
     have A89 : OwF kd29 s87 [(iI 3), (iI 0), (.float .f64 0), v82_0] (Item.mk (3 : Int) (0 : Int) (0 : Nat) r82.1) 50 := (ow_isoz (fun x : Item => (x.Kind, x.N, x.F, x.T)) (Item.mk (3 : Int) (0 : Int) (0 : Nat) r82.1) (ow_l (Xo .i64 (3 : Int)) (ow_l (Xo .i64 (0 : Int)) (ow_l (fz_flt (fl_c rfl)) (A82_0.st p87 rfl)))))
     have K92 := K80.st (Xq p83 p87) rfl
     exact re rfl func98 rfl (r_b B87 u29 rfl z29 rfl Xg) rfl ⟨_, rfl, (.float .f64 0), v82_0, rfl, A89.fo K92 rfl z.l, (BlF.w (BlF.st (blf_mk bw82 g83) p87 rfl)), z.ky K92⟩
    exact sk (Kj72 _ _ _ ⟨s77, _, rfl, (ue (ue rfl rfl) rfl), (K74.st p77 rfl), B77, (B3.st (Xq p9 p77) rfl)⟩)
   exact sk (Kj72 _ _ _ ⟨s9, _, rfl, (ue (ue rfl rfl) rfl), (K5.st p9 rfl), B9, (B3.st p9 rfl)⟩)
  rintro y72 _ _ ⟨s98, _, rfl, rfl, Ky72, By72_p0, By72_b3⟩
  exact Kj46 _ _ _ ⟨s98, _, rfl, (ue (ue rfl rfl) rfl), Ky72, By72_p0, By72_b3⟩
 rintro y46 _ _ ⟨s101, _, rfl, rfl, Ky46, By46_p0, By46_b3⟩
 refine ib (sr (Xb rfl ?_))
 refine clB By46_p0 rfl func74 rfl (spec_l1Below.calls (l1Cur.mk a0.b y46.1 y46.2) (6 : Int) s101.w (mm [0] s101) p0 w0_0 (A0_0.kp Ky46) By46_p0.w (By46_p0.apart rfl)) (fun r105 s106 p106 B106 => ?_)
 refine Xb rfl (bd (cells := [(iI 1), (iI (IntKind.wrap .i64 (r105.1 - (1 : Int)))), (.float .f64 0), (.slice none 0 0)]) pl29 o29 rfl rfl rfl rfl rfl rfl ?_)
 refine sva' (vs := [(iI 1), (iI (IntKind.wrap .i64 (r105.1 - (1 : Int)))), (.float .f64 0), (.slice none 0 0)]) (By46_b3.st p106 rfl) z29 rfl (Xe rfl (Xe rfl (Xe (FL.one (fl_c rfl)) (Xe rfl on_nil)))) rfl (fun s109 p109 B109 => ?_)
 refine dn ?_
 have A111 : OwF kd29 s109 [(iI 1), (iI (IntKind.wrap .i64 (r105.1 - (1 : Int)))), (.float .f64 0), (.slice none 0 0)] (Item.mk (1 : Int) (IntKind.wrap .i64 (r105.1 - (1 : Int))) (0 : Nat) ([] : (List Int))) 52 := ow_z _ _ (fz_iso (fun x : Item => (x.Kind, x.N, x.F, x.T)) (Item.mk (1 : Int) (IntKind.wrap .i64 (r105.1 - (1 : Int))) (0 : Nat) ([] : (List Int))) (fz_pair (Xo .i64 (1 : Int)) (fz_pair (Xo .i64 (IntKind.wrap .i64 (r105.1 - (1 : Int)))) (fz_pair (fz_flt (fl_c rfl)) (fz_nil 5 (Kd.int .u8))))))
 have K113 := Ky46.st (Xq p106 p109) rfl
 exact re rfl func98 rfl (r_b B109 u29 rfl z29 rfl Xg) rfl ⟨_, rfl, (.float .f64 0), (.slice none 0 0), rfl, A111.fo K113 rfl z.l, (BlF.w (B106.st p109 rfl)), z.ky K113⟩
def spec_l1number.b0 (a0 : l1Cur) (x11 : Int × Int × Int × Int) : Option ((Int × Int × Int × Int) ⊕ (Int × l1Cur)) :=
 (if (decide (x11.2.1 > (0 : Int))) = true then ((spec_l1Byte.f (l1Cur.mk a0.b x11.2.2.1 x11.2.2.2)).bind fun r17 => (some (Sum.inl ((IntKind.wrap .i64 ((IntKind.wrap .i64 (x11.1 * (256 : Int))) + r17.1)), (IntKind.wrap .i64 (x11.2.1 - (1 : Int))), r17.2.i, r17.2.h)))) else (((spec_l1Below.f (l1Cur.mk a0.b x11.2.2.1 x11.2.2.2) (12 : Int)).bind fun r22 => (if (r22.1 == (0 : Int)) = true then (some ((IntKind.wrap .i64 (0 - x11.1)), (l1Cur.mk a0.b r22.2.i r22.2.h))) else (if (r22.1 == (1 : Int)) = true then ((spec_l1Below.f (l1Cur.mk a0.b r22.2.i r22.2.h) (7 : Int)).bind fun r34 => (if 0 ≤ (IntKind.wrap .i64 ((8 : Int) * (IntKind.wrap .i64 ((1 : Int) + r34.1)))) then ((spec_l1Below.f (l1Cur.mk a0.b r34.2.i r34.2.h) (2 : Int)).bind fun r46 => (some ((IntKind.wrap .i64 ((ishl .i64 (1 : Int) (IntKind.wrap .i64 ((8 : Int) * (IntKind.wrap .i64 ((1 : Int) + r34.1))))) - r46.1)), (l1Cur.mk a0.b r46.2.i r46.2.h)))) else none)) else (if (r22.1 == (2 : Int)) = true then (some ((9223372036854775807 : Int), (l1Cur.mk a0.b r22.2.i r22.2.h))) else (if (r22.1 == (3 : Int)) = true then (some ((-9223372036854775808 : Int), (l1Cur.mk a0.b r22.2.i r22.2.h))) else (some (x11.1, (l1Cur.mk a0.b r22.2.i r22.2.h)))))))).bind fun o => some (Sum.inr o)))
def spec_l1number.f (a0 : l1Cur) : Option (Int × l1Cur) :=
 ((spec_l1Below.f a0 (1000 : Int)).bind fun r3 => ((spec_l1Below.f (l1Cur.mk a0.b r3.2.i r3.2.h) (6 : Int)).bind fun r8 => (iter (spec_l1number.b0 a0) (r3.1, r8.1, r8.2.i, r8.2.h))))
def spec_l1number.Q (w : World) (F : Nat → Prop) (p0 : Nat) (w0_0 : Value) (r : Int × l1Cur) (v : Value) (w' : World) : Prop :=
 v = (iI r.1) ∧ BlW w' p0 184 [w0_0, (iI r.2.i), (iI r.2.h)] ∧ Ky [p0] w w'
theorem spec_l1number.calls (a0 : l1Cur) (w : World) (F : Nat → Prop) (p0 : Nat) (w0_0 : Value) (h0_0 : Xx.rd w [w0_0] a0.b F) (hb0 : BlW w p0 184 [w0_0, (iI a0.i), (iI a0.h)]) (hF : ∀ b, F b → b ∉ [p0]) (r : Int × l1Cur) (m : spec_l1number.f a0 = some r) :
  Calls prog 230 #[(pB p0)] w (RT (spec_l1number.Q w F p0 w0_0) r) := by
 obtain ⟨s0, rfl, kp0, z⟩ := start1 w F [p0] hF
 have A0_0 := z.rd h0_0
 have B0 := z.bl hb0 (by simp)
 refine Xc (args := [(pB p0)]) func230 ntmps230 rfl rfl m ?_
 unfold spec_l1number.f
 refine sr (Xb rfl (dn (sr (Xb rfl (clB B0 rfl func74 rfl (spec_l1Below.calls a0 (1000 : Int) s0.w (mm [0] s0) p0 w0_0 A0_0 B0.w (B0.apart rfl)) (fun r3 s4 p4 B4 => ?_))))))
 refine Xb rfl (dn (sq (sr (Xb rfl ?_))))
 have K6 := kp0.st p4 rfl
 refine clB B4 rfl func74 rfl (spec_l1Below.calls (l1Cur.mk a0.b r3.2.i r3.2.h) (6 : Int) s4.w (mm [0] s4) p0 w0_0 (A0_0.kp K6) B4.w (B4.apart rfl)) (fun r8 s9 p9 B9 => ?_)
 refine Xb rfl (dn (bl ?_))
 refine lpI (fun (x11 : Int × Int × Int × Int) e w => ∃ (s : St) (e0 : Env), w = s.w ∧ e = upd (upd (upd e0 0 (pB p0)) 3 (iI x11.1)) 4 (iI x11.2.1) ∧ Kp s0 s ∧ BlF s p0 184 [w0_0, (iI x11.2.2.1), (iI x11.2.2.2)] 2) ⟨s9, _, rfl, (ue (ue (ue rfl rfl) rfl) rfl), (K6.st p9 rfl), B9⟩ (fun g11 ih11 => ?_)
 rintro x11 _ _ ⟨s13, _, rfl, rfl, Kx11, Bx11_p0⟩
 unfold spec_l1number.b0
 refine sq (sr (Xb rfl (Xb rfl (dn (cd rfl (fun h15 => ?_) (fun h15 => ?_))))))
 ·
  refine sk (sq (bl (rg (Xb rfl (Xb rfl (Xb rfl ?_))))))
  refine clB Bx11_p0 rfl func163 rfl (spec_l1Byte.calls (l1Cur.mk a0.b x11.2.2.1 x11.2.2.2) s13.w (mm [0] s13) p0 w0_0 (A0_0.kp Kx11) Bx11_p0.w (Bx11_p0.apart rfl)) (fun r17 s18 p18 B18 => ?_)
  refine Xb rfl (Xb rfl (dn (ib (rg (Xb rfl (Xb rfl (Xb rfl (dn ?_))))))))
  exact lb ih11 ⟨s18, _, rfl, (ue (ue (ue rfl rfl) rfl) rfl), (Kx11.st p18 rfl), B18⟩
 refine xt rfl (sgb (sq (sr (Xb rfl ?_))))
 refine clB Bx11_p0 rfl func74 rfl (spec_l1Below.calls (l1Cur.mk a0.b x11.2.2.1 x11.2.2.2) (12 : Int) s13.w (mm [0] s13) p0 w0_0 (A0_0.kp Kx11) Bx11_p0.w (Bx11_p0.apart rfl)) (fun r22 s23 p23 B23 => ?_)
 refine dn (bl (sr (Xb rfl (Xb rfl (dn (cd rfl (fun h25 => ?_) (fun h25 => ?_)))))))
 ·
  refine sr (Xb rfl (Xb rfl (Xb rfl (dn ?_))))
  exact re rfl func230 rfl (Xs rfl Xg) rfl ⟨_, rfl, rfl, B23.w, z.ky (Kx11.st p23 rfl)⟩
 refine sr (Xb rfl (Xb rfl (dn (cd rfl (fun h27 => ?_) (fun h27 => ?_)))))
 ·
  refine sq (zdraw [[], [0], [1], [2], [3], [], [5, 1], [4, 6], [7, 6, 0, 1, 2, 3, 4, 5, 6, 7]] [some 26, some 27, some 28, some 29, some 30, some 31, some 32, some 33, some 2] [[0], [26], [27], [28], [29], [0], [31], [30, 32], [33]] [0, 1, 2, 3, 4, 5, 6, 7, 8] ⟨by kernel_rfl, by kernel_rfl, by kernel_rfl⟩ (by kernel_rfl) (fun s28 p28 l28 tb28 zd28 => ?_))
  refine zstep 1 [some 31] tb28 ((zd28.add 0 26 (pB p0) rfl).add 5 31 (pB p0) rfl) (Xa (Xd rfl) rfl (Xa (Xd rfl) rfl Xh)) (by kernel_rfl) rfl (fun l31 e31 zd31 => ?_)
  have K32 := Kx11.st (Xq p23 p28) rfl
  have A35 := B23.st p28 rfl
  refine clB A35 rfl func74 rfl (spec_l1Below.calls (l1Cur.mk a0.b r22.2.i r22.2.h) (7 : Int) s28.w (mm [0] s28) p0 w0_0 (A0_0.kp K32) A35.w (A35.apart rfl)) (fun r34 s36 p36 B36 => ?_)
  refine zdone (L' := [5]) (D' := [0, 1]) zd31 rfl rfl rfl (fun zd38 => ?_)
  refine mg fun hg41 => (zstep 6 [some 30, some 29, some 28] tb28 (((zd38.add 2 28 (iI (IntKind.wrap .i64 ((1 : Int) + r34.1))) rfl).add 3 29 (iI (IntKind.wrap .i64 ((8 : Int) * (IntKind.wrap .i64 ((1 : Int) + r34.1))))) rfl).add 4 30 (iI (ishl .i64 (1 : Int) (IntKind.wrap .i64 ((8 : Int) * (IntKind.wrap .i64 ((1 : Int) + r34.1)))))) rfl) (Xa (shl__q hg41 rfl rfl rfl rfl rfl rfl rfl) rfl (Xa (Xd rfl) rfl (Xa (Xd rfl) rfl (Xa (Xd rfl) rfl Xh)))) (by kernel_rfl) rfl (fun l43 e43 zd43 => ?_))
  have K44 := K32.st p36 rfl
  refine clB B36 rfl func74 rfl (spec_l1Below.calls (l1Cur.mk a0.b r34.2.i r34.2.h) (2 : Int) s36.w (mm [0] s36) p0 w0_0 (A0_0.kp K44) B36.w (B36.apart rfl)) (fun r46 s47 p47 B47 => ?_)
  refine zdone (L' := [4, 3, 2]) (D' := [5, 6, 0, 1]) zd43 rfl rfl rfl (fun zd49 => ?_)
  refine zfin [7, 8] tb28 zd49 (Xa (shl__q hg41 rfl rfl rfl rfl rfl rfl rfl) rfl (Xa (Xd rfl) rfl (Xa (Xd rfl) rfl Xh))) (by kernel_rfl) (by decide) (Xb rfl (Xb rfl (dn ?_)))
  exact re rfl func230 rfl (Xs rfl Xg) rfl ⟨_, rfl, rfl, B47.w, z.ky (K44.st p47 rfl)⟩
 refine sr (Xb rfl (Xb rfl (dn (cd rfl (fun h51 => ?_) (fun h51 => ?_)))))
 ·
  refine sr (Xb rfl (dn ?_))
  exact re rfl func230 rfl (Xs rfl Xg) rfl ⟨_, rfl, rfl, B23.w, z.ky (Kx11.st p23 rfl)⟩
 refine sr (Xb rfl (Xb rfl (dn (cd rfl (fun h53 => ?_) (fun h53 => ?_)))))
 ·
  refine sr (Xb rfl (dn ?_))
  exact re rfl func230 rfl (Xs rfl Xg) rfl ⟨_, rfl, rfl, B23.w, z.ky (Kx11.st p23 rfl)⟩
 refine sk (ib (sr (Xb rfl (Xb rfl (dn ?_)))))
 exact re rfl func230 rfl (Xs rfl Xg) rfl ⟨_, rfl, rfl, B23.w, z.ky (Kx11.st p23 rfl)⟩
def spec_l3value.f (a0 : l1Cur) : Option (Item × l1Cur) :=
 ((spec_l1Below.f a0 (5 : Int)).bind fun r7 => (if (r7.1 == (0 : Int)) = true then ((spec_l1some.f (l1Cur.mk a0.b r7.2.i r7.2.h) (8 : Int)).bind fun r14 => (some ((Item.mk (3 : Int) (0 : Int) (0 : Nat) r14.1), (l1Cur.mk a0.b r14.2.i r14.2.h)))) else (if (r7.1 == (1 : Int)) = true then ((spec_l2float.f (l1Cur.mk a0.b r7.2.i r7.2.h)).bind fun r29 => (some ((Item.mk (2 : Int) (0 : Int) r29.1 ([] : (List Int))), (l1Cur.mk a0.b r29.2.i r29.2.h)))) else (if (r7.1 == (2 : Int)) = true then ((spec_l1Below.f (l1Cur.mk a0.b r7.2.i r7.2.h) (64 : Int)).bind fun r42 => (some ((Item.mk (2 : Int) (0 : Int) (far .quo (FloatKind.f64.nearest (IntKind.wrap .i64 (r42.1 - (32 : Int)))) (4616189618054758400 : Nat)) ([] : (List Int))), (l1Cur.mk a0.b r42.2.i r42.2.h)))) else ((if (r7.1 == (3 : Int)) = true then ((spec_l1Once.f (l1Cur.mk a0.b r7.2.i r7.2.h) (5 : Int)).bind fun r58 => (if r58.1 = true then ((spec_l1some.f (l1Cur.mk a0.b r58.2.i r58.2.h) (40 : Int)).bind fun r64 => (some (Sum.inr ((Item.mk (3 : Int) (0 : Int) (0 : Nat) r64.1), (l1Cur.mk a0.b r64.2.i r64.2.h))))) else (some (Sum.inl (r58.2.i, r58.2.h))))) else (some (Sum.inl (r7.2.i, r7.2.h)))).bind (sel fun y54 => ((spec_l1number.f (l1Cur.mk a0.b y54.1 y54.2)).bind fun r84 => (some ((Item.mk (1 : Int) r84.1 (0 : Nat) ([] : (List Int))), (l1Cur.mk a0.b r84.2.i r84.2.h))))))))))
def spec_l3value.Q (w : World) (F : Nat → Prop) (p0 : Nat) (w0_0 : Value) (r : Item × l1Cur) (v : Value) (w' : World) : Prop :=
 ∃ (v0 : Value) (v1 : Value), v = (.agg #[(iI r.1.Kind), (iI r.1.N), v0, v1]) ∧ FO kd29 w w' [(iI r.1.Kind), (iI r.1.N), v0, v1] r.1 ∧ BlW w' p0 184 [w0_0, (iI r.2.i), (iI r.2.h)] ∧ Ky [p0] w w'
theorem spec_l3value.calls (a0 : l1Cur) (w : World) (F : Nat → Prop) (p0 : Nat) (w0_0 : Value) (h0_0 : Xx.rd w [w0_0] a0.b F) (hb0 : BlW w p0 184 [w0_0, (iI a0.i), (iI a0.h)]) (hF : ∀ b, F b → b ∉ [p0]) (r : Item × l1Cur) (m : spec_l3value.f a0 = some r) :
  Calls prog 161 #[(pB p0)] w (RT (spec_l3value.Q w F p0 w0_0) r) := by
 obtain ⟨s0, rfl, kp0, z⟩ := start1 w F [p0] hF
 have A0_0 := z.rd h0_0
 refine Xc (args := [(pB p0)]) func161 ntmps161 rfl rfl m ?_
 unfold spec_l3value.f
 refine sr (al (cs := [(iI 0), (iI 0), (.float .f64 0), (.slice none 0 0)]) 40 rfl rfl rfl rfl rfl o29 rfl (fun b3 s3 p3 B3 => ?_))
 refine dn (sq (sr (Xb rfl ?_)))
 have K5 := kp0.st p3 rfl
 have A8 := BlF.st (z.bl hb0 (by simp)) p3 rfl
 refine clB A8 rfl func74 rfl (spec_l1Below.calls a0 (5 : Int) s3.w (mm [0] s3) p0 w0_0 (A0_0.kp K5) A8.w (A8.apart rfl)) (fun r7 s9 p9 B9 => ?_)
 refine dn (bl (sr (Xb rfl (Xb rfl (dn (cd rfl (fun h11 => ?_) (fun h11 => ?_)))))))
 ·
  refine sr (Xb rfl ?_)
  have K12 := K5.st p9 rfl
  refine cl' rfl func165 rfl (spec_l1some.calls (l1Cur.mk a0.b r7.2.i r7.2.h) (8 : Int) s9.w (mm [0] s9) p0 w0_0 (A0_0.kp K12) B9.w (B9.apart rfl)) ?_
  rintro r14 v14_0 w14 m14 ⟨f14_0, bw14, ky14⟩
  obtain ⟨s15, rfl, p15, n15, g15⟩ := nwb 42 B9 ky14
  have A14_0 := f14_0.c n15
  refine bd (cells := [(iI 3), (iI 0), (.float .f64 0), v14_0]) pl29 o29 rfl rfl rfl rfl rfl (lfill_pc (pc_c rfl (pc_c (oc A14_0.rd.one) pc_n)) rfl) (sva' (vs := [(iI 3), (iI 0), (.float .f64 0), v14_0]) (B3.st (Xq p9 p15) rfl) z29 rfl (Xe rfl (Xe rfl (Xe (FL.one (fl_c rfl)) (Xe A14_0.rd.one on_nil)))) rfl (fun s19 p19 B19 => ?_))
  refine dn ?_
  have A21 : OwF kd29 s19 [(iI 3), (iI 0), (.float .f64 0), v14_0] (Item.mk (3 : Int) (0 : Int) (0 : Nat) r14.1) 42 := (ow_isoz (fun x : Item => (x.Kind, x.N, x.F, x.T)) (Item.mk (3 : Int) (0 : Int) (0 : Nat) r14.1) (ow_l (Xo .i64 (3 : Int)) (ow_l (Xo .i64 (0 : Int)) (ow_l (fz_flt (fl_c rfl)) (A14_0.st p19 rfl)))))
  have K24 := K12.st (Xq p15 p19) rfl
  exact re rfl func161 rfl (r_b B19 u29 rfl z29 rfl Xg) rfl ⟨_, rfl, (.float .f64 0), v14_0, rfl, A21.fo K24 rfl z.l, (BlF.w (BlF.st (blf_mk bw14 g15) p19 rfl)), z.ky K24⟩
 refine sr (Xb rfl (Xb rfl (dn (cd rfl (fun h26 => ?_) (fun h26 => ?_)))))
 ·
  refine sr (Xb rfl ?_)
  have K27 := K5.st p9 rfl
  refine cl' rfl func164 rfl (spec_l2float.calls (l1Cur.mk a0.b r7.2.i r7.2.h) s9.w (mm [0] s9) p0 w0_0 (A0_0.kp K27) B9.w (B9.apart rfl)) ?_
  rintro r29 v29_0 w29 m29 ⟨f29_0, bw29, ky29⟩
  obtain ⟨s30, rfl, p30, n30, g30⟩ := nwb 43 B9 ky29
  refine bd (cells := [(iI 2), (iI 0), v29_0, (.slice none 0 0)]) pl29 o29 rfl rfl rfl rfl rfl (lfill_pc (pc_c rfl (pc_c (oc (FL.one f29_0)) pc_n)) rfl) (sva' (vs := [(iI 2), (iI 0), v29_0, (.slice none 0 0)]) (B3.st (Xq p9 p30) rfl) z29 rfl (Xe rfl (Xe rfl (Xe (FL.one f29_0) (Xe rfl on_nil)))) rfl (fun s33 p33 B33 => ?_))
  refine dn ?_
  have A35 : OwF kd29 s33 [(iI 2), (iI 0), v29_0, (.slice none 0 0)] (Item.mk (2 : Int) (0 : Int) r29.1 ([] : (List Int))) 44 := ow_z _ _ (fz_iso (fun x : Item => (x.Kind, x.N, x.F, x.T)) (Item.mk (2 : Int) (0 : Int) r29.1 ([] : (List Int))) (fz_pair (Xo .i64 (2 : Int)) (fz_pair (Xo .i64 (0 : Int)) (fz_pair (fz_flt f29_0) (fz_nil 5 (Kd.int .u8))))))
  have K37 := K27.st (Xq p30 p33) rfl
  exact re rfl func161 rfl (r_b B33 u29 rfl z29 rfl Xg) rfl ⟨_, rfl, v29_0, (.slice none 0 0), rfl, A35.fo K37 rfl z.l, (BlF.w (BlF.st (blf_mk bw29 g30) p33 rfl)), z.ky K37⟩
 refine sr (Xb rfl (Xb rfl (dn (cd rfl (fun h39 => ?_) (fun h39 => ?_)))))
 ·
  refine sr (Xb rfl ?_)
  have K40 := K5.st p9 rfl
  refine clB B9 rfl func74 rfl (spec_l1Below.calls (l1Cur.mk a0.b r7.2.i r7.2.h) (64 : Int) s9.w (mm [0] s9) p0 w0_0 (A0_0.kp K40) B9.w (B9.apart rfl)) (fun r42 s43 p43 B43 => ?_)
  refine Xb rfl (i2f u27 u3 rfl rfl rfl rfl rfl rfl (fun v45 A45 => ?_))
  refine fa_ A45 (fl_c rfl) (by simp) rfl rfl rfl rfl rfl rfl rfl (fun v46 s46 p46 A46 => ?_)
  refine bd (cells := [(iI 2), (iI 0), v46, (.slice none 0 0)]) pl29 o29 rfl rfl rfl rfl rfl (lfill_pc (pc_c rfl (pc_c (oc (FL.one A46)) pc_n)) rfl) (sva' (vs := [(iI 2), (iI 0), v46, (.slice none 0 0)]) (B3.st (tr3 p9 p43 p46) rfl) z29 rfl (Xe rfl (Xe rfl (Xe (FL.one A46) (Xe rfl on_nil)))) rfl (fun s48 p48 B48 => ?_))
  refine dn ?_
  have A50 : OwF kd29 s48 [(iI 2), (iI 0), v46, (.slice none 0 0)] (Item.mk (2 : Int) (0 : Int) (far .quo (FloatKind.f64.nearest (IntKind.wrap .i64 (r42.1 - (32 : Int)))) (4616189618054758400 : Nat)) ([] : (List Int))) 46 := ow_z _ _ (fz_iso (fun x : Item => (x.Kind, x.N, x.F, x.T)) (Item.mk (2 : Int) (0 : Int) (far .quo (FloatKind.f64.nearest (IntKind.wrap .i64 (r42.1 - (32 : Int)))) (4616189618054758400 : Nat)) ([] : (List Int))) (fz_pair (Xo .i64 (2 : Int)) (fz_pair (Xo .i64 (0 : Int)) (fz_pair (fz_flt A46) (fz_nil 5 (Kd.int .u8))))))
  have K52 := K40.st (tr3 p43 p46 p48) rfl
  exact re rfl func161 rfl (r_b B48 u29 rfl z29 rfl Xg) rfl ⟨_, rfl, v46, (.slice none 0 0), rfl, A50.fo K52 rfl z.l, (BlF.w (B43.st (Xq p46 p48) rfl)), z.ky K52⟩
 refine sr (Xb rfl (Xb rfl (dn (jr (fun (y54 : Int × Int) e w => ∃ (s : St) (e0 : Env), w = s.w ∧ e = upd (upd e0 0 (pB p0)) 2 (pB b3) ∧ Kp s0 s ∧ BlF s p0 184 [w0_0, (iI y54.1), (iI y54.2)] 2 ∧ BlF s b3 29 [(iI 0), (iI 0), (.float .f64 0), (.slice none 0 0)] 40) (fun Gj54 Kj54 hG54 => ?_) ?_))))
 ·
  refine cd rfl (fun h55 => ?_) (fun h55 => ?_)
  ·
   refine sr (Xb rfl ?_)
   have K56 := K5.st p9 rfl
   refine clB B9 rfl func72 rfl (spec_l1Once.calls (l1Cur.mk a0.b r7.2.i r7.2.h) (5 : Int) s9.w (mm [0] s9) p0 w0_0 (A0_0.kp K56) B9.w (B9.apart rfl)) (fun r58 s59 p59 B59 => ?_)
   refine dn (cd rfl (fun h61 => ?_) (fun h61 => ?_))
   ·
    refine sr (Xb rfl ?_)
    have K62 := K56.st p59 rfl
    refine cl' rfl func165 rfl (spec_l1some.calls (l1Cur.mk a0.b r58.2.i r58.2.h) (40 : Int) s59.w (mm [0] s59) p0 w0_0 (A0_0.kp K62) B59.w (B59.apart rfl)) ?_
    rintro r64 v64_0 w64 m64 ⟨f64_0, bw64, ky64⟩
    obtain ⟨s65, rfl, p65, n65, g65⟩ := nwb 48 B59 ky64
    have A64_0 := f64_0.c n65
    refine bd (cells := [(iI 3), (iI 0), (.float .f64 0), v64_0]) pl29 o29 rfl rfl rfl rfl rfl (lfill_pc (pc_c rfl (pc_c (oc A64_0.rd.one) pc_n)) rfl) (sva' (vs := [(iI 3), (iI 0), (.float .f64 0), v64_0]) (B3.st (tr3 p9 p59 p65) rfl) z29 rfl (Xe rfl (Xe rfl (Xe (FL.one (fl_c rfl)) (Xe A64_0.rd.one on_nil)))) rfl (fun s69 p69 B69 => ?_))
    refine dn (jri hG54 ?_)
    have A71 : OwF kd29 s69 [(iI 3), (iI 0), (.float .f64 0), v64_0] (Item.mk (3 : Int) (0 : Int) (0 : Nat) r64.1) 48 := (ow_isoz (fun x : Item => (x.Kind, x.N, x.F, x.T)) (Item.mk (3 : Int) (0 : Int) (0 : Nat) r64.1) (ow_l (Xo .i64 (3 : Int)) (ow_l (Xo .i64 (0 : Int)) (ow_l (fz_flt (fl_c rfl)) (A64_0.st p69 rfl)))))
    have K74 := K62.st (Xq p65 p69) rfl
    exact re rfl func161 rfl (r_b B69 u29 rfl z29 rfl Xg) rfl ⟨_, rfl, (.float .f64 0), v64_0, rfl, A71.fo K74 rfl z.l, (BlF.w (BlF.st (blf_mk bw64 g65) p69 rfl)), z.ky K74⟩
   exact sk (Kj54 _ _ _ ⟨s59, _, rfl, (ue (ue rfl rfl) rfl), (K56.st p59 rfl), B59, (B3.st (Xq p9 p59) rfl)⟩)
  exact sk (Kj54 _ _ _ ⟨s9, _, rfl, (ue (ue rfl rfl) rfl), (K5.st p9 rfl), B9, (B3.st p9 rfl)⟩)
 rintro y54 _ _ ⟨s80, _, rfl, rfl, Ky54, By54_p0, By54_b3⟩
 refine ib (sr (Xb rfl ?_))
 refine clB By54_p0 rfl func230 rfl (spec_l1number.calls (l1Cur.mk a0.b y54.1 y54.2) s80.w (mm [0] s80) p0 w0_0 (A0_0.kp Ky54) By54_p0.w (By54_p0.apart rfl)) (fun r84 s85 p85 B85 => ?_)
 refine bd (cells := [(iI 1), (iI r84.1), (.float .f64 0), (.slice none 0 0)]) pl29 o29 rfl rfl rfl rfl rfl rfl (sva' (vs := [(iI 1), (iI r84.1), (.float .f64 0), (.slice none 0 0)]) (By54_b3.st p85 rfl) z29 rfl (Xe rfl (Xe rfl (Xe (FL.one (fl_c rfl)) (Xe rfl on_nil)))) rfl (fun s88 p88 B88 => ?_))
 refine dn ?_
 have A90 : OwF kd29 s88 [(iI 1), (iI r84.1), (.float .f64 0), (.slice none 0 0)] (Item.mk (1 : Int) r84.1 (0 : Nat) ([] : (List Int))) 50 := ow_z _ _ (fz_iso (fun x : Item => (x.Kind, x.N, x.F, x.T)) (Item.mk (1 : Int) r84.1 (0 : Nat) ([] : (List Int))) (fz_pair (Xo .i64 (1 : Int)) (fz_pair (Xo .i64 r84.1) (fz_pair (fz_flt (fl_c rfl)) (fz_nil 5 (Kd.int .u8))))))
 have K92 := Ky54.st (Xq p85 p88) rfl
 exact re rfl func161 rfl (r_b B88 u29 rfl z29 rfl Xg) rfl ⟨_, rfl, (.float .f64 0), (.slice none 0 0), rfl, A90.fo K92 rfl z.l, (BlF.w (B85.st p88 rfl)), z.ky K92⟩
def spec_l5in.f (a0 : Int) (a1 : Int) (a2 : Int) : Option (Bool) :=
 (some ((decide (a0 ≥ a1)) && (decide (a0 ≤ a2))))
def spec_l5in.Q (w : World) (F : Nat → Prop) (r : Bool) (v : Value) (w' : World) : Prop :=
 v = (.bool r) ∧ Ky [] w w'
theorem spec_l5in.calls (a0 : Int) (a1 : Int) (a2 : Int) (w : World) (F : Nat → Prop)   (r : Bool) (m : spec_l5in.f a0 a1 a2 = some r) :
  Calls prog 83 #[(iI a0), (iI a1), (iI a2)] w (RT (spec_l5in.Q w F) r) := by
 obtain ⟨s0, rfl, kp0, z⟩ := Xi w F
 refine Xc (args := [(iI a0), (iI a1), (iI a2)]) func83 ntmps83 rfl rfl m ?_
 unfold spec_l5in.f
 refine sr (Xb rfl (dn (sr (Xb rfl (Xb rfl (Xb rfl (Xb rfl (jy [10, 11, 12, 13, 14] [8] 14 (.bool ((decide (a0 ≥ a1)) && (decide (a0 ≤ a2)))) rfl (fun Kg1 => ?_) (fun j1 => ?_)))))))))
 ·
  rcases bft (decide (a0 ≥ a1)) with hb1 | hb1
  ·
   exact Xv hb1 (Xb rfl (Xb rfl (Xb rfl (Xb rfl (Kg1 _ (Ag.put ((Ag.put ((Ag.put ((Ag.put (Ag.base rfl) rfl)) rfl)) rfl)) rfl) (by rw [hb1]; rfl))))))
  exact Xv hb1 (Xj rfl (Xj rfl (Xj rfl (Xb rfl (Kg1 _ (Ag.put ((Ag.put ((Ag.put ((Ag.put (Ag.base rfl) rfl)) rfl)) rfl)) rfl) (by rw [hb1]; rfl))))))
 exact Xb rfl (dn (re rfl func83 rfl (Xs rfl Xg) rfl ⟨_, rfl, rfl, z.ky kp0⟩))
def spec_KeyOk.f (a0 : Item) : Option (Bool) :=
 ((spec_ItemOk.f a0).bind fun r6 => ((if (r6 && (a0.Kind != (0 : Int))) = true then ((if (fcmp .f64 a0.F (0 : Nat) == some .eq) = true then ((spec_FloatBits.f a0.F).bind fun r13 => (some (r13 != (0 : Int)))) else (some false)).bind fun y12 => (some (!y12))) else (some false)).bind fun y10 => (some y10)))
def spec_KeyOk.Q (w : World) (F : Nat → Prop) (r : Bool) (v : Value) (w' : World) : Prop :=
 v = (.bool r) ∧ Ky [] w w'
theorem spec_KeyOk.calls (a0 : Item) (w : World) (F : Nat → Prop) (w0_0 : Value) (w0_1 : Value) (h0_0 : Kd.flt.rd w [w0_0] a0.F F) (h0_1 : Xx.rd w [w0_1] a0.T F) (r : Bool) (m : spec_KeyOk.f a0 = some r) :
  Calls prog 26 #[(.agg #[(iI a0.Kind), (iI a0.N), w0_0, w0_1])] w (RT (spec_KeyOk.Q w F) r) := by
 obtain ⟨s0, rfl, kp0, z⟩ := Xi w F
 have A0_0 := Xu h0_0
 refine Xc (args := [(.agg #[(iI a0.Kind), (iI a0.N), w0_0, w0_1])]) func26 ntmps26 rfl rfl m ?_
 unfold spec_KeyOk.f
 refine sr (bx' (cs := [(iI a0.Kind), (iI a0.N), w0_0, w0_1]) 40 rfl rfl (fun b2 s2 p2 B2 => ?_))
 refine Xb rfl (dn (sr (lda' (es := [(iI a0.Kind), (iI a0.N), w0_0, w0_1]) B2 u29 z29 rfl ?_)))
 have K4 := kp0.st p2 rfl
 refine clV 41 rfl func105 rfl (spec_ItemOk.calls a0 s2.w (mm [0] s2) w0_0 w0_1 ((Xk (s := s2) A0_0).sub (D := [0]) rfl) ((z.rd h0_1).kp K4)) (fun r6 s7 p7 n7 => ?_)
 refine Xb rfl (jy [5, 6, 7, 8, 9] [7, 8, 9, 10, 11, 12, 13, 14, 15, 16, 17, 18, 19] 9 (.bool (r6 && (a0.Kind != (0 : Int)))) rfl (fun Kg8 => ?_) (fun j8 => ?_))
 ·
  rcases bft r6 with hb8 | hb8
  ·
   refine Xv hb8 (fa' fa29_0 rfl ?_)
   exact ld' (B2.st p7 rfl) u3 rfl (Xb rfl (Xb rfl (Kg8 _ (Ag.put ((Ag.put ((Ag.put ((Ag.put (Ag.base rfl) rfl)) rfl)) rfl)) rfl) (by rw [hb8]; rfl))))
  exact Xv hb8 (Xj rfl (Xj rfl (Xj rfl (Xb rfl (Kg8 _ (Ag.put ((Ag.put ((Ag.put ((Ag.put (Ag.base rfl) rfl)) rfl)) rfl)) rfl) (by rw [hb8]; rfl))))))
 refine Xb rfl (ji [19] (fun (y10 : Bool) e w => ∃ (s : St) (e0 : Env), w = s.w ∧ e = upd e0 21 (.bool y10) ∧ Kp s0 s) (fun Gj10 Kj10 => ?_) ?_)
 ·
  rcases bft (r6 && (a0.Kind != (0 : Int))) with hb10 | hb10
  ·
   refine Xv hb10 ?_
   rw [if_pos hb10]
   refine fa' fa29_2 rfl ?_
   have A11 := B2.st p7 rfl
   refine ld' A11 u27 rfl (fq_ A0_0 (fl_c rfl) rfl rfl rfl rfl rfl rfl rfl rfl (Xb rfl (ji [17, 18, 19] (fun (y12 : Bool) e w => ∃ (s : St) (e0 : Env), w = s.w ∧ e = upd (upd e0 10 (.bool true)) 19 (.bool y12) ∧ Kp s0 s) (fun Gj12 Kj12 => ?_) ?_)))
   ·
    rcases bft (fcmp .f64 a0.F (0 : Nat) == some .eq) with hb12 | hb12
    ·
     refine Xv hb12 ?_
     rw [if_pos hb12]
     refine fa' fa29_2 rfl (ld' A11 u27 rfl (clV 42 rfl func95 rfl (spec_FloatBits.calls a0.F s7.w (mm [] s7) w0_0 (Xk (s := s7) A0_0)) (fun r13 s14 p14 n14 => ?_)))
     refine Xb rfl (Xb rfl ?_)
     exact Kj12 _ _ _ ⟨s14, _, rfl, (ue (ue rfl rfl) rfl), (K4.st (Xq p7 p14) rfl)⟩
    refine Xv hb12 ?_
    rw [if_neg (by rw [hb12]; decide)]
    refine Xj rfl (Xj rfl (Xj rfl (Xj rfl (Xb rfl ?_))))
    exact Kj12 _ _ _ ⟨s7, _, rfl, (ue (ue rfl rfl) rfl), (K4.st p7 rfl)⟩
   rintro y12 _ _ ⟨s17, _, rfl, rfl, Ky12⟩
   exact Xb rfl (Xb rfl (Kj10 _ _ _ ⟨s17, _, rfl, (ue rfl rfl), Ky12⟩))
  refine Xv hb10 ?_
  rw [if_neg (by rw [hb10]; decide)]
  refine Xj rfl (Xj rfl (Xj rfl (Xj rfl (Xj rfl (Xj rfl (Xj rfl (Xj rfl (Xj rfl (Xj rfl (Xb rfl ?_))))))))))
  exact Kj10 _ _ _ ⟨s7, _, rfl, (ue rfl rfl), (K4.st p7 rfl)⟩
 rintro y10 _ _ ⟨s19, _, rfl, rfl, Ky10⟩
 exact Xb rfl (dn (re rfl func26 rfl (Xs rfl Xg) rfl ⟨_, rfl, rfl, z.ky Ky10⟩))
def spec_FloatRank.f (a0 : Nat) : Option (Int) :=
 ((spec_FloatBits.f a0).bind fun r1 => (if (r1 == (9221120237041090560 : Int)) = true then (some (18446744073709551615 : Int)) else (if (fcmp .f64 a0 (0 : Nat) == some .eq) = true then (some (9223372036854775808 : Int)) else (if ((ishr .u64 r1 (63 : Int)) == (1 : Int)) = true then (some (ixor .u64 (IntKind.max .u64) r1)) else (some (ior .u64 r1 (9223372036854775808 : Int)))))))
def spec_FloatRank.Q (w : World) (F : Nat → Prop) (r : Int) (v : Value) (w' : World) : Prop :=
 v = (.int .u64 r) ∧ Ky [] w w'
theorem spec_FloatRank.calls (a0 : Nat) (w : World) (F : Nat → Prop) (w0_0 : Value) (h0_0 : Kd.flt.rd w [w0_0] a0 F) (r : Int) (m : spec_FloatRank.f a0 = some r) :
  Calls prog 197 #[w0_0] w (RT (spec_FloatRank.Q w F) r) := by
 obtain ⟨s0, rfl, kp0, z⟩ := Xi w F
 have A0_0 := Xu h0_0
 refine Xc (args := [w0_0]) func197 ntmps197 rfl rfl m ?_
 unfold spec_FloatRank.f
 refine sr (Xb rfl (dn (sr (Xp w0_0 rfl (clV 40 rfl func95 rfl (spec_FloatBits.calls a0 s0.w (mm [] s0) w0_0 (Xk (s := s0) A0_0)) (fun r1 s2 p2 n2 => ?_))))))
 refine Xb rfl (dn (sq (sr (Xb rfl (Xb rfl (dn (cd rfl (fun h3 => ?_) (fun h3 => ?_))))))))
 ·
  refine sr (Xb rfl (dn ?_))
  exact re rfl func197 rfl (Xs rfl Xg) rfl ⟨_, rfl, rfl, z.ky (kp0.st p2 rfl)⟩
 refine sk (sq (sr (Xp w0_0 rfl (fq_ A0_0 (fl_c rfl) rfl rfl rfl rfl rfl rfl rfl rfl (dn (cd rfl (fun h5 => ?_) (fun h5 => ?_)))))))
 ·
  refine sr (Xb rfl (dn ?_))
  exact re rfl func197 rfl (Xs rfl Xg) rfl ⟨_, rfl, rfl, z.ky (kp0.st p2 rfl)⟩
 refine sk (sq (sr (Xb rfl (shrK rfl rfl rfl rfl rfl rfl rfl rfl (Xb rfl (dn (cd rfl (fun h7 => ?_) (fun h7 => ?_))))))))
 ·
  refine sr (Xb rfl (Xb rfl (Xb rfl (dn ?_))))
  exact re rfl func197 rfl (Xs rfl Xg) rfl ⟨_, rfl, rfl, z.ky (kp0.st p2 rfl)⟩
 refine sk (sr (Xb rfl (Xb rfl (Xb rfl (dn ?_)))))
 exact re rfl func197 rfl (Xs rfl Xg) rfl ⟨_, rfl, rfl, z.ky (kp0.st p2 rfl)⟩
def spec_l1PickInt.f (a0 : l1Cur) (a1 : (List Int)) : Option (Int × l1Cur) :=
 ((spec_l1Below.f a0 (a1.length : Int)).bind fun r4 => (if 0 ≤ r4.1 ∧ r4.1 < (a1.length : Int) then (some ((at_ a1 r4.1), (l1Cur.mk a0.b r4.2.i r4.2.h))) else none))
def spec_l1PickInt.Q (w : World) (F : Nat → Prop) (p0 : Nat) (w0_0 : Value) (r : Int × l1Cur) (v : Value) (w' : World) : Prop :=
 v = (iI r.1) ∧ BlW w' p0 184 [w0_0, (iI r.2.i), (iI r.2.h)] ∧ Ky [p0] w w'
theorem spec_l1PickInt.calls (a0 : l1Cur) (a1 : (List Int)) (w : World) (F : Nat → Prop) (p0 : Nat) (w0_0 : Value) (w1_0 : Value) (h0_0 : Xx.rd w [w0_0] a0.b F) (h1_0 : Xy.rd w [w1_0] a1 F) (hb0 : BlW w p0 184 [w0_0, (iI a0.i), (iI a0.h)]) (hF : ∀ b, F b → b ∉ [p0]) (r : Int × l1Cur) (m : spec_l1PickInt.f a0 a1 = some r) :
  Calls prog 75 #[(pB p0), w1_0] w (RT (spec_l1PickInt.Q w F p0 w0_0) r) := by
 obtain ⟨s0, rfl, kp0, z⟩ := start1 w F [p0] hF
 have B0 := z.bl hb0 (by simp)
 have A1_0 := z.rd h1_0
 refine Xc (args := [(pB p0), w1_0]) func75 ntmps75 rfl rfl m ?_
 unfold spec_l1PickInt.f
 refine sr (Xb rfl (dn (sr (Xp w1_0 rfl (Xb rfl (Xp w1_0 rfl (ln' A1_0 u50 rfl (clB B0 rfl func74 rfl (spec_l1Below.calls a0 (a1.length : Int) s0.w (mm [0] s0) p0 w0_0 (z.rd h0_0) B0.w (B0.apart rfl)) (fun r4 s5 p5 B5 => ?_)))))))))
 have K7 := kp0.st p5 rfl
 refine ix' (A1_0.kp K7) u50 z3 rfl (fun ad9 es9 h0_9 h1_9 he9 ce9 ia9 => ?_)
 obtain rfl := he9
 exact lc0' ce9 u3 rfl (Xb rfl (dn (re rfl func75 rfl (Xs rfl Xg) rfl ⟨_, rfl, rfl, B5.w, z.ky K7⟩)))
def spec_l3any.b0 (a0 : l1Cur) (x122 : Int × Int × (List Int)) : Option ((Int × Int × (List Int)) ⊕ (Int × Int × Int × Int × Nat × (List Int))) :=
 ((spec_l1Below.f (l1Cur.mk a0.b x122.1 x122.2.1) (2 : Int)).bind fun r144 => (if (decide ((x122.2.2.length : Int) < (IntKind.wrap .i64 ((40 : Int) + r144.1)))) = true then (if x122.2.2.length + ([(120 : Int)]).length ≤ Lim then (some (Sum.inl (r144.2.i, r144.2.h, (x122.2.2 ++ [(120 : Int)])))) else none) else ((some (r144.2.i, r144.2.h, (3 : Int), (0 : Int), (0 : Nat), x122.2.2)).bind fun o => some (Sum.inr o))))
def spec_l3any.f (a0 : l1Cur) : Option (Item × l1Cur) :=
 ((spec_l3value.f a0).bind fun r7 => ((spec_l1Once.f (l1Cur.mk a0.b r7.2.i r7.2.h) (2 : Int)).bind fun r19 => ((if r19.1 = true then ((spec_l3key.f (l1Cur.mk a0.b r19.2.i r19.2.h)).bind fun r27 => (some (r27.2.i, r27.2.h, r27.1.Kind, r27.1.N, r27.1.F, r27.1.T))) else (some (r19.2.i, r19.2.h, r7.1.Kind, r7.1.N, r7.1.F, r7.1.T))).bind fun y23 => ((spec_l1Below.f (l1Cur.mk a0.b y23.1 y23.2.1) (14 : Int)).bind fun r52 => ((if (r52.1 == (0 : Int)) = true then ((spec_l1Below.f (l1Cur.mk a0.b r52.2.i r52.2.h) (7 : Int)).bind fun r59 => (some (r59.2.i, r59.2.h, (IntKind.wrap .i64 (r59.1 - (1 : Int))), y23.2.2.2.1, y23.2.2.2.2.1, y23.2.2.2.2.2))) else ((if (r52.1 == (1 : Int)) = true then (some (r52.2.i, r52.2.h, y23.2.2.1, (IntKind.wrap .i64 (y23.2.2.2.1 + (1 : Int))), y23.2.2.2.2.1, y23.2.2.2.2.2)) else ((if (r52.1 == (2 : Int)) = true then ((spec_l2float.f (l1Cur.mk a0.b r52.2.i r52.2.h)).bind fun r82 => (some (r82.2.i, r82.2.h, y23.2.2.1, y23.2.2.2.1, r82.1, y23.2.2.2.2.2))) else ((if (r52.1 == (3 : Int)) = true then ((spec_l1some.f (l1Cur.mk a0.b r52.2.i r52.2.h) (3 : Int)).bind fun r103 => (if y23.2.2.2.2.2.length + r103.1.length ≤ Lim then (some (r103.2.i, r103.2.h, y23.2.2.1, y23.2.2.2.1, y23.2.2.2.2.1, (y23.2.2.2.2.2 ++ r103.1))) else none)) else ((if (r52.1 == (4 : Int)) = true then (iter (spec_l3any.b0 a0) (r52.2.i, r52.2.h, y23.2.2.2.2.2)) else ((if (r52.1 == (5 : Int)) = true then (some ((2 : Int), (0 : Int), (fneg (0 : Nat)), ([] : (List Int)))) else (some (y23.2.2.1, y23.2.2.2.1, y23.2.2.2.2.1, y23.2.2.2.2.2))).bind fun y177 => (some (r52.2.i, r52.2.h, y177.1, y177.2.1, y177.2.2.1, y177.2.2.2)))).bind fun y120 => (some (y120.1, y120.2.1, y120.2.2.1, y120.2.2.2.1, y120.2.2.2.2.1, y120.2.2.2.2.2)))).bind fun y92 => (some (y92.1, y92.2.1, y92.2.2.1, y92.2.2.2.1, y92.2.2.2.2.1, y92.2.2.2.2.2)))).bind fun y78 => (some (y78.1, y78.2.1, y78.2.2.1, y78.2.2.2.1, y78.2.2.2.2.1, y78.2.2.2.2.2)))).bind fun y69 => (some (y69.1, y69.2.1, y69.2.2.1, y69.2.2.2.1, y69.2.2.2.2.1, y69.2.2.2.2.2)))).bind fun y55 => (some ((Item.mk y55.2.2.1 y55.2.2.2.1 y55.2.2.2.2.1 y55.2.2.2.2.2), (l1Cur.mk a0.b y55.1 y55.2.1))))))))
def spec_l3any.Q (w : World) (F : Nat → Prop) (p0 : Nat) (w0_0 : Value) (r : Item × l1Cur) (v : Value) (w' : World) : Prop :=
 ∃ (v0 : Value) (v1 : Value), v = (.agg #[(iI r.1.Kind), (iI r.1.N), v0, v1]) ∧ FO kd29 w w' [(iI r.1.Kind), (iI r.1.N), v0, v1] r.1 ∧ BlW w' p0 184 [w0_0, (iI r.2.i), (iI r.2.h)] ∧ Ky [p0] w w'
theorem spec_l3any.calls (a0 : l1Cur) (w : World) (F : Nat → Prop) (p0 : Nat) (w0_0 : Value) (h0_0 : Xx.rd w [w0_0] a0.b F) (hb0 : BlW w p0 184 [w0_0, (iI a0.i), (iI a0.h)]) (hF : ∀ b, F b → b ∉ [p0]) (r : Item × l1Cur) (m : spec_l3any.f a0 = some r) :
  Calls prog 76 #[(pB p0)] w (RT (spec_l3any.Q w F p0 w0_0) r) := by
 obtain ⟨s0, rfl, kp0, z⟩ := start1 w F [p0] hF
 have A0_0 := z.rd h0_0
 refine Xc (args := [(pB p0)]) func76 ntmps76 rfl rfl m ?_
 unfold spec_l3any.f
 refine sr (al (cs := [(iI 0), (iI 0), (.float .f64 0), (.slice none 0 0)]) 40 rfl rfl rfl rfl rfl o29 rfl (fun b3 s3 p3 B3 => ?_))
 refine dn (sr (Xb rfl ?_))
 have K5 := kp0.st p3 rfl
 have A8 := BlF.st (z.bl hb0 (by simp)) p3 rfl
 refine cl' rfl func161 rfl (spec_l3value.calls a0 s3.w (mm [0] s3) p0 w0_0 (A0_0.kp K5) A8.w (A8.apart rfl)) ?_
 rintro r7 _ w7 m7 ⟨v7_0, v7_1, rfl, f7_0, bw7, ky7⟩
 obtain ⟨s9, rfl, p9, n9, g9⟩ := nwb 41 A8 ky7
 obtain ⟨hu7_0_0, Au7_0_1⟩ := ap29 (f7_0.c n9)
 refine al (cs := [(iI 0), (iI 0), (.float .f64 0), (.slice none 0 0)]) 42 rfl rfl rfl rfl rfl o29 rfl (fun b12 s12 p12 B12 => ?_)
 have A14 := Au7_0_1.st p12 rfl
 refine sva' (vs := [(iI r7.1.Kind), (iI r7.1.N), v7_0, v7_1]) B12 z29 rfl (Xe rfl (Xe rfl (Xe (FL.one hu7_0_0) (Xe A14.rd.one on_nil)))) rfl (fun s15 p15 B15 => ?_)
 refine dn (sq (sr (Xb rfl ?_)))
 have K17 := K5.st (tr3 p9 p12 p15) rfl
 have A20 := BlF.st (blf_mk bw7 g9) (Xq p12 p15) rfl
 refine clB A20 rfl func72 rfl (spec_l1Once.calls (l1Cur.mk a0.b r7.2.i r7.2.h) (2 : Int) s15.w (mm [0] s15) p0 w0_0 (A0_0.kp K17) A20.w (A20.apart rfl)) (fun r19 s21 p21 B21 => ?_)
 refine dn (jc (fun (y23 : Int × Int × Int × Int × Nat × (List Int)) e w => ∃ (s : St) (e0 : Env) (vy23_0 uy23_0 : Value), w = s.w ∧ e = upd (upd (upd e0 0 (pB p0)) 2 (pB b3)) 3 (pB b12) ∧ Kp s0 s ∧ OwF Xx s [vy23_0] y23.2.2.2.2.2 44 ∧ FL uy23_0 y23.2.2.2.2.1 ∧ BlF s p0 184 [w0_0, (iI y23.1), (iI y23.2.1)] 2 ∧ BlF s b12 29 [(iI y23.2.2.1), (iI y23.2.2.2.1), uy23_0, vy23_0] 42 ∧ BlF s b3 29 [(iI 0), (iI 0), (.float .f64 0), (.slice none 0 0)] 40) (fun Gj23 Kj23 => ?_) ?_)
 ·
  refine cd rfl (fun h24 => ?_) (fun h24 => ?_)
  ·
   refine rg (Xb rfl ?_)
   have K25 := K17.st p21 rfl
   refine cl' rfl func98 rfl (spec_l3key.calls (l1Cur.mk a0.b r19.2.i r19.2.h) s21.w (mm [0] s21) p0 w0_0 (A0_0.kp K25) B21.w (B21.apart rfl)) ?_
   rintro r27 _ w27 m27 ⟨v27_0, v27_1, rfl, f27_0, bw27, ky27⟩
   obtain ⟨s28, rfl, p28, n28, g28⟩ := nwb 45 B21 ky27
   obtain ⟨hu27_0_0, Au27_0_1⟩ := ap29 (f27_0.c n28)
   refine sva' (vs := [(iI r27.1.Kind), (iI r27.1.N), v27_0, v27_1]) (B15.st (Xq p21 p28) rfl) z29 rfl (Xe rfl (Xe rfl (Xe (FL.one hu27_0_0) (Xe Au27_0_1.rd.one on_nil)))) rfl (fun s32 p32 B32 => ?_)
   refine dn ?_
   obtain ⟨s35, hw35, p35, A35⟩ := (Au27_0_1.st p32 rfl).rc 44 rfl
   rw [hw35]
   exact Kj23 _ _ _ ⟨s35, _, v27_1, v27_0, rfl, (ue (ue (ue rfl rfl) rfl) rfl), (K25.st (tr3 p28 p32 p35) rfl), A35, hu27_0_0, (BlF.st (blf_mk bw27 g28) (Xq p32 p35) rfl), (B32.st p35 rfl), (B3.st (tr7 p9 p12 p15 p21 p28 p32 p35) rfl)⟩
  refine sk ?_
  obtain ⟨s41, hw41, p41, A41⟩ := (A14.st (Xq p15 p21) rfl).rc 44 rfl
  rw [hw41]
  exact Kj23 _ _ _ ⟨s41, _, v7_1, v7_0, rfl, (ue (ue (ue rfl rfl) rfl) rfl), (K17.st (Xq p21 p41) rfl), A41, hu7_0_0, (B21.st p41 rfl), (B15.st (Xq p21 p41) rfl), (B3.st (tr5 p9 p12 p15 p21 p41) rfl)⟩
 rintro y23 _ _ ⟨s46, _, vy23_0, uy23_0, rfl, rfl, Ky23, Ay23_0, Fy23_0, By23_p0, By23_b12, By23_b3⟩
 refine sq (sr (Xb rfl ?_))
 refine clB By23_p0 rfl func74 rfl (spec_l1Below.calls (l1Cur.mk a0.b y23.1 y23.2.1) (14 : Int) s46.w (mm [0] s46) p0 w0_0 (A0_0.kp Ky23) By23_p0.w (By23_p0.apart rfl)) (fun r52 s53 p53 B53 => ?_)
 refine dn (bl (sr (Xb rfl (Xb rfl (dn (jc (fun (y55 : Int × Int × Int × Int × Nat × (List Int)) e w => ∃ (s : St) (e0 : Env) (vy55_0 uy55_0 : Value), w = s.w ∧ e = upd (upd e0 2 (pB b3)) 3 (pB b12) ∧ Kp s0 s ∧ OwF Xx s [vy55_0] y55.2.2.2.2.2 44 ∧ FL uy55_0 y55.2.2.2.2.1 ∧ BlF s p0 184 [w0_0, (iI y55.1), (iI y55.2.1)] 2 ∧ BlF s b12 29 [(iI y55.2.2.1), (iI y55.2.2.2.1), uy55_0, vy55_0] 42 ∧ BlF s b3 29 [(iI 0), (iI 0), (.float .f64 0), (.slice none 0 0)] 40) (fun Gj55 Kj55 => ?_) ?_))))))
 ·
  refine cd rfl (fun h56 => ?_) (fun h56 => ?_)
  ·
   refine rg (Xb rfl ?_)
   have K57 := Ky23.st p53 rfl
   refine clB B53 rfl func74 rfl (spec_l1Below.calls (l1Cur.mk a0.b r52.2.i r52.2.h) (7 : Int) s53.w (mm [0] s53) p0 w0_0 (A0_0.kp K57) B53.w (B53.apart rfl)) (fun r59 s60 p60 B60 => ?_)
   refine Xb rfl (fa' fa29_0 rfl ?_)
   refine sv (By23_b12.st (Xq p53 p60) rfl) z3 rfl rfl rfl rfl rfl rfl rfl rfl (fun s63 p63 B63 => ?_)
   exact dn (Kj55 _ _ _ ⟨s63, _, vy23_0, uy23_0, rfl, (ue (ue rfl rfl) rfl), (K57.st (Xq p60 p63) rfl), (Ay23_0.st (tr3 p53 p60 p63) rfl), Fy23_0, (B60.st p63 rfl), B63, (By23_b3.st (tr3 p53 p60 p63) rfl)⟩)
  refine sr (Xb rfl (Xb rfl (dn (jc (fun (y69 : Int × Int × Int × Int × Nat × (List Int)) e w => ∃ (s : St) (e0 : Env) (vy69_0 uy69_0 : Value), w = s.w ∧ e = upd (upd e0 2 (pB b3)) 3 (pB b12) ∧ Kp s0 s ∧ OwF Xx s [vy69_0] y69.2.2.2.2.2 44 ∧ FL uy69_0 y69.2.2.2.2.1 ∧ BlF s p0 184 [w0_0, (iI y69.1), (iI y69.2.1)] 2 ∧ BlF s b12 29 [(iI y69.2.2.1), (iI y69.2.2.2.1), uy69_0, vy69_0] 42 ∧ BlF s b3 29 [(iI 0), (iI 0), (.float .f64 0), (.slice none 0 0)] 40) (fun Gj69 Kj69 => ?_) ?_))))
  ·
   refine cd rfl (fun h70 => ?_) (fun h70 => ?_)
   ·
    refine rg (fa' fa29_1 rfl ?_)
    have A71 := By23_b12.st p53 rfl
    refine ld' A71 u3 rfl (Xb rfl (fa' fa29_1 rfl (sv A71 z3 rfl rfl rfl rfl rfl rfl rfl rfl (fun s72 p72 B72 => ?_))))
    exact dn (Kj69 _ _ _ ⟨s72, _, vy23_0, uy23_0, rfl, (ue (ue rfl rfl) rfl), (Ky23.st (Xq p53 p72) rfl), (Ay23_0.st (Xq p53 p72) rfl), Fy23_0, (B53.st p72 rfl), B72, (By23_b3.st (Xq p53 p72) rfl)⟩)
   refine sr (Xb rfl (Xb rfl (dn (jc (fun (y78 : Int × Int × Int × Int × Nat × (List Int)) e w => ∃ (s : St) (e0 : Env) (vy78_0 uy78_0 : Value), w = s.w ∧ e = upd (upd e0 2 (pB b3)) 3 (pB b12) ∧ Kp s0 s ∧ OwF Xx s [vy78_0] y78.2.2.2.2.2 44 ∧ FL uy78_0 y78.2.2.2.2.1 ∧ BlF s p0 184 [w0_0, (iI y78.1), (iI y78.2.1)] 2 ∧ BlF s b12 29 [(iI y78.2.2.1), (iI y78.2.2.2.1), uy78_0, vy78_0] 42 ∧ BlF s b3 29 [(iI 0), (iI 0), (.float .f64 0), (.slice none 0 0)] 40) (fun Gj78 Kj78 => ?_) ?_))))
   ·
    refine cd rfl (fun h79 => ?_) (fun h79 => ?_)
    ·
     refine rg (Xb rfl ?_)
     have K80 := Ky23.st p53 rfl
     refine cl' rfl func164 rfl (spec_l2float.calls (l1Cur.mk a0.b r52.2.i r52.2.h) s53.w (mm [0] s53) p0 w0_0 (A0_0.kp K80) B53.w (B53.apart rfl)) ?_
     rintro r82 v82_0 w82 m82 ⟨f82_0, bw82, ky82⟩
     obtain ⟨s83, rfl, p83, n83, g83⟩ := nwb 48 B53 ky82
     refine fa' fa29_2 rfl (sv (By23_b12.st (Xq p53 p83) rfl) z27 rfl rfl rfl rfl rfl rfl (FL.one f82_0) rfl (fun s86 p86 B86 => ?_))
     exact dn (Kj78 _ _ _ ⟨s86, _, vy23_0, v82_0, rfl, (ue (ue rfl rfl) rfl), (K80.st (Xq p83 p86) rfl), (Ay23_0.st (tr3 p53 p83 p86) rfl), f82_0, (BlF.st (blf_mk bw82 g83) p86 rfl), B86, (By23_b3.st (tr3 p53 p83 p86) rfl)⟩)
    refine sr (Xb rfl (Xb rfl (dn (jc (fun (y92 : Int × Int × Int × Int × Nat × (List Int)) e w => ∃ (s : St) (e0 : Env) (vy92_0 uy92_0 : Value), w = s.w ∧ e = upd (upd e0 2 (pB b3)) 3 (pB b12) ∧ Kp s0 s ∧ OwF Xx s [vy92_0] y92.2.2.2.2.2 44 ∧ FL uy92_0 y92.2.2.2.2.1 ∧ BlF s p0 184 [w0_0, (iI y92.1), (iI y92.2.1)] 2 ∧ BlF s b12 29 [(iI y92.2.2.1), (iI y92.2.2.2.1), uy92_0, vy92_0] 42 ∧ BlF s b3 29 [(iI 0), (iI 0), (.float .f64 0), (.slice none 0 0)] 40) (fun Gj92 Kj92 => ?_) ?_))))
    ·
     refine cd rfl (fun h93 => ?_) (fun h93 => ?_)
     ·
      refine zdraw [[], [0], [], [2], [1, 3, 3], [0, 1, 2, 3, 4], [5, 4, 4, 0, 1, 2, 3, 4]] [some 32, some 33, some 34, some 35, some 36, some 37, none] [[3], [32], [0], [34], [33, 35], [3], [37, 36]] [0, 1, 2, 3, 4, 5, 6] ⟨by kernel_rfl, by kernel_rfl, by kernel_rfl⟩ (by kernel_rfl) (fun s94 p94 l94 tb94 zd94 => ?_)
      refine zstep 3 [some 33, some 32] tb94 (((zd94.add 0 32 (pO b12 3) rfl).add 1 33 vy23_0 rfl).add 2 34 (pB p0) rfl) (Xa (Xd rfl) rfl (Xa (Xr (By23_b12.st (Xq p53 p94) rfl) u22 rfl) rfl (Xa (Xm fa29_3 rfl) rfl Xh))) (by kernel_rfl) rfl (fun l99 e99 zd99 => ?_)
      have K101 := Ky23.st (Xq p53 p94) rfl
      have A104 := B53.st p94 rfl
      refine cl' rfl func165 rfl (spec_l1some.calls (l1Cur.mk a0.b r52.2.i r52.2.h) (3 : Int) s94.w (mm [0] s94) p0 w0_0 (A0_0.kp K101) A104.w (A104.apart rfl)) ?_
      rintro r103 v103_0 w103 m103 ⟨f103_0, bw103, ky103⟩
      obtain ⟨s105, rfl, p105, n105, g105⟩ := nwb 49 A104 ky103
      refine zdone (L' := [1, 0]) (D' := [2, 3]) zd99 rfl rfl rfl (fun zd108 => ?_)
      refine zfin [4, 5, 6] tb94 zd108 (Xa (Xr (By23_b12.st (tr3 p53 p94 p105) rfl) u22 rfl) rfl (Xa (Xm fa29_3 rfl) rfl Xh)) (by kernel_rfl) (by decide) (apF Xw sl22 (Ay23_0.st (tr3 p53 p94 p105) rfl) (f103_0.c n105).rd rfl rfl rfl rfl rfl rfl rfl (fun v111 s111 p111 A111 => ?_))
      refine fa' fa29_3 rfl (sv (By23_b12.st (tr4 p53 p94 p105 p111) rfl) z22 rfl rfl rfl rfl rfl rfl A111.rd.one rfl (fun s114 p114 B114 => ?_))
      exact dn (Kj92 _ _ _ ⟨s114, _, v111, uy23_0, rfl, (ue (ue rfl rfl) rfl), (K101.st (tr3 p105 p111 p114) rfl), (A111.st p114 rfl), Fy23_0, (BlF.st (blf_mk bw103 g105) (Xq p111 p114) rfl), B114, (By23_b3.st (tr5 p53 p94 p105 p111 p114) rfl)⟩)
     refine sr (Xb rfl (Xb rfl (dn (jc (fun (y120 : Int × Int × Int × Int × Nat × (List Int)) e w => ∃ (s : St) (e0 : Env) (vy120_0 uy120_0 : Value), w = s.w ∧ e = upd (upd e0 2 (pB b3)) 3 (pB b12) ∧ Kp s0 s ∧ OwF Xx s [vy120_0] y120.2.2.2.2.2 44 ∧ FL uy120_0 y120.2.2.2.2.1 ∧ BlF s p0 184 [w0_0, (iI y120.1), (iI y120.2.1)] 2 ∧ BlF s b12 29 [(iI y120.2.2.1), (iI y120.2.2.2.1), uy120_0, vy120_0] 42 ∧ BlF s b3 29 [(iI 0), (iI 0), (.float .f64 0), (.slice none 0 0)] 40) (fun Gj120 Kj120 => ?_) ?_))))
     ·
      refine cd rfl (fun h121 => ?_) (fun h121 => ?_)
      ·
       refine sq (bl ?_)
       refine lpI (fun (x122 : Int × Int × (List Int)) e w => ∃ (s : St) (e0 : Env) (vx122_0 : Value), w = s.w ∧ e = upd (upd (upd e0 0 (pB p0)) 2 (pB b3)) 3 (pB b12) ∧ Kp s0 s ∧ OwF Xx s [vx122_0] x122.2.2 44 ∧ BlF s p0 184 [w0_0, (iI x122.1), (iI x122.2.1)] 2 ∧ BlF s b12 29 [(iI y23.2.2.1), (iI y23.2.2.2.1), uy23_0, vx122_0] 42 ∧ BlF s b3 29 [(iI 0), (iI 0), (.float .f64 0), (.slice none 0 0)] 40) ⟨s53, _, vy23_0, rfl, (ue (ue (ue rfl rfl) rfl) rfl), (Ky23.st p53 rfl), (Ay23_0.st p53 rfl), B53, (By23_b12.st p53 rfl), (By23_b3.st p53 rfl)⟩ (fun g122 ih122 => ?_)
       rintro x122 _ _ ⟨s127, _, vx122_0, rfl, rfl, Kx122, Ax122_0, Bx122_p0, Bx122_b12, Bx122_b3⟩
       unfold spec_l3any.b0
       refine sq (sq (zdraw [[], [0], [1], [], [3], [4], [2, 5]] [some 40, some 41, some 42, some 43, some 44, some 45, some 46] [[3], [40], [41], [0], [43], [44], [42, 45]] [0, 1, 2, 3, 4, 5, 6] ⟨by kernel_rfl, by kernel_rfl, by kernel_rfl⟩ (by kernel_rfl) (fun s132 p132 l132 tb132 zd132 => ?_)))
       refine zstep 4 [some 42, some 41, some 40] tb132 ((((zd132.add 0 40 (pO b12 3) rfl).add 1 41 vx122_0 rfl).add 2 42 (iI (x122.2.2.length : Int)) rfl).add 3 43 (pB p0) rfl) (Xa (Xd rfl) rfl (Xa (ln_q (Ax122_0.st p132 rfl).rd u22 rfl rfl rfl rfl rfl rfl) rfl (Xa (Xr (Bx122_b12.st p132 rfl) u22 rfl) rfl (Xa (Xm fa29_3 rfl) rfl Xh)))) (by kernel_rfl) rfl (fun l139 e139 zd139 => ?_)
       have K142 := Kx122.st p132 rfl
       have A145 := Bx122_p0.st p132 rfl
       refine clB A145 rfl func74 rfl (spec_l1Below.calls (l1Cur.mk a0.b x122.1 x122.2.1) (2 : Int) s132.w (mm [0] s132) p0 w0_0 (A0_0.kp K142) A145.w (A145.apart rfl)) (fun r144 s146 p146 B146 => ?_)
       refine zdone (L' := [2, 1, 0]) (D' := [3, 4]) zd139 rfl rfl rfl (fun zd148 => ?_)
       refine zfin [6] tb132 (zd148.add 5 45 (iI (IntKind.wrap .i64 ((40 : Int) + r144.1))) rfl) (Xa (Xd rfl) rfl (Xa (ln_q (Ax122_0.st (Xq p132 p146) rfl).rd u22 rfl rfl rfl rfl rfl rfl) rfl (Xa (Xr (Bx122_b12.st (Xq p132 p146) rfl) u22 rfl) rfl (Xa (Xm fa29_3 rfl) rfl Xh)))) (by kernel_rfl) (by decide) (Xb rfl (dn (cd rfl (fun h152 => ?_) (fun h152 => ?_))))
       ·
        refine sk (bl (rg (fa' fa29_3 rfl ?_)))
        have A153 := Bx122_b12.st (Xq p132 p146) rfl
        refine ld' A153 u22 rfl (ltF' (K := (Kd.int .u8)) (cells := [(.int .u8 (120 : Int))]) [(120 : Int)] 51 Xw u22 z5 o5 (fun w => (els_flat _ _ _)) rfl (fun v154 s154 p154 A154 => ?_))
        refine apF Xw sl22 (Ax122_0.st (tr3 p132 p146 p154) rfl) A154.rd rfl rfl rfl rfl rfl rfl rfl (fun v157 s157 p157 A157 => ?_)
        refine fa' fa29_3 rfl (sv (A153.st (Xq p154 p157) rfl) z22 rfl rfl rfl rfl rfl rfl A157.rd.one rfl (fun s160 p160 B160 => ?_))
        refine dn (ib ?_)
        exact lb ih122 ⟨s160, _, v157, rfl, (ue (ue (ue rfl rfl) rfl) rfl), (K142.st (tr4 p146 p154 p157 p160) rfl), (A157.st p160 rfl), (B146.st (tr3 p154 p157 p160) rfl), B160, (Bx122_b3.st (tr5 p132 p146 p154 p157 p160) rfl)⟩
       refine xt rfl (sgb (sr (fa' fa29_0 rfl ?_)))
       refine sv (Bx122_b12.st (Xq p132 p146) rfl) z3 rfl rfl rfl rfl rfl rfl rfl rfl (fun s167 p167 B167 => ?_)
       refine dn (sr (fa' fa29_1 rfl (sv B167 z3 rfl rfl rfl rfl rfl rfl rfl rfl (fun s169 p169 B169 => ?_))))
       refine dn (rg (fa' fa29_2 rfl (sv B169 z27 rfl rfl rfl rfl rfl rfl (FL.one (fl_c rfl)) rfl (fun s171 p171 B171 => ?_))))
       exact dn (Kj120 _ _ _ ⟨s171, _, vx122_0, (.float .f64 0), rfl, (ue (ue rfl rfl) rfl), (K142.st (tr4 p146 p167 p169 p171) rfl), (Ax122_0.st (tr5 p132 p146 p167 p169 p171) rfl), (fl_c rfl), (B146.st (tr3 p167 p169 p171) rfl), B171, (Bx122_b3.st (tr5 p132 p146 p167 p169 p171) rfl)⟩)
      refine sr (Xb rfl (Xb rfl (dn (jc (fun (y177 : Int × Int × Nat × (List Int)) e w => ∃ (s : St) (e0 : Env) (vy177_0 uy177_0 : Value), w = s.w ∧ e = upd (upd e0 2 (pB b3)) 3 (pB b12) ∧ Kp s0 s ∧ OwF Xx s [vy177_0] y177.2.2.2 44 ∧ FL uy177_0 y177.2.2.1 ∧ BlF s p0 184 [w0_0, (iI r52.2.i), (iI r52.2.h)] 2 ∧ BlF s b12 29 [(iI y177.1), (iI y177.2.1), uy177_0, vy177_0] 42 ∧ BlF s b3 29 [(iI 0), (iI 0), (.float .f64 0), (.slice none 0 0)] 40) (fun Gj177 Kj177 => ?_) ?_))))
      ·
       refine cd rfl (fun h178 => ?_) (fun h178 => ?_)
       ·
        refine sr (asg' (.float .f64 0) rfl (dn (rg (Xp (.float .f64 0) rfl (fng_ (fl_c rfl) rfl rfl rfl rfl rfl rfl (fun v179 A179 => ?_))))))
        refine bd (cells := [(iI 2), (iI 0), v179, (.slice none 0 0)]) pl29 o29 rfl rfl rfl rfl rfl (lfill_pc (pc_c rfl (pc_c (oc (FL.one A179)) pc_n)) rfl) (sva' (vs := [(iI 2), (iI 0), v179, (.slice none 0 0)]) (By23_b12.st p53 rfl) z29 rfl (Xe rfl (Xe rfl (Xe (FL.one A179) (Xe rfl on_nil)))) rfl (fun s181 p181 B181 => ?_))
        exact dn (Kj177 _ _ _ ⟨s181, _, (.slice none 0 0), v179, rfl, (ue (ue rfl rfl) rfl), (Ky23.st (Xq p53 p181) rfl), (ow_nil 5 (Kd.int .u8) _ 44), A179, (B53.st p181 rfl), B181, (By23_b3.st (Xq p53 p181) rfl)⟩)
       exact sk (Kj177 _ _ _ ⟨s53, _, vy23_0, uy23_0, rfl, (ue (ue rfl rfl) rfl), (Ky23.st p53 rfl), (Ay23_0.st p53 rfl), Fy23_0, B53, (By23_b12.st p53 rfl), (By23_b3.st p53 rfl)⟩)
      rintro y177 _ _ ⟨s190, _, vy177_0, uy177_0, rfl, rfl, Ky177, Ay177_0, Fy177_0, By177_p0, By177_b12, By177_b3⟩
      exact Kj120 _ _ _ ⟨s190, _, vy177_0, uy177_0, rfl, (ue (ue rfl rfl) rfl), Ky177, Ay177_0, Fy177_0, By177_p0, By177_b12, By177_b3⟩
     rintro y120 _ _ ⟨s195, _, vy120_0, uy120_0, rfl, rfl, Ky120, Ay120_0, Fy120_0, By120_p0, By120_b12, By120_b3⟩
     exact Kj92 _ _ _ ⟨s195, _, vy120_0, uy120_0, rfl, (ue (ue rfl rfl) rfl), Ky120, Ay120_0, Fy120_0, By120_p0, By120_b12, By120_b3⟩
    rintro y92 _ _ ⟨s200, _, vy92_0, uy92_0, rfl, rfl, Ky92, Ay92_0, Fy92_0, By92_p0, By92_b12, By92_b3⟩
    exact Kj78 _ _ _ ⟨s200, _, vy92_0, uy92_0, rfl, (ue (ue rfl rfl) rfl), Ky92, Ay92_0, Fy92_0, By92_p0, By92_b12, By92_b3⟩
   rintro y78 _ _ ⟨s205, _, vy78_0, uy78_0, rfl, rfl, Ky78, Ay78_0, Fy78_0, By78_p0, By78_b12, By78_b3⟩
   exact Kj69 _ _ _ ⟨s205, _, vy78_0, uy78_0, rfl, (ue (ue rfl rfl) rfl), Ky78, Ay78_0, Fy78_0, By78_p0, By78_b12, By78_b3⟩
  rintro y69 _ _ ⟨s210, _, vy69_0, uy69_0, rfl, rfl, Ky69, Ay69_0, Fy69_0, By69_p0, By69_b12, By69_b3⟩
  exact Kj55 _ _ _ ⟨s210, _, vy69_0, uy69_0, rfl, (ue (ue rfl rfl) rfl), Ky69, Ay69_0, Fy69_0, By69_p0, By69_b12, By69_b3⟩
 rintro y55 _ _ ⟨s215, _, vy55_0, uy55_0, rfl, rfl, Ky55, Ay55_0, Fy55_0, By55_p0, By55_b12, By55_b3⟩
 refine ib (sr (lda' (es := [(iI y55.2.2.1), (iI y55.2.2.2.1), uy55_0, vy55_0]) By55_b12 u29 z29 rfl (sva' (vs := [(iI y55.2.2.1), (iI y55.2.2.2.1), uy55_0, vy55_0]) By55_b3 z29 rfl (Xe rfl (Xe rfl (Xe (FL.one Fy55_0) (Xe Ay55_0.rd.one on_nil)))) rfl (fun s220 p220 B220 => ?_))))
 refine dn ?_
 have A222 : OwF kd29 s220 [(iI y55.2.2.1), (iI y55.2.2.2.1), uy55_0, vy55_0] (Item.mk y55.2.2.1 y55.2.2.2.1 y55.2.2.2.2.1 y55.2.2.2.2.2) 44 := (ow_isoz (fun x : Item => (x.Kind, x.N, x.F, x.T)) (Item.mk y55.2.2.1 y55.2.2.2.1 y55.2.2.2.2.1 y55.2.2.2.2.2) (ow_l (Xo .i64 y55.2.2.1) (ow_l (Xo .i64 y55.2.2.2.1) (ow_l (fz_flt Fy55_0) (Ay55_0.st p220 rfl)))))
 have K225 := Ky55.st p220 rfl
 exact re rfl func76 rfl (r_b B220 u29 rfl z29 rfl Xg) rfl ⟨_, rfl, uy55_0, vy55_0, rfl, A222.fo K225 rfl z.l, (BlF.w (By55_p0.st p220 rfl)), z.ky K225⟩
def impl_within.f (a0 : Int) (a1 : Int) (a2 : Int) : Option (Bool) :=
 (some ((decide (a1 ≤ a0)) && (decide (a0 ≤ a2))))
def impl_within.Q (w : World) (F : Nat → Prop) (r : Bool) (v : Value) (w' : World) : Prop :=
 v = (.bool r) ∧ Ky [] w w'
theorem impl_within.calls (a0 : Int) (a1 : Int) (a2 : Int) (w : World) (F : Nat → Prop)   (r : Bool) (m : impl_within.f a0 a1 a2 = some r) :
  Calls prog 94 #[(iI a0), (iI a1), (iI a2)] w (RT (impl_within.Q w F) r) := by
 obtain ⟨s0, rfl, kp0, z⟩ := Xi w F
 refine Xc (args := [(iI a0), (iI a1), (iI a2)]) func94 ntmps94 rfl rfl m ?_
 unfold impl_within.f
 refine sr (Xb rfl (dn (sr (Xb rfl (Xb rfl (Xb rfl (Xb rfl (jy [10, 11, 12, 13, 14] [8] 14 (.bool ((decide (a1 ≤ a0)) && (decide (a0 ≤ a2)))) rfl (fun Kg1 => ?_) (fun j1 => ?_)))))))))
 ·
  rcases bft (decide (a1 ≤ a0)) with hb1 | hb1
  ·
   exact Xv hb1 (Xb rfl (Xb rfl (Xb rfl (Xb rfl (Kg1 _ (Ag.put ((Ag.put ((Ag.put ((Ag.put (Ag.base rfl) rfl)) rfl)) rfl)) rfl) (by rw [hb1]; rfl))))))
  exact Xv hb1 (Xj rfl (Xj rfl (Xj rfl (Xb rfl (Kg1 _ (Ag.put ((Ag.put ((Ag.put ((Ag.put (Ag.base rfl) rfl)) rfl)) rfl)) rfl) (by rw [hb1]; rfl))))))
 exact Xb rfl (dn (re rfl func94 rfl (Xs rfl Xg) rfl ⟨_, rfl, rfl, z.ky kp0⟩))
def impl_FloatRank.f (a0 : Nat) : Option (Int) :=
 (if (fcmp .f64 a0 a0 != some .eq) = true then (some (18446744073709551615 : Int)) else (if (fcmp .f64 a0 (0 : Nat) == some .eq) = true then (some (9223372036854775808 : Int)) else (if (fcmp .f64 a0 (0 : Nat) == some .gt) = true then (if isN a0 = false then (some (ior .u64 (a0 : Int) (9223372036854775808 : Int))) else none) else (if isN a0 = false then (some (ixor .u64 (IntKind.max .u64) (a0 : Int))) else none))))
def impl_FloatRank.Q (w : World) (F : Nat → Prop) (r : Int) (v : Value) (w' : World) : Prop :=
 v = (.int .u64 r) ∧ Ky [] w w'
theorem impl_FloatRank.calls (a0 : Nat) (w : World) (F : Nat → Prop) (w0_0 : Value) (h0_0 : Kd.flt.rd w [w0_0] a0 F) (r : Int) (m : impl_FloatRank.f a0 = some r) :
  Calls prog 236 #[w0_0] w (RT (impl_FloatRank.Q w F) r) := by
 obtain ⟨s0, rfl, kp0, z⟩ := Xi w F
 have A0_0 := Xu h0_0
 refine Xc (args := [w0_0]) func236 ntmps236 rfl rfl m ?_
 unfold impl_FloatRank.f
 refine sr (Xb rfl (dn (sq (bl (sr (Xp w0_0 rfl (Xp w0_0 rfl (fq_ A0_0 A0_0 rfl rfl rfl rfl rfl rfl rfl rfl (Xb rfl (dn (cd rfl (fun h1 => ?_) (fun h1 => ?_))))))))))))
 ·
  exact sr (Xb rfl (dn (re rfl func236 rfl (Xs rfl Xg) rfl ⟨_, rfl, rfl, z.ky kp0⟩)))
 refine sr (Xp w0_0 rfl (fq_ A0_0 (fl_c rfl) rfl rfl rfl rfl rfl rfl rfl rfl (Xb rfl (dn (cd rfl (fun h2 => ?_) (fun h2 => ?_))))))
 ·
  exact sr (Xb rfl (dn (re rfl func236 rfl (Xs rfl Xg) rfl ⟨_, rfl, rfl, z.ky kp0⟩)))
 refine sr (Xp w0_0 rfl (fq_ A0_0 (fl_c rfl) rfl rfl rfl rfl rfl rfl rfl rfl (Xb rfl (dn (cd rfl (fun h3 => ?_) (fun h3 => ?_))))))
 ·
  exact sr (Xp w0_0 rfl (fb_ A0_0 rfl rfl rfl rfl rfl func190 rfl rfl xn190 xf190 rfl (Xb rfl (Xb rfl (dn (re rfl func236 rfl (Xs rfl Xg) rfl ⟨_, rfl, rfl, z.ky kp0⟩))))))
 exact sk (ib (sr (Xp w0_0 rfl (fb_ A0_0 rfl rfl rfl rfl rfl func190 rfl rfl xn190 xf190 rfl (Xb rfl (Xb rfl (dn (re rfl func236 rfl (Xs rfl Xg) rfl ⟨_, rfl, rfl, z.ky kp0⟩))))))))
def impl_ItemOk.f (a0 : Item) : Option (Bool) :=
 ((impl_within.f a0.Kind (0 : Int) (3 : Int)).bind fun r4 => (some (((r4 && ((a0.N == (0 : Int)) || (a0.Kind == (1 : Int)))) && (((a0.F : Int) == 0) || (a0.Kind == (2 : Int)))) && (((a0.T.length : Int) == (0 : Int)) || ((a0.Kind == (3 : Int)) && (decide ((a0.T.length : Int) ≤ (40 : Int))))))))
def impl_ItemOk.Q (w : World) (F : Nat → Prop) (r : Bool) (v : Value) (w' : World) : Prop :=
 v = (.bool r) ∧ Ky [] w w'
theorem impl_ItemOk.calls (a0 : Item) (w : World) (F : Nat → Prop) (w0_0 : Value) (w0_1 : Value) (h0_0 : Kd.flt.rd w [w0_0] a0.F F) (h0_1 : Xx.rd w [w0_1] a0.T F) (r : Bool) (m : impl_ItemOk.f a0 = some r) :
  Calls prog 170 #[(.agg #[(iI a0.Kind), (iI a0.N), w0_0, w0_1])] w (RT (impl_ItemOk.Q w F) r) := by
 obtain ⟨s0, rfl, kp0, z⟩ := Xi w F
 refine Xc (args := [(.agg #[(iI a0.Kind), (iI a0.N), w0_0, w0_1])]) func170 ntmps170 rfl rfl m ?_
 unfold impl_ItemOk.f
 refine sr (bx' (cs := [(iI a0.Kind), (iI a0.N), w0_0, w0_1]) 40 rfl rfl (fun b2 s2 p2 B2 => ?_))
 refine Xb rfl (dn (sr (fa' fa29_0 rfl (ld' B2 u3 rfl (clV 41 rfl func94 rfl (impl_within.calls a0.Kind (0 : Int) (3 : Int) s2.w (mm [] s2)) (fun r4 s5 p5 n5 => ?_))))))
 refine Xb rfl (jy [6, 7, 8, 9, 10, 11, 12, 13, 14, 15] [13, 14, 15, 16, 17, 18, 19, 20, 21, 22, 23, 24, 25, 26, 27, 28, 29, 30, 31, 32, 33, 34, 35, 36, 37, 38, 39, 40, 41] 15 (.bool (r4 && ((a0.N == (0 : Int)) || (a0.Kind == (1 : Int))))) rfl (fun Kg6 => ?_) (fun j6 => ?_))
 ·
  rcases bft r4 with hb6 | hb6
  ·
   refine Xv hb6 (fa' fa29_1 rfl ?_)
   have A7 := B2.st p5 rfl
   refine ld' A7 u3 rfl (Xb rfl (Xb rfl (jy [10, 11, 12, 13, 14] [12, 13, 14, 15, 16, 17, 18, 19, 20, 21, 22, 23, 24, 25, 26, 27, 28, 29, 30, 31, 32, 33, 34, 35, 36, 37, 38, 39, 40, 41] 14 (.bool ((a0.N == (0 : Int)) || (a0.Kind == (1 : Int)))) rfl (fun Kg8 => ?_) (fun j8 => ?_))))
   ·
    rcases bft (a0.N == (0 : Int)) with hb8 | hb8
    ·
     exact Xv hb8 (Xj rfl (Xj rfl (Xj rfl (Xb rfl (Kg8 _ (Ag.put ((Ag.put ((Ag.put ((Ag.put (Ag.base rfl) rfl)) rfl)) rfl)) rfl) (by rw [hb8]; rfl))))))
    exact Xv hb8 (fa' fa29_0 rfl (ld' A7 u3 rfl (Xb rfl (Xb rfl (Kg8 _ (Ag.put ((Ag.put ((Ag.put ((Ag.put (Ag.base rfl) rfl)) rfl)) rfl)) rfl) (by rw [hb8]; rfl))))))
   exact Xb rfl (Kg6 _ (Ag.put ((Ag.put ((Ag.ov ((Ag.put ((Ag.put ((Ag.put ((Ag.put (Ag.base rfl) rfl)) rfl)) rfl)) rfl)) rfl)) rfl)) rfl) (by rw [hb6]; rfl))
  exact Xv hb6 (Xj rfl (Xj rfl (Xj rfl (Xj rfl (Xj rfl (Xj rfl (Xj rfl (Xj rfl (Xb rfl (Kg6 _ (Ag.put ((Ag.put ((Ag.put ((Ag.put ((Ag.put ((Ag.put ((Ag.put ((Ag.put ((Ag.put (Ag.base rfl) rfl)) rfl)) rfl)) rfl)) rfl)) rfl)) rfl)) rfl)) rfl) (by rw [hb6]; rfl)))))))))))
 refine Xb rfl (jy [16, 17, 18, 19, 20, 21, 22, 23, 24, 25, 26] [24, 25, 26, 27, 28, 29, 30, 31, 32, 33, 34, 35, 36, 37, 38, 39, 40, 41] 26 (.bool ((r4 && ((a0.N == (0 : Int)) || (a0.Kind == (1 : Int)))) && (((a0.F : Int) == 0) || (a0.Kind == (2 : Int))))) rfl (fun Kg9 => ?_) (fun j9 => ?_))
 ·
  rcases bft (r4 && ((a0.N == (0 : Int)) || (a0.Kind == (1 : Int)))) with hb9 | hb9
  ·
   refine Xv hb9 (fa' fa29_2 rfl ?_)
   have A10 := B2.st p5 rfl
   refine ld' A10 u27 rfl (fbu (Xu h0_0) rfl rfl rfl rfl rfl func190 rfl rfl xn190 xf190 rfl (fun b11 A11 => ?_))
   refine fz0 A11 rfl rfl rfl rfl rfl rfl rfl (Xb rfl (jy [21, 22, 23, 24, 25] [23, 24, 25, 26, 27, 28, 29, 30, 31, 32, 33, 34, 35, 36, 37, 38, 39, 40, 41] 25 (.bool (((a0.F : Int) == 0) || (a0.Kind == (2 : Int)))) rfl (fun Kg12 => ?_) (fun j12 => ?_)))
   ·
    rcases bft ((a0.F : Int) == 0) with hb12 | hb12
    ·
     exact Xv hb12 (Xj rfl (Xj rfl (Xj rfl (Xb rfl (Kg12 _ (Ag.put ((Ag.put ((Ag.put ((Ag.put (Ag.base rfl) rfl)) rfl)) rfl)) rfl) (by rw [hb12]; rfl))))))
    exact Xv hb12 (fa' fa29_0 rfl (ld' A10 u3 rfl (Xb rfl (Xb rfl (Kg12 _ (Ag.put ((Ag.put ((Ag.put ((Ag.put (Ag.base rfl) rfl)) rfl)) rfl)) rfl) (by rw [hb12]; rfl))))))
   exact Xb rfl (Kg9 _ (Ag.put ((Ag.put ((Ag.ov ((Ag.put ((Ag.put ((Ag.put ((Ag.put ((Ag.put (Ag.base rfl) rfl)) rfl)) rfl)) rfl)) rfl)) rfl)) rfl)) rfl) (by rw [hb9]; rfl))
  exact Xv hb9 (Xj rfl (Xj rfl (Xj rfl (Xj rfl (Xj rfl (Xj rfl (Xj rfl (Xj rfl (Xj rfl (Xb rfl (Kg9 _ (Ag.put ((Ag.put ((Ag.put ((Ag.put ((Ag.put ((Ag.put ((Ag.put ((Ag.put ((Ag.put ((Ag.put (Ag.base rfl) rfl)) rfl)) rfl)) rfl)) rfl)) rfl)) rfl)) rfl)) rfl)) rfl) (by rw [hb9]; rfl))))))))))))
 refine Xb rfl (jy [27, 28, 29, 30, 31, 32, 33, 34, 35, 36, 37, 38, 39, 40, 41, 42, 43] [41] 43 (.bool (((r4 && ((a0.N == (0 : Int)) || (a0.Kind == (1 : Int)))) && (((a0.F : Int) == 0) || (a0.Kind == (2 : Int)))) && (((a0.T.length : Int) == (0 : Int)) || ((a0.Kind == (3 : Int)) && (decide ((a0.T.length : Int) ≤ (40 : Int))))))) rfl (fun Kg13 => ?_) (fun j13 => ?_))
 ·
  rcases bft ((r4 && ((a0.N == (0 : Int)) || (a0.Kind == (1 : Int)))) && (((a0.F : Int) == 0) || (a0.Kind == (2 : Int)))) with hb13 | hb13
  ·
   refine Xv hb13 (fa' fa29_3 rfl ?_)
   have A14 := B2.st p5 rfl
   refine ld' A14 u22 rfl ?_
   have A16 := (z.rd h0_1).kp (kp0.st (Xq p2 p5) rfl)
   refine ln' A16 u22 rfl (Xb rfl (Xb rfl (jy [32, 33, 34, 35, 36, 37, 38, 39, 40, 41, 42] [40, 41] 42 (.bool (((a0.T.length : Int) == (0 : Int)) || ((a0.Kind == (3 : Int)) && (decide ((a0.T.length : Int) ≤ (40 : Int)))))) rfl (fun Kg17 => ?_) (fun j17 => ?_))))
   ·
    rcases bft ((a0.T.length : Int) == (0 : Int)) with hb17 | hb17
    ·
     exact Xv hb17 (Xj rfl (Xj rfl (Xj rfl (Xj rfl (Xj rfl (Xj rfl (Xj rfl (Xj rfl (Xj rfl (Xb rfl (Kg17 _ (Ag.put ((Ag.put ((Ag.put ((Ag.put ((Ag.put ((Ag.put ((Ag.put ((Ag.put ((Ag.put ((Ag.put (Ag.base rfl) rfl)) rfl)) rfl)) rfl)) rfl)) rfl)) rfl)) rfl)) rfl)) rfl) (by rw [hb17]; rfl))))))))))))
    refine Xv hb17 (fa' fa29_0 rfl (ld' A14 u3 rfl (Xb rfl (Xb rfl (jy [36, 37, 38, 39, 40, 41] [39, 40, 41] 41 (.bool ((a0.Kind == (3 : Int)) && (decide ((a0.T.length : Int) ≤ (40 : Int))))) rfl (fun Kg18 => ?_) (fun j18 => ?_))))))
    ·
     rcases bft (a0.Kind == (3 : Int)) with hb18 | hb18
     ·
      exact Xv hb18 (fa' fa29_3 rfl (ld' A14 u22 rfl (ln' A16 u22 rfl (Xb rfl (Xb rfl (Kg18 _ (Ag.put ((Ag.put ((Ag.put ((Ag.put ((Ag.put (Ag.base rfl) rfl)) rfl)) rfl)) rfl)) rfl) (by rw [hb18]; rfl)))))))
     exact Xv hb18 (Xj rfl (Xj rfl (Xj rfl (Xj rfl (Xb rfl (Kg18 _ (Ag.put ((Ag.put ((Ag.put ((Ag.put ((Ag.put (Ag.base rfl) rfl)) rfl)) rfl)) rfl)) rfl) (by rw [hb18]; rfl)))))))
    exact Xb rfl (Kg17 _ (Ag.put ((Ag.put ((Ag.ov ((Ag.put ((Ag.put ((Ag.put ((Ag.put (Ag.base rfl) rfl)) rfl)) rfl)) rfl)) rfl)) rfl)) rfl) (by rw [hb17]; rfl))
   exact Xb rfl (Kg13 _ (Ag.put ((Ag.put ((Ag.ov ((Ag.put ((Ag.put ((Ag.put ((Ag.put ((Ag.put (Ag.base rfl) rfl)) rfl)) rfl)) rfl)) rfl)) rfl)) rfl)) rfl) (by rw [hb13]; rfl))
  refine Xv hb13 (Xj rfl (Xj rfl (Xj rfl (Xj rfl (Xj rfl (Xj rfl (Xj rfl (Xj rfl (Xj rfl (Xj rfl (Xj rfl (Xj rfl (Xj rfl (Xj rfl ?_))))))))))))))
  exact Xj rfl (Xb rfl (Kg13 _ (Ag.put ((Ag.put ((Ag.put ((Ag.put ((Ag.put ((Ag.put ((Ag.put ((Ag.put ((Ag.put ((Ag.put ((Ag.put ((Ag.put ((Ag.put ((Ag.put ((Ag.put ((Ag.put (Ag.base rfl) rfl)) rfl)) rfl)) rfl)) rfl)) rfl)) rfl)) rfl)) rfl)) rfl)) rfl)) rfl)) rfl)) rfl)) rfl)) rfl) (by rw [hb13]; rfl)))
 refine Xb rfl (dn ?_)
 exact re rfl func170 rfl (Xs rfl Xg) rfl ⟨_, rfl, rfl, z.ky (kp0.st (Xq p2 p5) rfl)⟩
def impl_KeyOk.f (a0 : Item) : Option (Bool) :=
 ((impl_ItemOk.f a0).bind fun r6 => (some ((r6 && (a0.Kind != (0 : Int))) && ((fcmp .f64 a0.F (0 : Nat) != some .eq) || ((a0.F : Int) == 0)))))
def impl_KeyOk.Q (w : World) (F : Nat → Prop) (r : Bool) (v : Value) (w' : World) : Prop :=
 v = (.bool r) ∧ Ky [] w w'
theorem impl_KeyOk.calls (a0 : Item) (w : World) (F : Nat → Prop) (w0_0 : Value) (w0_1 : Value) (h0_0 : Kd.flt.rd w [w0_0] a0.F F) (h0_1 : Xx.rd w [w0_1] a0.T F) (r : Bool) (m : impl_KeyOk.f a0 = some r) :
  Calls prog 100 #[(.agg #[(iI a0.Kind), (iI a0.N), w0_0, w0_1])] w (RT (impl_KeyOk.Q w F) r) := by
 obtain ⟨s0, rfl, kp0, z⟩ := Xi w F
 have A0_0 := Xu h0_0
 refine Xc (args := [(.agg #[(iI a0.Kind), (iI a0.N), w0_0, w0_1])]) func100 ntmps100 rfl rfl m ?_
 unfold impl_KeyOk.f
 refine sr (bx' (cs := [(iI a0.Kind), (iI a0.N), w0_0, w0_1]) 40 rfl rfl (fun b2 s2 p2 B2 => ?_))
 refine Xb rfl (dn (sr (lda' (es := [(iI a0.Kind), (iI a0.N), w0_0, w0_1]) B2 u29 z29 rfl ?_)))
 have K4 := kp0.st p2 rfl
 refine clV 41 rfl func170 rfl (impl_ItemOk.calls a0 s2.w (mm [0] s2) w0_0 w0_1 ((Xk (s := s2) A0_0).sub (D := [0]) rfl) ((z.rd h0_1).kp K4)) (fun r6 s7 p7 n7 => ?_)
 refine Xb rfl (jy [5, 6, 7, 8, 9] [7, 8, 9, 10, 11, 12, 13, 14, 15, 16, 17, 18] 9 (.bool (r6 && (a0.Kind != (0 : Int)))) rfl (fun Kg8 => ?_) (fun j8 => ?_))
 ·
  rcases bft r6 with hb8 | hb8
  ·
   refine Xv hb8 (fa' fa29_0 rfl ?_)
   exact ld' (B2.st p7 rfl) u3 rfl (Xb rfl (Xb rfl (Kg8 _ (Ag.put ((Ag.put ((Ag.put ((Ag.put (Ag.base rfl) rfl)) rfl)) rfl)) rfl) (by rw [hb8]; rfl))))
  exact Xv hb8 (Xj rfl (Xj rfl (Xj rfl (Xb rfl (Kg8 _ (Ag.put ((Ag.put ((Ag.put ((Ag.put (Ag.base rfl) rfl)) rfl)) rfl)) rfl) (by rw [hb8]; rfl))))))
 refine Xb rfl (jy [10, 11, 12, 13, 14, 15, 16, 17, 18, 19, 20] [18] 20 (.bool ((r6 && (a0.Kind != (0 : Int))) && ((fcmp .f64 a0.F (0 : Nat) != some .eq) || ((a0.F : Int) == 0)))) rfl (fun Kg10 => ?_) (fun j10 => ?_))
 ·
  rcases bft (r6 && (a0.Kind != (0 : Int))) with hb10 | hb10
  ·
   refine Xv hb10 (fa' fa29_2 rfl ?_)
   have A11 := B2.st p7 rfl
   refine ld' A11 u27 rfl (fq_ A0_0 (fl_c rfl) rfl rfl rfl rfl rfl rfl rfl rfl (Xb rfl (jy [14, 15, 16, 17, 18, 19] [17, 18] 19 (.bool ((fcmp .f64 a0.F (0 : Nat) != some .eq) || ((a0.F : Int) == 0))) rfl (fun Kg12 => ?_) (fun j12 => ?_))))
   ·
    rcases bft (fcmp .f64 a0.F (0 : Nat) != some .eq) with hb12 | hb12
    ·
     exact Xv hb12 (Xj rfl (Xj rfl (Xj rfl (Xj rfl (Xb rfl (Kg12 _ (Ag.put ((Ag.put ((Ag.put ((Ag.put ((Ag.put (Ag.base rfl) rfl)) rfl)) rfl)) rfl)) rfl) (by rw [hb12]; rfl)))))))
    refine Xv hb12 (fa' fa29_2 rfl (ld' A11 u27 rfl (fbu A0_0 rfl rfl rfl rfl rfl func190 rfl rfl xn190 xf190 rfl (fun b13 A13 => ?_))))
    exact fz0 A13 rfl rfl rfl rfl rfl rfl rfl (Xb rfl (Kg12 _ (Ag.put ((Ag.put ((Ag.put ((Ag.put ((Ag.put (Ag.base rfl) rfl)) rfl)) rfl)) rfl)) rfl) (by rw [hb12]; rfl)))
   exact Xb rfl (Kg10 _ (Ag.put ((Ag.put ((Ag.ov ((Ag.put ((Ag.put ((Ag.put ((Ag.put (Ag.base rfl) rfl)) rfl)) rfl)) rfl)) rfl)) rfl)) rfl) (by rw [hb10]; rfl))
  exact Xv hb10 (Xj rfl (Xj rfl (Xj rfl (Xj rfl (Xj rfl (Xj rfl (Xj rfl (Xj rfl (Xj rfl (Xb rfl (Kg10 _ (Ag.put ((Ag.put ((Ag.put ((Ag.put ((Ag.put ((Ag.put ((Ag.put ((Ag.put ((Ag.put ((Ag.put (Ag.base rfl) rfl)) rfl)) rfl)) rfl)) rfl)) rfl)) rfl)) rfl)) rfl)) rfl) (by rw [hb10]; rfl))))))))))))
 refine Xb rfl (dn ?_)
 exact re rfl func100 rfl (Xs rfl Xg) rfl ⟨_, rfl, rfl, z.ky (K4.st p7 rfl)⟩
def cmp_isNaN_int.f (a0 : Int) : Option (Bool) :=
 (some (a0 != a0))
def cmp_isNaN_int.Q (w : World) (F : Nat → Prop) (r : Bool) (v : Value) (w' : World) : Prop :=
 v = (.bool r) ∧ Ky [] w w'
theorem cmp_isNaN_int.calls (a0 : Int) (w : World) (F : Nat → Prop)   (r : Bool) (m : cmp_isNaN_int.f a0 = some r) :
  Calls prog 248 #[(iI a0)] w (RT (cmp_isNaN_int.Q w F) r) := by
 obtain ⟨s0, rfl, kp0, z⟩ := Xi w F
 refine Xc (args := [(iI a0)]) func248 ntmps248 rfl rfl m ?_
 unfold cmp_isNaN_int.f
 exact sr (Xb rfl (dn (sr (Xb rfl (Xb rfl (Xb rfl (Xb rfl (dn (re rfl func248 rfl (Xs rfl Xg) rfl ⟨_, rfl, rfl, z.ky kp0⟩)))))))))
def cmp_Compare_int.f (a0 : Int) (a1 : Int) : Option (Int) :=
 ((cmp_isNaN_int.f a0).bind fun r1 => ((cmp_isNaN_int.f a1).bind fun r3 => (if r1 = true then (if r3 = true then (some (0 : Int)) else (some (-1 : Int))) else (if r3 = true then (some (1 : Int)) else (if (decide (a0 < a1)) = true then (some (-1 : Int)) else (if (decide (a0 > a1)) = true then (some (1 : Int)) else (some (0 : Int))))))))
def cmp_Compare_int.Q (w : World) (F : Nat → Prop) (r : Int) (v : Value) (w' : World) : Prop :=
 v = (iI r) ∧ Ky [] w w'
theorem cmp_Compare_int.calls (a0 : Int) (a1 : Int) (w : World) (F : Nat → Prop)   (r : Int) (m : cmp_Compare_int.f a0 a1 = some r) :
  Calls prog 192 #[(iI a0), (iI a1)] w (RT (cmp_Compare_int.Q w F) r) := by
 obtain ⟨s0, rfl, kp0, z⟩ := Xi w F
 refine Xc (args := [(iI a0), (iI a1)]) func192 ntmps192 rfl rfl m ?_
 unfold cmp_Compare_int.f
 refine sr (Xb rfl (dn (sr (Xb rfl (clV 40 rfl func248 rfl (cmp_isNaN_int.calls a0 s0.w (mm [] s0)) (fun r1 s2 p2 n2 => ?_))))))
 refine Xb rfl (dn (sr (Xb rfl (clV 41 rfl func248 rfl (cmp_isNaN_int.calls a1 s2.w (mm [] s2)) (fun r3 s4 p4 n4 => ?_)))))
 refine Xb rfl (dn (sq (sr (Xb rfl (dn (cd rfl (fun h5 => ?_) (fun h5 => ?_)))))))
 ·
  refine sq (sr (Xb rfl (dn (cd rfl (fun h6 => ?_) (fun h6 => ?_)))))
  ·
   refine sr (Xb rfl (dn ?_))
   exact re rfl func192 rfl (Xs rfl Xg) rfl ⟨_, rfl, rfl, z.ky (kp0.st (Xq p2 p4) rfl)⟩
  refine sk (sr (Xb rfl (dn ?_)))
  exact re rfl func192 rfl (Xs rfl Xg) rfl ⟨_, rfl, rfl, z.ky (kp0.st (Xq p2 p4) rfl)⟩
 refine sk (sq (sr (Xb rfl (dn (cd rfl (fun h9 => ?_) (fun h9 => ?_))))))
 ·
  refine sr (Xb rfl (dn ?_))
  exact re rfl func192 rfl (Xs rfl Xg) rfl ⟨_, rfl, rfl, z.ky (kp0.st (Xq p2 p4) rfl)⟩
 refine sk (sq (sr (Xb rfl (Xb rfl (Xb rfl (dn (cd rfl (fun h11 => ?_) (fun h11 => ?_))))))))
 ·
  refine sr (Xb rfl (dn ?_))
  exact re rfl func192 rfl (Xs rfl Xg) rfl ⟨_, rfl, rfl, z.ky (kp0.st (Xq p2 p4) rfl)⟩
 refine sk (sq (sr (Xb rfl (Xb rfl (Xb rfl (dn (cd rfl (fun h13 => ?_) (fun h13 => ?_))))))))
 ·
  refine sr (Xb rfl (dn ?_))
  exact re rfl func192 rfl (Xs rfl Xg) rfl ⟨_, rfl, rfl, z.ky (kp0.st (Xq p2 p4) rfl)⟩
 refine sk (sr (Xb rfl (dn ?_)))
 exact re rfl func192 rfl (Xs rfl Xg) rfl ⟨_, rfl, rfl, z.ky (kp0.st (Xq p2 p4) rfl)⟩
def cmp_isNaN_uint64.f (a0 : Int) : Option (Bool) :=
 (some (a0 != a0))
def cmp_isNaN_uint64.Q (w : World) (F : Nat → Prop) (r : Bool) (v : Value) (w' : World) : Prop :=
 v = (.bool r) ∧ Ky [] w w'
theorem cmp_isNaN_uint64.calls (a0 : Int) (w : World) (F : Nat → Prop)   (r : Bool) (m : cmp_isNaN_uint64.f a0 = some r) :
  Calls prog 285 #[(.int .u64 a0)] w (RT (cmp_isNaN_uint64.Q w F) r) := by
 obtain ⟨s0, rfl, kp0, z⟩ := Xi w F
 refine Xc (args := [(.int .u64 a0)]) func285 ntmps285 rfl rfl m ?_
 unfold cmp_isNaN_uint64.f
 exact sr (Xb rfl (dn (sr (Xb rfl (Xb rfl (Xb rfl (Xb rfl (dn (re rfl func285 rfl (Xs rfl Xg) rfl ⟨_, rfl, rfl, z.ky kp0⟩)))))))))
def cmp_Compare_uint64.f (a0 : Int) (a1 : Int) : Option (Int) :=
 ((cmp_isNaN_uint64.f a0).bind fun r1 => ((cmp_isNaN_uint64.f a1).bind fun r3 => (if r1 = true then (if r3 = true then (some (0 : Int)) else (some (-1 : Int))) else (if r3 = true then (some (1 : Int)) else (if (decide (a0 < a1)) = true then (some (-1 : Int)) else (if (decide (a0 > a1)) = true then (some (1 : Int)) else (some (0 : Int))))))))
def cmp_Compare_uint64.Q (w : World) (F : Nat → Prop) (r : Int) (v : Value) (w' : World) : Prop :=
 v = (iI r) ∧ Ky [] w w'
theorem cmp_Compare_uint64.calls (a0 : Int) (a1 : Int) (w : World) (F : Nat → Prop)   (r : Int) (m : cmp_Compare_uint64.f a0 a1 = some r) :
  Calls prog 249 #[(.int .u64 a0), (.int .u64 a1)] w (RT (cmp_Compare_uint64.Q w F) r) := by
 obtain ⟨s0, rfl, kp0, z⟩ := Xi w F
 refine Xc (args := [(.int .u64 a0), (.int .u64 a1)]) func249 ntmps249 rfl rfl m ?_
 unfold cmp_Compare_uint64.f
 refine sr (Xb rfl (dn (sr (Xb rfl (clV 40 rfl func285 rfl (cmp_isNaN_uint64.calls a0 s0.w (mm [] s0)) (fun r1 s2 p2 n2 => ?_))))))
 refine Xb rfl (dn (sr (Xb rfl (clV 41 rfl func285 rfl (cmp_isNaN_uint64.calls a1 s2.w (mm [] s2)) (fun r3 s4 p4 n4 => ?_)))))
 refine Xb rfl (dn (sq (sr (Xb rfl (dn (cd rfl (fun h5 => ?_) (fun h5 => ?_)))))))
 ·
  refine sq (sr (Xb rfl (dn (cd rfl (fun h6 => ?_) (fun h6 => ?_)))))
  ·
   refine sr (Xb rfl (dn ?_))
   exact re rfl func249 rfl (Xs rfl Xg) rfl ⟨_, rfl, rfl, z.ky (kp0.st (Xq p2 p4) rfl)⟩
  refine sk (sr (Xb rfl (dn ?_)))
  exact re rfl func249 rfl (Xs rfl Xg) rfl ⟨_, rfl, rfl, z.ky (kp0.st (Xq p2 p4) rfl)⟩
 refine sk (sq (sr (Xb rfl (dn (cd rfl (fun h9 => ?_) (fun h9 => ?_))))))
 ·
  refine sr (Xb rfl (dn ?_))
  exact re rfl func249 rfl (Xs rfl Xg) rfl ⟨_, rfl, rfl, z.ky (kp0.st (Xq p2 p4) rfl)⟩
 refine sk (sq (sr (Xb rfl (Xb rfl (Xb rfl (dn (cd rfl (fun h11 => ?_) (fun h11 => ?_))))))))
 ·
  refine sr (Xb rfl (dn ?_))
  exact re rfl func249 rfl (Xs rfl Xg) rfl ⟨_, rfl, rfl, z.ky (kp0.st (Xq p2 p4) rfl)⟩
 refine sk (sq (sr (Xb rfl (Xb rfl (Xb rfl (dn (cd rfl (fun h13 => ?_) (fun h13 => ?_))))))))
 ·
  refine sr (Xb rfl (dn ?_))
  exact re rfl func249 rfl (Xs rfl Xg) rfl ⟨_, rfl, rfl, z.ky (kp0.st (Xq p2 p4) rfl)⟩
 refine sk (sr (Xb rfl (dn ?_)))
 exact re rfl func249 rfl (Xs rfl Xg) rfl ⟨_, rfl, rfl, z.ky (kp0.st (Xq p2 p4) rfl)⟩
def impl_FloatCompare.f (a0 : Nat) (a1 : Nat) : Option (Int) :=
 ((impl_FloatRank.f a0).bind fun r1 => ((impl_FloatRank.f a1).bind fun r3 => ((cmp_Compare_uint64.f r1 r3).bind fun r5 => (some r5))))
def impl_FloatCompare.Q (w : World) (F : Nat → Prop) (r : Int) (v : Value) (w' : World) : Prop :=
 v = (iI r) ∧ Ky [] w w'
theorem impl_FloatCompare.calls (a0 : Nat) (a1 : Nat) (w : World) (F : Nat → Prop) (w0_0 : Value) (w1_0 : Value) (h0_0 : Kd.flt.rd w [w0_0] a0 F) (h1_0 : Kd.flt.rd w [w1_0] a1 F) (r : Int) (m : impl_FloatCompare.f a0 a1 = some r) :
  Calls prog 193 #[w0_0, w1_0] w (RT (impl_FloatCompare.Q w F) r) := by
 obtain ⟨s0, rfl, kp0, z⟩ := Xi w F
 refine Xc (args := [w0_0, w1_0]) func193 ntmps193 rfl rfl m ?_
 unfold impl_FloatCompare.f
 refine sr (Xb rfl (dn (sr (Xp w0_0 rfl (clV 40 rfl func236 rfl (impl_FloatRank.calls a0 s0.w (mm [] s0) w0_0 (Xk (s := s0) (Xu h0_0))) (fun r1 s2 p2 n2 => ?_))))))
 refine Xp w1_0 rfl (clV 41 rfl func236 rfl (impl_FloatRank.calls a1 s2.w (mm [] s2) w1_0 (Xk (s := s2) (Xu h1_0))) (fun r3 s4 p4 n4 => ?_))
 refine clV 42 rfl func249 rfl (cmp_Compare_uint64.calls r1 r3 s4.w (mm [] s4)) (fun r5 s6 p6 n6 => ?_)
 refine Xb rfl (dn ?_)
 exact re rfl func193 rfl (Xs rfl Xg) rfl ⟨_, rfl, rfl, z.ky (kp0.st (tr3 p2 p4 p6) rfl)⟩
def bytes_Compare.f (a0 : (List Int)) (a1 : (List Int)) : Option (Int) :=
 (some (bcmpS a0 a1))
def bytes_Compare.Q (w : World) (F : Nat → Prop) (r : Int) (v : Value) (w' : World) : Prop :=
 v = (iI r) ∧ Ky [] w w'
theorem bytes_Compare.calls (a0 : (List Int)) (a1 : (List Int)) (w : World) (F : Nat → Prop) (w0_0 : Value) (w1_0 : Value) (h0_0 : Xx.rd w [w0_0] a0 F) (h1_0 : Xx.rd w [w1_0] a1 F) (r : Int) (m : bytes_Compare.f a0 a1 = some r) :
  Calls prog 194 #[w0_0, w1_0] w (RT (bytes_Compare.Q w F) r) := by
 obtain ⟨s0, rfl, kp0, z⟩ := Xi w F
 refine Xc (args := [w0_0, w1_0]) func194 ntmps194 rfl rfl m ?_
 unfold bytes_Compare.f
 exact sr (Xb rfl (dn (sr (Xp w0_0 rfl (Xp w1_0 rfl (bcx (z.rd h0_0) (z.rd h1_0) rfl rfl rfl rfl rfl func250 rfl rfl xn250 xf250 rfl rfl (Xb rfl (dn (re rfl func194 rfl (Xs rfl Xg) rfl ⟨_, rfl, rfl, z.ky kp0⟩)))))))))
def cmp_Or_int.b0 (a0 : (List Int)) (x2 : Int) : Option (Int ⊕ Int) :=
 (if (decide (x2 < (a0.length : Int))) = true then (if 0 ≤ x2 ∧ x2 < (a0.length : Int) then (if ((at_ a0 x2) != (0 : Int)) = true then (some (Sum.inr (at_ a0 x2))) else (some (Sum.inl (IntKind.wrap .i64 (x2 + (1 : Int)))))) else none) else ((some (0 : Int)).bind fun o => some (Sum.inr o)))
def cmp_Or_int.f (a0 : (List Int)) : Option (Int) :=
 (iter (cmp_Or_int.b0 a0) (0 : Int))
def cmp_Or_int.Q (w : World) (F : Nat → Prop) (r : Int) (v : Value) (w' : World) : Prop :=
 v = (iI r) ∧ Ky [] w w'
theorem cmp_Or_int.calls (a0 : (List Int)) (w : World) (F : Nat → Prop) (w0_0 : Value) (h0_0 : Xy.rd w [w0_0] a0 F) (r : Int) (m : cmp_Or_int.f a0 = some r) :
  Calls prog 191 #[w0_0] w (RT (cmp_Or_int.Q w F) r) := by
 obtain ⟨s0, rfl, kp0, z⟩ := Xi w F
 have A0_0 := z.rd h0_0
 refine Xc (args := [w0_0]) func191 ntmps191 rfl rfl m ?_
 unfold cmp_Or_int.f
 refine sr (Xb rfl (dn (sr (Xb rfl (dn (sq (sr (Xp w0_0 rfl (ln' A0_0 u50 rfl (Xb rfl (dn (bl (lpI (fun (x2 : Int) e w => ∃ (s : St) (e0 : Env), w = s.w ∧ e = upd (upd (upd (upd e0 3 (iI 0)) 6 w0_0) 7 (iI (a0.length : Int))) 8 (iI x2) ∧ Kp s0 s) ⟨s0, _, rfl, (ue (ue (ue (ue rfl rfl) rfl) rfl) rfl), kp0⟩ (fun g2 ih2 => ?_))))))))))))))
 rintro x2 _ _ ⟨s3, _, rfl, rfl, Kx2⟩
 unfold cmp_Or_int.b0
 refine sr (Xb rfl (dn (sq (cd rfl (fun h4 => ?_) (fun h4 => ?_)))))
 ·
  refine sk (sq (bl (sr ?_)))
  refine ix' (A0_0.kp Kx2) u50 z3 rfl (fun ad6 es6 h0_6 h1_6 he6 ce6 ia6 => ?_)
  obtain rfl := he6
  refine lc0' ce6 u3 rfl (Xb rfl (dn (sr (Xb rfl (Xb rfl (Xb rfl (dn (cd rfl (fun h8 => ?_) (fun h8 => ?_)))))))))
  ·
   exact sr (Xb rfl (Xb rfl (dn (sgi (re rfl func191 rfl (Xs rfl Xg) rfl ⟨_, rfl, rfl, z.ky Kx2⟩)))))
  exact sk (ib (rg (Xb rfl (Xb rfl (dn (lb ih2 ⟨s3, _, rfl, (ue (ue (ue (ue rfl rfl) rfl) rfl) rfl), Kx2⟩))))))
 exact xt rfl (sgb (sr (Xb rfl (Xb rfl (dn (re rfl func191 rfl (Xs rfl Xg) rfl ⟨_, rfl, rfl, z.ky Kx2⟩))))))
def impl_compareItems.f (a0 : Item) (a1 : Item) : Option (Int) :=
 ((cmp_Compare_int.f a0.Kind a1.Kind).bind fun r41 => ((cmp_Compare_int.f a0.N a1.N).bind fun r51 => ((impl_FloatCompare.f a0.F a1.F).bind fun r59 => ((bytes_Compare.f a0.T a1.T).bind fun r67 => ((cmp_Or_int.f ([r41, r51, r59, r67])).bind fun r71 => (some r71))))))
def impl_compareItems.Q (w : World) (F : Nat → Prop) (r : Int) (v : Value) (w' : World) : Prop :=
 v = (iI r) ∧ Ky [] w w'
theorem impl_compareItems.calls (a0 : Item) (a1 : Item) (w : World) (F : Nat → Prop) (w0_0 : Value) (w0_1 : Value) (w1_0 : Value) (w1_1 : Value) (h0_0 : Kd.flt.rd w [w0_0] a0.F F) (h0_1 : Xx.rd w [w0_1] a0.T F) (h1_0 : Kd.flt.rd w [w1_0] a1.F F) (h1_1 : Xx.rd w [w1_1] a1.T F) (r : Int) (m : impl_compareItems.f a0 a1 = some r) :
  Calls prog 102 #[(.agg #[(iI a0.Kind), (iI a0.N), w0_0, w0_1]), (.agg #[(iI a1.Kind), (iI a1.N), w1_0, w1_1])] w (RT (impl_compareItems.Q w F) r) := by
 obtain ⟨s0, rfl, kp0, z⟩ := Xi w F
 refine Xc (args := [(.agg #[(iI a0.Kind), (iI a0.N), w0_0, w0_1]), (.agg #[(iI a1.Kind), (iI a1.N), w1_0, w1_1])]) func102 ntmps102 rfl rfl m ?_
 unfold impl_compareItems.f
 refine sr (bx' (cs := [(iI a0.Kind), (iI a0.N), w0_0, w0_1]) 40 rfl rfl (fun b3 s3 p3 B3 => ?_))
 refine bx' (cs := [(iI a1.Kind), (iI a1.N), w1_0, w1_1]) 41 rfl rfl (fun b5 s5 p5 B5 => ?_)
 refine Xb rfl (dn (sq (zdraw [[], [0], [], [2], [1, 3], [], [5], [], [7], [6, 8, 4], [], [10], [], [12], [11, 13, 9], [], [15], [], [17], [16, 18, 14], [4, 9, 14, 19], [20, 19], [21, 21, 0, 1, 2, 3, 4, 5, 6, 7, 8, 9, 10, 11, 12, 13, 14, 15, 16, 17, 18, 19, 20, 21]] [some 5, some 6, some 7, some 8, some 9, some 10, some 11, some 12, some 13, some 14, some 15, some 16, some 17, some 18, some 19, some 20, some 21, some 22, some 23, some 24, some 25, some 26, some 4] [[2], [5], [3], [7], [6, 8], [2], [10], [3], [12], [11, 13], [2], [15], [3], [17], [16, 18], [2], [20], [3], [22], [21, 23], [9, 14, 19, 24], [25], [26]] [0, 1, 2, 3, 4, 5, 6, 7, 8, 9, 10, 11, 12, 13, 14, 15, 16, 17, 18, 19, 20, 21, 22] ⟨by kernel_rfl, by kernel_rfl, by kernel_rfl⟩ (by kernel_rfl) (fun s7 p7 l7 tb7 zd7 => ?_))))
 have zd11 := ((zd7.add 0 5 (pB b3) rfl).add 1 6 (iI a0.Kind) rfl).add 2 7 (pB b5) rfl
 refine zstep 4 [some 23, some 22, some 21, some 20, some 18, some 17, some 16, some 15, some 13, some 12, some 11, some 10] tb7 (((((((((((((zd11.add 3 8 (iI a1.Kind) rfl).add 5 10 (pO b3 1) rfl).add 6 11 (iI a0.N) rfl).add 7 12 (pO b5 1) rfl).add 8 13 (iI a1.N) rfl).add 10 15 (pO b3 2) rfl).add 11 16 w0_0 rfl).add 12 17 (pO b5 2) rfl).add 13 18 w1_0 rfl).add 15 20 (pO b3 3) rfl).add 16 21 w0_1 rfl).add 17 22 (pO b5 3) rfl).add 18 23 w1_1 rfl) (Xa (Xr (B5.st p7 rfl) u22 rfl) rfl (Xa (Xm fa29_3 rfl) rfl (Xa (Xr (B3.st (Xq p5 p7) rfl) u22 rfl) rfl (Xa (Xm fa29_3 rfl) rfl (Xa (Xr (B5.st p7 rfl) u27 rfl) rfl (Xa (Xm fa29_2 rfl) rfl (Xa (Xr (B3.st (Xq p5 p7) rfl) u27 rfl) rfl (Xa (Xm fa29_2 rfl) rfl (Xa (Xr (B5.st p7 rfl) u3 rfl) rfl (Xa (Xm fa29_1 rfl) rfl (Xa (Xr (B3.st (Xq p5 p7) rfl) u3 rfl) rfl (Xa (Xm fa29_1 rfl) rfl (Xa (Xr (B5.st p7 rfl) u3 rfl) rfl (Xa (Xm fa29_0 rfl) rfl (Xa (Xr (B3.st (Xq p5 p7) rfl) u3 rfl) rfl (Xa (Xm fa29_0 rfl) rfl Xh)))))))))))))))) (by kernel_rfl) rfl (fun l32 e32 zd32 => ?_)
 refine clV 42 rfl func192 rfl (cmp_Compare_int.calls a0.Kind a1.Kind s7.w (mm [] s7)) (fun r41 s42 p42 n42 => ?_)
 refine zdone (L' := [18, 17, 16, 15, 13, 12, 11, 10, 8, 7, 6, 5]) (D' := [0, 2, 1, 3, 4]) zd32 rfl rfl rfl (fun zd43 => ?_)
 refine zstep 9 [some 23, some 22, some 21, some 20, some 18, some 17, some 16, some 15] tb7 zd43 (Xa (Xr (B5.st (Xq p7 p42) rfl) u22 rfl) rfl (Xa (Xm fa29_3 rfl) rfl (Xa (Xr (B3.st (tr3 p5 p7 p42) rfl) u22 rfl) rfl (Xa (Xm fa29_3 rfl) rfl (Xa (Xr (B5.st (Xq p7 p42) rfl) u27 rfl) rfl (Xa (Xm fa29_2 rfl) rfl (Xa (Xr (B3.st (tr3 p5 p7 p42) rfl) u27 rfl) rfl (Xa (Xm fa29_2 rfl) rfl (Xa (Xr (B5.st (Xq p7 p42) rfl) u3 rfl) rfl (Xa (Xm fa29_1 rfl) rfl (Xa (Xr (B3.st (tr3 p5 p7 p42) rfl) u3 rfl) rfl (Xa (Xm fa29_1 rfl) rfl Xh)))))))))))) (by kernel_rfl) rfl (fun l44 e44 zd44 => ?_)
 refine clV 43 rfl func192 rfl (cmp_Compare_int.calls a0.N a1.N s42.w (mm [] s42)) (fun r51 s52 p52 n52 => ?_)
 refine zdone (L' := [18, 17, 16, 15, 13, 12, 11, 10]) (D' := [5, 7, 6, 8, 9, 0, 2, 1, 3, 4]) zd44 rfl rfl rfl (fun zd53 => ?_)
 refine zstep 14 [some 23, some 22, some 21, some 20] tb7 zd53 (Xa (Xr (B5.st (tr3 p7 p42 p52) rfl) u22 rfl) rfl (Xa (Xm fa29_3 rfl) rfl (Xa (Xr (B3.st (tr4 p5 p7 p42 p52) rfl) u22 rfl) rfl (Xa (Xm fa29_3 rfl) rfl (Xa (Xr (B5.st (tr3 p7 p42 p52) rfl) u27 rfl) rfl (Xa (Xm fa29_2 rfl) rfl (Xa (Xr (B3.st (tr4 p5 p7 p42 p52) rfl) u27 rfl) rfl (Xa (Xm fa29_2 rfl) rfl Xh)))))))) (by kernel_rfl) rfl (fun l54 e54 zd54 => ?_)
 refine clV 44 rfl func193 rfl (impl_FloatCompare.calls a0.F a1.F s52.w (mm [] s52) w0_0 w1_0 (Xk (s := s52) (Xu h0_0)) (Xk (s := s52) (Xu h1_0))) (fun r59 s60 p60 n60 => ?_)
 refine zdone (L' := [18, 17, 16, 15]) (D' := [10, 12, 11, 13, 14, 5, 7, 6, 8, 9, 0, 2, 1, 3, 4]) zd54 rfl rfl rfl (fun zd61 => ?_)
 refine zfin [19, 20, 21, 22] tb7 zd61 (Xa (Xr (B5.st (tr4 p7 p42 p52 p60) rfl) u22 rfl) rfl (Xa (Xm fa29_3 rfl) rfl (Xa (Xr (B3.st (tr5 p5 p7 p42 p52 p60) rfl) u22 rfl) rfl (Xa (Xm fa29_3 rfl) rfl Xh)))) (by kernel_rfl) (by decide) ?_
 have K64 := kp0.st (tr6 p3 p5 p7 p42 p52 p60) rfl
 refine clV 45 rfl func194 rfl (bytes_Compare.calls a0.T a1.T s60.w (mm [0] s60) w0_1 w1_1 ((z.rd h0_1).kp K64) ((z.rd h1_1).kp K64)) (fun r67 s68 p68 n68 => ?_)
 refine ltF' (K := (Kd.int .i64)) (cells := [(iI r41), (iI r51), (iI r59), (iI r67)]) [r41, r51, r59, r67] 46 Xw u50 z3 o3 (fun w => (els_flat _ _ _)) rfl (fun v69 s69 p69 A69 => ?_)
 refine clV 47 rfl func191 rfl (cmp_Or_int.calls ([r41, r51, r59, r67]) s69.w (mm [46] s69) v69 A69.rd) (fun r71 s72 p72 n72 => ?_)
 refine Xb rfl (dn ?_)
 exact re rfl func102 rfl (Xs rfl Xg) rfl ⟨_, rfl, rfl, z.ky (K64.st (tr3 p68 p69 p72) rfl)⟩
def spec_FloatCompare.f (a0 : Nat) (a1 : Nat) : Option (Int) :=
 ((spec_FloatRank.f a0).bind fun r1 => ((spec_FloatRank.f a1).bind fun r3 => (if (decide (r1 < r3)) = true then (some (-1 : Int)) else (if (decide (r1 > r3)) = true then (some (1 : Int)) else (some (0 : Int))))))
def spec_FloatCompare.Q (w : World) (F : Nat → Prop) (r : Int) (v : Value) (w' : World) : Prop :=
 v = (iI r) ∧ Ky [] w w'
theorem spec_FloatCompare.calls (a0 : Nat) (a1 : Nat) (w : World) (F : Nat → Prop) (w0_0 : Value) (w1_0 : Value) (h0_0 : Kd.flt.rd w [w0_0] a0 F) (h1_0 : Kd.flt.rd w [w1_0] a1 F) (r : Int) (m : spec_FloatCompare.f a0 a1 = some r) :
  Calls prog 253 #[w0_0, w1_0] w (RT (spec_FloatCompare.Q w F) r) := by
 obtain ⟨s0, rfl, kp0, z⟩ := Xi w F
 refine Xc (args := [w0_0, w1_0]) func253 ntmps253 rfl rfl m ?_
 unfold spec_FloatCompare.f
 refine sr (Xb rfl (dn (sr (Xp w0_0 rfl (clV 40 rfl func197 rfl (spec_FloatRank.calls a0 s0.w (mm [] s0) w0_0 (Xk (s := s0) (Xu h0_0))) (fun r1 s2 p2 n2 => ?_))))))
 refine Xb rfl (dn (sr (Xp w1_0 rfl (clV 41 rfl func197 rfl (spec_FloatRank.calls a1 s2.w (mm [] s2) w1_0 (Xk (s := s2) (Xu h1_0))) (fun r3 s4 p4 n4 => ?_)))))
 refine Xb rfl (dn (sq (sr (Xb rfl (Xb rfl (Xb rfl (dn (cd rfl (fun h5 => ?_) (fun h5 => ?_)))))))))
 ·
  refine sr (Xb rfl (dn ?_))
  exact re rfl func253 rfl (Xs rfl Xg) rfl ⟨_, rfl, rfl, z.ky (kp0.st (Xq p2 p4) rfl)⟩
 refine sk (sq (sr (Xb rfl (Xb rfl (Xb rfl (dn (cd rfl (fun h7 => ?_) (fun h7 => ?_))))))))
 ·
  refine sr (Xb rfl (dn ?_))
  exact re rfl func253 rfl (Xs rfl Xg) rfl ⟨_, rfl, rfl, z.ky (kp0.st (Xq p2 p4) rfl)⟩
 refine sk (sr (Xb rfl (dn ?_)))
 exact re rfl func253 rfl (Xs rfl Xg) rfl ⟨_, rfl, rfl, z.ky (kp0.st (Xq p2 p4) rfl)⟩
def spec_l3texts.b0 (a0 : (List Int)) (a1 : (List Int)) (x3 : Int) : Option (Int ⊕ Int) :=
 (if ((decide (x3 < (a0.length : Int))) && (decide (x3 < (a1.length : Int)))) = true then (if 0 ≤ x3 ∧ x3 < (a0.length : Int) then (if 0 ≤ x3 ∧ x3 < (a1.length : Int) then (if (decide ((at_ a0 x3) < (at_ a1 x3))) = true then (some (Sum.inr (-1 : Int))) else (if 0 ≤ x3 ∧ x3 < (a0.length : Int) then (if 0 ≤ x3 ∧ x3 < (a1.length : Int) then (if (decide ((at_ a0 x3) > (at_ a1 x3))) = true then (some (Sum.inr (1 : Int))) else (some (Sum.inl (IntKind.wrap .i64 (x3 + (1 : Int)))))) else none) else none)) else none) else none) else ((if (decide ((a0.length : Int) < (a1.length : Int))) = true then (some (-1 : Int)) else (if (decide ((a0.length : Int) > (a1.length : Int))) = true then (some (1 : Int)) else (some (0 : Int)))).bind fun o => some (Sum.inr o)))
def spec_l3texts.f (a0 : (List Int)) (a1 : (List Int)) : Option (Int) :=
 (iter (spec_l3texts.b0 a0 a1) (0 : Int))
def spec_l3texts.Q (w : World) (F : Nat → Prop) (r : Int) (v : Value) (w' : World) : Prop :=
 v = (iI r) ∧ Ky [] w w'
theorem spec_l3texts.calls (a0 : (List Int)) (a1 : (List Int)) (w : World) (F : Nat → Prop) (w0_0 : Value) (w1_0 : Value) (h0_0 : Xx.rd w [w0_0] a0 F) (h1_0 : Xx.rd w [w1_0] a1 F) (r : Int) (m : spec_l3texts.f a0 a1 = some r) :
  Calls prog 254 #[w0_0, w1_0] w (RT (spec_l3texts.Q w F) r) := by
 obtain ⟨s0, rfl, kp0, z⟩ := Xi w F
 have A0_0 := z.rd h0_0
 have A1_0 := z.rd h1_0
 refine Xc (args := [w0_0, w1_0]) func254 ntmps254 rfl rfl m ?_
 unfold spec_l3texts.f
 refine sr (Xb rfl (dn (sq (sr (Xb rfl (dn (bl (lpI (fun (x3 : Int) e w => ∃ (s : St) (e0 : Env), w = s.w ∧ e = upd (upd (upd e0 0 w0_0) 1 w1_0) 5 (iI x3) ∧ Kp s0 s) ⟨s0, _, rfl, (ue (ue (ue rfl rfl) rfl) rfl), kp0⟩ (fun g3 ih3 => ?_)))))))))
 rintro x3 _ _ ⟨s4, _, rfl, rfl, Kx3⟩
 unfold spec_l3texts.b0
 refine sq (sr (Xb rfl (Xp w0_0 rfl ?_)))
 have A5 := A0_0.kp Kx3
 refine ln' A5 u22 rfl (Xb rfl (Xb rfl (jy [10, 11, 12, 13, 14, 15] [] 15 (.bool ((decide (x3 < (a0.length : Int))) && (decide (x3 < (a1.length : Int))))) rfl (fun Kg6 => ?_) (fun j6 => ?_))))
 ·
  rcases bft (decide (x3 < (a0.length : Int))) with hb6 | hb6
  ·
   refine Xv hb6 (Xb rfl (Xp w1_0 rfl ?_))
   exact ln' (A1_0.kp Kx3) u22 rfl (Xb rfl (Xb rfl (Kg6 _ (Ag.put ((Ag.put ((Ag.put ((Ag.put ((Ag.put (Ag.base rfl) rfl)) rfl)) rfl)) rfl)) rfl) (by rw [hb6]; rfl))))
  exact Xv hb6 (Xj rfl (Xj rfl (Xj rfl (Xj rfl (Xb rfl (Kg6 _ (Ag.put ((Ag.put ((Ag.put ((Ag.put ((Ag.put (Ag.base rfl) rfl)) rfl)) rfl)) rfl)) rfl) (by rw [hb6]; rfl)))))))
 refine dn (cd rfl (fun h8 => ?_) (fun h8 => ?_))
 ·
  refine sk (sq (bl (sq (sq (zdraw [[], [], [0, 1], [2], [], [], [4, 5], [6], [3, 7]] [some 18, some 19, some 20, some 21, some 22, some 23, some 24, some 25, some 26] [[0], [5], [18, 19], [20], [1], [5], [22, 23], [24], [21, 25]] [0, 1, 2, 3, 4, 5, 6, 7, 8] ⟨by kernel_rfl, by kernel_rfl, by kernel_rfl⟩ (by kernel_rfl) (fun s9 p9 l9 tb9 zd9 => ?_))))))
  have K12 := Kx3.st p9 rfl
  have A13 := A0_0.kp K12
  refine mg fun hg14 => ?_
  obtain ⟨ad14, es14, he14, ce14, ia14⟩ := ix_e A13 rfl hg14.1 hg14.2
  obtain rfl := he14
  have A20 := A1_0.kp K12
  refine mg fun hg21 => ?_
  obtain ⟨ad21, es21, he21, ce21, ia21⟩ := ix_e A20 rfl hg21.1 hg21.2
  obtain rfl := he21
  refine zfin [8] tb9 ((((((((zd9.add 0 18 w0_0 rfl).add 1 19 (iI x3) rfl).add 2 20 (.pointer (some ad14)) rfl).add 3 21 (.int .u8 (at_ a0 x3)) rfl).add 4 22 w1_0 rfl).add 5 23 (iI x3) rfl).add 6 24 (.pointer (some ad21)) rfl).add 7 25 (.int .u8 (at_ a1 x3)) rfl) (Xa (Xt ce21 u5 rfl) rfl (Xa (Xn A20 u22 z5 hg21.1 hg21.2 ia21 rfl) rfl (Xa (Xd rfl) rfl (Xa (Xl w1_0 rfl) rfl (Xa (Xt ce14 u5 rfl) rfl (Xa (Xn A13 u22 z5 hg14.1 hg14.2 ia14 rfl) rfl (Xa (Xd rfl) rfl (Xa (Xl w0_0 rfl) rfl Xh)))))))) (by kernel_rfl) (by decide) (Xb rfl (dn (cd rfl (fun h25 => ?_) (fun h25 => ?_))))
  ·
   exact sr (Xb rfl (dn (sgi (re rfl func254 rfl (Xs rfl Xg) rfl ⟨_, rfl, rfl, z.ky K12⟩))))
  refine sk (sq (zdraw [[], [], [0, 1], [2], [], [], [4, 5], [6], [3, 7]] [some 27, some 28, some 29, some 30, some 31, some 32, some 33, some 34, some 35] [[0], [5], [27, 28], [29], [1], [5], [31, 32], [33], [30, 34]] [0, 1, 2, 3, 4, 5, 6, 7, 8] ⟨by kernel_rfl, by kernel_rfl, by kernel_rfl⟩ (by kernel_rfl) (fun s26 p26 l26 tb26 zd26 => ?_)))
  have K29 := K12.st p26 rfl
  have A30 := A0_0.kp K29
  refine mg fun hg31 => ?_
  obtain ⟨ad31, es31, he31, ce31, ia31⟩ := ix_e A30 rfl hg31.1 hg31.2
  obtain rfl := he31
  have A37 := A1_0.kp K29
  refine mg fun hg38 => ?_
  obtain ⟨ad38, es38, he38, ce38, ia38⟩ := ix_e A37 rfl hg38.1 hg38.2
  obtain rfl := he38
  refine zfin [8] tb26 ((((((((zd26.add 0 27 w0_0 rfl).add 1 28 (iI x3) rfl).add 2 29 (.pointer (some ad31)) rfl).add 3 30 (.int .u8 (at_ a0 x3)) rfl).add 4 31 w1_0 rfl).add 5 32 (iI x3) rfl).add 6 33 (.pointer (some ad38)) rfl).add 7 34 (.int .u8 (at_ a1 x3)) rfl) (Xa (Xt ce38 u5 rfl) rfl (Xa (Xn A37 u22 z5 hg38.1 hg38.2 ia38 rfl) rfl (Xa (Xd rfl) rfl (Xa (Xl w1_0 rfl) rfl (Xa (Xt ce31 u5 rfl) rfl (Xa (Xn A30 u22 z5 hg31.1 hg31.2 ia31 rfl) rfl (Xa (Xd rfl) rfl (Xa (Xl w0_0 rfl) rfl Xh)))))))) (by kernel_rfl) (by decide) (Xb rfl (dn (cd rfl (fun h42 => ?_) (fun h42 => ?_))))
  ·
   exact sr (Xb rfl (dn (sgi (re rfl func254 rfl (Xs rfl Xg) rfl ⟨_, rfl, rfl, z.ky K29⟩))))
  exact sk (ib (rg (Xb rfl (Xb rfl (Xb rfl (dn (lb ih3 ⟨s26, _, rfl, (ue (ue (ue rfl rfl) rfl) rfl), K29⟩)))))))
 refine xt rfl (sgb (sq (sr (Xp w0_0 rfl (ln' A5 u22 rfl (Xp w1_0 rfl ?_))))))
 have A43 := A1_0.kp Kx3
 refine ln' A43 u22 rfl (Xb rfl (dn (cd rfl (fun h44 => ?_) (fun h44 => ?_))))
 ·
  exact sr (Xb rfl (dn (re rfl func254 rfl (Xs rfl Xg) rfl ⟨_, rfl, rfl, z.ky Kx3⟩)))
 refine sk (sq (sr (Xp w0_0 rfl (ln' A5 u22 rfl (Xp w1_0 rfl (ln' A43 u22 rfl (Xb rfl (dn (cd rfl (fun h45 => ?_) (fun h45 => ?_))))))))))
 ·
  exact sr (Xb rfl (dn (re rfl func254 rfl (Xs rfl Xg) rfl ⟨_, rfl, rfl, z.ky Kx3⟩)))
 exact sk (sr (Xb rfl (dn (re rfl func254 rfl (Xs rfl Xg) rfl ⟨_, rfl, rfl, z.ky Kx3⟩))))
def spec_ItemCompare.f (a0 : Item) (a1 : Item) : Option (Int) :=
 ((spec_ItemOk.f a0).bind fun r10 => ((if (!r10) = true then (some true) else ((spec_ItemOk.f a1).bind fun r19 => (some (!r19)))).bind fun y12 => (if y12 = true then (some (-2 : Int)) else (if (a0.Kind != a1.Kind) = true then (if (decide (a0.Kind < a1.Kind)) = true then (some (-1 : Int)) else (some (1 : Int))) else (if (a0.N != a1.N) = true then (if (decide (a0.N < a1.N)) = true then (some (-1 : Int)) else (some (1 : Int))) else ((spec_FloatCompare.f a0.F a1.F).bind fun r32 => (if (r32 != (0 : Int)) = true then (some r32) else ((spec_l3texts.f a0.T a1.T).bind fun r41 => (some r41)))))))))
def spec_ItemCompare.Q (w : World) (F : Nat → Prop) (r : Int) (v : Value) (w' : World) : Prop :=
 v = (iI r) ∧ Ky [] w w'
theorem spec_ItemCompare.calls (a0 : Item) (a1 : Item) (w : World) (F : Nat → Prop) (w0_0 : Value) (w0_1 : Value) (w1_0 : Value) (w1_1 : Value) (h0_0 : Kd.flt.rd w [w0_0] a0.F F) (h0_1 : Xx.rd w [w0_1] a0.T F) (h1_0 : Kd.flt.rd w [w1_0] a1.F F) (h1_1 : Xx.rd w [w1_1] a1.T F) (r : Int) (m : spec_ItemCompare.f a0 a1 = some r) :
  Calls prog 199 #[(.agg #[(iI a0.Kind), (iI a0.N), w0_0, w0_1]), (.agg #[(iI a1.Kind), (iI a1.N), w1_0, w1_1])] w (RT (spec_ItemCompare.Q w F) r) := by
 obtain ⟨s0, rfl, kp0, z⟩ := Xi w F
 have A0_0 := Xu h0_0
 have A0_1 := z.rd h0_1
 have A1_0 := Xu h1_0
 have A1_1 := z.rd h1_1
 refine Xc (args := [(.agg #[(iI a0.Kind), (iI a0.N), w0_0, w0_1]), (.agg #[(iI a1.Kind), (iI a1.N), w1_0, w1_1])]) func199 ntmps199 rfl rfl m ?_
 unfold spec_ItemCompare.f
 refine sr (bx' (cs := [(iI a0.Kind), (iI a0.N), w0_0, w0_1]) 40 rfl rfl (fun b3 s3 p3 B3 => ?_))
 refine bx' (cs := [(iI a1.Kind), (iI a1.N), w1_0, w1_1]) 41 rfl rfl (fun b5 s5 p5 B5 => ?_)
 refine Xb rfl (dn (sq (sr ?_)))
 have A7 := B3.st p5 rfl
 refine lda' (es := [(iI a0.Kind), (iI a0.N), w0_0, w0_1]) A7 u29 z29 rfl ?_
 have K8 := kp0.st (Xq p3 p5) rfl
 refine clV 42 rfl func105 rfl (spec_ItemOk.calls a0 s5.w (mm [0] s5) w0_0 w0_1 ((Xk (s := s5) A0_0).sub (D := [0]) rfl) (A0_1.kp K8)) (fun r10 s11 p11 n11 => ?_)
 refine Xb rfl (Xb rfl (ji [] (fun (y12 : Bool) e w => ∃ (s : St) (e0 : Env), w = s.w ∧ e = upd (upd (upd e0 2 (pB b3)) 3 (pB b5)) 13 (.bool y12) ∧ Kp s0 s ∧ BlF s b5 29 [(iI a1.Kind), (iI a1.N), w1_0, w1_1] 41 ∧ BlF s b3 29 [(iI a0.Kind), (iI a0.N), w0_0, w0_1] 40) (fun Gj12 Kj12 => ?_) ?_))
 ·
  rcases bft (!r10) with hb12 | hb12
  ·
   refine Xv hb12 ?_
   rw [if_pos hb12]
   refine Xj rfl (Xj rfl (Xj rfl (Xb rfl ?_)))
   exact Kj12 _ _ _ ⟨s11, _, rfl, (ue (ue (ue rfl rfl) rfl) rfl), (K8.st p11 rfl), (B5.st p11 rfl), (A7.st p11 rfl)⟩
  refine Xv hb12 ?_
  rw [if_neg (by rw [hb12]; decide)]
  have A16 := B5.st p11 rfl
  refine lda' (es := [(iI a1.Kind), (iI a1.N), w1_0, w1_1]) A16 u29 z29 rfl ?_
  have K17 := K8.st p11 rfl
  refine clV 43 rfl func105 rfl (spec_ItemOk.calls a1 s11.w (mm [0] s11) w1_0 w1_1 ((Xk (s := s11) A1_0).sub (D := [0]) rfl) (A1_1.kp K17)) (fun r19 s20 p20 n20 => ?_)
  refine Xb rfl (Xb rfl ?_)
  exact Kj12 _ _ _ ⟨s20, _, rfl, (ue (ue (ue rfl rfl) rfl) rfl), (K17.st p20 rfl), (A16.st p20 rfl), (A7.st (Xq p11 p20) rfl)⟩
 rintro y12 _ _ ⟨s24, _, rfl, rfl, Ky12, By12_b5, By12_b3⟩
 refine dn (cd rfl (fun h27 => ?_) (fun h27 => ?_))
 ·
  exact sr (Xb rfl (dn (re rfl func199 rfl (Xs rfl Xg) rfl ⟨_, rfl, rfl, z.ky Ky12⟩)))
 refine sk (sq (sr (fa' fa29_0 rfl (ld' By12_b3 u3 rfl (fa' fa29_0 rfl (ld' By12_b5 u3 rfl (Xb rfl (dn (cd rfl (fun h28 => ?_) (fun h28 => ?_))))))))))
 ·
  refine sq (sr (fa' fa29_0 rfl (ld' By12_b3 u3 rfl (fa' fa29_0 rfl (ld' By12_b5 u3 rfl (Xb rfl (dn (cd rfl (fun h29 => ?_) (fun h29 => ?_)))))))))
  ·
   exact sr (Xb rfl (dn (re rfl func199 rfl (Xs rfl Xg) rfl ⟨_, rfl, rfl, z.ky Ky12⟩)))
  exact sk (sr (Xb rfl (dn (re rfl func199 rfl (Xs rfl Xg) rfl ⟨_, rfl, rfl, z.ky Ky12⟩))))
 refine sk (sq (sr (fa' fa29_1 rfl (ld' By12_b3 u3 rfl (fa' fa29_1 rfl (ld' By12_b5 u3 rfl (Xb rfl (dn (cd rfl (fun h30 => ?_) (fun h30 => ?_))))))))))
 ·
  refine sq (sr (fa' fa29_1 rfl (ld' By12_b3 u3 rfl (fa' fa29_1 rfl (ld' By12_b5 u3 rfl (Xb rfl (dn (cd rfl (fun h31 => ?_) (fun h31 => ?_)))))))))
  ·
   exact sr (Xb rfl (dn (re rfl func199 rfl (Xs rfl Xg) rfl ⟨_, rfl, rfl, z.ky Ky12⟩)))
  exact sk (sr (Xb rfl (dn (re rfl func199 rfl (Xs rfl Xg) rfl ⟨_, rfl, rfl, z.ky Ky12⟩))))
 refine sk (sr (fa' fa29_2 rfl (ld' By12_b3 u27 rfl (fa' fa29_2 rfl (ld' By12_b5 u27 rfl (clV 44 rfl func253 rfl (spec_FloatCompare.calls a0.F a1.F s24.w (mm [] s24) w0_0 w1_0 (Xk (s := s24) A0_0) (Xk (s := s24) A1_0)) (fun r32 s33 p33 n33 => ?_)))))))
 refine Xb rfl (dn (sq (sr (Xb rfl (Xb rfl (dn (cd rfl (fun h34 => ?_) (fun h34 => ?_))))))))
 ·
  refine sr (Xb rfl (Xb rfl (dn ?_)))
  exact re rfl func199 rfl (Xs rfl Xg) rfl ⟨_, rfl, rfl, z.ky (Ky12.st p33 rfl)⟩
 refine sk (sr (fa' fa29_3 rfl ?_))
 refine ld' (By12_b3.st p33 rfl) u22 rfl (fa' fa29_3 rfl ?_)
 refine ld' (By12_b5.st p33 rfl) u22 rfl ?_
 have K38 := Ky12.st p33 rfl
 refine clV 45 rfl func254 rfl (spec_l3texts.calls a0.T a1.T s33.w (mm [0] s33) w0_1 w1_1 (A0_1.kp K38) (A1_1.kp K38)) (fun r41 s42 p42 n42 => ?_)
 refine Xb rfl (dn ?_)
 exact re rfl func199 rfl (Xs rfl Xg) rfl ⟨_, rfl, rfl, z.ky (K38.st p42 rfl)⟩
def spec_l13span.f (a0 : l1Cur) : Option (Span × l1Cur) :=
 ((spec_l3key.f a0).bind fun r7 => ((spec_l3key.f (l1Cur.mk a0.b r7.2.i r7.2.h)).bind fun r14 => ((spec_l1Once.f (l1Cur.mk a0.b r14.2.i r14.2.h) (2 : Int)).bind fun r26 => ((if r26.1 = true then ((spec_l3copy.f r7.1).bind fun r34 => (some (r34.Kind, r34.N, r34.F, r34.T))) else (some (r14.1.Kind, r14.1.N, r14.1.F, r14.1.T))).bind fun y30 => ((spec_ItemCompare.f r7.1 (Item.mk y30.1 y30.2.1 y30.2.2.1 y30.2.2.2)).bind fun r59 => ((if (decide (r59 > (0 : Int))) = true then ((spec_l1Once.f (l1Cur.mk a0.b r26.2.i r26.2.h) (12 : Int)).bind fun r64 => (some ((!r64.1), r64.2.i, r64.2.h))) else (some (false, r26.2.i, r26.2.h))).bind fun y61 => ((if y61.1 = true then (some (y30.1, y30.2.1, y30.2.2.1, y30.2.2.2, r7.1.Kind, r7.1.N, r7.1.F, r7.1.T)) else (some (r7.1.Kind, r7.1.N, r7.1.F, r7.1.T, y30.1, y30.2.1, y30.2.2.1, y30.2.2.2))).bind fun y83 => (some ((Span.mk (Item.mk y83.1 y83.2.1 y83.2.2.1 y83.2.2.2.1) (Item.mk y83.2.2.2.2.1 y83.2.2.2.2.2.1 y83.2.2.2.2.2.2.1 y83.2.2.2.2.2.2.2)), (l1Cur.mk a0.b y61.2.1 y61.2.2))))))))))
def spec_l13span.Q (w : World) (F : Nat → Prop) (p0 : Nat) (w0_0 : Value) (r : Span × l1Cur) (v : Value) (w' : World) : Prop :=
 ∃ (v0 : Value) (v1 : Value) (v2 : Value) (v3 : Value), v = (.agg #[(iI r.1.From.Kind), (iI r.1.From.N), v0, v1, (iI r.1.To.Kind), (iI r.1.To.N), v2, v3]) ∧ FO kd146 w w' [(iI r.1.From.Kind), (iI r.1.From.N), v0, v1, (iI r.1.To.Kind), (iI r.1.To.N), v2, v3] r.1 ∧ BlW w' p0 184 [w0_0, (iI r.2.i), (iI r.2.h)] ∧ Ky [p0] w w'
theorem spec_l13span.calls (a0 : l1Cur) (w : World) (F : Nat → Prop) (p0 : Nat) (w0_0 : Value) (h0_0 : Xx.rd w [w0_0] a0.b F) (hb0 : BlW w p0 184 [w0_0, (iI a0.i), (iI a0.h)]) (hF : ∀ b, F b → b ∉ [p0]) (r : Span × l1Cur) (m : spec_l13span.f a0 = some r) :
  Calls prog 198 #[(pB p0)] w (RT (spec_l13span.Q w F p0 w0_0) r) := by
 obtain ⟨s0, rfl, kp0, z⟩ := start1 w F [p0] hF
 have A0_0 := z.rd h0_0
 refine Xc (args := [(pB p0)]) func198 ntmps198 rfl rfl m ?_
 unfold spec_l13span.f
 refine sr (al (cs := [(iI 0), (iI 0), (.float .f64 0), (.slice none 0 0), (iI 0), (iI 0), (.float .f64 0), (.slice none 0 0)]) 40 rfl rfl rfl rfl rfl o146 rfl (fun b3 s3 p3 B3 => ?_))
 refine dn (sr (Xb rfl ?_))
 have K5 := kp0.st p3 rfl
 have A8 := BlF.st (z.bl hb0 (by simp)) p3 rfl
 refine cl' rfl func98 rfl (spec_l3key.calls a0 s3.w (mm [0] s3) p0 w0_0 (A0_0.kp K5) A8.w (A8.apart rfl)) ?_
 rintro r7 _ w7 m7 ⟨v7_0, v7_1, rfl, f7_0, bw7, ky7⟩
 obtain ⟨s9, rfl, p9, n9, g9⟩ := nwb 41 A8 ky7
 obtain ⟨hu7_0_0, Au7_0_1⟩ := ap29 (f7_0.c n9)
 have B9 := blf_mk bw7 g9
 refine Xb rfl ?_
 have K12 := K5.st p9 rfl
 refine cl' rfl func98 rfl (spec_l3key.calls (l1Cur.mk a0.b r7.2.i r7.2.h) s9.w (mm [0] s9) p0 w0_0 (A0_0.kp K12) B9.w (B9.apart rfl)) ?_
 rintro r14 _ w14 m14 ⟨v14_0, v14_1, rfl, f14_0, bw14, ky14⟩
 obtain ⟨s15, rfl, p15, n15, g15⟩ := nwb 42 B9 ky14
 obtain ⟨hu14_0_0, Au14_0_1⟩ := ap29 (f14_0.c n15)
 refine bd (cells := [(iI r7.1.Kind), (iI r7.1.N), v7_0, v7_1, (iI r14.1.Kind), (iI r14.1.N), v14_0, v14_1]) pl146 o146 rfl rfl rfl rfl rfl rfl (al (cs := [(iI 0), (iI 0), (.float .f64 0), (.slice none 0 0), (iI 0), (iI 0), (.float .f64 0), (.slice none 0 0)]) 43 rfl rfl rfl rfl rfl o146 rfl (fun b18 s18 p18 B18 => ?_))
 have A20 := Au14_0_1.st p18 rfl
 have A21 := Au7_0_1.st (Xq p15 p18) rfl
 refine sva' (vs := [(iI r7.1.Kind), (iI r7.1.N), v7_0, v7_1, (iI r14.1.Kind), (iI r14.1.N), v14_0, v14_1]) B18 z146 rfl (Xe rfl (Xe rfl (Xe (FL.one hu7_0_0) (Xe A21.rd.one (Xe rfl (Xe rfl (Xe (FL.one hu14_0_0) (Xe A20.rd.one on_nil)))))))) rfl (fun s22 p22 B22 => ?_)
 refine dn (sq (sr (Xb rfl ?_)))
 have K24 := K12.st (tr3 p15 p18 p22) rfl
 have A27 := BlF.st (blf_mk bw14 g15) (Xq p18 p22) rfl
 refine clB A27 rfl func72 rfl (spec_l1Once.calls (l1Cur.mk a0.b r14.2.i r14.2.h) (2 : Int) s22.w (mm [0] s22) p0 w0_0 (A0_0.kp K24) A27.w (A27.apart rfl)) (fun r26 s28 p28 B28 => ?_)
 refine dn (jc (fun (y30 : Int × Int × Nat × (List Int)) e w => ∃ (s : St) (e0 : Env) (vy30_0 uy30_0 : Value), w = s.w ∧ e = upd (upd (upd e0 0 (pB p0)) 2 (pB b3)) 3 (pB b18) ∧ Kp s0 s ∧ OwF Xx s [vy30_0] y30.2.2.2 45 ∧ FL uy30_0 y30.2.2.1 ∧ BlF s p0 184 [w0_0, (iI r26.2.i), (iI r26.2.h)] 2 ∧ BlF s b18 146 [(iI r7.1.Kind), (iI r7.1.N), v7_0, v7_1, (iI y30.1), (iI y30.2.1), uy30_0, vy30_0] 43 ∧ BlF s b3 146 [(iI 0), (iI 0), (.float .f64 0), (.slice none 0 0), (iI 0), (iI 0), (.float .f64 0), (.slice none 0 0)] 40 ∧ OwF Xx s [v7_1] r7.1.T 41) (fun Gj30 Kj30 => ?_) ?_)
 ·
  refine cd rfl (fun h31 => ?_) (fun h31 => ?_)
  ·
   refine rg (fa' fa146_0 rfl ?_)
   have A32 := B22.st p28 rfl
   refine lda' (es := [(iI r7.1.Kind), (iI r7.1.N), v7_0, v7_1]) A32 u29 z29 rfl ?_
   have A33 := A21.st (Xq p22 p28) rfl
   refine cl' rfl func247 rfl (spec_l3copy.calls r7.1 s28.w (mm [41] s28) v7_0 v7_1 ((Xk (s := s28) hu7_0_0).sub (D := [41]) rfl) A33.rd) ?_
   rintro r34 _ w34 m34 ⟨v34_0, v34_1, rfl, f34_0, ky34⟩
   obtain ⟨s35, rfl, p35, n35⟩ := nwx s28 w34 46 ky34
   obtain ⟨hu34_0_0, Au34_0_1⟩ := ap29 (f34_0.c n35)
   refine fa' fa146_1 rfl (sva' (vs := [(iI r34.Kind), (iI r34.N), v34_0, v34_1]) (A32.st p35 rfl) z29 rfl (Xe rfl (Xe rfl (Xe (FL.one hu34_0_0) (Xe Au34_0_1.rd.one on_nil)))) rfl (fun s38 p38 B38 => ?_))
   refine dn ?_
   obtain ⟨s41, hw41, p41, A41⟩ := (Au34_0_1.st p38 rfl).rc 45 rfl
   rw [hw41]
   exact Kj30 _ _ _ ⟨s41, _, v34_1, v34_0, rfl, (ue (ue (ue rfl rfl) rfl) rfl), (K24.st (tr4 p28 p35 p38 p41) rfl), A41, hu34_0_0, (B28.st (tr3 p35 p38 p41) rfl), (B38.st p41 rfl), (B3.st (tr8 p9 p15 p18 p22 p28 p35 p38 p41) rfl), (A33.st (tr3 p35 p38 p41) rfl)⟩
  refine sk ?_
  obtain ⟨s48, hw48, p48, A48⟩ := (A20.st (Xq p22 p28) rfl).rc 45 rfl
  rw [hw48]
  exact Kj30 _ _ _ ⟨s48, _, v14_1, v14_0, rfl, (ue (ue (ue rfl rfl) rfl) rfl), (K24.st (Xq p28 p48) rfl), A48, hu14_0_0, (B28.st p48 rfl), (B22.st (Xq p28 p48) rfl), (B3.st (tr6 p9 p15 p18 p22 p28 p48) rfl), (A21.st (tr3 p22 p28 p48) rfl)⟩
 rintro y30 _ _ ⟨s54, _, vy30_0, uy30_0, rfl, rfl, Ky30, Ay30_0, Fy30_0, By30_p0, By30_b18, By30_b3, Cy30_10⟩
 refine sq (sr (fa' fa146_0 rfl (lda' (es := [(iI r7.1.Kind), (iI r7.1.N), v7_0, v7_1]) By30_b18 u29 z29 rfl (fa' fa146_1 rfl (lda' (es := [(iI y30.1), (iI y30.2.1), uy30_0, vy30_0]) By30_b18 u29 z29 rfl (clV 47 rfl func199 rfl (spec_ItemCompare.calls r7.1 (Item.mk y30.1 y30.2.1 y30.2.2.1 y30.2.2.2) s54.w (mm [41, 45] s54) v7_0 v7_1 uy30_0 vy30_0 ((Xk (s := s54) hu7_0_0).sub (D := [41, 45]) rfl) (Cy30_10.rd.sub (D := [41, 45]) rfl) ((Xk (s := s54) Fy30_0).sub (D := [41, 45]) rfl) (Ay30_0.rd.sub (D := [41, 45]) rfl)) (fun r59 s60 p60 n60 => ?_)))))))
 refine Xb rfl (Xb rfl (ji [] (fun (y61 : Bool × Int × Int) e w => ∃ (s : St) (e0 : Env), w = s.w ∧ e = upd (upd (upd e0 2 (pB b3)) 3 (pB b18)) 25 (.bool y61.1) ∧ Kp s0 s ∧ BlF s p0 184 [w0_0, (iI y61.2.1), (iI y61.2.2)] 2 ∧ BlF s b18 146 [(iI r7.1.Kind), (iI r7.1.N), v7_0, v7_1, (iI y30.1), (iI y30.2.1), uy30_0, vy30_0] 43 ∧ BlF s b3 146 [(iI 0), (iI 0), (.float .f64 0), (.slice none 0 0), (iI 0), (iI 0), (.float .f64 0), (.slice none 0 0)] 40 ∧ OwF Xx s [v7_1] r7.1.T 41 ∧ OwF Xx s [vy30_0] y30.2.2.2 45) (fun Gj61 Kj61 => ?_) ?_))
 ·
  rcases bft (decide (r59 > (0 : Int))) with hb61 | hb61
  ·
   refine Xv hb61 ?_
   rw [if_pos hb61]
   refine Xb rfl ?_
   have K62 := Ky30.st p60 rfl
   have A65 := By30_p0.st p60 rfl
   refine clB A65 rfl func72 rfl (spec_l1Once.calls (l1Cur.mk a0.b r26.2.i r26.2.h) (12 : Int) s60.w (mm [0] s60) p0 w0_0 (A0_0.kp K62) A65.w (A65.apart rfl)) (fun r64 s66 p66 B66 => ?_)
   refine Xb rfl (Xb rfl ?_)
   exact Kj61 _ _ _ ⟨s66, _, rfl, (ue (ue (ue rfl rfl) rfl) rfl), (K62.st p66 rfl), B66, (By30_b18.st (Xq p60 p66) rfl), (By30_b3.st (Xq p60 p66) rfl), (Cy30_10.st (Xq p60 p66) rfl), (Ay30_0.st (Xq p60 p66) rfl)⟩
  refine Xv hb61 ?_
  rw [if_neg (by rw [hb61]; decide)]
  refine Xj rfl (Xj rfl (Xj rfl (Xb rfl ?_)))
  exact Kj61 _ _ _ ⟨s60, _, rfl, (ue (ue (ue rfl rfl) rfl) rfl), (Ky30.st p60 rfl), (By30_p0.st p60 rfl), (By30_b18.st p60 rfl), (By30_b3.st p60 rfl), (Cy30_10.st p60 rfl), (Ay30_0.st p60 rfl)⟩
 rintro y61 _ _ ⟨s79, _, rfl, rfl, Ky61, By61_p0, By61_b18, By61_b3, Cy61_10, Cy61_55⟩
 refine dn (jc (fun (y83 : Int × Int × Nat × (List Int) × Int × Int × Nat × (List Int)) e w => ∃ (s : St) (e0 : Env) (vy83_0 vy83_1 uy83_0 uy83_1 : Value), w = s.w ∧ e = upd (upd e0 2 (pB b3)) 3 (pB b18) ∧ Kp s0 s ∧ OwF Xx s [vy83_0] y83.2.2.2.1 49 ∧ OwF Xx s [vy83_1] y83.2.2.2.2.2.2.2 50 ∧ FL uy83_0 y83.2.2.1 ∧ FL uy83_1 y83.2.2.2.2.2.2.1 ∧ BlF s p0 184 [w0_0, (iI y61.2.1), (iI y61.2.2)] 2 ∧ BlF s b18 146 [(iI y83.1), (iI y83.2.1), uy83_0, vy83_0, (iI y83.2.2.2.2.1), (iI y83.2.2.2.2.2.1), uy83_1, vy83_1] 43 ∧ BlF s b3 146 [(iI 0), (iI 0), (.float .f64 0), (.slice none 0 0), (iI 0), (iI 0), (.float .f64 0), (.slice none 0 0)] 40) (fun Gj83 Kj83 => ?_) ?_)
 ·
  refine cd rfl (fun h84 => ?_) (fun h84 => ?_)
  ·
   refine rg (fa' fa146_1 rfl (lda' (es := [(iI y30.1), (iI y30.2.1), uy30_0, vy30_0]) By61_b18 u29 z29 rfl (fa' fa146_0 rfl (lda' (es := [(iI r7.1.Kind), (iI r7.1.N), v7_0, v7_1]) By61_b18 u29 z29 rfl (bd (cells := [(iI y30.1), (iI y30.2.1), uy30_0, vy30_0, (iI r7.1.Kind), (iI r7.1.N), v7_0, v7_1]) pl146 o146 rfl rfl rfl rfl rfl rfl (sva' (vs := [(iI y30.1), (iI y30.2.1), uy30_0, vy30_0, (iI r7.1.Kind), (iI r7.1.N), v7_0, v7_1]) By61_b18 z146 rfl (Xe rfl (Xe rfl (Xe (FL.one Fy30_0) (Xe Cy61_55.rd.one (Xe rfl (Xe rfl (Xe (FL.one hu7_0_0) (Xe Cy61_10.rd.one on_nil)))))))) rfl (fun s85 p85 B85 => ?_)))))))
   refine dn ?_
   obtain ⟨s88, hw88, p88, A88⟩ := (Cy61_55.st p85 rfl).rc 49 rfl
   rw [hw88]
   obtain ⟨s90, hw90, p90, A90⟩ := (Cy61_10.st (Xq p85 p88) rfl).rc 50 rfl
   rw [hw90]
   exact Kj83 _ _ _ ⟨s90, _, vy30_0, v7_1, uy30_0, v7_0, rfl, (ue (ue rfl rfl) rfl), (Ky61.st (tr3 p85 p88 p90) rfl), (A88.st p90 rfl), A90, Fy30_0, hu7_0_0, (By61_p0.st (tr3 p85 p88 p90) rfl), (B85.st (Xq p88 p90) rfl), (By61_b3.st (tr3 p85 p88 p90) rfl)⟩
  refine sk ?_
  obtain ⟨s96, hw96, p96, A96⟩ := Cy61_10.rc 49 rfl
  rw [hw96]
  obtain ⟨s98, hw98, p98, A98⟩ := (Cy61_55.st p96 rfl).rc 50 rfl
  rw [hw98]
  exact Kj83 _ _ _ ⟨s98, _, v7_1, vy30_0, v7_0, uy30_0, rfl, (ue (ue rfl rfl) rfl), (Ky61.st (Xq p96 p98) rfl), (A96.st p98 rfl), A98, hu7_0_0, Fy30_0, (By61_p0.st (Xq p96 p98) rfl), (By61_b18.st (Xq p96 p98) rfl), (By61_b3.st (Xq p96 p98) rfl)⟩
 rintro y83 _ _ ⟨s104, _, vy83_0, vy83_1, uy83_0, uy83_1, rfl, rfl, Ky83, Ay83_0, Ay83_1, Fy83_0, Fy83_1, By83_p0, By83_b18, By83_b3⟩
 refine sr (lda' (es := [(iI y83.1), (iI y83.2.1), uy83_0, vy83_0, (iI y83.2.2.2.2.1), (iI y83.2.2.2.2.2.1), uy83_1, vy83_1]) By83_b18 u146 z146 rfl (sva' (vs := [(iI y83.1), (iI y83.2.1), uy83_0, vy83_0, (iI y83.2.2.2.2.1), (iI y83.2.2.2.2.2.1), uy83_1, vy83_1]) By83_b3 z146 rfl (Xe rfl (Xe rfl (Xe (FL.one Fy83_0) (Xe Ay83_0.rd.one (Xe rfl (Xe rfl (Xe (FL.one Fy83_1) (Xe Ay83_1.rd.one on_nil)))))))) rfl (fun s110 p110 B110 => ?_)))
 refine dn ?_
 obtain ⟨s114, hw114, p114, A114⟩ := ow_2 (ow_isoz (fun x : Item => (x.Kind, x.N, x.F, x.T)) (Item.mk y83.1 y83.2.1 y83.2.2.1 y83.2.2.2.1) (ow_l (Xo .i64 y83.1) (ow_l (Xo .i64 y83.2.1) (ow_l (fz_flt Fy83_0) (Ay83_0.st p110 rfl))))) (ow_isoz (fun x : Item => (x.Kind, x.N, x.F, x.T)) (Item.mk y83.2.2.2.2.1 y83.2.2.2.2.2.1 y83.2.2.2.2.2.2.1 y83.2.2.2.2.2.2.2) (ow_l (Xo .i64 y83.2.2.2.2.1) (ow_l (Xo .i64 y83.2.2.2.2.2.1) (ow_l (fz_flt Fy83_1) (Ay83_1.st p110 rfl))))) rfl rfl
 rw [hw114]
 have A116 : OwF kd146 s114 [(iI y83.1), (iI y83.2.1), uy83_0, vy83_0, (iI y83.2.2.2.2.1), (iI y83.2.2.2.2.2.1), uy83_1, vy83_1] (Span.mk (Item.mk y83.1 y83.2.1 y83.2.2.1 y83.2.2.2.1) (Item.mk y83.2.2.2.2.1 y83.2.2.2.2.2.1 y83.2.2.2.2.2.2.1 y83.2.2.2.2.2.2.2)) 49 := (ow_isoz (fun x : Span => (x.From, x.To)) (Span.mk (Item.mk y83.1 y83.2.1 y83.2.2.1 y83.2.2.2.1) (Item.mk y83.2.2.2.2.1 y83.2.2.2.2.2.1 y83.2.2.2.2.2.2.1 y83.2.2.2.2.2.2.2)) A114)
 have K119 := Ky83.st (Xq p110 p114) rfl
 exact re rfl func198 rfl (r_b (B110.st p114 rfl) u146 rfl z146 rfl Xg) rfl ⟨_, rfl, uy83_0, vy83_0, uy83_1, vy83_1, rfl, A116.fo K119 rfl z.l, (BlF.w (By83_p0.st (Xq p110 p114) rfl)), z.ky K119⟩
def spec_l14deeds.b2 (a0 : l1Cur) (r8 : Bool × l1Cur) (x11 : (List Deed) × Int × Int × Int × Int) (r23 : Int × l1Cur) (x32 : Int × Int × Int × (List Span)) (x83 : Int × Int × Int × (List Item)) : Option ((Int × Int × Int × (List Item)) ⊕ ((List Deed) × Int × Int × Int × Int ⊕ (List Deed) × l1Cur)) :=
 (if (decide (x83.1 > (0 : Int))) = true then ((spec_l3key.f (l1Cur.mk a0.b x83.2.1 x83.2.2.1)).bind fun r102 => (if x83.2.2.2.length + ([r102.1]).length ≤ Lim then (some (Sum.inl ((IntKind.wrap .i64 (x83.1 - (1 : Int))), r102.2.i, r102.2.h, (x83.2.2.2 ++ [r102.1])))) else none)) else (((if (!r8.1) = true then ((spec_l1Once.f (l1Cur.mk a0.b x83.2.1 x83.2.2.1) (3 : Int)).bind fun r133 => (some ((!r133.1), r133.2.i, r133.2.h))) else (some (false, x83.2.1, x83.2.2.1))).bind fun y130 => ((if y130.1 = true then ((spec_l1Below.f (l1Cur.mk a0.b y130.2.1 y130.2.2) (200 : Int)).bind fun r153 => (some (r153.2.i, r153.2.h, (IntKind.wrap .i64 ((IntKind.wrap .i64 ((1000 : Int) + (IntKind.wrap .i64 ((37 : Int) * r153.1)))) + x11.2.2.1))))) else (some (y130.2.1, y130.2.2, (IntKind.wrap .i64 ((IntKind.wrap .i64 (x11.2.1 + (1 : Int))) + r23.1))))).bind fun y150 => (if x11.1.length + ([(Deed.mk (IntKind.wrap .i64 (x11.2.2.1 + (1 : Int))) x11.2.1 y150.2.2 x32.2.2.2 x83.2.2.2)]).length ≤ Lim then (some (Sum.inl ((x11.1 ++ [(Deed.mk (IntKind.wrap .i64 (x11.2.2.1 + (1 : Int))) x11.2.1 y150.2.2 x32.2.2.2 x83.2.2.2)]), (IntKind.wrap .i64 ((IntKind.wrap .i64 ((IntKind.wrap .i64 (x11.2.1 + (1 : Int))) + r23.1)) + (1 : Int))), (IntKind.wrap .i64 (x11.2.2.1 + (1 : Int))), y150.1, y150.2.1))) else none))).bind fun o => some (Sum.inr o)))
def spec_l14deeds.b1 (a0 : l1Cur) (r8 : Bool × l1Cur) (x11 : (List Deed) × Int × Int × Int × Int) (r23 : Int × l1Cur) (x32 : Int × Int × Int × (List Span)) : Option ((Int × Int × Int × (List Span)) ⊕ ((List Deed) × Int × Int × Int × Int ⊕ (List Deed) × l1Cur)) :=
 (if (decide (x32.1 > (0 : Int))) = true then ((spec_l13span.f (l1Cur.mk a0.b x32.2.1 x32.2.2.1)).bind fun r50 => (if x32.2.2.2.length + ([r50.1]).length ≤ Lim then (some (Sum.inl ((IntKind.wrap .i64 (x32.1 - (1 : Int))), r50.2.i, r50.2.h, (x32.2.2.2 ++ [r50.1])))) else none)) else (((spec_l1Below.f (l1Cur.mk a0.b x32.2.1 x32.2.2.1) (3 : Int)).bind fun r80 => (iter (spec_l14deeds.b2 a0 r8 x11 r23 x32) (r80.1, r80.2.i, r80.2.h, ([] : (List Item))))).bind fun o => some (Sum.inr o)))
def spec_l14deeds.b0 (a0 : l1Cur) (r3 : Int × l1Cur) (r8 : Bool × l1Cur) (x11 : (List Deed) × Int × Int × Int × Int) : Option (((List Deed) × Int × Int × Int × Int) ⊕ ((List Deed) × l1Cur)) :=
 (if (decide (x11.2.2.1 < r3.1)) = true then ((spec_l1Below.f (l1Cur.mk a0.b x11.2.2.2.1 x11.2.2.2.2) (2 : Int)).bind fun r23 => ((spec_l1Below.f (l1Cur.mk a0.b r23.2.i r23.2.h) (3 : Int)).bind fun r29 => (iter (spec_l14deeds.b1 a0 r8 x11 r23) (r29.1, r29.2.i, r29.2.h, ([] : (List Span)))))) else ((some (x11.1, (l1Cur.mk a0.b x11.2.2.2.1 x11.2.2.2.2))).bind fun o => some (Sum.inr o)))
def spec_l14deeds.f (a0 : l1Cur) (a1 : Int) : Option ((List Deed) × l1Cur) :=
 ((spec_l1Below.f a0 (IntKind.wrap .i64 (a1 + (1 : Int)))).bind fun r3 => ((spec_l1Once.f (l1Cur.mk a0.b r3.2.i r3.2.h) (3 : Int)).bind fun r8 => (iter (spec_l14deeds.b0 a0 r3 r8) (([] : (List Deed)), (1 : Int), (0 : Int), r8.2.i, r8.2.h))))
def spec_l14deeds.Q (w : World) (F : Nat → Prop) (p0 : Nat) (w0_0 : Value) (r : (List Deed) × l1Cur) (v : Value) (w' : World) : Prop :=
 FO Xz w w' [v] r.1 ∧ BlW w' p0 184 [w0_0, (iI r.2.i), (iI r.2.h)] ∧ Ky [p0] w w'
theorem spec_l14deeds.calls (a0 : l1Cur) (a1 : Int) (w : World) (F : Nat → Prop) (p0 : Nat) (w0_0 : Value) (h0_0 : Xx.rd w [w0_0] a0.b F) (hb0 : BlW w p0 184 [w0_0, (iI a0.i), (iI a0.h)]) (hF : ∀ b, F b → b ∉ [p0]) (r : (List Deed) × l1Cur) (m : spec_l14deeds.f a0 a1 = some r) :
  Calls prog 112 #[(pB p0), (iI a1)] w (RT (spec_l14deeds.Q w F p0 w0_0) r) := by
 obtain ⟨s0, rfl, kp0, z⟩ := start1 w F [p0] hF
 have A0_0 := z.rd h0_0
 have B0 := z.bl hb0 (by simp)
 refine Xc (args := [(pB p0), (iI a1)]) func112 ntmps112 rfl rfl m ?_
 unfold spec_l14deeds.f
 refine sr (Xb rfl (dn (sr (Xb rfl (dn (sr (Xb rfl (Xb rfl (Xb rfl (clB B0 rfl func74 rfl (spec_l1Below.calls a0 (IntKind.wrap .i64 (a1 + (1 : Int))) s0.w (mm [0] s0) p0 w0_0 A0_0 B0.w (B0.apart rfl)) (fun r3 s4 p4 B4 => ?_)))))))))))
 refine Xb rfl (dn (sr (Xb rfl (dn (sr (Xb rfl ?_))))))
 have K6 := kp0.st p4 rfl
 refine clB B4 rfl func72 rfl (spec_l1Once.calls (l1Cur.mk a0.b r3.2.i r3.2.h) (3 : Int) s4.w (mm [0] s4) p0 w0_0 (A0_0.kp K6) B4.w (B4.apart rfl)) (fun r8 s9 p9 B9 => ?_)
 refine Xb rfl (dn (sq (sr (Xb rfl (dn (bl ?_))))))
 refine lpI (fun (x11 : (List Deed) × Int × Int × Int × Int) e w => ∃ (s : St) (e0 : Env) (vx11_0 : Value), w = s.w ∧ e = upd (upd (upd (upd (upd (upd e0 0 (pB p0)) 5 vx11_0) 6 (iI r3.1)) 7 (iI x11.2.1)) 8 (.bool r8.1)) 9 (iI x11.2.2.1) ∧ Kp s0 s ∧ OwF Xz s [vx11_0] x11.1 43 ∧ BlF s p0 184 [w0_0, (iI x11.2.2.2.1), (iI x11.2.2.2.2)] 2) ⟨s9, _, (.slice none 0 0), rfl, (ue (ue (ue (ue (ue (ue rfl rfl) rfl) rfl) rfl) rfl) rfl), (K6.st p9 rfl), (ow_nil 143 kd143 _ 43), B9⟩ (fun g11 ih11 => ?_)
 rintro x11 _ _ ⟨s13, _, vx11_0, rfl, rfl, Kx11, Ax11_0, Bx11_p0⟩
 unfold spec_l14deeds.b0
 refine sq (sr (Xb rfl (Xb rfl (Xb rfl (dn (cd rfl (fun h16 => ?_) (fun h16 => ?_)))))))
 ·
  refine sk (sq (bl (sr (Xb rfl (Xb rfl (Xb rfl (bd (cells := [(iI (IntKind.wrap .i64 (x11.2.2.1 + (1 : Int)))), (iI x11.2.1), (iI 0), (.slice none 0 0), (.slice none 0 0)]) pl143 o143 rfl rfl rfl rfl rfl rfl (al (cs := [(iI 0), (iI 0), (iI 0), (.slice none 0 0), (.slice none 0 0)]) 44 rfl rfl rfl rfl rfl o143 rfl (fun b17 s17 p17 B17 => ?_)))))))))
  refine sva' (vs := [(iI (IntKind.wrap .i64 (x11.2.2.1 + (1 : Int)))), (iI x11.2.1), (iI 0), (.slice none 0 0), (.slice none 0 0)]) B17 z143 rfl (Xe rfl (Xe rfl (Xe rfl (Xe rfl (Xe rfl on_nil))))) rfl (fun s19 p19 B19 => ?_)
  refine dn (sr (Xb rfl (Xb rfl (Xb rfl ?_))))
  have K21 := Kx11.st (Xq p17 p19) rfl
  have A24 := Bx11_p0.st (Xq p17 p19) rfl
  refine clB A24 rfl func74 rfl (spec_l1Below.calls (l1Cur.mk a0.b x11.2.2.2.1 x11.2.2.2.2) (2 : Int) s19.w (mm [0] s19) p0 w0_0 (A0_0.kp K21) A24.w (A24.apart rfl)) (fun r23 s25 p25 B25 => ?_)
  refine Xb rfl (Xb rfl (dn (sq (sr (Xb rfl ?_)))))
  have K27 := K21.st p25 rfl
  refine clB B25 rfl func74 rfl (spec_l1Below.calls (l1Cur.mk a0.b r23.2.i r23.2.h) (3 : Int) s25.w (mm [0] s25) p0 w0_0 (A0_0.kp K27) B25.w (B25.apart rfl)) (fun r29 s30 p30 B30 => ?_)
  refine Xb rfl (dn (bl ?_))
  refine lpI (fun (x32 : Int × Int × Int × (List Span)) e w => ∃ (s : St) (e0 : Env) (vx32_0 : Value), w = s.w ∧ e = upd (upd (upd (upd (upd (upd (upd (upd e0 0 (pB p0)) 5 vx11_0) 6 (iI r3.1)) 7 (iI (IntKind.wrap .i64 ((IntKind.wrap .i64 (x11.2.1 + (1 : Int))) + r23.1)))) 8 (.bool r8.1)) 9 (iI x11.2.2.1)) 10 (pB b17)) 11 (iI x32.1) ∧ Kp s0 s ∧ OwF Yb s [vx32_0] x32.2.2.2 47 ∧ BlF s p0 184 [w0_0, (iI x32.2.1), (iI x32.2.2.1)] 2 ∧ BlF s b17 143 [(iI (IntKind.wrap .i64 (x11.2.2.1 + (1 : Int)))), (iI x11.2.1), (iI 0), vx32_0, (.slice none 0 0)] 44 ∧ OwF Xz s [vx11_0] x11.1 43) ⟨s30, _, (.slice none 0 0), rfl, (ue (ue (ue (ue (ue (ue (ue (ue rfl rfl) rfl) rfl) rfl) rfl) rfl) rfl) rfl), (K27.st p30 rfl), (ow_nil 146 kd146 _ 47), B30, (B19.st (Xq p25 p30) rfl), (Ax11_0.st (tr4 p17 p19 p25 p30) rfl)⟩ (fun g32 ih32 => ?_)
  rintro x32 _ _ ⟨s36, _, vx32_0, rfl, rfl, Kx32, Ax32_0, Bx32_p0, Bx32_b17, Cx32_14⟩
  unfold spec_l14deeds.b1
  refine sq (sr (Xb rfl (Xb rfl (dn (cd rfl (fun h40 => ?_) (fun h40 => ?_))))))
  ·
   refine sk (sq (bl (zdraw [[], [0], [], [2], [3], [1, 4, 3], [0, 1, 2, 3, 4, 5], [6, 5, 5, 0, 1, 2, 3, 4, 5]] [some 39, some 40, some 41, some 42, some 43, some 44, some 45, none] [[10], [39], [0], [41], [42], [40, 43], [10], [45, 44]] [0, 1, 2, 3, 4, 5, 6, 7] ⟨by kernel_rfl, by kernel_rfl, by kernel_rfl⟩ (by kernel_rfl) (fun s41 p41 l41 tb41 zd41 => ?_))))
   refine zstep 3 [some 40, some 39] tb41 (((zd41.add 0 39 (pO b17 3) rfl).add 1 40 vx32_0 rfl).add 2 41 (pB p0) rfl) (Xa (Xd rfl) rfl (Xa (Xr (Bx32_b17.st p41 rfl) u140 rfl) rfl (Xa (Xm fa143_3 rfl) rfl Xh))) (by kernel_rfl) rfl (fun l46 e46 zd46 => ?_)
   have K48 := Kx32.st p41 rfl
   have A51 := Bx32_p0.st p41 rfl
   refine cl' rfl func198 rfl (spec_l13span.calls (l1Cur.mk a0.b x32.2.1 x32.2.2.1) s41.w (mm [0] s41) p0 w0_0 (A0_0.kp K48) A51.w (A51.apart rfl)) ?_
   rintro r50 _ w50 m50 ⟨v50_0, v50_1, v50_2, v50_3, rfl, f50_0, bw50, ky50⟩
   obtain ⟨s52, rfl, p52, n52, g52⟩ := nwb 48 A51 ky50
   obtain ⟨s53, hw53, p53, hu50_0_0, Au50_0_1, hu50_0_2, Au50_0_3⟩ := ap146 49 (f50_0.c n52) rfl
   rw [hw53]
   refine zdone (L' := [1, 0]) (D' := [2, 3]) zd46 rfl rfl rfl (fun zd57 => ?_)
   refine zstep 4 [some 40, some 39] tb41 zd57 (Xa (Xr (Bx32_b17.st (tr3 p41 p52 p53) rfl) u140 rfl) rfl (Xa (Xm fa143_3 rfl) rfl Xh)) (by kernel_rfl) rfl (fun l58 e58 zd58 => ?_)
   obtain ⟨s60, hw60, p60, A60⟩ := ow_2 (ow_isoz (fun x : Item => (x.Kind, x.N, x.F, x.T)) r50.1.From (ow_l (Xo .i64 r50.1.From.Kind) (ow_l (Xo .i64 r50.1.From.N) (ow_l (fz_flt hu50_0_0) Au50_0_1)))) (ow_isoz (fun x : Item => (x.Kind, x.N, x.F, x.T)) r50.1.To (ow_l (Xo .i64 r50.1.To.Kind) (ow_l (Xo .i64 r50.1.To.N) (ow_l (fz_flt hu50_0_2) Au50_0_3)))) rfl rfl
   rw [hw60]
   have A62 : OwF kd146 s60 [(iI r50.1.From.Kind), (iI r50.1.From.N), v50_0, v50_1, (iI r50.1.To.Kind), (iI r50.1.To.N), v50_2, v50_3] r50.1 48 := (ow_isoz (fun x : Span => (x.From, x.To)) r50.1 A60)
   refine ltO (K := kd146) (cells := [(iI r50.1.From.Kind), (iI r50.1.From.N), v50_0, v50_1, (iI r50.1.To.Kind), (iI r50.1.To.N), v50_2, v50_3]) [r50.1] 48 u140 z146 o146 (lo_one A62) rfl rfl rfl rfl rfl rfl rfl rfl rfl rfl (fun v65 s65 p65 A65 => ?_)
   refine zdone (L' := [1, 0]) (D' := [4, 2, 3]) zd58 rfl rfl rfl (fun zd67 => ?_)
   refine zfin [5, 6, 7] tb41 zd67 (Xa (Xr (Bx32_b17.st (tr5 p41 p52 p53 p60 p65) rfl) u140 rfl) rfl (Xa (Xm fa143_3 rfl) rfl Xh)) (by kernel_rfl) (by decide) (apO sl140 (Ax32_0.st (tr5 p41 p52 p53 p60 p65) rfl) A65 rfl rfl rfl rfl rfl rfl rfl rfl rfl (fun v70 s70 p70 A70 => ?_))
   refine fa' fa143_3 rfl (sv (Bx32_b17.st (tr6 p41 p52 p53 p60 p65 p70) rfl) z140 rfl rfl rfl rfl rfl rfl A70.rd.one rfl (fun s73 p73 B73 => ?_))
   refine dn (ib (rg (Xb rfl (Xb rfl (Xb rfl (dn ?_))))))
   exact lb ih32 ⟨s73, _, v70, rfl, (ue (ue (ue (ue (ue (ue (ue (ue rfl rfl) rfl) rfl) rfl) rfl) rfl) rfl) rfl), (K48.st (tr6 p52 p53 p60 p65 p70 p73) rfl), (A70.st p73 rfl), (BlF.st (blf_mk bw50 g52) (tr5 p53 p60 p65 p70 p73) rfl), B73, (Cx32_14.st (tr7 p41 p52 p53 p60 p65 p70 p73) rfl)⟩
  refine xt rfl (sgb (sq (sr (Xb rfl ?_))))
  refine clB Bx32_p0 rfl func74 rfl (spec_l1Below.calls (l1Cur.mk a0.b x32.2.1 x32.2.2.1) (3 : Int) s36.w (mm [0] s36) p0 w0_0 (A0_0.kp Kx32) Bx32_p0.w (Bx32_p0.apart rfl)) (fun r80 s81 p81 B81 => ?_)
  refine Xb rfl (dn (bl ?_))
  refine lpI (fun (x83 : Int × Int × Int × (List Item)) e w => ∃ (s : St) (e0 : Env) (vx83_0 : Value), w = s.w ∧ e = upd (upd (upd (upd (upd (upd (upd (upd e0 0 (pB p0)) 5 vx11_0) 6 (iI r3.1)) 7 (iI (IntKind.wrap .i64 ((IntKind.wrap .i64 (x11.2.1 + (1 : Int))) + r23.1)))) 8 (.bool r8.1)) 9 (iI x11.2.2.1)) 10 (pB b17)) 12 (iI x83.1) ∧ Kp s0 s ∧ OwF Ya s [vx83_0] x83.2.2.2 52 ∧ BlF s p0 184 [w0_0, (iI x83.2.1), (iI x83.2.2.1)] 2 ∧ BlF s b17 143 [(iI (IntKind.wrap .i64 (x11.2.2.1 + (1 : Int)))), (iI x11.2.1), (iI 0), vx32_0, vx83_0] 44 ∧ OwF Xz s [vx11_0] x11.1 43 ∧ OwF Yb s [vx32_0] x32.2.2.2 47) ⟨s81, _, (.slice none 0 0), rfl, (ue (ue (ue (ue (ue (ue (ue (ue rfl rfl) rfl) rfl) rfl) rfl) rfl) rfl) rfl), (Kx32.st p81 rfl), (ow_nil 29 kd29 _ 52), B81, (Bx32_b17.st p81 rfl), (Cx32_14.st p81 rfl), (Ax32_0.st p81 rfl)⟩ (fun g83 ih83 => ?_)
  rintro x83 _ _ ⟨s88, _, vx83_0, rfl, rfl, Kx83, Ax83_0, Bx83_p0, Bx83_b17, Cx83_14, Cx83_37⟩
  unfold spec_l14deeds.b2
  refine sq (sr (Xb rfl (Xb rfl (dn (cd rfl (fun h92 => ?_) (fun h92 => ?_))))))
  ·
   refine sk (sq (bl (zdraw [[], [0], [], [2], [3], [1, 4, 3], [0, 1, 2, 3, 4, 5], [6, 5, 5, 0, 1, 2, 3, 4, 5]] [some 52, some 53, some 54, some 55, some 56, some 57, some 58, none] [[10], [52], [0], [54], [55], [53, 56], [10], [58, 57]] [0, 1, 2, 3, 4, 5, 6, 7] ⟨by kernel_rfl, by kernel_rfl, by kernel_rfl⟩ (by kernel_rfl) (fun s93 p93 l93 tb93 zd93 => ?_))))
   refine zstep 3 [some 53, some 52] tb93 (((zd93.add 0 52 (pO b17 4) rfl).add 1 53 vx83_0 rfl).add 2 54 (pB p0) rfl) (Xa (Xd rfl) rfl (Xa (Xr (Bx83_b17.st p93 rfl) u141 rfl) rfl (Xa (Xm fa143_4 rfl) rfl Xh))) (by kernel_rfl) rfl (fun l98 e98 zd98 => ?_)
   have K100 := Kx83.st p93 rfl
   have A103 := Bx83_p0.st p93 rfl
   refine cl' rfl func98 rfl (spec_l3key.calls (l1Cur.mk a0.b x83.2.1 x83.2.2.1) s93.w (mm [0] s93) p0 w0_0 (A0_0.kp K100) A103.w (A103.apart rfl)) ?_
   rintro r102 _ w102 m102 ⟨v102_0, v102_1, rfl, f102_0, bw102, ky102⟩
   obtain ⟨s104, rfl, p104, n104, g104⟩ := nwb 53 A103 ky102
   obtain ⟨hu102_0_0, Au102_0_1⟩ := ap29 (f102_0.c n104)
   refine zdone (L' := [1, 0]) (D' := [2, 3]) zd98 rfl rfl rfl (fun zd107 => ?_)
   refine zstep 4 [some 53, some 52] tb93 zd107 (Xa (Xr (Bx83_b17.st (Xq p93 p104) rfl) u141 rfl) rfl (Xa (Xm fa143_4 rfl) rfl Xh)) (by kernel_rfl) rfl (fun l108 e108 zd108 => ?_)
   have A110 : OwF kd29 s104 [(iI r102.1.Kind), (iI r102.1.N), v102_0, v102_1] r102.1 53 := (ow_isoz (fun x : Item => (x.Kind, x.N, x.F, x.T)) r102.1 (ow_l (Xo .i64 r102.1.Kind) (ow_l (Xo .i64 r102.1.N) (ow_l (fz_flt hu102_0_0) Au102_0_1))))
   refine ltO (K := kd29) (cells := [(iI r102.1.Kind), (iI r102.1.N), v102_0, v102_1]) [r102.1] 53 u141 z29 o29 (lo_one A110) rfl rfl rfl rfl rfl rfl rfl rfl rfl rfl (fun v113 s113 p113 A113 => ?_)
   refine zdone (L' := [1, 0]) (D' := [4, 2, 3]) zd108 rfl rfl rfl (fun zd115 => ?_)
   refine zfin [5, 6, 7] tb93 zd115 (Xa (Xr (Bx83_b17.st (tr3 p93 p104 p113) rfl) u141 rfl) rfl (Xa (Xm fa143_4 rfl) rfl Xh)) (by kernel_rfl) (by decide) (apO sl141 (Ax83_0.st (tr3 p93 p104 p113) rfl) A113 rfl rfl rfl rfl rfl rfl rfl rfl rfl (fun v118 s118 p118 A118 => ?_))
   refine fa' fa143_4 rfl (sv (Bx83_b17.st (tr4 p93 p104 p113 p118) rfl) z141 rfl rfl rfl rfl rfl rfl A118.rd.one rfl (fun s121 p121 B121 => ?_))
   refine dn (ib (rg (Xb rfl (Xb rfl (Xb rfl (dn ?_))))))
   exact lb ih83 ⟨s121, _, v118, rfl, (ue (ue (ue (ue (ue (ue (ue (ue rfl rfl) rfl) rfl) rfl) rfl) rfl) rfl) rfl), (K100.st (tr4 p104 p113 p118 p121) rfl), (A118.st p121 rfl), (BlF.st (blf_mk bw102 g104) (tr3 p113 p118 p121) rfl), B121, (Cx83_14.st (tr5 p93 p104 p113 p118 p121) rfl), (Cx83_37.st (tr5 p93 p104 p113 p118 p121) rfl)⟩
  refine xt rfl (sgb (sr (Xb rfl (fa' fa143_2 rfl (sv Bx83_b17 z3 rfl rfl rfl rfl rfl rfl rfl rfl (fun s128 p128 B128 => ?_))))))
  refine dn (sr (Xb rfl (Xb rfl (Xb rfl (dn (sq (sr (Xb rfl (Xb rfl (Xb rfl (ji [] (fun (y130 : Bool × Int × Int) e w => ∃ (s : St) (e0 : Env), w = s.w ∧ e = upd (upd (upd (upd (upd (upd (upd (upd e0 0 (pB p0)) 5 vx11_0) 6 (iI r3.1)) 7 (iI (IntKind.wrap .i64 ((IntKind.wrap .i64 ((IntKind.wrap .i64 (x11.2.1 + (1 : Int))) + r23.1)) + (1 : Int))))) 8 (.bool r8.1)) 9 (iI x11.2.2.1)) 10 (pB b17)) 69 (.bool y130.1) ∧ Kp s0 s ∧ BlF s p0 184 [w0_0, (iI y130.2.1), (iI y130.2.2)] 2 ∧ BlF s b17 143 [(iI (IntKind.wrap .i64 (x11.2.2.1 + (1 : Int)))), (iI x11.2.1), (iI (IntKind.wrap .i64 ((IntKind.wrap .i64 (x11.2.1 + (1 : Int))) + r23.1))), vx32_0, vx83_0] 44 ∧ OwF Xz s [vx11_0] x11.1 43 ∧ OwF Yb s [vx32_0] x32.2.2.2 47 ∧ OwF Ya s [vx83_0] x83.2.2.2 52) (fun Gj130 Kj130 => ?_) ?_)))))))))))
  ·
   rcases bft (!r8.1) with hb130 | hb130
   ·
    refine Xv hb130 ?_
    rw [if_pos hb130]
    refine Xb rfl ?_
    have K131 := Kx83.st p128 rfl
    have A134 := Bx83_p0.st p128 rfl
    refine clB A134 rfl func72 rfl (spec_l1Once.calls (l1Cur.mk a0.b x83.2.1 x83.2.2.1) (3 : Int) s128.w (mm [0] s128) p0 w0_0 (A0_0.kp K131) A134.w (A134.apart rfl)) (fun r133 s135 p135 B135 => ?_)
    refine Xb rfl (Xb rfl ?_)
    exact Kj130 _ _ _ ⟨s135, _, rfl, (ue (ue (ue (ue (ue (ue (ue (ue rfl rfl) rfl) rfl) rfl) rfl) rfl) rfl) rfl), (K131.st p135 rfl), B135, (B128.st p135 rfl), (Cx83_14.st (Xq p128 p135) rfl), (Cx83_37.st (Xq p128 p135) rfl), (Ax83_0.st (Xq p128 p135) rfl)⟩
   refine Xv hb130 ?_
   rw [if_neg (by rw [hb130]; decide)]
   refine Xj rfl (Xj rfl (Xj rfl (Xb rfl ?_)))
   exact Kj130 _ _ _ ⟨s128, _, rfl, (ue (ue (ue (ue (ue (ue (ue (ue rfl rfl) rfl) rfl) rfl) rfl) rfl) rfl) rfl), (Kx83.st p128 rfl), (Bx83_p0.st p128 rfl), B128, (Cx83_14.st p128 rfl), (Cx83_37.st p128 rfl), (Ax83_0.st p128 rfl)⟩
  rintro y130 _ _ ⟨s147, _, rfl, rfl, Ky130, By130_p0, By130_b17, Cy130_14, Cy130_37, Cy130_89⟩
  refine dn (jc (fun (y150 : Int × Int × Int) e w => ∃ (s : St) (e0 : Env), w = s.w ∧ e = upd (upd (upd (upd (upd (upd (upd e0 0 (pB p0)) 5 vx11_0) 6 (iI r3.1)) 7 (iI (IntKind.wrap .i64 ((IntKind.wrap .i64 ((IntKind.wrap .i64 (x11.2.1 + (1 : Int))) + r23.1)) + (1 : Int))))) 8 (.bool r8.1)) 9 (iI x11.2.2.1)) 10 (pB b17) ∧ Kp s0 s ∧ BlF s p0 184 [w0_0, (iI y150.1), (iI y150.2.1)] 2 ∧ BlF s b17 143 [(iI (IntKind.wrap .i64 (x11.2.2.1 + (1 : Int)))), (iI x11.2.1), (iI y150.2.2), vx32_0, vx83_0] 44 ∧ OwF Xz s [vx11_0] x11.1 43 ∧ OwF Yb s [vx32_0] x32.2.2.2 47 ∧ OwF Ya s [vx83_0] x83.2.2.2 52) (fun Gj150 Kj150 => ?_) ?_)
  ·
   refine cd rfl (fun h151 => ?_) (fun h151 => ?_)
   ·
    refine rg (Xb rfl ?_)
    refine clB By130_p0 rfl func74 rfl (spec_l1Below.calls (l1Cur.mk a0.b y130.2.1 y130.2.2) (200 : Int) s147.w (mm [0] s147) p0 w0_0 (A0_0.kp Ky130) By130_p0.w (By130_p0.apart rfl)) (fun r153 s154 p154 B154 => ?_)
    refine Xb rfl (Xb rfl (Xb rfl (Xb rfl (fa' fa143_2 rfl ?_))))
    refine sv (By130_b17.st p154 rfl) z3 rfl rfl rfl rfl rfl rfl rfl rfl (fun s157 p157 B157 => ?_)
    exact dn (Kj150 _ _ _ ⟨s157, _, rfl, (ue (ue (ue (ue (ue (ue (ue rfl rfl) rfl) rfl) rfl) rfl) rfl) rfl), (Ky130.st (Xq p154 p157) rfl), (B154.st p157 rfl), B157, (Cy130_14.st (Xq p154 p157) rfl), (Cy130_37.st (Xq p154 p157) rfl), (Cy130_89.st (Xq p154 p157) rfl)⟩)
   exact sk (Kj150 _ _ _ ⟨s147, _, rfl, (ue (ue (ue (ue (ue (ue (ue rfl rfl) rfl) rfl) rfl) rfl) rfl) rfl), Ky130, By130_p0, By130_b17, Cy130_14, Cy130_37, Cy130_89⟩)
  rintro y150 _ _ ⟨s164, _, rfl, rfl, Ky150, By150_p0, By150_b17, Cy150_14, Cy150_37, Cy150_89⟩
  refine rg (Xp vx11_0 rfl (lda' (es := [(iI (IntKind.wrap .i64 (x11.2.2.1 + (1 : Int)))), (iI x11.2.1), (iI y150.2.2), vx32_0, vx83_0]) By150_b17 u143 z143 rfl ?_))
  obtain ⟨s167, hw167, p167, A167⟩ := ow_2 Cy150_37 Cy150_89 rfl rfl
  rw [hw167]
  have A169 : OwF kd143 s167 [(iI (IntKind.wrap .i64 (x11.2.2.1 + (1 : Int)))), (iI x11.2.1), (iI y150.2.2), vx32_0, vx83_0] (Deed.mk (IntKind.wrap .i64 (x11.2.2.1 + (1 : Int))) x11.2.1 y150.2.2 x32.2.2.2 x83.2.2.2) 47 := (ow_isoz (fun x : Deed => (x.Xid, x.Begun, x.Ended, x.Reads, x.Writes)) (Deed.mk (IntKind.wrap .i64 (x11.2.2.1 + (1 : Int))) x11.2.1 y150.2.2 x32.2.2.2 x83.2.2.2) (ow_l (Xo .i64 (IntKind.wrap .i64 (x11.2.2.1 + (1 : Int)))) (ow_l (Xo .i64 x11.2.1) (ow_l (Xo .i64 y150.2.2) A167))))
  refine ltO (K := kd143) (cells := [(iI (IntKind.wrap .i64 (x11.2.2.1 + (1 : Int)))), (iI x11.2.1), (iI y150.2.2), vx32_0, vx83_0]) [(Deed.mk (IntKind.wrap .i64 (x11.2.2.1 + (1 : Int))) x11.2.1 y150.2.2 x32.2.2.2 x83.2.2.2)] 47 u62 z143 o143 (lo_one A169) rfl rfl rfl rfl rfl rfl rfl rfl rfl rfl (fun v172 s172 p172 A172 => ?_)
  refine apO sl62 (Cy150_14.st (Xq p167 p172) rfl) A172 rfl rfl rfl rfl rfl rfl rfl rfl rfl (fun v175 s175 p175 A175 => ?_)
  refine asg' v175 rfl (dn (ib (rg (Xb rfl (Xb rfl (Xb rfl (dn ?_)))))))
  exact lb ih11 ⟨s175, _, v175, rfl, (ue (ue (ue (ue (ue (ue rfl rfl) rfl) rfl) rfl) rfl) rfl), (Ky150.st (tr3 p167 p172 p175) rfl), A175, (By150_p0.st (tr3 p167 p172 p175) rfl)⟩
 exact xt rfl (sgb (sr (Xp vx11_0 rfl (asg' vx11_0 rfl (dn (re rfl func112 rfl (Xs rfl Xg) rfl ⟨_, rfl, Ax11_0.fo Kx11 rfl z.l, Bx11_p0.w, z.ky Kx11⟩))))))
def spec_l14bent.b0 (a0 : l1Cur) (x203 : (List Deed) × Int × Int) : Option (((List Deed) × Int × Int) ⊕ ((List Deed) × Int × Int)) :=
 ((spec_l1Below.f (l1Cur.mk a0.b x203.2.1 x203.2.2) (2 : Int)).bind fun r210 => (if (decide ((x203.1.length : Int) < (IntKind.wrap .i64 ((100 : Int) + r210.1)))) = true then (if x203.1.length + ([(Deed.mk (0 : Int) (IntKind.wrap .i64 ((20000 : Int) + (IntKind.wrap .i64 ((2 : Int) * (x203.1.length : Int))))) (IntKind.wrap .i64 ((20001 : Int) + (IntKind.wrap .i64 ((2 : Int) * (x203.1.length : Int))))) ([] : (List Span)) ([] : (List Item)))]).length ≤ Lim then (some (Sum.inl ((x203.1 ++ [(Deed.mk (0 : Int) (IntKind.wrap .i64 ((20000 : Int) + (IntKind.wrap .i64 ((2 : Int) * (x203.1.length : Int))))) (IntKind.wrap .i64 ((20001 : Int) + (IntKind.wrap .i64 ((2 : Int) * (x203.1.length : Int))))) ([] : (List Span)) ([] : (List Item)))]), r210.2.i, r210.2.h))) else none) else ((some (x203.1, r210.2.i, r210.2.h)).bind fun o => some (Sum.inr o))))
def spec_l14bent.f (a0 : l1Cur) (a1 : (List Deed)) : Option ((List Deed) × l1Cur) :=
 (if ((a1.length : Int) == (0 : Int)) = true then (some (a1, a0)) else ((spec_l1Below.f a0 (a1.length : Int)).bind fun r5 => ((spec_l1Below.f (l1Cur.mk a0.b r5.2.i r5.2.h) (12 : Int)).bind fun r10 => ((if (r10.1 == (0 : Int)) = true then (if 0 ≤ (0 : Int) ∧ (0 : Int) < (a1.length : Int) then ((spec_l1PickInt.f (l1Cur.mk a0.b r10.2.i r10.2.h) ([(0 : Int), (-3 : Int), (at_ a1 (0 : Int)).Ended])).bind fun r24 => (if 0 ≤ r5.1 ∧ r5.1 < (a1.length : Int) then (some ((a1.set (r5.1).toNat (Deed.mk (at_ a1 r5.1).Xid r24.1 (at_ a1 r5.1).Ended (at_ a1 r5.1).Reads (at_ a1 r5.1).Writes)), r24.2.i, r24.2.h)) else none)) else none) else ((if (r10.1 == (1 : Int)) = true then (if 0 ≤ r5.1 ∧ r5.1 < (a1.length : Int) then (if 0 ≤ (0 : Int) ∧ (0 : Int) < (a1.length : Int) then ((spec_l1PickInt.f (l1Cur.mk a0.b r10.2.i r10.2.h) ([(0 : Int), (at_ a1 r5.1).Begun, (at_ a1 (0 : Int)).Ended])).bind fun r68 => (if 0 ≤ r5.1 ∧ r5.1 < (a1.length : Int) then (some ((a1.set (r5.1).toNat (Deed.mk (at_ a1 r5.1).Xid (at_ a1 r5.1).Begun r68.1 (at_ a1 r5.1).Reads (at_ a1 r5.1).Writes)), r68.2.i, r68.2.h)) else none)) else none) else none) else ((if (r10.1 == (2 : Int)) = true then (if 0 ≤ r5.1 ∧ r5.1 < (a1.length : Int) then ((spec_l3key.f (l1Cur.mk a0.b r10.2.i r10.2.h)).bind fun r102 => ((spec_l3any.f (l1Cur.mk a0.b r102.2.i r102.2.h)).bind fun r113 => (if ((at_ a1 r5.1).Reads).length + ([(Span.mk r102.1 r113.1)]).length ≤ Lim then (if 0 ≤ r5.1 ∧ r5.1 < (a1.length : Int) then ((some (a1.set (r5.1).toNat (Deed.mk (at_ a1 r5.1).Xid (at_ a1 r5.1).Begun (at_ a1 r5.1).Ended ((at_ a1 r5.1).Reads ++ [(Span.mk r102.1 r113.1)]) (at_ a1 r5.1).Writes))).bind fun y146 => (some (y146, r113.2.i, r113.2.h))) else none) else none))) else none) else ((if (r10.1 == (3 : Int)) = true then (if 0 ≤ r5.1 ∧ r5.1 < (a1.length : Int) then ((spec_l3any.f (l1Cur.mk a0.b r10.2.i r10.2.h)).bind fun r168 => (if ((at_ a1 r5.1).Writes).length + ([r168.1]).length ≤ Lim then (if 0 ≤ r5.1 ∧ r5.1 < (a1.length : Int) then ((some (a1.set (r5.1).toNat (Deed.mk (at_ a1 r5.1).Xid (at_ a1 r5.1).Begun (at_ a1 r5.1).Ended (at_ a1 r5.1).Reads ((at_ a1 r5.1).Writes ++ [r168.1])))).bind fun y198 => (some (y198, r168.2.i, r168.2.h))) else none) else none)) else none) else ((if (r10.1 == (4 : Int)) = true then (iter (spec_l14bent.b0 a0) (a1, r10.2.i, r10.2.h)) else (some (a1, r10.2.i, r10.2.h))).bind fun y201 => (some (y201.1, y201.2.1, y201.2.2)))).bind fun y149 => (some (y149.1, y149.2.1, y149.2.2)))).bind fun y82 => (some (y82.1, y82.2.1, y82.2.2)))).bind fun y37 => (some (y37.1, y37.2.1, y37.2.2)))).bind fun y13 => (some (y13.1, (l1Cur.mk a0.b y13.2.1 y13.2.2)))))))
def spec_l14bent.Q (w : World) (F : Nat → Prop) (os : List Nat) (p0 : Nat) (w0_0 : Value) (r : (List Deed) × l1Cur) (v : Value) (w' : World) : Prop :=
 FW Xz os w w' [v] r.1 ∧ BlW w' p0 184 [w0_0, (iI r.2.i), (iI r.2.h)] ∧ Ky (p0 :: os) w w'
theorem spec_l14bent.calls (a0 : l1Cur) (a1 : (List Deed)) (w : World) (F : Nat → Prop) (p0 : Nat) (w0_0 : Value) (w1_0 : Value) (h0_0 : Xx.rd w [w0_0] a0.b F) (os : List Nat) (h1 : Xz.ow w [w1_0] a1 os) (hn : os.Nodup) (hb0 : BlW w p0 184 [w0_0, (iI a0.i), (iI a0.h)]) (hp : p0 ∉ os) (hF : ∀ b, F b → b ∉ p0 :: os) (r : (List Deed) × l1Cur) (m : spec_l14bent.f a0 a1 = some r) :
  Calls prog 113 #[(pB p0), w1_0] w (RT (spec_l14bent.Q w F os p0 w0_0) r) := by
 obtain ⟨s0, rfl, kp0, z⟩ := startN w F [([p0], 2), (os, 40)] (by simpa [fl_] using And.intro hp hn) (fun b hb => by simpa [fl_] using hF b hb) rfl
 have ez : fl_ [([p0], 2), (os, 40)] = p0 :: os := by simp [fl_]
 have A0_0 := z.rd h0_0
 have B0 := z.bl (c := 2) (by simp) hb0
 have A1_0 := z.ow (c := 40) (by simp) hn h1
 refine Xc (args := [(pB p0), w1_0]) func113 ntmps113 rfl rfl m ?_
 unfold spec_l14bent.f
 refine sr (Xb rfl (dn (sq (sr (Xp w1_0 rfl (ln' A1_0.rd u62 rfl (Xb rfl (dn (cd rfl (fun h4 => ?_) (fun h4 => ?_))))))))))
 ·
  exact sr (Xp w1_0 rfl (asg' w1_0 rfl (dn (re rfl func113 rfl (Xs rfl Xg) rfl ⟨_, rfl, z.fwm kp0 (oc_ow A1_0) rfl, B0.w, z.ky' ez kp0⟩))))
 refine sk (sr (Xb rfl (Xp w1_0 rfl (ln' A1_0.rd u62 rfl (clB B0 rfl func74 rfl (spec_l1Below.calls a0 (a1.length : Int) s0.w (mm [0] s0) p0 w0_0 A0_0 B0.w (B0.apart rfl)) (fun r5 s6 p6 B6 => ?_))))))
 refine Xb rfl (dn (sq (sr (Xb rfl ?_))))
 have K8 := kp0.st p6 rfl
 refine clB B6 rfl func74 rfl (spec_l1Below.calls (l1Cur.mk a0.b r5.2.i r5.2.h) (12 : Int) s6.w (mm [0] s6) p0 w0_0 (A0_0.kp K8) B6.w (B6.apart rfl)) (fun r10 s11 p11 B11 => ?_)
 refine dn (bl (sr (Xb rfl (Xb rfl (dn (jc (fun (y13 : (List Deed) × Int × Int) e w => ∃ (s : St) (e0 : Env) (vy13_0 : Value), w = s.w ∧ e = upd e0 1 vy13_0 ∧ Kp s0 s ∧ OwF Xz s [vy13_0] y13.1 40 ∧ BlF s p0 184 [w0_0, (iI y13.2.1), (iI y13.2.2)] 2) (fun Gj13 Kj13 => ?_) ?_))))))
 ·
  refine cd rfl (fun h14 => ?_) (fun h14 => ?_)
  ·
   refine rg (Xp w1_0 rfl (Xb rfl (Xb rfl (Xp w1_0 rfl ?_))))
   have A15 := A1_0.st (Xq p6 p11) rfl
   refine ix' A15.rd u62 z143 rfl (fun ad16 es16 h0_16 h1_16 he16 ce16 ia16 => ?_)
   obtain ⟨v16_0, v16_1, rfl, A16_0, A16_1⟩ := op143 he16
   refine fa' fa143_2 rfl (lc ce16 u3 rfl rfl rfl rfl rfl rfl rfl rfl (ltF' (K := (Kd.int .i64)) (cells := [(iI 0), (iI (-3)), (iI ((at_ a1 (0 : Int)).Ended))]) [(0 : Int), (-3 : Int), (at_ a1 (0 : Int)).Ended] 43 Xw u50 z3 o3 (fun w => (els_flat _ _ _)) rfl (fun v20 s20 p20 A20 => ?_)))
   have K22 := K8.st (Xq p11 p20) rfl
   have A25 := B11.st p20 rfl
   refine clB A25 rfl func75 rfl (spec_l1PickInt.calls (l1Cur.mk a0.b r10.2.i r10.2.h) ([(0 : Int), (-3 : Int), (at_ a1 (0 : Int)).Ended]) s20.w (mm [0, 43] s20) p0 w0_0 v20 ((A0_0.kp K22).sub (D := [0, 43]) rfl) (A20.rd.sub (D := [0, 43]) rfl) A25.w (A25.apart rfl)) (fun r24 s26 p26 B26 => ?_)
   have A28 := A15.st (Xq p20 p26) rfl
   refine ix' A28.rd u62 z143 rfl (fun ad29 es29 h0_29 h1_29 he29 ce29 ia29 => ?_)
   obtain ⟨v29_0, v29_1, rfl, A29_0, A29_1⟩ := op143 he29
   refine fa' fa143_1 rfl (so (x' := (Deed.mk (at_ a1 r5.1).Xid r24.1 (at_ a1 r5.1).Ended (at_ a1 r5.1).Reads (at_ a1 r5.1).Writes)) A28 ia29 h0_29 h1_29 (cs_iso (cs_right (cs_left cs_flat))) z3 rfl rfl rfl rfl rfl rfl (fun s33 p33 A33 => ?_))
   exact dn (Kj13 _ _ _ ⟨s33, _, w1_0, rfl, (ue rfl rfl), (K22.st (Xq p26 p33) rfl), A33, (B26.st p33 rfl)⟩)
  refine sr (Xb rfl (Xb rfl (dn (jc (fun (y37 : (List Deed) × Int × Int) e w => ∃ (s : St) (e0 : Env) (vy37_0 : Value), w = s.w ∧ e = upd e0 1 vy37_0 ∧ Kp s0 s ∧ OwF Xz s [vy37_0] y37.1 40 ∧ BlF s p0 184 [w0_0, (iI y37.2.1), (iI y37.2.2)] 2) (fun Gj37 Kj37 => ?_) ?_))))
  ·
   refine cd rfl (fun h38 => ?_) (fun h38 => ?_)
   ·
    refine zdraw [[], [], [], [], [], [3, 4], [5], [6], [], [8], [9], [10], [7, 11], [2, 12], [0, 1, 0, 1, 2, 3, 4, 5, 6, 7, 8, 9, 10, 11, 12, 13], [14, 0, 1, 2, 3, 4, 5, 6, 7, 8, 9, 10, 11, 12, 13], [15, 13, 13, 0, 1, 2, 3, 4, 5, 6, 7, 8, 9, 10, 11, 12, 13]] [some 31, some 32, some 33, some 34, some 35, some 36, some 37, some 38, some 39, some 40, some 41, some 42, some 43, some 44, some 45, some 46, none] [[1], [5], [0], [1], [5], [34, 35], [36], [37], [1], [39], [40], [41], [38, 42], [33, 43], [31, 32], [45], [46, 44]] [0, 1, 2, 3, 4, 5, 6, 7, 8, 9, 10, 11, 12, 13, 14, 15, 16] ⟨by kernel_rfl, by kernel_rfl, by kernel_rfl⟩ (by kernel_rfl) (fun s39 p39 l39 tb39 zd39 => ?_)
    have A45 := A1_0.st (tr3 p6 p11 p39) rfl
    refine mg fun hg46 => ?_
    obtain ⟨ad46, es46, he46, ce46, ia46⟩ := ix_e A45.rd rfl hg46.1 hg46.2
    obtain ⟨v46_0, v46_1, rfl, A46_0, A46_1⟩ := op143 he46
    refine mg fun hg54 => ?_
    obtain ⟨ad54, es54, he54, ce54, ia54⟩ := ix_e A45.rd rfl hg54.1 hg54.2
    obtain ⟨v54_0, v54_1, rfl, A54_0, A54_1⟩ := op143 he54
    refine zstep 12 [some 33, some 32, some 31] tb39 ((((((((((((zd39.add 0 31 w1_0 rfl).add 1 32 (iI r5.1) rfl).add 2 33 (pB p0) rfl).add 3 34 w1_0 rfl).add 4 35 (iI r5.1) rfl).add 5 36 (.pointer (some ad46)) rfl).add 6 37 (.pointer (some (ad46.add 1))) rfl).add 7 38 (iI ((at_ a1 r5.1).Begun)) rfl).add 8 39 w1_0 rfl).add 9 40 (.pointer (some ad54)) rfl).add 10 41 (.pointer (some (ad54.add 2))) rfl).add 11 42 (iI ((at_ a1 (0 : Int)).Ended)) rfl) (Xa (lc_q' ce54 u3 rfl) rfl (Xa (Xm fa143_2 rfl) rfl (Xa (Xn A45.rd u62 z143 hg54.1 hg54.2 ia54 rfl) rfl (Xa (Xl w1_0 rfl) rfl (Xa (lc_q' ce46 u3 rfl) rfl (Xa (Xm fa143_1 rfl) rfl (Xa (Xn A45.rd u62 z143 hg46.1 hg46.2 ia46 rfl) rfl (Xa (Xd rfl) rfl (Xa (Xl w1_0 rfl) rfl (Xa (Xd rfl) rfl (Xa (Xd rfl) rfl (Xa (Xl w1_0 rfl) rfl Xh)))))))))))) (by kernel_rfl) rfl (fun l61 e61 zd61 => ?_)
    refine ltF' (K := (Kd.int .i64)) (cells := [(iI 0), (iI ((at_ a1 r5.1).Begun)), (iI ((at_ a1 (0 : Int)).Ended))]) [(0 : Int), (at_ a1 r5.1).Begun, (at_ a1 (0 : Int)).Ended] 45 Xw u50 z3 o3 (fun w => (els_flat _ _ _)) rfl (fun v62 s62 p62 A62 => ?_)
    refine zdone (L' := [2, 1, 0]) (D' := [3, 4, 5, 6, 8, 9, 10, 7, 11, 12]) zd61 rfl rfl rfl (fun zd64 => ?_)
    refine zstep 13 [some 32, some 31] tb39 zd64 (Xa (Xd rfl) rfl (Xa (Xd rfl) rfl (Xa (Xl w1_0 rfl) rfl Xh))) (by kernel_rfl) rfl (fun l65 e65 zd65 => ?_)
    have K66 := K8.st (tr3 p11 p39 p62) rfl
    have A69 := B11.st (Xq p39 p62) rfl
    refine clB A69 rfl func75 rfl (spec_l1PickInt.calls (l1Cur.mk a0.b r10.2.i r10.2.h) ([(0 : Int), (at_ a1 r5.1).Begun, (at_ a1 (0 : Int)).Ended]) s62.w (mm [0, 45] s62) p0 w0_0 v62 ((A0_0.kp K66).sub (D := [0, 45]) rfl) (A62.rd.sub (D := [0, 45]) rfl) A69.w (A69.apart rfl)) (fun r68 s70 p70 B70 => ?_)
    refine zdone (L' := [1, 0]) (D' := [2, 13, 3, 4, 5, 6, 8, 9, 10, 7, 11, 12]) zd65 rfl rfl rfl (fun zd72 => ?_)
    refine zfin [14, 15, 16] tb39 zd72 (Xa (Xd rfl) rfl (Xa (Xl w1_0 rfl) rfl Xh)) (by kernel_rfl) (by decide) ?_
    have A73 := A45.st (Xq p62 p70) rfl
    refine ix' A73.rd u62 z143 rfl (fun ad74 es74 h0_74 h1_74 he74 ce74 ia74 => ?_)
    obtain ⟨v74_0, v74_1, rfl, A74_0, A74_1⟩ := op143 he74
    refine fa' fa143_2 rfl (so (x' := (Deed.mk (at_ a1 r5.1).Xid (at_ a1 r5.1).Begun r68.1 (at_ a1 r5.1).Reads (at_ a1 r5.1).Writes)) A73 ia74 h0_74 h1_74 (cs_iso (cs_right (cs_right (cs_left cs_flat)))) z3 rfl rfl rfl rfl rfl rfl (fun s78 p78 A78 => ?_))
    exact dn (Kj37 _ _ _ ⟨s78, _, w1_0, rfl, (ue rfl rfl), (K66.st (Xq p70 p78) rfl), A78, (B70.st p78 rfl)⟩)
   refine sr (Xb rfl (Xb rfl (dn (jc (fun (y82 : (List Deed) × Int × Int) e w => ∃ (s : St) (e0 : Env) (vy82_0 : Value), w = s.w ∧ e = upd e0 1 vy82_0 ∧ Kp s0 s ∧ OwF Xz s [vy82_0] y82.1 40 ∧ BlF s p0 184 [w0_0, (iI y82.2.1), (iI y82.2.2)] 2) (fun Gj82 Kj82 => ?_) ?_))))
   ·
    refine cd rfl (fun h83 => ?_) (fun h83 => ?_)
    ·
     refine zdraw [[], [], [], [], [2, 3], [4], [5], [], [7], [], [9, 8], [8, 10], [11], [6, 12, 10], [0, 1, 0, 1, 2, 3, 4, 5, 6, 7, 8, 9, 10, 11, 12, 13], [14, 0, 1, 2, 3, 4, 5, 6, 7, 8, 9, 10, 11, 12, 13], [15, 13, 13, 0, 1, 2, 3, 4, 5, 6, 7, 8, 9, 10, 11, 12, 13]] [some 49, some 50, some 51, some 52, some 53, some 54, some 55, some 56, some 57, some 58, some 59, some 60, some 61, some 62, some 63, some 64, none] [[1], [5], [1], [5], [51, 52], [53], [54], [0], [56], [0], [58], [57, 59], [60], [55, 61], [49, 50], [63], [64, 62]] [0, 1, 2, 3, 4, 5, 6, 7, 8, 9, 10, 11, 12, 13, 14, 15, 16] ⟨by kernel_rfl, by kernel_rfl, by kernel_rfl⟩ (by kernel_rfl) (fun s84 p84 l84 tb84 zd84 => ?_)
     have A89 := A1_0.st (tr3 p6 p11 p84) rfl
     refine mg fun hg90 => ?_
     obtain ⟨ad90, es90, he90, ce90, ia90⟩ := ix_e A89.rd rfl hg90.1 hg90.2
     obtain ⟨v90_0, v90_1, rfl, A90_0, A90_1⟩ := op143 he90
     refine zstep 8 [some 58, some 55, some 54, some 53, some 52, some 51, some 50, some 49] tb84 (((((((((zd84.add 0 49 w1_0 rfl).add 1 50 (iI r5.1) rfl).add 2 51 w1_0 rfl).add 3 52 (iI r5.1) rfl).add 4 53 (.pointer (some ad90)) rfl).add 5 54 (.pointer (some (ad90.add 3))) rfl).add 6 55 v90_0 rfl).add 7 56 (pB p0) rfl).add 9 58 (pB p0) rfl) (Xa (Xd rfl) rfl (Xa (Xd rfl) rfl (Xa (lc_q' ce90 u140 rfl) rfl (Xa (Xm fa143_3 rfl) rfl (Xa (Xn A89.rd u62 z143 hg90.1 hg90.2 ia90 rfl) rfl (Xa (Xd rfl) rfl (Xa (Xl w1_0 rfl) rfl (Xa (Xd rfl) rfl (Xa (Xl w1_0 rfl) rfl Xh))))))))) (by kernel_rfl) rfl (fun l99 e99 zd99 => ?_)
     have K100 := K8.st (Xq p11 p84) rfl
     have A103 := B11.st p84 rfl
     refine cl' rfl func98 rfl (spec_l3key.calls (l1Cur.mk a0.b r10.2.i r10.2.h) s84.w (mm [0] s84) p0 w0_0 (A0_0.kp K100) A103.w (A103.apart rfl)) ?_
     rintro r102 _ w102 m102 ⟨v102_0, v102_1, rfl, f102_0, bw102, ky102⟩
     obtain ⟨s104, rfl, p104, n104, g104⟩ := nwb 47 A103 ky102
     obtain ⟨hu102_0_0, Au102_0_1⟩ := ap29 (f102_0.c n104)
     have B104 := blf_mk bw102 g104
     refine zdone (L' := [9, 6, 5, 4, 3, 2, 1, 0]) (D' := [7, 8]) zd99 rfl rfl rfl (fun zd107 => ?_)
     have A109 := A89.st p104 rfl
     refine zstep 10 [some 55, some 54, some 53, some 52, some 51, some 50, some 49] tb84 zd107 (Xa (Xd rfl) rfl (Xa (lc_q' (ce90.st p104 rfl rfl) u140 rfl) rfl (Xa (Xm fa143_3 rfl) rfl (Xa (Xn A109.rd u62 z143 hg90.1 hg90.2 ia90 rfl) rfl (Xa (Xd rfl) rfl (Xa (Xl w1_0 rfl) rfl (Xa (Xd rfl) rfl (Xa (Xl w1_0 rfl) rfl Xh)))))))) (by kernel_rfl) rfl (fun l108 e108 zd108 => ?_)
     have K111 := K100.st p104 rfl
     refine cl' rfl func76 rfl (spec_l3any.calls (l1Cur.mk a0.b r102.2.i r102.2.h) s104.w (mm [0] s104) p0 w0_0 (A0_0.kp K111) B104.w (B104.apart rfl)) ?_
     rintro r113 _ w113 m113 ⟨v113_0, v113_1, rfl, f113_0, bw113, ky113⟩
     obtain ⟨s114, rfl, p114, n114, g114⟩ := nwb 48 B104 ky113
     obtain ⟨hu113_0_0, Au113_0_1⟩ := ap29 (f113_0.c n114)
     refine zdone (L' := [6, 5, 4, 3, 2, 1, 0]) (D' := [9, 10, 7, 8]) zd108 rfl rfl rfl (fun zd117 => ?_)
     have A120 := A109.st p114 rfl
     refine zstep 12 [some 55, some 54, some 53, some 52, some 51, some 50, some 49] tb84 (zd117.add 11 60 (.agg #[(iI r102.1.Kind), (iI r102.1.N), v102_0, v102_1, (iI r113.1.Kind), (iI r113.1.N), v113_0, v113_1]) rfl) (Xa (bd_q (cells := [(iI r102.1.Kind), (iI r102.1.N), v102_0, v102_1, (iI r113.1.Kind), (iI r113.1.N), v113_0, v113_1]) pl146 o146 rfl rfl rfl rfl rfl rfl) rfl (Xa (lc_q' (ce90.st (Xq p104 p114) rfl rfl) u140 rfl) rfl (Xa (Xm fa143_3 rfl) rfl (Xa (Xn A120.rd u62 z143 hg90.1 hg90.2 ia90 rfl) rfl (Xa (Xd rfl) rfl (Xa (Xl w1_0 rfl) rfl (Xa (Xd rfl) rfl (Xa (Xl w1_0 rfl) rfl Xh)))))))) (by kernel_rfl) rfl (fun l119 e119 zd119 => ?_)
     obtain ⟨s123, hw123, p123, A123⟩ := ow_2 (ow_isoz (fun x : Item => (x.Kind, x.N, x.F, x.T)) r102.1 (ow_l (Xo .i64 r102.1.Kind) (ow_l (Xo .i64 r102.1.N) (ow_l (fz_flt hu102_0_0) (Au102_0_1.st p114 rfl))))) (ow_isoz (fun x : Item => (x.Kind, x.N, x.F, x.T)) r113.1 (ow_l (Xo .i64 r113.1.Kind) (ow_l (Xo .i64 r113.1.N) (ow_l (fz_flt hu113_0_0) Au113_0_1)))) rfl rfl
     rw [hw123]
     have A125 : OwF kd146 s123 [(iI r102.1.Kind), (iI r102.1.N), v102_0, v102_1, (iI r113.1.Kind), (iI r113.1.N), v113_0, v113_1] (Span.mk r102.1 r113.1) 47 := (ow_isoz (fun x : Span => (x.From, x.To)) (Span.mk r102.1 r113.1) A123)
     refine ltO (K := kd146) (cells := [(iI r102.1.Kind), (iI r102.1.N), v102_0, v102_1, (iI r113.1.Kind), (iI r113.1.N), v113_0, v113_1]) [(Span.mk r102.1 r113.1)] 47 u140 z146 o146 (lo_one A125) rfl rfl rfl rfl rfl rfl rfl rfl rfl rfl (fun v128 s128 p128 A128 => ?_)
     refine zdone (L' := [6, 5, 4, 3, 2, 1, 0]) (D' := [11, 12, 9, 10, 7, 8]) zd119 rfl rfl rfl (fun zd130 => ?_)
     have A132 := A120.st (Xq p123 p128) rfl
     refine zstep 13 [some 50, some 49] tb84 zd130 (Xa (lc_q' (ce90.st (tr4 p104 p114 p123 p128) rfl rfl) u140 rfl) rfl (Xa (Xm fa143_3 rfl) rfl (Xa (Xn A132.rd u62 z143 hg90.1 hg90.2 ia90 rfl) rfl (Xa (Xd rfl) rfl (Xa (Xl w1_0 rfl) rfl (Xa (Xd rfl) rfl (Xa (Xl w1_0 rfl) rfl Xh))))))) (by kernel_rfl) rfl (fun l131 e131 zd131 => ?_)
     obtain ⟨s135, hw135, p135, A135, H135, ce135⟩ := take_ 50 (lg_iso (fun x : Deed => (x.Xid, x.Begun, x.Ended, x.Reads, x.Writes)) (fun x => x.Reads) (fun x y => (Deed.mk x.Xid x.Begun x.Ended y x.Writes)) (lg_right (lg_right (lg_right (lg_left lg_id)))) (fun _ => rfl) (fun _ _ => rfl)) A132 hg90.1 hg90.2 ia90 (ce90.st (tr4 p104 p114 p123 p128) rfl rfl) rfl rfl rfl rfl
     rw [hw135]
     refine apO sl140 A135 (A128.st p135 rfl) rfl rfl rfl rfl rfl rfl rfl rfl rfl (fun v139 s139 p139 A139 => ?_)
     refine zdone (L' := [1, 0]) (D' := [2, 3, 4, 5, 6, 13, 11, 12, 9, 10, 7, 8]) zd131 rfl rfl rfl (fun zd141 => ?_)
     refine zfin [14, 15, 16] tb84 zd141 (Xa (Xd rfl) rfl (Xa (Xl w1_0 rfl) rfl Xh)) (by kernel_rfl) (by decide) ?_
     have A143 := H135.st p139 rfl
     refine ixh A143 u62 z143 rfl rfl rfl rfl rfl rfl rfl (fun ad142 h0_142 h1_142 ia142 => ?_)
     refine fa' fa143_3 rfl (soh (x' := ((at_ a1 r5.1).Reads ++ [(Span.mk r102.1 r113.1)])) A143 ia142 A139 rfl rfl z140 rfl rfl rfl rfl rfl (oc A139.rd.one) (fun s144 p144 A144 => ?_))
     refine nb (fun y146 h146 => ?_)
     have A146 : OwF Xz s144 [w1_0] y146 40 := by rw [h146]; exact A144
     exact dn (Kj82 _ _ _ ⟨s144, _, w1_0, rfl, (ue rfl rfl), (K111.st (tr6 p114 p123 p128 p135 p139 p144) rfl), A146, (BlF.st (blf_mk bw113 g114) (tr5 p123 p128 p135 p139 p144) rfl)⟩)
    refine sr (Xb rfl (Xb rfl (dn (jc (fun (y149 : (List Deed) × Int × Int) e w => ∃ (s : St) (e0 : Env) (vy149_0 : Value), w = s.w ∧ e = upd e0 1 vy149_0 ∧ Kp s0 s ∧ OwF Xz s [vy149_0] y149.1 40 ∧ BlF s p0 184 [w0_0, (iI y149.2.1), (iI y149.2.2)] 2) (fun Gj149 Kj149 => ?_) ?_))))
    ·
     refine cd rfl (fun h150 => ?_) (fun h150 => ?_)
     ·
      refine zdraw [[], [], [], [], [2, 3], [4], [5], [], [7], [8], [6, 9, 8], [0, 1, 0, 1, 2, 3, 4, 5, 6, 7, 8, 9, 10], [11, 0, 1, 2, 3, 4, 5, 6, 7, 8, 9, 10], [12, 10, 10, 0, 1, 2, 3, 4, 5, 6, 7, 8, 9, 10]] [some 67, some 68, some 69, some 70, some 71, some 72, some 73, some 74, some 75, some 76, some 77, some 78, some 79, none] [[1], [5], [1], [5], [69, 70], [71], [72], [0], [74], [75], [73, 76], [67, 68], [78], [79, 77]] [0, 1, 2, 3, 4, 5, 6, 7, 8, 9, 10, 11, 12, 13] ⟨by kernel_rfl, by kernel_rfl, by kernel_rfl⟩ (by kernel_rfl) (fun s151 p151 l151 tb151 zd151 => ?_)
      have A156 := A1_0.st (tr3 p6 p11 p151) rfl
      refine mg fun hg157 => ?_
      obtain ⟨ad157, es157, he157, ce157, ia157⟩ := ix_e A156.rd rfl hg157.1 hg157.2
      obtain ⟨v157_0, v157_1, rfl, A157_0, A157_1⟩ := op143 he157
      refine zstep 8 [some 73, some 72, some 71, some 70, some 69, some 68, some 67] tb151 ((((((((zd151.add 0 67 w1_0 rfl).add 1 68 (iI r5.1) rfl).add 2 69 w1_0 rfl).add 3 70 (iI r5.1) rfl).add 4 71 (.pointer (some ad157)) rfl).add 5 72 (.pointer (some (ad157.add 4))) rfl).add 6 73 v157_1 rfl).add 7 74 (pB p0) rfl) (Xa (Xd rfl) rfl (Xa (lc_q' ce157 u141 rfl) rfl (Xa (Xm fa143_4 rfl) rfl (Xa (Xn A156.rd u62 z143 hg157.1 hg157.2 ia157 rfl) rfl (Xa (Xd rfl) rfl (Xa (Xl w1_0 rfl) rfl (Xa (Xd rfl) rfl (Xa (Xl w1_0 rfl) rfl Xh)))))))) (by kernel_rfl) rfl (fun l165 e165 zd165 => ?_)
      have K166 := K8.st (Xq p11 p151) rfl
      have A169 := B11.st p151 rfl
      refine cl' rfl func76 rfl (spec_l3any.calls (l1Cur.mk a0.b r10.2.i r10.2.h) s151.w (mm [0] s151) p0 w0_0 (A0_0.kp K166) A169.w (A169.apart rfl)) ?_
      rintro r168 _ w168 m168 ⟨v168_0, v168_1, rfl, f168_0, bw168, ky168⟩
      obtain ⟨s170, rfl, p170, n170, g170⟩ := nwb 51 A169 ky168
      obtain ⟨hu168_0_0, Au168_0_1⟩ := ap29 (f168_0.c n170)
      refine zdone (L' := [6, 5, 4, 3, 2, 1, 0]) (D' := [7, 8]) zd165 rfl rfl rfl (fun zd173 => ?_)
      have A175 := A156.st p170 rfl
      refine zstep 9 [some 73, some 72, some 71, some 70, some 69, some 68, some 67] tb151 zd173 (Xa (lc_q' (ce157.st p170 rfl rfl) u141 rfl) rfl (Xa (Xm fa143_4 rfl) rfl (Xa (Xn A175.rd u62 z143 hg157.1 hg157.2 ia157 rfl) rfl (Xa (Xd rfl) rfl (Xa (Xl w1_0 rfl) rfl (Xa (Xd rfl) rfl (Xa (Xl w1_0 rfl) rfl Xh))))))) (by kernel_rfl) rfl (fun l174 e174 zd174 => ?_)
      have A177 : OwF kd29 s170 [(iI r168.1.Kind), (iI r168.1.N), v168_0, v168_1] r168.1 51 := (ow_isoz (fun x : Item => (x.Kind, x.N, x.F, x.T)) r168.1 (ow_l (Xo .i64 r168.1.Kind) (ow_l (Xo .i64 r168.1.N) (ow_l (fz_flt hu168_0_0) Au168_0_1))))
      refine ltO (K := kd29) (cells := [(iI r168.1.Kind), (iI r168.1.N), v168_0, v168_1]) [r168.1] 51 u141 z29 o29 (lo_one A177) rfl rfl rfl rfl rfl rfl rfl rfl rfl rfl (fun v180 s180 p180 A180 => ?_)
      refine zdone (L' := [6, 5, 4, 3, 2, 1, 0]) (D' := [9, 7, 8]) zd174 rfl rfl rfl (fun zd182 => ?_)
      have A184 := A175.st p180 rfl
      refine zstep 10 [some 68, some 67] tb151 zd182 (Xa (lc_q' (ce157.st (Xq p170 p180) rfl rfl) u141 rfl) rfl (Xa (Xm fa143_4 rfl) rfl (Xa (Xn A184.rd u62 z143 hg157.1 hg157.2 ia157 rfl) rfl (Xa (Xd rfl) rfl (Xa (Xl w1_0 rfl) rfl (Xa (Xd rfl) rfl (Xa (Xl w1_0 rfl) rfl Xh))))))) (by kernel_rfl) rfl (fun l183 e183 zd183 => ?_)
      obtain ⟨s187, hw187, p187, A187, H187, ce187⟩ := take_ 53 (lg_iso (fun x : Deed => (x.Xid, x.Begun, x.Ended, x.Reads, x.Writes)) (fun x => x.Writes) (fun x y => (Deed.mk x.Xid x.Begun x.Ended x.Reads y)) (lg_right (lg_right (lg_right (lg_right lg_id)))) (fun _ => rfl) (fun _ _ => rfl)) A184 hg157.1 hg157.2 ia157 (ce157.st (Xq p170 p180) rfl rfl) rfl rfl rfl rfl
      rw [hw187]
      refine apO sl141 A187 (A180.st p187 rfl) rfl rfl rfl rfl rfl rfl rfl rfl rfl (fun v191 s191 p191 A191 => ?_)
      refine zdone (L' := [1, 0]) (D' := [2, 3, 4, 5, 6, 10, 9, 7, 8]) zd183 rfl rfl rfl (fun zd193 => ?_)
      refine zfin [11, 12, 13] tb151 zd193 (Xa (Xd rfl) rfl (Xa (Xl w1_0 rfl) rfl Xh)) (by kernel_rfl) (by decide) ?_
      have A195 := H187.st p191 rfl
      refine ixh A195 u62 z143 rfl rfl rfl rfl rfl rfl rfl (fun ad194 h0_194 h1_194 ia194 => ?_)
      refine fa' fa143_4 rfl (soh (x' := ((at_ a1 r5.1).Writes ++ [r168.1])) A195 ia194 A191 rfl rfl z141 rfl rfl rfl rfl rfl (oc A191.rd.one) (fun s196 p196 A196 => ?_))
      refine nb (fun y198 h198 => ?_)
      have A198 : OwF Xz s196 [w1_0] y198 40 := by rw [h198]; exact A196
      exact dn (Kj149 _ _ _ ⟨s196, _, w1_0, rfl, (ue rfl rfl), (K166.st (tr5 p170 p180 p187 p191 p196) rfl), A198, (BlF.st (blf_mk bw168 g170) (tr4 p180 p187 p191 p196) rfl)⟩)
     refine sr (Xb rfl (Xb rfl (dn (jc (fun (y201 : (List Deed) × Int × Int) e w => ∃ (s : St) (e0 : Env) (vy201_0 : Value), w = s.w ∧ e = upd e0 1 vy201_0 ∧ Kp s0 s ∧ OwF Xz s [vy201_0] y201.1 40 ∧ BlF s p0 184 [w0_0, (iI y201.2.1), (iI y201.2.2)] 2) (fun Gj201 Kj201 => ?_) ?_))))
     ·
      refine cd rfl (fun h202 => ?_) (fun h202 => ?_)
      ·
       refine bl (lpI (fun (x203 : (List Deed) × Int × Int) e w => ∃ (s : St) (e0 : Env) (vx203_0 : Value), w = s.w ∧ e = upd (upd e0 0 (pB p0)) 1 vx203_0 ∧ Kp s0 s ∧ OwF Xz s [vx203_0] x203.1 40 ∧ BlF s p0 184 [w0_0, (iI x203.2.1), (iI x203.2.2)] 2) ⟨s11, _, w1_0, rfl, (ue (ue rfl rfl) rfl), (K8.st p11 rfl), (A1_0.st (Xq p6 p11) rfl), B11⟩ (fun g203 ih203 => ?_))
       rintro x203 _ _ ⟨s206, _, vx203_0, rfl, rfl, Kx203, Ax203_0, Bx203_p0⟩
       unfold spec_l14bent.b0
       refine sq (sr (Xp vx203_0 rfl (ln' Ax203_0.rd u62 rfl (Xb rfl ?_))))
       refine clB Bx203_p0 rfl func74 rfl (spec_l1Below.calls (l1Cur.mk a0.b x203.2.1 x203.2.2) (2 : Int) s206.w (mm [0] s206) p0 w0_0 (A0_0.kp Kx203) Bx203_p0.w (Bx203_p0.apart rfl)) (fun r210 s211 p211 B211 => ?_)
       refine Xb rfl (Xb rfl (dn (cd rfl (fun h213 => ?_) (fun h213 => ?_))))
       ·
        refine sk (bl (rg (Xp vx203_0 rfl (Xp vx203_0 rfl ?_))))
        have A214 := Ax203_0.st p211 rfl
        refine ln' A214.rd u62 rfl (Xb rfl (Xb rfl (Xp vx203_0 rfl (ln' A214.rd u62 rfl (Xb rfl (Xb rfl (bd (cells := [(iI 0), (iI (IntKind.wrap .i64 ((20000 : Int) + (IntKind.wrap .i64 ((2 : Int) * (x203.1.length : Int)))))), (iI (IntKind.wrap .i64 ((20001 : Int) + (IntKind.wrap .i64 ((2 : Int) * (x203.1.length : Int)))))), (.slice none 0 0), (.slice none 0 0)]) pl143 o143 rfl rfl rfl rfl rfl rfl ?_)))))))
        have A215 : OwF kd143 s211 [(iI 0), (iI (IntKind.wrap .i64 ((20000 : Int) + (IntKind.wrap .i64 ((2 : Int) * (x203.1.length : Int)))))), (iI (IntKind.wrap .i64 ((20001 : Int) + (IntKind.wrap .i64 ((2 : Int) * (x203.1.length : Int)))))), (.slice none 0 0), (.slice none 0 0)] (Deed.mk (0 : Int) (IntKind.wrap .i64 ((20000 : Int) + (IntKind.wrap .i64 ((2 : Int) * (x203.1.length : Int))))) (IntKind.wrap .i64 ((20001 : Int) + (IntKind.wrap .i64 ((2 : Int) * (x203.1.length : Int))))) ([] : (List Span)) ([] : (List Item))) 56 := ow_z _ _ (fz_iso (fun x : Deed => (x.Xid, x.Begun, x.Ended, x.Reads, x.Writes)) (Deed.mk (0 : Int) (IntKind.wrap .i64 ((20000 : Int) + (IntKind.wrap .i64 ((2 : Int) * (x203.1.length : Int))))) (IntKind.wrap .i64 ((20001 : Int) + (IntKind.wrap .i64 ((2 : Int) * (x203.1.length : Int))))) ([] : (List Span)) ([] : (List Item))) (fz_pair (Xo .i64 (0 : Int)) (fz_pair (Xo .i64 (IntKind.wrap .i64 ((20000 : Int) + (IntKind.wrap .i64 ((2 : Int) * (x203.1.length : Int)))))) (fz_pair (Xo .i64 (IntKind.wrap .i64 ((20001 : Int) + (IntKind.wrap .i64 ((2 : Int) * (x203.1.length : Int)))))) (fz_pair (fz_nil 146 kd146) (fz_nil 29 kd29))))))
        refine ltO (K := kd143) (cells := [(iI 0), (iI (IntKind.wrap .i64 ((20000 : Int) + (IntKind.wrap .i64 ((2 : Int) * (x203.1.length : Int)))))), (iI (IntKind.wrap .i64 ((20001 : Int) + (IntKind.wrap .i64 ((2 : Int) * (x203.1.length : Int)))))), (.slice none 0 0), (.slice none 0 0)]) [(Deed.mk (0 : Int) (IntKind.wrap .i64 ((20000 : Int) + (IntKind.wrap .i64 ((2 : Int) * (x203.1.length : Int))))) (IntKind.wrap .i64 ((20001 : Int) + (IntKind.wrap .i64 ((2 : Int) * (x203.1.length : Int))))) ([] : (List Span)) ([] : (List Item)))] 56 u62 z143 o143 (lo_one A215) rfl rfl rfl rfl rfl rfl rfl rfl rfl rfl (fun v218 s218 p218 A218 => ?_)
        refine apO sl62 (A214.st p218 rfl) A218 rfl rfl rfl rfl rfl rfl rfl rfl rfl (fun v221 s221 p221 A221 => ?_)
        refine asg' v221 rfl (dn (ib ?_))
        exact lb ih203 ⟨s221, _, v221, rfl, (ue (ue rfl rfl) rfl), (Kx203.st (tr3 p211 p218 p221) rfl), A221, (B211.st (Xq p218 p221) rfl)⟩
       refine xt rfl (sgb ?_)
       exact Kj201 _ _ _ ⟨s211, _, vx203_0, rfl, (ue rfl rfl), (Kx203.st p211 rfl), (Ax203_0.st p211 rfl), B211⟩
      exact sk (Kj201 _ _ _ ⟨s11, _, w1_0, rfl, (ue rfl rfl), (K8.st p11 rfl), (A1_0.st (Xq p6 p11) rfl), B11⟩)
     rintro y201 _ _ ⟨s229, _, vy201_0, rfl, rfl, Ky201, Ay201_0, By201_p0⟩
     exact Kj149 _ _ _ ⟨s229, _, vy201_0, rfl, (ue rfl rfl), Ky201, Ay201_0, By201_p0⟩
    rintro y149 _ _ ⟨s232, _, vy149_0, rfl, rfl, Ky149, Ay149_0, By149_p0⟩
    exact Kj82 _ _ _ ⟨s232, _, vy149_0, rfl, (ue rfl rfl), Ky149, Ay149_0, By149_p0⟩
   rintro y82 _ _ ⟨s235, _, vy82_0, rfl, rfl, Ky82, Ay82_0, By82_p0⟩
   exact Kj37 _ _ _ ⟨s235, _, vy82_0, rfl, (ue rfl rfl), Ky82, Ay82_0, By82_p0⟩
  rintro y37 _ _ ⟨s238, _, vy37_0, rfl, rfl, Ky37, Ay37_0, By37_p0⟩
  exact Kj13 _ _ _ ⟨s238, _, vy37_0, rfl, (ue rfl rfl), Ky37, Ay37_0, By37_p0⟩
 rintro y13 _ _ ⟨s241, _, vy13_0, rfl, rfl, Ky13, Ay13_0, By13_p0⟩
 exact ib (sr (Xp vy13_0 rfl (asg' vy13_0 rfl (dn (re rfl func113 rfl (Xs rfl Xg) rfl ⟨_, rfl, z.fwm Ky13 (oc_ow Ay13_0) rfl, By13_p0.w, z.ky' ez Ky13⟩)))))
def spec_DrawGraphOrder.f (a0 : (List Int)) : Option ((List Deed)) :=
 ((spec_l1New.f a0).bind fun r2 => ((spec_l1Size.f a0 (9 : Int)).bind fun r8 => ((spec_l14deeds.f r2 r8).bind fun r11 => ((spec_l1Once.f (l1Cur.mk r2.b r11.2.i r11.2.h) (9 : Int)).bind fun r17 => ((if r17.1 = true then ((spec_l14bent.f (l1Cur.mk r2.b r17.2.i r17.2.h) r11.1).bind fun r23 => (some r23.1)) else (some r11.1)).bind fun y20 => (some y20))))))
def spec_DrawGraphOrder.Q (w : World) (F : Nat → Prop) (r : (List Deed)) (v : Value) (w' : World) : Prop :=
 FO Xz w w' [v] r ∧ Ky [] w w'
theorem spec_DrawGraphOrder.calls (a0 : (List Int)) (w : World) (F : Nat → Prop) (w0_0 : Value) (h0_0 : Xx.rd w [w0_0] a0 F) (r : (List Deed)) (m : spec_DrawGraphOrder.f a0 = some r) :
  Calls prog 33 #[w0_0] w (RT (spec_DrawGraphOrder.Q w F) r) := by
 obtain ⟨s0, rfl, kp0, z⟩ := Xi w F
 have A0_0 := z.rd h0_0
 refine Xc (args := [w0_0]) func33 ntmps33 rfl rfl m ?_
 unfold spec_DrawGraphOrder.f
 refine sr (Xb rfl (dn (sr (Xp w0_0 rfl (cl' rfl func67 rfl (spec_l1New.calls a0 s0.w (mm [0] s0) w0_0 A0_0) ?_)))))
 rintro r2 _ w2 m2 ⟨v2_0, v2_1, rfl, f2_0, f2_1, ky2⟩
 obtain ⟨s3, rfl, p3, n3⟩ := nwx s0 w2 40 ky2
 refine Xb rfl (dn (sr (Xb rfl (Xp w0_0 rfl ?_))))
 have K6 := kp0.st p3 rfl
 refine clV 41 rfl func69 rfl (spec_l1Size.calls a0 (9 : Int) s3.w (mm [0] s3) w0_0 (A0_0.kp K6)) (fun r8 s9 p9 n9 => ?_)
 have A10 := (f2_1.c n3).st p9 rfl
 have A12 := BlF.st (f2_0.c n3) p9 rfl
 refine cl' rfl func112 rfl (spec_l14deeds.calls r2 r8 s9.w (mm [0] s9) v2_0 v2_1 A10 A12.w (A12.apart rfl)) ?_
 rintro r11 v11_0 w11 m11 ⟨f11_0, bw11, ky11⟩
 obtain ⟨s13, rfl, p13, n13, g13⟩ := nwb 42 A12 ky11
 have A11_0 := f11_0.c n13
 have B13 := blf_mk bw11 g13
 refine asg' v11_0 rfl (dn (sq (sr (Xb rfl ?_))))
 have A16 := A10.st p13 rfl
 refine clB B13 rfl func72 rfl (spec_l1Once.calls (l1Cur.mk r2.b r11.2.i r11.2.h) (9 : Int) s13.w (mm [0] s13) v2_0 v2_1 A16 B13.w (B13.apart rfl)) (fun r17 s18 p18 B18 => ?_)
 refine dn (jc (fun (y20 : (List Deed)) e w => ∃ (s : St) (e0 : Env) (vy20_0 : Value), w = s.w ∧ e = upd e0 4 vy20_0 ∧ Kp s0 s ∧ OwF Xz s [vy20_0] y20 44) (fun Gj20 Kj20 => ?_) ?_)
 ·
  refine cd rfl (fun h21 => ?_) (fun h21 => ?_)
  ·
   refine rg (Xb rfl (Xp v11_0 rfl ?_))
   obtain ⟨os23, ho23, hn23, hc23⟩ := A11_0.st p18 rfl
   refine cl' rfl func113 rfl (spec_l14bent.calls (l1Cur.mk r2.b r17.2.i r17.2.h) r11.1 s18.w (mm [0] s18) v2_0 v2_1 v11_0 (A16.st p18 rfl) os23 ho23 hn23 B18.w (bl_out B18 hc23 rfl) (apart2 (B18.apart rfl) (apart_of hc23 rfl))) ?_
   rintro r23 v23_0 w23 m23 ⟨f23_0, bw23, ky23⟩
   obtain ⟨s25, rfl, p25, n25, g25⟩ := nwm2 45 hc23 B18 ky23 rfl rfl
   refine asg' v23_0 rfl (dn ?_)
   obtain ⟨s28, hw28, p28, A28⟩ := (f23_0.m n25).rc 44 rfl
   rw [hw28]
   exact Kj20 _ _ _ ⟨s28, _, v23_0, rfl, (ue rfl rfl), (K6.st (tr5 p9 p13 p18 p25 p28) rfl), A28⟩
  refine sk ?_
  obtain ⟨s31, hw31, p31, A31⟩ := (A11_0.st p18 rfl).rc 44 rfl
  rw [hw31]
  exact Kj20 _ _ _ ⟨s31, _, v11_0, rfl, (ue rfl rfl), (K6.st (tr4 p9 p13 p18 p31) rfl), A31⟩
 rintro y20 _ _ ⟨s33, _, vy20_0, rfl, rfl, Ky20, Ay20_0⟩
 exact sr (Xp vy20_0 rfl (asg' vy20_0 rfl (dn (re rfl func33 rfl (Xs rfl Xg) rfl ⟨_, rfl, Ay20_0.fo Ky20 rfl z.l, z.ky Ky20⟩))))
def spec_SpanOk.f (a0 : Span) : Option (Bool) :=
 ((spec_KeyOk.f a0.From).bind fun r7 => ((if r7 = true then ((spec_KeyOk.f a0.To).bind fun r13 => (some r13)) else (some false)).bind fun y9 => ((if y9 = true then ((spec_ItemCompare.f a0.From a0.To).bind fun r24 => (some (decide (r24 ≤ (0 : Int))))) else (some false)).bind fun y21 => (some y21))))
def spec_SpanOk.Q (w : World) (F : Nat → Prop) (r : Bool) (v : Value) (w' : World) : Prop :=
 v = (.bool r) ∧ Ky [] w w'
theorem spec_SpanOk.calls (a0 : Span) (w : World) (F : Nat → Prop) (w0_0 : Value) (w0_1 : Value) (w0_2 : Value) (w0_3 : Value) (h0_0 : Kd.flt.rd w [w0_0] a0.From.F F) (h0_1 : Xx.rd w [w0_1] a0.From.T F) (h0_2 : Kd.flt.rd w [w0_2] a0.To.F F) (h0_3 : Xx.rd w [w0_3] a0.To.T F) (r : Bool) (m : spec_SpanOk.f a0 = some r) :
  Calls prog 114 #[(.agg #[(iI a0.From.Kind), (iI a0.From.N), w0_0, w0_1, (iI a0.To.Kind), (iI a0.To.N), w0_2, w0_3])] w (RT (spec_SpanOk.Q w F) r) := by
 obtain ⟨s0, rfl, kp0, z⟩ := Xi w F
 have A0_0 := Xu h0_0
 have A0_1 := z.rd h0_1
 have A0_2 := Xu h0_2
 have A0_3 := z.rd h0_3
 refine Xc (args := [(.agg #[(iI a0.From.Kind), (iI a0.From.N), w0_0, w0_1, (iI a0.To.Kind), (iI a0.To.N), w0_2, w0_3])]) func114 ntmps114 rfl rfl m ?_
 unfold spec_SpanOk.f
 refine sr (bx' (cs := [(iI a0.From.Kind), (iI a0.From.N), w0_0, w0_1, (iI a0.To.Kind), (iI a0.To.N), w0_2, w0_3]) 40 rfl rfl (fun b3 s3 p3 B3 => ?_))
 refine Xb rfl (dn (sr (fa' fa146_0 rfl (lda' (es := [(iI a0.From.Kind), (iI a0.From.N), w0_0, w0_1]) B3 u29 z29 rfl ?_))))
 have K5 := kp0.st p3 rfl
 refine clV 41 rfl func26 rfl (spec_KeyOk.calls a0.From s3.w (mm [0] s3) w0_0 w0_1 ((Xk (s := s3) A0_0).sub (D := [0]) rfl) (A0_1.kp K5)) (fun r7 s8 p8 n8 => ?_)
 refine Xb rfl (ji [8, 9, 10, 11, 12, 13, 14, 15, 16] (fun (y9 : Bool) e w => ∃ (s : St) (e0 : Env), w = s.w ∧ e = upd (upd e0 1 (pB b3)) 10 (.bool y9) ∧ Kp s0 s ∧ BlF s b3 146 [(iI a0.From.Kind), (iI a0.From.N), w0_0, w0_1, (iI a0.To.Kind), (iI a0.To.N), w0_2, w0_3] 40) (fun Gj9 Kj9 => ?_) ?_)
 ·
  rcases bft r7 with hb9 | hb9
  ·
   refine Xv hb9 ?_
   rw [if_pos hb9]
   refine fa' fa146_1 rfl ?_
   have A10 := B3.st p8 rfl
   refine lda' (es := [(iI a0.To.Kind), (iI a0.To.N), w0_2, w0_3]) A10 u29 z29 rfl ?_
   have K11 := K5.st p8 rfl
   refine clV 42 rfl func26 rfl (spec_KeyOk.calls a0.To s8.w (mm [0] s8) w0_2 w0_3 ((Xk (s := s8) A0_2).sub (D := [0]) rfl) (A0_3.kp K11)) (fun r13 s14 p14 n14 => ?_)
   exact Xb rfl (Kj9 _ _ _ ⟨s14, _, rfl, (ue (ue rfl rfl) rfl), (K11.st p14 rfl), (A10.st p14 rfl)⟩)
  refine Xv hb9 ?_
  rw [if_neg (by rw [hb9]; decide)]
  refine Xj rfl (Xj rfl (Xj rfl (Xb rfl ?_)))
  exact Kj9 _ _ _ ⟨s8, _, rfl, (ue (ue rfl rfl) rfl), (K5.st p8 rfl), (B3.st p8 rfl)⟩
 rintro y9 _ _ ⟨s19, _, rfl, rfl, Ky9, By9_b3⟩
 refine Xb rfl (ji [16] (fun (y21 : Bool) e w => ∃ (s : St) (e0 : Env), w = s.w ∧ e = upd e0 18 (.bool y21) ∧ Kp s0 s) (fun Gj21 Kj21 => ?_) ?_)
 ·
  rcases bft y9 with hb21 | hb21
  ·
   refine Xv hb21 ?_
   rw [if_pos hb21]
   refine fa' fa146_0 rfl (lda' (es := [(iI a0.From.Kind), (iI a0.From.N), w0_0, w0_1]) By9_b3 u29 z29 rfl (fa' fa146_1 rfl (lda' (es := [(iI a0.To.Kind), (iI a0.To.N), w0_2, w0_3]) By9_b3 u29 z29 rfl ?_)))
   refine clV 43 rfl func199 rfl (spec_ItemCompare.calls a0.From a0.To s19.w (mm [0] s19) w0_0 w0_1 w0_2 w0_3 ((Xk (s := s19) A0_0).sub (D := [0]) rfl) (A0_1.kp Ky9) ((Xk (s := s19) A0_2).sub (D := [0]) rfl) (A0_3.kp Ky9)) (fun r24 s25 p25 n25 => ?_)
   refine Xb rfl (Xb rfl ?_)
   exact Kj21 _ _ _ ⟨s25, _, rfl, (ue rfl rfl), (Ky9.st p25 rfl)⟩
  refine Xv hb21 ?_
  rw [if_neg (by rw [hb21]; decide)]
  exact Xj rfl (Xj rfl (Xj rfl (Xj rfl (Xj rfl (Xj rfl (Xb rfl (Kj21 _ _ _ ⟨s19, _, rfl, (ue rfl rfl), Ky9⟩)))))))
 rintro y21 _ _ ⟨s27, _, rfl, rfl, Ky21⟩
 exact Xb rfl (dn (re rfl func114 rfl (Xs rfl Xg) rfl ⟨_, rfl, rfl, z.ky Ky21⟩))
def spec_DeedsOk.b3 (a0 : (List Deed)) (x3 : (List Int) × Int) (x62 : Int) : Option (Int ⊕ ((List Int) × Int ⊕ Bool)) :=
 (if (decide (x62 < (x3.1.length : Int))) = true then (if 0 ≤ x62 ∧ x62 < (x3.1.length : Int) then ((if ((at_ x3.1 x62) == (at_ a0 x3.2).Begun) = true then (some true) else (if 0 ≤ x62 ∧ x62 < (x3.1.length : Int) then (some ((at_ x3.1 x62) == (at_ a0 x3.2).Ended)) else none)).bind fun y79 => (if y79 = true then (some (Sum.inr (Sum.inr false))) else (some (Sum.inl (IntKind.wrap .i64 (x62 + (1 : Int))))))) else none) else ((if x3.1.length + ([(at_ a0 x3.2).Begun]).length ≤ Lim then (if (x3.1 ++ [(at_ a0 x3.2).Begun]).length + ([(at_ a0 x3.2).Ended]).length ≤ Lim then (some (Sum.inl (((x3.1 ++ [(at_ a0 x3.2).Begun]) ++ [(at_ a0 x3.2).Ended]), (IntKind.wrap .i64 (x3.2 + (1 : Int)))))) else none) else none).bind fun o => some (Sum.inr o)))
def spec_DeedsOk.b2 (a0 : (List Deed)) (x3 : (List Int) × Int) (x46 : Int) : Option (Int ⊕ ((List Int) × Int ⊕ Bool)) :=
 (if (decide (x46 < (((at_ a0 x3.2).Writes).length : Int))) = true then (if 0 ≤ x46 ∧ x46 < (((at_ a0 x3.2).Writes).length : Int) then ((spec_KeyOk.f (at_ ((at_ a0 x3.2).Writes) x46)).bind fun r53 => (if (!r53) = true then (some (Sum.inr (Sum.inr false))) else (some (Sum.inl (IntKind.wrap .i64 (x46 + (1 : Int))))))) else none) else ((iter (spec_DeedsOk.b3 a0 x3) (0 : Int)).bind fun o => some (Sum.inr o)))
def spec_DeedsOk.b1 (a0 : (List Deed)) (x3 : (List Int) × Int) (x25 : Int) : Option (Int ⊕ ((List Int) × Int ⊕ Bool)) :=
 (if (decide (x25 < (((at_ a0 x3.2).Reads).length : Int))) = true then (if 0 ≤ x25 ∧ x25 < (((at_ a0 x3.2).Reads).length : Int) then ((spec_SpanOk.f (Span.mk ((at_ ((at_ a0 x3.2).Reads) x25).From) ((at_ ((at_ a0 x3.2).Reads) x25).To))).bind fun r37 => (if (!r37) = true then (some (Sum.inr (Sum.inr false))) else (some (Sum.inl (IntKind.wrap .i64 (x25 + (1 : Int))))))) else none) else ((iter (spec_DeedsOk.b2 a0 x3) (0 : Int)).bind fun o => some (Sum.inr o)))
def spec_DeedsOk.b0 (a0 : (List Deed)) (x3 : (List Int) × Int) : Option (((List Int) × Int) ⊕ Bool) :=
 (if (decide (x3.2 < (a0.length : Int))) = true then (if 0 ≤ x3.2 ∧ x3.2 < (a0.length : Int) then (if ((((decide ((at_ a0 x3.2).Begun < (1 : Int))) || (decide ((at_ a0 x3.2).Ended ≤ (at_ a0 x3.2).Begun))) || (decide ((((at_ a0 x3.2).Reads).length : Int) > (200 : Int)))) || (decide ((((at_ a0 x3.2).Writes).length : Int) > (200 : Int)))) = true then (some (Sum.inr false)) else (iter (spec_DeedsOk.b1 a0 x3) (0 : Int))) else none) else ((some true).bind fun o => some (Sum.inr o)))
def spec_DeedsOk.f (a0 : (List Deed)) : Option (Bool) :=
 (if (decide ((a0.length : Int) > (100 : Int))) = true then (some false) else (iter (spec_DeedsOk.b0 a0) (([] : (List Int)), (0 : Int))))
def spec_DeedsOk.Q (w : World) (F : Nat → Prop) (r : Bool) (v : Value) (w' : World) : Prop :=
 v = (.bool r) ∧ Ky [] w w'
theorem spec_DeedsOk.calls (a0 : (List Deed)) (w : World) (F : Nat → Prop) (w0_0 : Value) (h0_0 : Xz.rd w [w0_0] a0 F) (r : Bool) (m : spec_DeedsOk.f a0 = some r) :
  Calls prog 34 #[w0_0] w (RT (spec_DeedsOk.Q w F) r) := by
 obtain ⟨s0, rfl, kp0, z⟩ := Xi w F
 have A0_0 := z.rd h0_0
 refine Xc (args := [w0_0]) func34 ntmps34 rfl rfl m ?_
 unfold spec_DeedsOk.f
 refine sr (Xb rfl (dn (sq (sr (Xp w0_0 rfl (ln' A0_0 u62 rfl (Xb rfl (dn (cd rfl (fun h2 => ?_) (fun h2 => ?_))))))))))
 ·
  exact sr (Xb rfl (dn (re rfl func34 rfl (Xs rfl Xg) rfl ⟨_, rfl, rfl, z.ky kp0⟩)))
 refine sk (sr (Xb rfl (dn (sq (sr (Xb rfl (dn (bl (lpI (fun (x3 : (List Int) × Int) e w => ∃ (s : St) (e0 : Env) (vx3_0 : Value), w = s.w ∧ e = upd (upd (upd e0 0 w0_0) 3 vx3_0) 4 (iI x3.2) ∧ Kp s0 s ∧ OwF Xy s [vx3_0] x3.1 40) ⟨s0, _, (.slice none 0 0), rfl, (ue (ue (ue rfl rfl) rfl) rfl), kp0, (ow_nil 3 (Kd.int .i64) _ 40)⟩ (fun g3 ih3 => ?_))))))))))
 rintro x3 _ _ ⟨s4, _, vx3_0, rfl, rfl, Kx3, Ax3_0⟩
 unfold spec_DeedsOk.b0
 refine sq (sr (Xb rfl (Xp w0_0 rfl ?_)))
 have A6 := A0_0.kp Kx3
 refine ln' A6 u62 rfl (Xb rfl (dn (cd rfl (fun h7 => ?_) (fun h7 => ?_))))
 ·
  refine sk (sq (bl (sr (Xp w0_0 rfl (Xb rfl (ix' A6 u62 z143 rfl (fun ad8 es8 h0_8 h1_8 he8 ce8 ia8 => ?_)))))))
  obtain ⟨v8_0, v8_1, rfl, A8_0, A8_1⟩ := op143 he8
  refine lca ce8 u143 z143 rfl rfl rfl rfl rfl rfl rfl (al (cs := [(iI 0), (iI 0), (iI 0), (.slice none 0 0), (.slice none 0 0)]) 41 rfl rfl rfl rfl rfl o143 rfl (fun b12 s12 p12 B12 => ?_))
  have A14 := A8_1.st p12 rfl
  have A15 := A8_0.st p12 rfl
  refine sva' (vs := [(iI ((at_ a0 x3.2).Xid)), (iI ((at_ a0 x3.2).Begun)), (iI ((at_ a0 x3.2).Ended)), v8_0, v8_1]) B12 z143 rfl (Xe rfl (Xe rfl (Xe rfl (Xe A15.one (Xe A14.one on_nil))))) rfl (fun s16 p16 B16 => ?_)
  refine dn (sq (sr (fa' fa143_1 rfl (ld' B16 u3 rfl (Xb rfl (Xb rfl (jy [25, 26, 27, 28, 29, 30, 31] [10, 11, 12, 13, 14, 15, 16, 17, 18, 19, 20, 21] 31 (.bool ((decide ((at_ a0 x3.2).Begun < (1 : Int))) || (decide ((at_ a0 x3.2).Ended ≤ (at_ a0 x3.2).Begun)))) rfl (fun Kg18 => ?_) (fun j18 => ?_))))))))
  ·
   rcases bft (decide ((at_ a0 x3.2).Begun < (1 : Int))) with hb18 | hb18
   ·
    exact Xv hb18 (Xj rfl (Xj rfl (Xj rfl (Xj rfl (Xj rfl (Xb rfl (Kg18 _ (Ag.put ((Ag.put ((Ag.put ((Ag.put ((Ag.put ((Ag.put (Ag.base rfl) rfl)) rfl)) rfl)) rfl)) rfl)) rfl) (by rw [hb18]; rfl))))))))
   exact Xv hb18 (fa' fa143_2 rfl (ld' B16 u3 rfl (fa' fa143_1 rfl (ld' B16 u3 rfl (Xb rfl (Xb rfl (Kg18 _ (Ag.put ((Ag.put ((Ag.put ((Ag.put ((Ag.put ((Ag.put (Ag.base rfl) rfl)) rfl)) rfl)) rfl)) rfl)) rfl) (by rw [hb18]; rfl))))))))
  refine Xb rfl (jy [32, 33, 34, 35, 36, 37] [16, 17, 18, 19, 20, 21] 37 (.bool (((decide ((at_ a0 x3.2).Begun < (1 : Int))) || (decide ((at_ a0 x3.2).Ended ≤ (at_ a0 x3.2).Begun))) || (decide ((((at_ a0 x3.2).Reads).length : Int) > (200 : Int))))) rfl (fun Kg19 => ?_) (fun j19 => ?_))
  ·
   rcases bft ((decide ((at_ a0 x3.2).Begun < (1 : Int))) || (decide ((at_ a0 x3.2).Ended ≤ (at_ a0 x3.2).Begun))) with hb19 | hb19
   ·
    exact Xv hb19 (Xj rfl (Xj rfl (Xj rfl (Xj rfl (Xb rfl (Kg19 _ (Ag.put ((Ag.put ((Ag.put ((Ag.put ((Ag.put (Ag.base rfl) rfl)) rfl)) rfl)) rfl)) rfl) (by rw [hb19]; rfl)))))))
   refine Xv hb19 (fa' fa143_3 rfl (ld' B16 u140 rfl ?_))
   exact ln' (A15.st p16 rfl) u140 rfl (Xb rfl (Xb rfl (Kg19 _ (Ag.put ((Ag.put ((Ag.put ((Ag.put ((Ag.put (Ag.base rfl) rfl)) rfl)) rfl)) rfl)) rfl) (by rw [hb19]; rfl))))
  refine Xb rfl (jy [38, 39, 40, 41, 42, 43] [] 43 (.bool ((((decide ((at_ a0 x3.2).Begun < (1 : Int))) || (decide ((at_ a0 x3.2).Ended ≤ (at_ a0 x3.2).Begun))) || (decide ((((at_ a0 x3.2).Reads).length : Int) > (200 : Int)))) || (decide ((((at_ a0 x3.2).Writes).length : Int) > (200 : Int))))) rfl (fun Kg21 => ?_) (fun j21 => ?_))
  ·
   rcases bft (((decide ((at_ a0 x3.2).Begun < (1 : Int))) || (decide ((at_ a0 x3.2).Ended ≤ (at_ a0 x3.2).Begun))) || (decide ((((at_ a0 x3.2).Reads).length : Int) > (200 : Int)))) with hb21 | hb21
   ·
    exact Xv hb21 (Xj rfl (Xj rfl (Xj rfl (Xj rfl (Xb rfl (Kg21 _ (Ag.put ((Ag.put ((Ag.put ((Ag.put ((Ag.put (Ag.base rfl) rfl)) rfl)) rfl)) rfl)) rfl) (by rw [hb21]; rfl)))))))
   refine Xv hb21 (fa' fa143_4 rfl (ld' B16 u141 rfl ?_))
   exact ln' (A14.st p16 rfl) u141 rfl (Xb rfl (Xb rfl (Kg21 _ (Ag.put ((Ag.put ((Ag.put ((Ag.put ((Ag.put (Ag.base rfl) rfl)) rfl)) rfl)) rfl)) rfl) (by rw [hb21]; rfl))))
  refine dn (cd rfl (fun h23 => ?_) (fun h23 => ?_))
  ·
   refine sr (Xb rfl (dn (sgi ?_)))
   exact re rfl func34 rfl (Xs rfl Xg) rfl ⟨_, rfl, rfl, z.ky (Kx3.st (Xq p12 p16) rfl)⟩
  refine sk (sq (sr (Xb rfl (dn (bl ?_)))))
  refine lpI (fun (x25 : Int) e w => ∃ (s : St) (e0 : Env), w = s.w ∧ e = upd (upd (upd (upd (upd e0 0 w0_0) 3 vx3_0) 4 (iI x3.2)) 5 (pB b12)) 6 (iI x25) ∧ Kp s0 s ∧ BlF s b12 143 [(iI ((at_ a0 x3.2).Xid)), (iI ((at_ a0 x3.2).Begun)), (iI ((at_ a0 x3.2).Ended)), v8_0, v8_1] 41 ∧ OwF Xy s [vx3_0] x3.1 40 ∧ RdF Yb s [v8_0] ((at_ a0 x3.2).Reads) [0] ∧ RdF Ya s [v8_1] ((at_ a0 x3.2).Writes) [0]) ⟨s16, _, rfl, (ue (ue (ue (ue (ue rfl rfl) rfl) rfl) rfl) rfl), (Kx3.st (Xq p12 p16) rfl), B16, (Ax3_0.st (Xq p12 p16) rfl), (A15.st p16 rfl), (A14.st p16 rfl)⟩ (fun g25 ih25 => ?_)
  rintro x25 _ _ ⟨s30, _, rfl, rfl, Kx25, Bx25_b12, Cx25_5, Cx25_9, Cx25_10⟩
  unfold spec_DeedsOk.b1
  refine sq (sr (Xb rfl (fa' fa143_3 rfl (ld' Bx25_b12 u140 rfl (ln' Cx25_9 u140 rfl (Xb rfl (dn (cd rfl (fun h32 => ?_) (fun h32 => ?_)))))))))
  ·
   refine sk (sq (bl (sr (fa' fa143_3 rfl (ld' Bx25_b12 u140 rfl (Xb rfl (ix' Cx25_9 u140 z146 rfl (fun ad33 es33 h0_33 h1_33 he33 ce33 ia33 => ?_))))))))
   obtain ⟨v33_0, v33_1, v33_2, v33_3, rfl, A33_0, A33_1, A33_2, A33_3⟩ := op146 he33
   refine lca ce33 u146 z146 rfl rfl rfl rfl rfl rfl rfl (clV 42 rfl func114 rfl (spec_SpanOk.calls (Span.mk ((at_ ((at_ a0 x3.2).Reads) x25).From) ((at_ ((at_ a0 x3.2).Reads) x25).To)) s30.w (mm [0] s30) v33_0 v33_1 v33_2 v33_3 ((Xk (s := s30) A33_0).sub (D := [0]) rfl) A33_1 ((Xk (s := s30) A33_2).sub (D := [0]) rfl) A33_3) (fun r37 s38 p38 n38 => ?_))
   refine Xb rfl (dn (cd rfl (fun h39 => ?_) (fun h39 => ?_)))
   ·
    refine sr (Xb rfl (dn (sgi (sgi ?_))))
    exact re rfl func34 rfl (Xs rfl Xg) rfl ⟨_, rfl, rfl, z.ky (Kx25.st p38 rfl)⟩
   refine sk (ib (rg (Xb rfl (Xb rfl (Xb rfl (dn ?_))))))
   exact lb ih25 ⟨s38, _, rfl, (ue (ue (ue (ue (ue rfl rfl) rfl) rfl) rfl) rfl), (Kx25.st p38 rfl), (Bx25_b12.st p38 rfl), (Cx25_5.st p38 rfl), (Cx25_9.st p38 rfl), (Cx25_10.st p38 rfl)⟩
  refine xt rfl (sgb (sq (sr (Xb rfl (dn (bl (lpI (fun (x46 : Int) e w => ∃ (s : St) (e0 : Env), w = s.w ∧ e = upd (upd (upd (upd (upd e0 0 w0_0) 3 vx3_0) 4 (iI x3.2)) 5 (pB b12)) 7 (iI x46) ∧ Kp s0 s ∧ BlF s b12 143 [(iI ((at_ a0 x3.2).Xid)), (iI ((at_ a0 x3.2).Begun)), (iI ((at_ a0 x3.2).Ended)), v8_0, v8_1] 41 ∧ OwF Xy s [vx3_0] x3.1 40 ∧ RdF Yb s [v8_0] ((at_ a0 x3.2).Reads) [0] ∧ RdF Ya s [v8_1] ((at_ a0 x3.2).Writes) [0]) ⟨s30, _, rfl, (ue (ue (ue (ue (ue rfl rfl) rfl) rfl) rfl) rfl), Kx25, Bx25_b12, Cx25_5, Cx25_9, Cx25_10⟩ (fun g46 ih46 => ?_))))))))
  rintro x46 _ _ ⟨s47, _, rfl, rfl, Kx46, Bx46_b12, Cx46_5, Cx46_9, Cx46_10⟩
  unfold spec_DeedsOk.b2
  refine sq (sr (Xb rfl (fa' fa143_4 rfl (ld' Bx46_b12 u141 rfl (ln' Cx46_10 u141 rfl (Xb rfl (dn (cd rfl (fun h49 => ?_) (fun h49 => ?_)))))))))
  ·
   refine sk (sq (bl (sr (fa' fa143_4 rfl (ld' Bx46_b12 u141 rfl (Xb rfl (ix' Cx46_10 u141 z29 rfl (fun ad50 es50 h0_50 h1_50 he50 ce50 ia50 => ?_))))))))
   obtain ⟨v50_0, v50_1, rfl, A50_0, A50_1⟩ := op29 he50
   refine lca ce50 u29 z29 rfl rfl rfl rfl rfl rfl rfl (clV 43 rfl func26 rfl (spec_KeyOk.calls (at_ ((at_ a0 x3.2).Writes) x46) s47.w (mm [0] s47) v50_0 v50_1 ((Xk (s := s47) A50_0).sub (D := [0]) rfl) A50_1) (fun r53 s54 p54 n54 => ?_))
   refine Xb rfl (dn (cd rfl (fun h55 => ?_) (fun h55 => ?_)))
   ·
    refine sr (Xb rfl (dn (sgi (sgi ?_))))
    exact re rfl func34 rfl (Xs rfl Xg) rfl ⟨_, rfl, rfl, z.ky (Kx46.st p54 rfl)⟩
   refine sk (ib (rg (Xb rfl (Xb rfl (Xb rfl (dn ?_))))))
   exact lb ih46 ⟨s54, _, rfl, (ue (ue (ue (ue (ue rfl rfl) rfl) rfl) rfl) rfl), (Kx46.st p54 rfl), (Bx46_b12.st p54 rfl), (Cx46_5.st p54 rfl), (Cx46_9.st p54 rfl), (Cx46_10.st p54 rfl)⟩
  refine xt rfl (sgb (sq (sr (Xb rfl (dn (bl (lpI (fun (x62 : Int) e w => ∃ (s : St) (e0 : Env), w = s.w ∧ e = upd (upd (upd (upd (upd e0 0 w0_0) 3 vx3_0) 4 (iI x3.2)) 5 (pB b12)) 8 (iI x62) ∧ Kp s0 s ∧ BlF s b12 143 [(iI ((at_ a0 x3.2).Xid)), (iI ((at_ a0 x3.2).Begun)), (iI ((at_ a0 x3.2).Ended)), v8_0, v8_1] 41 ∧ OwF Xy s [vx3_0] x3.1 40 ∧ RdF Yb s [v8_0] ((at_ a0 x3.2).Reads) [0] ∧ RdF Ya s [v8_1] ((at_ a0 x3.2).Writes) [0]) ⟨s47, _, rfl, (ue (ue (ue (ue (ue rfl rfl) rfl) rfl) rfl) rfl), Kx46, Bx46_b12, Cx46_5, Cx46_9, Cx46_10⟩ (fun g62 ih62 => ?_))))))))
  rintro x62 _ _ ⟨s63, _, rfl, rfl, Kx62, Bx62_b12, Cx62_5, Cx62_9, Cx62_10⟩
  unfold spec_DeedsOk.b3
  refine sq (sr (Xb rfl (Xp vx3_0 rfl (ln' Cx62_5.rd u50 rfl (Xb rfl (dn (cd rfl (fun h65 => ?_) (fun h65 => ?_))))))))
  ·
   refine sk (sq (bl (sq (zdraw [[], [], [0, 1], [2], [], [4], [3, 5], [6], [7], [7], [8, 9, 7], [10, 7], [7], [12, 7], [11, 13, 7], [7, 14]] [some 78, some 79, some 80, some 81, some 82, some 83, some 84, some 85, some 86, some 87, some 88, some 89, some 90, some 91, some 92, some 93] [[3], [8], [78, 79], [80], [5], [82], [81, 83], [84], [3, 85], [8, 85], [86, 87, 85], [88, 85], [5, 85], [90, 85], [89, 91, 85], [85, 92]] [0, 1, 2, 3, 4, 5, 6, 7, 8, 9, 10, 11, 12, 13, 14, 15] ⟨by kernel_rfl, by kernel_rfl, by kernel_rfl⟩ (by kernel_rfl) (fun s66 p66 l66 tb66 zd66 => ?_)))))
   have A69 := Cx62_5.st p66 rfl
   refine mg fun hg70 => ?_
   obtain ⟨ad70, es70, he70, ce70, ia70⟩ := ix_e A69.rd rfl hg70.1 hg70.2
   obtain rfl := he70
   have zd78 := (((((((zd66.add 0 78 vx3_0 rfl).add 1 79 (iI x62) rfl).add 2 80 (.pointer (some ad70)) rfl).add 3 81 (iI (at_ x3.1 x62)) rfl).add 4 82 (pO b12 1) rfl).add 5 83 (iI ((at_ a0 x3.2).Begun)) rfl).add 6 84 (.bool ((at_ x3.1 x62) == (at_ a0 x3.2).Begun)) rfl).add 7 85 (.bool ((at_ x3.1 x62) == (at_ a0 x3.2).Begun)) rfl
   refine ji [] (fun (y79 : Bool) e w => ∃ (s : St) (e0 : Env), w = s.w ∧ e = upd (upd (upd (upd (upd (upd e0 0 w0_0) 3 vx3_0) 4 (iI x3.2)) 5 (pB b12)) 8 (iI x62)) 93 (.bool y79) ∧ Kp s0 s ∧ BlF s b12 143 [(iI ((at_ a0 x3.2).Xid)), (iI ((at_ a0 x3.2).Begun)), (iI ((at_ a0 x3.2).Ended)), v8_0, v8_1] 41 ∧ OwF Xy s [vx3_0] x3.1 40 ∧ RdF Yb s [v8_0] ((at_ a0 x3.2).Reads) [0] ∧ RdF Ya s [v8_1] ((at_ a0 x3.2).Writes) [0]) (fun Gj79 Kj79 => ?_) ?_
   ·
    rcases bft ((at_ x3.1 x62) == (at_ a0 x3.2).Begun) with hb79 | hb79
    ·
     rw [if_pos hb79]
     rw [hb79] at zd78
     try rw [hb79]
     refine zfin [14, 15] tb66 ((((((zd78.add 8 86 undef rfl).add 9 87 undef rfl).add 10 88 undef rfl).add 11 89 undef rfl).add 12 90 undef rfl).add 13 91 undef rfl) (Xa (Xf rfl) rfl (Xa (Xf rfl) rfl (Xa (Xf rfl) rfl (Xa (Xf rfl) rfl (Xa (Xf rfl) rfl (Xa (Xf rfl) rfl (Xa (Xd rfl) rfl (Xa (qv_b (Xd rfl) hb79) rfl (Xa (Xr (Bx62_b12.st p66 rfl) u3 rfl) rfl (Xa (Xm fa143_1 rfl) rfl (Xa (Xt ce70 u3 rfl) rfl (Xa (Xn A69.rd u50 z3 hg70.1 hg70.2 ia70 rfl) rfl (Xa (Xd rfl) rfl (Xa (Xl vx3_0 rfl) rfl Xh)))))))))))))) (by kernel_rfl) (by decide) (Xj rfl (Xb rfl ?_))
     exact Kj79 _ _ _ ⟨s66, _, rfl, (ue (ue (ue (ue (ue (ue rfl rfl) rfl) rfl) rfl) rfl) rfl), (Kx62.st p66 rfl), (Bx62_b12.st p66 rfl), A69, (Cx62_9.st p66 rfl), (Cx62_10.st p66 rfl)⟩
    rw [if_neg (by rw [hb79]; decide)]
    rw [hb79] at zd78
    try rw [hb79]
    refine mg fun hg93 => ?_
    obtain ⟨ad93, es93, he93, ce93, ia93⟩ := ix_e A69.rd rfl hg93.1 hg93.2
    obtain rfl := he93
    refine zfin [14, 15] tb66 ((((((zd78.add 8 86 vx3_0 rfl).add 9 87 (iI x62) rfl).add 10 88 (.pointer (some ad93)) rfl).add 11 89 (iI (at_ x3.1 x62)) rfl).add 12 90 (pO b12 2) rfl).add 13 91 (iI ((at_ a0 x3.2).Ended)) rfl) (Xa (Xr (Bx62_b12.st p66 rfl) u3 rfl) rfl (Xa (Xm fa143_2 rfl) rfl (Xa (Xt ce93 u3 rfl) rfl (Xa (Xn A69.rd u50 z3 hg93.1 hg93.2 ia93 rfl) rfl (Xa (Xd rfl) rfl (Xa (Xl vx3_0 rfl) rfl (Xa (Xd rfl) rfl (Xa (qv_b (Xd rfl) hb79) rfl (Xa (Xr (Bx62_b12.st p66 rfl) u3 rfl) rfl (Xa (Xm fa143_1 rfl) rfl (Xa (Xt ce70 u3 rfl) rfl (Xa (Xn A69.rd u50 z3 hg70.1 hg70.2 ia70 rfl) rfl (Xa (Xd rfl) rfl (Xa (Xl vx3_0 rfl) rfl Xh)))))))))))))) (by kernel_rfl) (by decide) (Xb rfl (Xb rfl ?_))
    exact Kj79 _ _ _ ⟨s66, _, rfl, (ue (ue (ue (ue (ue (ue rfl rfl) rfl) rfl) rfl) rfl) rfl), (Kx62.st p66 rfl), (Bx62_b12.st p66 rfl), A69, (Cx62_9.st p66 rfl), (Cx62_10.st p66 rfl)⟩
   rintro y79 _ _ ⟨s106, _, rfl, rfl, Ky79, By79_b12, Cy79_5, Cy79_9, Cy79_10⟩
   refine dn (cd rfl (fun h108 => ?_) (fun h108 => ?_))
   ·
    exact sr (Xb rfl (dn (sgi (sgi (re rfl func34 rfl (Xs rfl Xg) rfl ⟨_, rfl, rfl, z.ky Ky79⟩)))))
   exact sk (ib (rg (Xb rfl (Xb rfl (Xb rfl (dn (lb ih62 ⟨s106, _, rfl, (ue (ue (ue (ue (ue rfl rfl) rfl) rfl) rfl) rfl), Ky79, By79_b12, Cy79_5, Cy79_9, Cy79_10⟩)))))))
  refine xt rfl (sgb (sr (Xp vx3_0 rfl (fa' fa143_1 rfl (ld' Bx62_b12 u3 rfl (ltF' (K := (Kd.int .i64)) (cells := [(iI ((at_ a0 x3.2).Begun))]) [(at_ a0 x3.2).Begun] 44 Xw u50 z3 o3 (fun w => (els_flat _ _ _)) rfl (fun v109 s109 p109 A109 => ?_)))))))
  refine apF Xw sl50 (Cx62_5.st p109 rfl) A109.rd rfl rfl rfl rfl rfl rfl rfl (fun v112 s112 p112 A112 => ?_)
  refine asg' v112 rfl (dn (rg (Xp v112 rfl (fa' fa143_2 rfl ?_))))
  refine ld' (Bx62_b12.st (Xq p109 p112) rfl) u3 rfl (ltF' (K := (Kd.int .i64)) (cells := [(iI ((at_ a0 x3.2).Ended))]) [(at_ a0 x3.2).Ended] 45 Xw u50 z3 o3 (fun w => (els_flat _ _ _)) rfl (fun v115 s115 p115 A115 => ?_))
  refine apF Xw sl50 (A112.st p115 rfl) A115.rd rfl rfl rfl rfl rfl rfl rfl (fun v118 s118 p118 A118 => ?_)
  refine asg' v118 rfl (dn (ib (rg (Xb rfl (Xb rfl (Xb rfl (dn ?_)))))))
  exact lb ih3 ⟨s118, _, v118, rfl, (ue (ue (ue rfl rfl) rfl) rfl), (Kx62.st (tr4 p109 p112 p115 p118) rfl), A118⟩
 exact xt rfl (sgb (sr (Xb rfl (dn (re rfl func34 rfl (Xs rfl Xg) rfl ⟨_, rfl, rfl, z.ky Kx3⟩)))))
def impl_areAll_impl_Deed_1.f (a0 : Deed) (a1 : (Deed → Option Bool)) : Option (Bool) :=
 ((a1 a0).bind fun r10 => (some (!r10)))
def impl_areAll_impl_Deed_1.Q (w : World) (F : Nat → Prop) (r : Bool) (v : Value) (w' : World) : Prop :=
 v = (.bool r) ∧ Ky [] w w'
theorem impl_areAll_impl_Deed_1.calls (a0 : Deed) (a1 : (Deed → Option Bool)) (w : World) (F : Nat → Prop) (w0_0 : Value) (w0_1 : Value) (c1 : Nat) (f1 : Value) (h0_0 : Yb.rd w [w0_0] a0.Reads F) (h0_1 : Ya.rd w [w0_1] a0.Writes F) (hf1 : ∀ (x0 : Deed) (u0_0 u0_1 : Value) (w' : World), Ky [] w w' → Yb.rd w' [u0_0] x0.Reads (fun _ => True) → Ya.rd w' [u0_1] x0.Writes (fun _ => True) → ∀ r, a1 x0 = some r → CallV prog f1 [(.agg #[(iI x0.Xid), (iI x0.Begun), (iI x0.Ended), u0_0, u0_1])] w' fun en w'' => ∃ v, en = .returned v ∧ v = (.bool r) ∧ Ky [] w' w'') (ho1 : f1.cells = #[f1]) (hb1 : BlW w c1 153 [f1]) (hp1 : F c1) (r : Bool) (m : impl_areAll_impl_Deed_1.f a0 a1 = some r) :
  Calls prog 204 #[(.agg #[(iI a0.Xid), (iI a0.Begun), (iI a0.Ended), w0_0, w0_1]), (pB c1)] w (RT (impl_areAll_impl_Deed_1.Q w F) r) := by
 obtain ⟨s0, rfl, kp0, z⟩ := Xi w F
 refine Xc (args := [(.agg #[(iI a0.Xid), (iI a0.Begun), (iI a0.Ended), w0_0, w0_1]), (pB c1)]) func204 ntmps204 rfl rfl m ?_
 unfold impl_areAll_impl_Deed_1.f
 refine sr (bx' (cs := [(iI a0.Xid), (iI a0.Begun), (iI a0.Ended), w0_0, w0_1]) 40 rfl rfl (fun b4 s4 p4 B4 => ?_))
 refine Xb rfl (dn (sr ?_))
 refine ld' (BlF.st (z.b0 hb1 hp1) p4 rfl) u153 rfl (lda' (es := [(iI a0.Xid), (iI a0.Begun), (iI a0.Ended), w0_0, w0_1]) B4 u143 z143 rfl ?_)
 have K7 := kp0.st p4 rfl
 refine clv rfl rfl rfl rfl rfl rfl rfl (fun r10 m10 => hf1 a0 w0_0 w0_1 s4.w (z.ky K7) (RdF.top ((z.rd h0_0).kp K7)) (RdF.top ((z.rd h0_1).kp K7)) r10 m10) ?_
 rintro r10 _ w10 m10 ⟨rfl, ky10⟩
 obtain ⟨s11, rfl, p11, n11⟩ := nwx s4 w10 41 ky10
 refine Xb rfl (Xb rfl (dn ?_))
 exact re rfl func204 rfl (Xs rfl Xg) rfl ⟨_, rfl, rfl, z.ky (K7.st p11 rfl)⟩
def slices_IndexFunc_impl_Deed_impl_Deed.b0 (a0 : (List Deed)) (a1 : (Deed → Option Bool)) (x2 : Int) : Option (Int ⊕ Int) :=
 (if (decide (x2 < (a0.length : Int))) = true then (if 0 ≤ x2 ∧ x2 < (a0.length : Int) then ((a1 (at_ a0 x2)).bind fun r10 => (if r10 = true then (some (Sum.inr x2)) else (some (Sum.inl (IntKind.wrap .i64 (x2 + (1 : Int))))))) else none) else ((some (-1 : Int)).bind fun o => some (Sum.inr o)))
def slices_IndexFunc_impl_Deed_impl_Deed.f (a0 : (List Deed)) (a1 : (Deed → Option Bool)) : Option (Int) :=
 (iter (slices_IndexFunc_impl_Deed_impl_Deed.b0 a0 a1) (0 : Int))
def slices_IndexFunc_impl_Deed_impl_Deed.Q (w : World) (F : Nat → Prop) (r : Int) (v : Value) (w' : World) : Prop :=
 v = (iI r) ∧ Ky [] w w'
theorem slices_IndexFunc_impl_Deed_impl_Deed.calls (a0 : (List Deed)) (a1 : (Deed → Option Bool)) (w : World) (F : Nat → Prop) (w0_0 : Value) (f1 : Value) (h0_0 : Xz.rd w [w0_0] a0 F) (hf1 : ∀ (x0 : Deed) (u0_0 u0_1 : Value) (w' : World), Ky [] w w' → Yb.rd w' [u0_0] x0.Reads (fun _ => True) → Ya.rd w' [u0_1] x0.Writes (fun _ => True) → ∀ r, a1 x0 = some r → CallV prog f1 [(.agg #[(iI x0.Xid), (iI x0.Begun), (iI x0.Ended), u0_0, u0_1])] w' fun en w'' => ∃ v, en = .returned v ∧ v = (.bool r) ∧ Ky [] w' w'') (ho1 : f1.cells = #[f1]) (r : Int) (m : slices_IndexFunc_impl_Deed_impl_Deed.f a0 a1 = some r) :
  Calls prog 266 #[w0_0, f1] w (RT (slices_IndexFunc_impl_Deed_impl_Deed.Q w F) r) := by
 obtain ⟨s0, rfl, kp0, z⟩ := Xi w F
 have A0_0 := z.rd h0_0
 refine Xc (args := [w0_0, f1]) func266 ntmps266 rfl rfl m ?_
 unfold slices_IndexFunc_impl_Deed_impl_Deed.f
 refine sr (Xb rfl (dn (sq (sr (Xp w0_0 rfl (ln' A0_0 u62 rfl (Xb rfl (dn (bl (lpI (fun (x2 : Int) e w => ∃ (s : St) (e0 : Env), w = s.w ∧ e = upd (upd (upd (upd e0 0 w0_0) 1 f1) 7 (iI (a0.length : Int))) 8 (iI x2) ∧ Kp s0 s) ⟨s0, _, rfl, (ue (ue (ue (ue rfl rfl) rfl) rfl) rfl), kp0⟩ (fun g2 ih2 => ?_)))))))))))
 rintro x2 _ _ ⟨s3, _, rfl, rfl, Kx2⟩
 unfold slices_IndexFunc_impl_Deed_impl_Deed.b0
 refine sr (Xb rfl (dn (sq (cd rfl (fun h4 => ?_) (fun h4 => ?_)))))
 ·
  refine sk (sq (bl (sr (Xb rfl (Xb rfl (dn (sr (Xp f1 rfl (Xp w0_0 rfl (Xb rfl ?_))))))))))
  refine ix' (A0_0.kp Kx2) u62 z143 rfl (fun ad6 es6 h0_6 h1_6 he6 ce6 ia6 => ?_)
  obtain ⟨v6_0, v6_1, rfl, A6_0, A6_1⟩ := op143 he6
  refine lca ce6 u143 z143 rfl rfl rfl rfl rfl rfl rfl (clv rfl rfl rfl rfl rfl rfl rfl (fun r10 m10 => hf1 (at_ a0 x2) v6_0 v6_1 s3.w (z.ky Kx2) (RdF.top A6_0) (RdF.top A6_1) r10 m10) ?_)
  rintro r10 _ w10 m10 ⟨rfl, ky10⟩
  obtain ⟨s11, rfl, p11, n11⟩ := nwx s3 w10 40 ky10
  refine dn (cd rfl (fun h12 => ?_) (fun h12 => ?_))
  ·
   refine sr (Xb rfl (Xb rfl (dn (sgi ?_))))
   exact re rfl func266 rfl (Xs rfl Xg) rfl ⟨_, rfl, rfl, z.ky (Kx2.st p11 rfl)⟩
  refine sk (ib (rg (Xb rfl (Xb rfl (dn ?_)))))
  exact lb ih2 ⟨s11, _, rfl, (ue (ue (ue (ue rfl rfl) rfl) rfl) rfl), (Kx2.st p11 rfl)⟩
 exact xt rfl (sgb (sr (Xb rfl (dn (re rfl func266 rfl (Xs rfl Xg) rfl ⟨_, rfl, rfl, z.ky Kx2⟩)))))
def slices_ContainsFunc_impl_Deed_impl_Deed.f (a0 : (List Deed)) (a1 : (Deed → Option Bool)) : Option (Bool) :=
 ((slices_IndexFunc_impl_Deed_impl_Deed.f a0 a1).bind fun r2 => (some (decide (r2 ≥ (0 : Int)))))
def slices_ContainsFunc_impl_Deed_impl_Deed.Q (w : World) (F : Nat → Prop) (r : Bool) (v : Value) (w' : World) : Prop :=
 v = (.bool r) ∧ Ky [] w w'
theorem slices_ContainsFunc_impl_Deed_impl_Deed.calls (a0 : (List Deed)) (a1 : (Deed → Option Bool)) (w : World) (F : Nat → Prop) (w0_0 : Value) (f1 : Value) (h0_0 : Xz.rd w [w0_0] a0 F) (hf1 : ∀ (x0 : Deed) (u0_0 u0_1 : Value) (w' : World), Ky [] w w' → Yb.rd w' [u0_0] x0.Reads (fun _ => True) → Ya.rd w' [u0_1] x0.Writes (fun _ => True) → ∀ r, a1 x0 = some r → CallV prog f1 [(.agg #[(iI x0.Xid), (iI x0.Begun), (iI x0.Ended), u0_0, u0_1])] w' fun en w'' => ∃ v, en = .returned v ∧ v = (.bool r) ∧ Ky [] w' w'') (ho1 : f1.cells = #[f1]) (r : Bool) (m : slices_ContainsFunc_impl_Deed_impl_Deed.f a0 a1 = some r) :
  Calls prog 203 #[w0_0, f1] w (RT (slices_ContainsFunc_impl_Deed_impl_Deed.Q w F) r) := by
 obtain ⟨s0, rfl, kp0, z⟩ := Xi w F
 refine Xc (args := [w0_0, f1]) func203 ntmps203 rfl rfl m ?_
 unfold slices_ContainsFunc_impl_Deed_impl_Deed.f
 refine sr (Xb rfl (dn (sr (Xp w0_0 rfl (Xp f1 rfl (clV 40 rfl func266 rfl (slices_IndexFunc_impl_Deed_impl_Deed.calls a0 a1 s0.w (mm [0] s0) w0_0 f1 (z.rd h0_0) (fun x0 u0_0 u0_1 w' k h0 h1 r m =>  hf1 x0 u0_0 u0_1 w' (Ky.trans (z.ky kp0) k) h0 h1 r m) ho1) (fun r2 s3 p3 n3 => ?_)))))))
 refine Xb rfl (Xb rfl (dn ?_))
 exact re rfl func203 rfl (Xs rfl Xg) rfl ⟨_, rfl, rfl, z.ky (kp0.st p3 rfl)⟩
def impl_areAll_impl_Deed.f (a0 : (List Deed)) (a1 : (Deed → Option Bool)) : Option (Bool) :=
 ((slices_ContainsFunc_impl_Deed_impl_Deed.f a0 (fun x0 => impl_areAll_impl_Deed_1.f x0 a1)).bind fun r6 => (some (!r6)))
def impl_areAll_impl_Deed.Q (w : World) (F : Nat → Prop) (r : Bool) (v : Value) (w' : World) : Prop :=
 v = (.bool r) ∧ Ky [] w w'
theorem impl_areAll_impl_Deed.calls (a0 : (List Deed)) (a1 : (Deed → Option Bool)) (w : World) (F : Nat → Prop) (w0_0 : Value) (f1 : Value) (h0_0 : Xz.rd w [w0_0] a0 F) (hf1 : ∀ (x0 : Deed) (u0_0 u0_1 : Value) (w' : World), Ky [] w w' → Yb.rd w' [u0_0] x0.Reads (fun _ => True) → Ya.rd w' [u0_1] x0.Writes (fun _ => True) → ∀ r, a1 x0 = some r → CallV prog f1 [(.agg #[(iI x0.Xid), (iI x0.Begun), (iI x0.Ended), u0_0, u0_1])] w' fun en w'' => ∃ v, en = .returned v ∧ v = (.bool r) ∧ Ky [] w' w'') (ho1 : f1.cells = #[f1]) (r : Bool) (m : impl_areAll_impl_Deed.f a0 a1 = some r) :
  Calls prog 119 #[w0_0, f1] w (RT (impl_areAll_impl_Deed.Q w F) r) := by
 obtain ⟨s0, rfl, kp0, z⟩ := Xi w F
 refine Xc (args := [w0_0, f1]) func119 ntmps119 rfl rfl m ?_
 unfold impl_areAll_impl_Deed.f
 refine sr (bx' (cs := [f1]) 40 rfl ho1 (fun b2 s2 p2 B2 => ?_))
 refine Xb rfl (dn (sr (Xp w0_0 rfl (mkf (fs := []) (cs := [(pB b2)]) rfl rfl rfl rfl rfl rfl rfl ?_))))
 have K4 := kp0.st p2 rfl
 refine clV 41 rfl func203 rfl (slices_ContainsFunc_impl_Deed_impl_Deed.calls a0 (fun x0 => impl_areAll_impl_Deed_1.f x0 a1) s2.w (mm [0] s2) w0_0 (.func (.func 204) (List.toArray []) (List.toArray [(pB b2)])) ((z.rd h0_0).kp K4) (fun x0 u0_0 u0_1 w' k h0 h1 r m =>  ⟨204, _, _, [], [(pB b2)], rfl, func204, rfl, rfl, (impl_areAll_impl_Deed_1.calls x0 a1 w' (fun _ => True) u0_0 u0_1 b2 f1 h0 h1 (fun x0c u0_0c u0_1c w'c kc h0c h1c r m =>  hf1 x0c u0_0c u0_1c w'c (Ky.trans (z.ky K4) (Ky.trans k kc)) h0c h1c r m) ho1 (B2.ky k) trivial r m).mono fun en w2 hq => by obtain ⟨v, e, q⟩ := hq; exact ⟨v, e, q⟩⟩) rfl) (fun r6 s7 p7 n7 => ?_)
 refine Xb rfl (Xb rfl (dn ?_))
 exact re rfl func119 rfl (Xs rfl Xg) rfl ⟨_, rfl, rfl, z.ky (K4.st p7 rfl)⟩
def impl_areAll_impl_Span_1.f (a0 : Span) (a1 : (Span → Option Bool)) : Option (Bool) :=
 ((a1 a0).bind fun r10 => (some (!r10)))
def impl_areAll_impl_Span_1.Q (w : World) (F : Nat → Prop) (r : Bool) (v : Value) (w' : World) : Prop :=
 v = (.bool r) ∧ Ky [] w w'
theorem impl_areAll_impl_Span_1.calls (a0 : Span) (a1 : (Span → Option Bool)) (w : World) (F : Nat → Prop) (w0_0 : Value) (w0_1 : Value) (w0_2 : Value) (w0_3 : Value) (c1 : Nat) (f1 : Value) (h0_0 : Kd.flt.rd w [w0_0] a0.From.F F) (h0_1 : Xx.rd w [w0_1] a0.From.T F) (h0_2 : Kd.flt.rd w [w0_2] a0.To.F F) (h0_3 : Xx.rd w [w0_3] a0.To.T F) (hf1 : ∀ (x0 : Span) (u0_0 u0_1 u0_2 u0_3 : Value) (w' : World), Ky [] w w' → Kd.flt.rd w' [u0_0] x0.From.F (fun _ => True) → Xx.rd w' [u0_1] x0.From.T (fun _ => True) → Kd.flt.rd w' [u0_2] x0.To.F (fun _ => True) → Xx.rd w' [u0_3] x0.To.T (fun _ => True) → ∀ r, a1 x0 = some r → CallV prog f1 [(.agg #[(iI x0.From.Kind), (iI x0.From.N), u0_0, u0_1, (iI x0.To.Kind), (iI x0.To.N), u0_2, u0_3])] w' fun en w'' => ∃ v, en = .returned v ∧ v = (.bool r) ∧ Ky [] w' w'') (ho1 : f1.cells = #[f1]) (hb1 : BlW w c1 144 [f1]) (hp1 : F c1) (r : Bool) (m : impl_areAll_impl_Span_1.f a0 a1 = some r) :
  Calls prog 267 #[(.agg #[(iI a0.From.Kind), (iI a0.From.N), w0_0, w0_1, (iI a0.To.Kind), (iI a0.To.N), w0_2, w0_3]), (pB c1)] w (RT (impl_areAll_impl_Span_1.Q w F) r) := by
 obtain ⟨s0, rfl, kp0, z⟩ := Xi w F
 refine Xc (args := [(.agg #[(iI a0.From.Kind), (iI a0.From.N), w0_0, w0_1, (iI a0.To.Kind), (iI a0.To.N), w0_2, w0_3]), (pB c1)]) func267 ntmps267 rfl rfl m ?_
 unfold impl_areAll_impl_Span_1.f
 refine sr (bx' (cs := [(iI a0.From.Kind), (iI a0.From.N), w0_0, w0_1, (iI a0.To.Kind), (iI a0.To.N), w0_2, w0_3]) 40 rfl rfl (fun b4 s4 p4 B4 => ?_))
 refine Xb rfl (dn (sr ?_))
 refine ld' (BlF.st (z.b0 hb1 hp1) p4 rfl) u144 rfl (lda' (es := [(iI a0.From.Kind), (iI a0.From.N), w0_0, w0_1, (iI a0.To.Kind), (iI a0.To.N), w0_2, w0_3]) B4 u146 z146 rfl ?_)
 have K7 := kp0.st p4 rfl
 refine clv rfl rfl rfl rfl rfl rfl rfl (fun r10 m10 => hf1 a0 w0_0 w0_1 w0_2 w0_3 s4.w (z.ky K7) (fl_rd (Xu h0_0)) (RdF.top ((z.rd h0_1).kp K7)) (fl_rd (Xu h0_2)) (RdF.top ((z.rd h0_3).kp K7)) r10 m10) ?_
 rintro r10 _ w10 m10 ⟨rfl, ky10⟩
 obtain ⟨s11, rfl, p11, n11⟩ := nwx s4 w10 41 ky10
 refine Xb rfl (Xb rfl (dn ?_))
 exact re rfl func267 rfl (Xs rfl Xg) rfl ⟨_, rfl, rfl, z.ky (K7.st p11 rfl)⟩
def slices_IndexFunc_impl_Span_impl_Span.b0 (a0 : (List Span)) (a1 : (Span → Option Bool)) (x2 : Int) : Option (Int ⊕ Int) :=
 (if (decide (x2 < (a0.length : Int))) = true then (if 0 ≤ x2 ∧ x2 < (a0.length : Int) then ((a1 (Span.mk ((at_ a0 x2).From) ((at_ a0 x2).To))).bind fun r10 => (if r10 = true then (some (Sum.inr x2)) else (some (Sum.inl (IntKind.wrap .i64 (x2 + (1 : Int))))))) else none) else ((some (-1 : Int)).bind fun o => some (Sum.inr o)))
def slices_IndexFunc_impl_Span_impl_Span.f (a0 : (List Span)) (a1 : (Span → Option Bool)) : Option (Int) :=
 (iter (slices_IndexFunc_impl_Span_impl_Span.b0 a0 a1) (0 : Int))
def slices_IndexFunc_impl_Span_impl_Span.Q (w : World) (F : Nat → Prop) (r : Int) (v : Value) (w' : World) : Prop :=
 v = (iI r) ∧ Ky [] w w'
theorem slices_IndexFunc_impl_Span_impl_Span.calls (a0 : (List Span)) (a1 : (Span → Option Bool)) (w : World) (F : Nat → Prop) (w0_0 : Value) (f1 : Value) (h0_0 : Yb.rd w [w0_0] a0 F) (hf1 : ∀ (x0 : Span) (u0_0 u0_1 u0_2 u0_3 : Value) (w' : World), Ky [] w w' → Kd.flt.rd w' [u0_0] x0.From.F (fun _ => True) → Xx.rd w' [u0_1] x0.From.T (fun _ => True) → Kd.flt.rd w' [u0_2] x0.To.F (fun _ => True) → Xx.rd w' [u0_3] x0.To.T (fun _ => True) → ∀ r, a1 x0 = some r → CallV prog f1 [(.agg #[(iI x0.From.Kind), (iI x0.From.N), u0_0, u0_1, (iI x0.To.Kind), (iI x0.To.N), u0_2, u0_3])] w' fun en w'' => ∃ v, en = .returned v ∧ v = (.bool r) ∧ Ky [] w' w'') (ho1 : f1.cells = #[f1]) (r : Int) (m : slices_IndexFunc_impl_Span_impl_Span.f a0 a1 = some r) :
  Calls prog 270 #[w0_0, f1] w (RT (slices_IndexFunc_impl_Span_impl_Span.Q w F) r) := by
 obtain ⟨s0, rfl, kp0, z⟩ := Xi w F
 have A0_0 := z.rd h0_0
 refine Xc (args := [w0_0, f1]) func270 ntmps270 rfl rfl m ?_
 unfold slices_IndexFunc_impl_Span_impl_Span.f
 refine sr (Xb rfl (dn (sq (sr (Xp w0_0 rfl (ln' A0_0 u140 rfl (Xb rfl (dn (bl (lpI (fun (x2 : Int) e w => ∃ (s : St) (e0 : Env), w = s.w ∧ e = upd (upd (upd (upd e0 0 w0_0) 1 f1) 7 (iI (a0.length : Int))) 8 (iI x2) ∧ Kp s0 s) ⟨s0, _, rfl, (ue (ue (ue (ue rfl rfl) rfl) rfl) rfl), kp0⟩ (fun g2 ih2 => ?_)))))))))))
 rintro x2 _ _ ⟨s3, _, rfl, rfl, Kx2⟩
 unfold slices_IndexFunc_impl_Span_impl_Span.b0
 refine sr (Xb rfl (dn (sq (cd rfl (fun h4 => ?_) (fun h4 => ?_)))))
 ·
  refine sk (sq (bl (sr (Xb rfl (Xb rfl (dn (sr (Xp f1 rfl (Xp w0_0 rfl (Xb rfl ?_))))))))))
  refine ix' (A0_0.kp Kx2) u140 z146 rfl (fun ad6 es6 h0_6 h1_6 he6 ce6 ia6 => ?_)
  obtain ⟨v6_0, v6_1, v6_2, v6_3, rfl, A6_0, A6_1, A6_2, A6_3⟩ := op146 he6
  refine lca ce6 u146 z146 rfl rfl rfl rfl rfl rfl rfl (clv rfl rfl rfl rfl rfl rfl rfl (fun r10 m10 => hf1 (Span.mk ((at_ a0 x2).From) ((at_ a0 x2).To)) v6_0 v6_1 v6_2 v6_3 s3.w (z.ky Kx2) (fl_rd A6_0) (RdF.top A6_1) (fl_rd A6_2) (RdF.top A6_3) r10 m10) ?_)
  rintro r10 _ w10 m10 ⟨rfl, ky10⟩
  obtain ⟨s11, rfl, p11, n11⟩ := nwx s3 w10 40 ky10
  refine dn (cd rfl (fun h12 => ?_) (fun h12 => ?_))
  ·
   refine sr (Xb rfl (Xb rfl (dn (sgi ?_))))
   exact re rfl func270 rfl (Xs rfl Xg) rfl ⟨_, rfl, rfl, z.ky (Kx2.st p11 rfl)⟩
  refine sk (ib (rg (Xb rfl (Xb rfl (dn ?_)))))
  exact lb ih2 ⟨s11, _, rfl, (ue (ue (ue (ue rfl rfl) rfl) rfl) rfl), (Kx2.st p11 rfl)⟩
 exact xt rfl (sgb (sr (Xb rfl (dn (re rfl func270 rfl (Xs rfl Xg) rfl ⟨_, rfl, rfl, z.ky Kx2⟩)))))
end Go.Proofs.YtegicanjlefmdaaGreat
