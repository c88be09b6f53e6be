/- The functions as models, and that the calls come to what the models tell. -/
import Derived.Test.YtegicanjlefmdaaGreatGt
set_option linter.unusedVariables false
set_option linter.unusedSimpArgs false
set_option maxHeartbeats 4000000
set_option maxRecDepth 100000
noncomputable section
namespace Go.Proofs.YtegicanjlefmdaaGreat
open Go V Tryz
def laws_big.f (a0 : (List Int)) : Option (Bool) :=
 (some (decide ((a0.length : Int) > (1048576 : Int))))
def laws_big.Q (w : World) (F : Nat → Prop) (r : Bool) (v : Value) (w' : World) : Prop :=
 v = (.bool r) ∧ Ky [] w w'
theorem laws_big.calls (a0 : (List Int)) (w : World) (F : Nat → Prop) (w0_0 : Value) (h0_0 : Yr.rd w [w0_0] a0 F) (r : Bool) (m : laws_big.f a0 = some r) :
  Calls prog 9 #[w0_0] w (RT (laws_big.Q w F) r) := by
 obtain ⟨s0, rfl, kp0, z⟩ := Xl w F
 refine Xd (args := [w0_0]) func9 ntmps9 rfl m ?_
 unfold laws_big.f
 exact sr (Xc rfl (dn (sr (Yc w0_0 rfl (ln' (z.rd h0_0) u22 rfl (Xc rfl (Xc rfl (dn (re rfl func9 rfl (Xu rfl Xe) rfl ⟨_, rfl, rfl, z.ky kp0⟩)))))))))
def spec_l1New.b0 (a0 : (List Int)) (x2 : Int × Int) : Option ((Int × Int) ⊕ l1Cur) :=
 (if ((decide (x2.2 < (a0.length : Int))) && (decide (x2.2 < (4000 : Int)))) = true then (if 0 ≤ x2.2 ∧ x2.2 < (a0.length : Int) then (some (Sum.inl ((iand .i64 (IntKind.wrap .i64 ((IntKind.wrap .i64 ((IntKind.wrap .i64 (x2.1 * (131 : Int))) + (IntKind.wrap .i64 (at_ a0 x2.2)))) + (7 : Int))) (1073741823 : Int)), (IntKind.wrap .i64 (x2.2 + (1 : Int)))))) else none) else ((some (l1Cur.mk a0 (0 : Int) x2.1)).bind fun o => some (Sum.inr o)))
def spec_l1New.f (a0 : (List Int)) : Option (l1Cur) :=
 (iter (spec_l1New.b0 a0) ((IntKind.wrap .i64 ((25252 : Int) + (a0.length : Int))), (0 : Int)))
def spec_l1New.Q (w : World) (F : Nat → Prop) (r : l1Cur) (v : Value) (w' : World) : Prop :=
 ∃ (v0 : Nat) (v1 : Value), v = (pB v0) ∧ BlN w w' v0 184 [v1, (iI r.i), (iI r.h)] ∧ FRF Yr F w w' [v1] r.b ∧ Ky [] w w'
theorem spec_l1New.calls (a0 : (List Int)) (w : World) (F : Nat → Prop) (w0_0 : Value) (h0_0 : Yr.rd w [w0_0] a0 F) (r : l1Cur) (m : spec_l1New.f a0 = some r) :
  Calls prog 67 #[w0_0] w (RT (spec_l1New.Q w F) r) := by
 obtain ⟨s0, rfl, kp0, z⟩ := Xl w F
 have A0_0 := z.rd h0_0
 refine Xd (args := [w0_0]) func67 ntmps67 rfl m ?_
 unfold spec_l1New.f
 refine sr (Xc rfl (dn (sr (Yc w0_0 rfl (ln' A0_0 u22 rfl (Xc rfl (Xc rfl (dn (sq (sr (Xc rfl (dn (bl (lpI (fun (x2 : Int × Int) e w => ∃ (s : St) (e0 : Env), w = s.w ∧ e = upd (upd (upd e0 0 w0_0) 3 (iI x2.1)) 4 (iI x2.2) ∧ Kp s0 s) ⟨s0, _, rfl, (ue (ue (ue rfl rfl) rfl) rfl), kp0⟩ (fun g2 ih2 => ?_)))))))))))))))
 rintro x2 _ _ ⟨s3, _, rfl, rfl, Kx2⟩
 unfold spec_l1New.b0
 refine sq (sr (Xc rfl (Yc w0_0 rfl ?_)))
 have A4 := A0_0.kp Kx2
 refine ln' A4 u22 rfl (Xc rfl (Xc rfl (jy [12, 13, 14, 15] [] 15 (.bool ((decide (x2.2 < (a0.length : Int))) && (decide (x2.2 < (4000 : Int))))) rfl (fun Kg5 => ?_) (fun j5 => ?_))))
 ·
  rcases bft (decide (x2.2 < (a0.length : Int))) with hb5 | hb5
  ·
   exact Yb hb5 (Xc rfl (Xc rfl (Xc rfl (Kg5 _ (Ag.put ((Ag.put ((Ag.put (Ag.base rfl) rfl)) rfl)) rfl) (by rw [hb5]; rfl)))))
  exact Yb hb5 (Xk rfl (Xk rfl (Xc rfl (Kg5 _ (Ag.put ((Ag.put ((Ag.put (Ag.base rfl) rfl)) rfl)) rfl) (by rw [hb5]; rfl)))))
 refine dn (cd rfl (fun h6 => ?_) (fun h6 => ?_))
 ·
  refine sk (sq (bl (rg (Xc rfl (Xc rfl (Yc w0_0 rfl (Xc rfl (ix' A4 u22 z5 rfl (fun ad7 es7 h0_7 h1_7 he7 ce7 ia7 => ?_)))))))))
  obtain rfl := he7
  exact lc0' ce7 u5 rfl (cv' u3 u5 rfl (Xc rfl (Xc rfl (Xc rfl (Xc rfl (dn (ib (rg (Xc rfl (Xc rfl (Xc rfl (dn (lb ih2 ⟨s3, _, rfl, (ue (ue (ue rfl rfl) rfl) rfl), Kx2⟩)))))))))))))
 refine xt rfl (sgb (sr (Yc w0_0 rfl (Xc rfl (bd' (cells := [w0_0, (iI 0), (iI x2.1)]) pl184 o184 rfl (lfill_pc (pc_c (oc A4.one) (pc_c rfl pc_n)) rfl) (bx' (cs := [w0_0, (iI 0), (iI x2.1)]) 40 rfl rfl (fun b9 s9 p9 B9 => ?_)))))))
 refine Xc rfl (dn ?_)
 have K11 := Kx2.st p9 rfl
 exact re rfl func67 rfl (Xu rfl Xe) rfl ⟨_, rfl, b9, w0_0, rfl, BlF.fo B9 K11 rfl z.l, z.rf K11 A0_0, z.ky K11⟩
def spec_l1Size.f (a0 : (List Int)) (a1 : Int) : Option (Int) :=
 (if (decide ((IntKind.wrap .i64 ((2 : Int) + (IntKind.wrap .i64 ((a0.length : Int).tdiv (20 : Int))))) > a1)) = true then (some a1) else (some (IntKind.wrap .i64 ((2 : Int) + (IntKind.wrap .i64 ((a0.length : Int).tdiv (20 : Int)))))))
def spec_l1Size.Q (w : World) (F : Nat → Prop) (r : Int) (v : Value) (w' : World) : Prop :=
 v = (iI r) ∧ Ky [] w w'
theorem spec_l1Size.calls (a0 : (List Int)) (a1 : Int) (w : World) (F : Nat → Prop) (w0_0 : Value) (h0_0 : Yr.rd w [w0_0] a0 F) (r : Int) (m : spec_l1Size.f a0 a1 = some r) :
  Calls prog 69 #[w0_0, (iI a1)] w (RT (spec_l1Size.Q w F) r) := by
 obtain ⟨s0, rfl, kp0, z⟩ := Xl w F
 refine Xd (args := [w0_0, (iI a1)]) func69 ntmps69 rfl m ?_
 unfold spec_l1Size.f
 refine sr (Xc rfl (dn (sr (Yc w0_0 rfl (ln' (z.rd h0_0) u22 rfl (quoK rfl rfl rfl rfl rfl rfl rfl rfl (Xc rfl (Xc rfl (dn (sq (sr (Xc rfl (Xc rfl (Xc rfl ?_))))))))))))))
 refine dn (cd rfl (fun h2 => ?_) (fun h2 => ?_))
 ·
  exact sr (Xc rfl (Xc rfl (dn (re rfl func69 rfl (Xu rfl Xe) rfl ⟨_, rfl, rfl, z.ky kp0⟩))))
 exact sk (sr (Xc rfl (Xc rfl (dn (re rfl func69 rfl (Xu rfl Xe) rfl ⟨_, rfl, rfl, z.ky kp0⟩)))))
def spec_l1Byte.f (a0 : l1Cur) : Option (Int × l1Cur) :=
 ((if (decide (a0.i < (a0.b.length : Int))) = true then (if 0 ≤ a0.i ∧ a0.i < (a0.b.length : Int) then (some ((iand .i64 (IntKind.wrap .i64 ((iand .i64 (ixor .i64 (ishr .i64 (IntKind.wrap .i64 ((IntKind.wrap .i64 (a0.h * (6364136223846793005 : Int))) + (1442695040888963407 : Int))) (33 : Int)) (ishr .i64 (IntKind.wrap .i64 ((IntKind.wrap .i64 (a0.h * (6364136223846793005 : Int))) + (1442695040888963407 : Int))) (45 : Int))) (255 : Int)) + (IntKind.wrap .i64 (at_ a0.b a0.i)))) (255 : Int)), (IntKind.wrap .i64 (a0.i + (1 : Int))))) else none) else (some ((iand .i64 (ixor .i64 (ishr .i64 (IntKind.wrap .i64 ((IntKind.wrap .i64 (a0.h * (6364136223846793005 : Int))) + (1442695040888963407 : Int))) (33 : Int)) (ishr .i64 (IntKind.wrap .i64 ((IntKind.wrap .i64 (a0.h * (6364136223846793005 : Int))) + (1442695040888963407 : Int))) (45 : Int))) (255 : Int)), a0.i))).bind fun y38 => (some (y38.1, (l1Cur.mk a0.b y38.2 (IntKind.wrap .i64 ((IntKind.wrap .i64 (a0.h * (6364136223846793005 : Int))) + (1442695040888963407 : Int)))))))
def spec_l1Byte.Q (w : World) (F : Nat → Prop) (p0 : Nat) (w0_0 : Value) (r : Int × l1Cur) (v : Value) (w' : World) : Prop :=
 v = (iI r.1) ∧ BlW w' p0 184 [w0_0, (iI r.2.i), (iI r.2.h)] ∧ Ky [p0] w w'
theorem spec_l1Byte.calls (a0 : l1Cur) (w : World) (F : Nat → Prop) (p0 : Nat) (w0_0 : Value) (h0_0 : Yr.rd w [w0_0] a0.b F) (hb0 : BlW w p0 184 [w0_0, (iI a0.i), (iI a0.h)]) (hF : ∀ b, F b → b ∉ [p0]) (r : Int × l1Cur) (m : spec_l1Byte.f a0 = some r) :
  Calls prog 163 #[(pB p0)] w (RT (spec_l1Byte.Q w F p0 w0_0) r) := by
 obtain ⟨s0, rfl, kp0, z⟩ := start1 w F [p0] hF
 have A0_0 := z.rd h0_0
 have B0 := z.bl hb0 (by simp)
 refine Xd (args := [(pB p0)]) func163 ntmps163 rfl m ?_
 unfold spec_l1Byte.f
 refine sr (Xc rfl (dn (sr (Xc rfl (Xc rfl (Xc rfl (Ye fa184_2 rfl (Yl B0 u3 rfl (Xc rfl (Xc rfl (Xc rfl (Ye fa184_2 rfl (sv' B0 z3 rfl rfl rfl (fun s3 p3 B3 => ?_))))))))))))))
 refine dn (sq (zdraw [[], [0], [1], [2], [3], [], [5], [6], [7], [8], [4, 9], [10], [11, 0, 1, 2, 3, 4, 5, 6, 7, 8, 9, 10, 11]] [some 13, some 14, some 15, some 16, some 17, some 18, some 19, some 20, some 21, some 22, some 23, some 24, some 3] [[0], [13], [14], [15], [16], [0], [18], [19], [20], [21], [17, 22], [23], [24]] [0, 1, 2, 3, 4, 5, 6, 7, 8, 9, 10, 11, 12] ⟨by kernel_rfl, by kernel_rfl, by kernel_rfl⟩ (by kernel_rfl) (fun s5 p5 l5 tb5 zd5 => ?_)))
 have zd10 := (((zd5.add 0 13 (pB p0) rfl).add 1 14 (pB p0) rfl).add 2 15 (pO p0 2) rfl).add 3 16 (iI (IntKind.wrap .i64 ((IntKind.wrap .i64 (a0.h * (6364136223846793005 : Int))) + (1442695040888963407 : Int)))) rfl
 refine Yp [10, 11, 12] tb5 ((((((zd10.add 4 17 (iI (ishr .i64 (IntKind.wrap .i64 ((IntKind.wrap .i64 (a0.h * (6364136223846793005 : Int))) + (1442695040888963407 : Int))) (33 : Int))) rfl).add 5 18 (pB p0) rfl).add 6 19 (pB p0) rfl).add 7 20 (pO p0 2) rfl).add 8 21 (iI (IntKind.wrap .i64 ((IntKind.wrap .i64 (a0.h * (6364136223846793005 : Int))) + (1442695040888963407 : Int)))) rfl).add 9 22 (iI (ishr .i64 (IntKind.wrap .i64 ((IntKind.wrap .i64 (a0.h * (6364136223846793005 : Int))) + (1442695040888963407 : Int))) (45 : Int))) rfl) (Xa (shrK_q rfl rfl rfl rfl rfl rfl rfl rfl) rfl (Xa (Xp (B3.st p5 rfl) u3 rfl) rfl (Xa (Xo fa184_2 rfl) rfl (Xa (Xh rfl) rfl (Xa (Xh rfl) rfl (Xa (shrK_q rfl rfl rfl rfl rfl rfl rfl rfl) rfl (Xa (Xp (B3.st p5 rfl) u3 rfl) rfl (Xa (Xo fa184_2 rfl) rfl (Xa (Xh rfl) rfl (Xa (Xh rfl) rfl Xg)))))))))) (by kernel_rfl) (by decide) (Xc rfl (Xc rfl (Xc rfl (dn (sq (sq (zdraw [[], [0], [1], [2], [], [4], [5], [6], [7], [3, 8]] [some 25, some 26, some 27, some 28, some 29, some 30, some 31, some 32, some 33, some 34] [[0], [25], [26], [27], [0], [29], [30], [31], [32], [28, 33]] [0, 1, 2, 3, 4, 5, 6, 7, 8, 9] ⟨by kernel_rfl, by kernel_rfl, by kernel_rfl⟩ (by kernel_rfl) (fun s20 p20 l20 tb20 zd20 => ?_))))))))
 refine Yp [9] tb20 (((((((((zd20.add 0 25 (pB p0) rfl).add 1 26 (pB p0) rfl).add 2 27 (pO p0 1) rfl).add 3 28 (iI a0.i) rfl).add 4 29 (pB p0) rfl).add 5 30 (pB p0) rfl).add 6 31 (pB p0) rfl).add 7 32 w0_0 rfl).add 8 33 (iI (a0.b.length : Int)) rfl) (Xa (ln_q' (A0_0.kp (kp0.st (Yi p3 p5 p20) rfl)) u22 rfl) rfl (Xa (Xp (B3.st (Xn p5 p20) rfl) u22 rfl) rfl (Xa (Xo fa184_0 rfl) rfl (Xa (Xh rfl) rfl (Xa (Xh rfl) rfl (Xa (Xp (B3.st (Xn p5 p20) rfl) u3 rfl) rfl (Xa (Xo fa184_1 rfl) rfl (Xa (Xh rfl) rfl (Xa (Xh rfl) rfl Xg))))))))) (by kernel_rfl) (by decide) (Xc rfl (dn (jc (fun (y38 : Int × Int) e w => ∃ (s : St) (e0 : Env), w = s.w ∧ e = upd e0 3 (iI y38.1) ∧ Kp s0 s ∧ BlF s p0 184 [w0_0, (iI y38.2), (iI (IntKind.wrap .i64 ((IntKind.wrap .i64 (a0.h * (6364136223846793005 : Int))) + (1442695040888963407 : Int))))] 2) (fun Gj38 Kj38 => ?_) ?_)))
 ·
  refine cd rfl (fun h39 => ?_) (fun h39 => ?_)
  ·
   refine sq (zdraw [[], [], [1], [2], [3], [], [5], [6], [7], [4, 8], [9], [10], [0, 11], [12], [13, 0, 1, 2, 3, 4, 5, 6, 7, 8, 9, 10, 11, 12, 13]] [some 35, some 36, some 37, some 38, some 39, some 40, some 41, some 42, some 43, some 44, some 45, some 46, some 47, some 48, some 3] [[3], [0], [36], [37], [38], [0], [40], [41], [42], [39, 43], [44], [45], [35, 46], [47], [48]] [0, 1, 2, 3, 4, 5, 6, 7, 8, 9, 10, 11, 12, 13, 14] ⟨by kernel_rfl, by kernel_rfl, by kernel_rfl⟩ (by kernel_rfl) (fun s40 p40 l40 tb40 zd40 => ?_))
   have zd41 := zd40.add 0 35 (iI (iand .i64 (ixor .i64 (ishr .i64 (IntKind.wrap .i64 ((IntKind.wrap .i64 (a0.h * (6364136223846793005 : Int))) + (1442695040888963407 : Int))) (33 : Int)) (ishr .i64 (IntKind.wrap .i64 ((IntKind.wrap .i64 (a0.h * (6364136223846793005 : Int))) + (1442695040888963407 : Int))) (45 : Int))) (255 : Int))) rfl
   have K52 := kp0.st (Yo p3 p5 p20 p40) rfl
   have A53 := A0_0.kp K52
   refine mg fun hg54 => ?_
   obtain ⟨ad54, es54, he54, ce54, ia54⟩ := ix_e A53 rfl hg54.1 hg54.2
   obtain rfl := he54
   refine Yp [12, 13, 14] tb40 (((((((((((zd41.add 1 36 (pB p0) rfl).add 2 37 (pB p0) rfl).add 3 38 (pB p0) rfl).add 4 39 w0_0 rfl).add 5 40 (pB p0) rfl).add 6 41 (pB p0) rfl).add 7 42 (pO p0 1) rfl).add 8 43 (iI a0.i) rfl).add 9 44 (.pointer (some ad54)) rfl).add 10 45 (.int .u8 (at_ a0.b a0.i)) rfl).add 11 46 (iI (IntKind.wrap .i64 (at_ a0.b a0.i))) rfl) (Xa (cv_q u3 u5 rfl rfl rfl rfl rfl rfl) rfl (Xa (lc0_q ce54 u5 rfl rfl rfl rfl rfl rfl rfl rfl) rfl (Xa (ix_q A53 u22 z5 hg54.1 hg54.2 ia54 rfl rfl rfl rfl rfl rfl rfl) rfl (Xa (Xp (B3.st (Yi p5 p20 p40) rfl) u3 rfl) rfl (Xa (Xo fa184_1 rfl) rfl (Xa (Xh rfl) rfl (Xa (Xh rfl) rfl (Xa (Xp (B3.st (Yi p5 p20 p40) rfl) u22 rfl) rfl (Xa (Xo fa184_0 rfl) rfl (Xa (Xh rfl) rfl (Xa (Xh rfl) rfl (Xa (Xh rfl) rfl Xg)))))))))))) (by kernel_rfl) (by decide) (Xc rfl (Xc rfl (Xc rfl (dn (rg (Xc rfl (Xc rfl (Xc rfl (Ye fa184_1 rfl ?_)))))))))
   have A61 := B3.st (Yi p5 p20 p40) rfl
   refine Yl A61 u3 rfl (Xc rfl (Xc rfl (Ye fa184_1 rfl (sv' A61 z3 rfl rfl rfl (fun s62 p62 B62 => ?_)))))
   exact dn (Kj38 _ _ _ ⟨s62, _, rfl, (ue rfl rfl), (K52.st p62 rfl), B62⟩)
  exact sk (Kj38 _ _ _ ⟨s20, _, rfl, (ue rfl rfl), (kp0.st (Yi p3 p5 p20) rfl), (B3.st (Xn p5 p20) rfl)⟩)
 rintro y38 _ _ ⟨s67, _, rfl, rfl, Ky38, By38_p0⟩
 exact sr (Xc rfl (Xc rfl (dn (re rfl func163 rfl (Xu rfl Xe) rfl ⟨_, rfl, rfl, By38_p0.w, z.ky Ky38⟩))))
def spec_l1Below.f (a0 : l1Cur) (a1 : Int) : Option (Int × l1Cur) :=
 (if (decide (a1 ≤ (0 : Int))) = true then (some ((0 : Int), a0)) else (if (decide (a1 ≤ (256 : Int))) = true then ((spec_l1Byte.f a0).bind fun r5 => (if a1 ≠ 0 then (some ((r5.1.tmod a1), (l1Cur.mk a0.b r5.2.i r5.2.h))) else none)) else ((spec_l1Byte.f a0).bind fun r9 => ((spec_l1Byte.f (l1Cur.mk a0.b r9.2.i r9.2.h)).bind fun r14 => ((spec_l1Byte.f (l1Cur.mk a0.b r14.2.i r14.2.h)).bind fun r19 => ((spec_l1Byte.f (l1Cur.mk a0.b r19.2.i r19.2.h)).bind fun r24 => (if a1 ≠ 0 then (some (((IntKind.wrap .i64 ((IntKind.wrap .i64 ((IntKind.wrap .i64 ((IntKind.wrap .i64 (r9.1 * (16777216 : Int))) + (IntKind.wrap .i64 (r14.1 * (65536 : Int))))) + (IntKind.wrap .i64 (r19.1 * (256 : Int))))) + r24.1)).tmod a1), (l1Cur.mk a0.b r24.2.i r24.2.h))) else none)))))))
def spec_l1Below.Q (w : World) (F : Nat → Prop) (p0 : Nat) (w0_0 : Value) (r : Int × l1Cur) (v : Value) (w' : World) : Prop :=
 v = (iI r.1) ∧ BlW w' p0 184 [w0_0, (iI r.2.i), (iI r.2.h)] ∧ Ky [p0] w w'
theorem spec_l1Below.calls (a0 : l1Cur) (a1 : Int) (w : World) (F : Nat → Prop) (p0 : Nat) (w0_0 : Value) (h0_0 : Yr.rd w [w0_0] a0.b F) (hb0 : BlW w p0 184 [w0_0, (iI a0.i), (iI a0.h)]) (hF : ∀ b, F b → b ∉ [p0]) (r : Int × l1Cur) (m : spec_l1Below.f a0 a1 = some r) :
  Calls prog 74 #[(pB p0), (iI a1)] w (RT (spec_l1Below.Q w F p0 w0_0) r) := by
 obtain ⟨s0, rfl, kp0, z⟩ := start1 w F [p0] hF
 have A0_0 := z.rd h0_0
 have B0 := z.bl hb0 (by simp)
 refine Xd (args := [(pB p0), (iI a1)]) func74 ntmps74 rfl m ?_
 unfold spec_l1Below.f
 refine sr (Xc rfl (dn (sq (sr (Xc rfl (Xc rfl (dn (cd rfl (fun h3 => ?_) (fun h3 => ?_)))))))))
 ·
  exact sr (Xc rfl (dn (re rfl func74 rfl (Xu rfl Xe) rfl ⟨_, rfl, rfl, B0.w, z.ky kp0⟩)))
 refine sk (sq (sr (Xc rfl (Xc rfl (dn (cd rfl (fun h4 => ?_) (fun h4 => ?_)))))))
 ·
  refine sr (Xc rfl (clB B0 rfl func163 rfl (spec_l1Byte.calls a0 s0.w (mm [0] s0) p0 w0_0 A0_0 B0.w (B0.apart rfl)) (fun r5 s6 p6 B6 => ?_)))
  refine Xc rfl (rem_ rfl rfl rfl rfl rfl rfl rfl (Xc rfl (dn ?_)))
  exact re rfl func74 rfl (Xu rfl Xe) rfl ⟨_, rfl, rfl, B6.w, z.ky (kp0.st p6 rfl)⟩
 refine sk (sr (Xc rfl (clB B0 rfl func163 rfl (spec_l1Byte.calls a0 s0.w (mm [0] s0) p0 w0_0 A0_0 B0.w (B0.apart rfl)) (fun r9 s10 p10 B10 => ?_))))
 refine Xc rfl (dn (sr (Xc rfl ?_)))
 have K12 := kp0.st p10 rfl
 refine clB B10 rfl func163 rfl (spec_l1Byte.calls (l1Cur.mk a0.b r9.2.i r9.2.h) s10.w (mm [0] s10) p0 w0_0 (A0_0.kp K12) B10.w (B10.apart rfl)) (fun r14 s15 p15 B15 => ?_)
 refine Xc rfl (dn (sr (Xc rfl ?_)))
 have K17 := K12.st p15 rfl
 refine clB B15 rfl func163 rfl (spec_l1Byte.calls (l1Cur.mk a0.b r14.2.i r14.2.h) s15.w (mm [0] s15) p0 w0_0 (A0_0.kp K17) B15.w (B15.apart rfl)) (fun r19 s20 p20 B20 => ?_)
 refine Xc rfl (dn (sr (Xc rfl ?_)))
 have K22 := K17.st p20 rfl
 refine clB B20 rfl func163 rfl (spec_l1Byte.calls (l1Cur.mk a0.b r19.2.i r19.2.h) s20.w (mm [0] s20) p0 w0_0 (A0_0.kp K22) B20.w (B20.apart rfl)) (fun r24 s25 p25 B25 => ?_)
 refine Xc rfl (dn (sr (Xc rfl (Xc rfl (Xc rfl (Xc rfl (Xc rfl (Xc rfl (Xc rfl (Xc rfl (Xc rfl (Xc rfl (Xc rfl (rem_ rfl rfl rfl rfl rfl rfl rfl ?_))))))))))))))
 refine Xc rfl (dn ?_)
 exact re rfl func74 rfl (Xu rfl Xe) rfl ⟨_, rfl, rfl, B25.w, z.ky (K22.st p25 rfl)⟩
def spec_FloatBits.b1 (y8 : Int × Nat) (x19 : Nat × Int) : Option ((Nat × Int) ⊕ Int) :=
 (if ((fcmp .f64 x19.1 (4607182418800017408 : Nat) == some .lt) && (decide (x19.2 > (-1022 : Int)))) = true then (some (Sum.inl ((far .mul x19.1 (4611686018427387904 : Nat)), (IntKind.wrap .i64 (x19.2 - (1 : Int)))))) else ((if (fcmp .f64 x19.1 (4607182418800017408 : Nat) == some .lt) = true then ((floatToIntVal .f64 (far .mul x19.1 (4841369599423283200 : Nat)) .u64).bind fun r27 => (some (ior .u64 y8.1 r27))) else ((floatToIntVal .f64 (far .mul (far .sub x19.1 (4607182418800017408 : Nat)) (4841369599423283200 : Nat)) .u64).bind fun r31 => (some (ior .u64 (ior .u64 y8.1 (ishl .u64 (IntKind.wrap .u64 (IntKind.wrap .i64 (x19.2 + (1023 : Int)))) (52 : Int))) r31)))).bind fun o => some (Sum.inr o)))
def spec_FloatBits.b0 (y8 : Int × Nat) (x14 : Nat × Int) : Option ((Nat × Int) ⊕ Int) :=
 (if (fcmp .f64 x14.1 (4611686018427387904 : Nat) == some .gt || fcmp .f64 x14.1 (4611686018427387904 : Nat) == some .eq) = true then (some (Sum.inl ((far .quo x14.1 (4611686018427387904 : Nat)), (IntKind.wrap .i64 (x14.2 + (1 : Int)))))) else ((iter (spec_FloatBits.b1 y8) (x14.1, x14.2)).bind fun o => some (Sum.inr o)))
def spec_FloatBits.f (a0 : Nat) : Option (Int) :=
 (if (fcmp .f64 a0 a0 != some .eq) = true then (some (9221120237041090560 : Int)) else ((if (fcmp .f64 a0 (0 : Nat) == some .lt) = true then (some true) else ((if (fcmp .f64 a0 (0 : Nat) == some .eq) = true then (some (fcmp .f64 (far .quo (4607182418800017408 : Nat) a0) (0 : Nat) == some .lt)) else (some false)).bind fun y3 => (some y3))).bind fun y2 => ((if y2 = true then (some ((9223372036854775808 : Int), (fneg a0))) else (some ((0 : Int), a0))).bind fun y8 => (if (fcmp .f64 y8.2 (0 : Nat) == some .eq) = true then (some y8.1) else (if (fcmp .f64 y8.2 (9218868437227405311 : Nat) == some .gt) = true then (some (ior .u64 y8.1 (9218868437227405312 : Int))) else (iter (spec_FloatBits.b0 y8) (y8.2, (0 : Int))))))))
def spec_FloatBits.Q (w : World) (F : Nat → Prop) (r : Int) (v : Value) (w' : World) : Prop :=
 v = (.int .u64 r) ∧ Ky [] w w'
theorem spec_FloatBits.calls (a0 : Nat) (w : World) (F : Nat → Prop) (w0_0 : Value) (h0_0 : Kd.flt.rd w [w0_0] a0 F) (r : Int) (m : spec_FloatBits.f a0 = some r) :
  Calls prog 95 #[w0_0] w (RT (spec_FloatBits.Q w F) r) := by
 obtain ⟨s0, rfl, kp0, z⟩ := Xl w F
 have A0_0 := Yq h0_0
 refine Xd (args := [w0_0]) func95 ntmps95 rfl m ?_
 unfold spec_FloatBits.f
 refine sr (Xc rfl (dn (sq (sr (Yc w0_0 rfl (Yc w0_0 rfl (fq_' A0_0 A0_0 rfl (dn (cd rfl (fun h1 => ?_) (fun h1 => ?_))))))))))
 ·
  exact sr (Xc rfl (dn (re rfl func95 rfl (Xu rfl Xe) rfl ⟨_, rfl, rfl, z.ky kp0⟩)))
 refine sk (sr (Xc rfl (dn (sr (Yc w0_0 rfl (Yh w0_0 rfl (dn (sq (sr (Yc w0_0 rfl (fq_' A0_0 (Yf rfl) rfl (Xc rfl (ji [] (fun (y2 : Bool) e w => ∃ (s : St) (e0 : Env), w = s.w ∧ e = upd (upd (upd (upd e0 0 w0_0) 3 (.int .u64 (0 : Int))) 4 w0_0) 20 (.bool y2) ∧ Kp s0 s) (fun Gj2 Kj2 => ?_) ?_)))))))))))))
 ·
  rcases bft (fcmp .f64 a0 (0 : Nat) == some .lt) with hb2 | hb2
  ·
   refine Yb hb2 ?_
   rw [if_pos hb2]
   exact Xk rfl (Xk rfl (Xk rfl (Xk rfl (Xk rfl (Xk rfl (Xk rfl (Xc rfl (Kj2 _ _ _ ⟨s0, _, rfl, (ue (ue (ue (ue rfl rfl) rfl) rfl) rfl), kp0⟩))))))))
  refine Yb hb2 ?_
  rw [if_neg (by rw [hb2]; decide)]
  refine Yc w0_0 rfl (fq_' A0_0 (Yf rfl) rfl (Xc rfl (ji [10] (fun (y3 : Bool) e w => ∃ (s : St) (e0 : Env), w = s.w ∧ e = upd (upd (upd (upd (upd e0 0 w0_0) 3 (.int .u64 (0 : Int))) 4 w0_0) 12 (.bool false)) 19 (.bool y3) ∧ Kp s0 s) (fun Gj3 Kj3 => ?_) ?_)))
  ·
   rcases bft (fcmp .f64 a0 (0 : Nat) == some .eq) with hb3 | hb3
   ·
    refine Yb hb3 ?_
    rw [if_pos hb3]
    refine Yc w0_0 rfl (fa_ (Yf rfl) A0_0 (by simp) rfl rfl rfl rfl rfl rfl rfl (fun v4 s4 p4 A4 => ?_))
    refine fq_' A4 (Yf rfl) rfl (Xc rfl ?_)
    exact Kj3 _ _ _ ⟨s4, _, rfl, (ue (ue (ue (ue (ue rfl rfl) rfl) rfl) rfl) rfl), (kp0.st p4 rfl)⟩
   refine Yb hb3 ?_
   rw [if_neg (by rw [hb3]; decide)]
   exact Xk rfl (Xk rfl (Xk rfl (Xc rfl (Kj3 _ _ _ ⟨s0, _, rfl, (ue (ue (ue (ue (ue rfl rfl) rfl) rfl) rfl) rfl), kp0⟩))))
  rintro y3 _ _ ⟨s6, _, rfl, rfl, Ky3⟩
  exact Xc rfl (Kj2 _ _ _ ⟨s6, _, rfl, (ue (ue (ue (ue rfl rfl) rfl) rfl) rfl), Ky3⟩)
 rintro y2 _ _ ⟨s7, _, rfl, rfl, Ky2⟩
 refine dn (jc (fun (y8 : Int × Nat) e w => ∃ (s : St) (e0 : Env) (uy8_0 : Value), w = s.w ∧ e = upd (upd e0 3 (.int .u64 y8.1)) 4 uy8_0 ∧ Kp s0 s ∧ FL uy8_0 y8.2) (fun Gj8 Kj8 => ?_) ?_)
 ·
  refine cd rfl (fun h9 => ?_) (fun h9 => ?_)
  ·
   refine sr (Xc rfl (dn (rg (Yc w0_0 rfl (fng_ A0_0 rfl rfl rfl rfl rfl rfl (fun v10 A10 => ?_))))))
   exact Yh v10 rfl (dn (Kj8 _ _ _ ⟨s7, _, v10, rfl, (ue (ue rfl rfl) rfl), Ky2, A10⟩))
  exact sk (Kj8 _ _ _ ⟨s7, _, w0_0, rfl, (ue (ue rfl rfl) rfl), Ky2, A0_0⟩)
 rintro y8 _ _ ⟨s11, _, uy8_0, rfl, rfl, Ky8, Fy8_0⟩
 refine sq (sr (Yc uy8_0 rfl (fq_' Fy8_0 (Yf rfl) rfl (dn (cd rfl (fun h12 => ?_) (fun h12 => ?_))))))
 ·
  exact sr (Xc rfl (Xc rfl (dn (re rfl func95 rfl (Xu rfl Xe) rfl ⟨_, rfl, rfl, z.ky Ky8⟩))))
 refine sk (sq (sr (Yc uy8_0 rfl (fq_' Fy8_0 (Yf rfl) rfl (dn (cd rfl (fun h13 => ?_) (fun h13 => ?_)))))))
 ·
  exact sr (Xc rfl (Xc rfl (Xc rfl (dn (re rfl func95 rfl (Xu rfl Xe) rfl ⟨_, rfl, rfl, z.ky Ky8⟩)))))
 refine sk (sr (Xc rfl (dn (sq (bl (lpI (fun (x14 : Nat × Int) e w => ∃ (s : St) (e0 : Env) (ux14_0 : Value), w = s.w ∧ e = upd (upd (upd e0 3 (.int .u64 y8.1)) 4 ux14_0) 5 (iI x14.2) ∧ Kp s0 s ∧ FL ux14_0 x14.1) ⟨s11, _, uy8_0, rfl, (ue (ue (ue rfl rfl) rfl) rfl), Ky8, Fy8_0⟩ (fun g14 ih14 => ?_)))))))
 rintro x14 _ _ ⟨s15, _, ux14_0, rfl, rfl, Kx14, Fx14_0⟩
 unfold spec_FloatBits.b0
 refine sq (sr (Yc ux14_0 rfl (fq_' Fx14_0 (Yf rfl) rfl (dn (cd rfl (fun h16 => ?_) (fun h16 => ?_))))))
 ·
  refine sk (bl (sr (Yc ux14_0 rfl (fa_ Fx14_0 (Yf rfl) (by simp) rfl rfl rfl rfl rfl rfl rfl (fun v17 s17 p17 A17 => ?_)))))
  refine Yh v17 rfl (dn (rg (Xc rfl (Xc rfl (Xc rfl (dn (ib ?_)))))))
  exact lb ih14 ⟨s17, _, v17, rfl, (ue (ue (ue rfl rfl) rfl) rfl), (Kx14.st p17 rfl), A17⟩
 refine xt rfl (sgb (sq (bl (lpI (fun (x19 : Nat × Int) e w => ∃ (s : St) (e0 : Env) (ux19_0 : Value), w = s.w ∧ e = upd (upd (upd e0 3 (.int .u64 y8.1)) 4 ux19_0) 5 (iI x19.2) ∧ Kp s0 s ∧ FL ux19_0 x19.1) ⟨s15, _, ux14_0, rfl, (ue (ue (ue rfl rfl) rfl) rfl), Kx14, Fx14_0⟩ (fun g19 ih19 => ?_)))))
 rintro x19 _ _ ⟨s20, _, ux19_0, rfl, rfl, Kx19, Fx19_0⟩
 unfold spec_FloatBits.b1
 refine sq (sr (Yc ux19_0 rfl (fq_' Fx19_0 (Yf rfl) rfl (Xc rfl (jy [38, 39, 40, 41] [] 41 (.bool ((fcmp .f64 x19.1 (4607182418800017408 : Nat) == some .lt) && (decide (x19.2 > (-1022 : Int))))) rfl (fun Kg21 => ?_) (fun j21 => ?_))))))
 ·
  rcases bft (fcmp .f64 x19.1 (4607182418800017408 : Nat) == some .lt) with hb21 | hb21
  ·
   exact Yb hb21 (Xc rfl (Xc rfl (Xc rfl (Kg21 _ (Ag.put ((Ag.put ((Ag.put (Ag.base rfl) rfl)) rfl)) rfl) (by rw [hb21]; rfl)))))
  exact Yb hb21 (Xk rfl (Xk rfl (Xc rfl (Kg21 _ (Ag.put ((Ag.put ((Ag.put (Ag.base rfl) rfl)) rfl)) rfl) (by rw [hb21]; rfl)))))
 refine dn (cd rfl (fun h22 => ?_) (fun h22 => ?_))
 ·
  refine sk (bl (sr (Yc ux19_0 rfl (fa_ Fx19_0 (Yf rfl) (by simp) rfl rfl rfl rfl rfl rfl rfl (fun v23 s23 p23 A23 => ?_)))))
  refine Yh v23 rfl (dn (rg (Xc rfl (Xc rfl (Xc rfl (dn (ib ?_)))))))
  exact lb ih19 ⟨s23, _, v23, rfl, (ue (ue (ue rfl rfl) rfl) rfl), (Kx19.st p23 rfl), A23⟩
 refine xt rfl (sgb (sq (sr (Yc ux19_0 rfl (fq_' Fx19_0 (Yf rfl) rfl (dn (cd rfl (fun h25 => ?_) (fun h25 => ?_))))))))
 ·
  refine sr (Xc rfl (Yc ux19_0 rfl (fa_ Fx19_0 (Yf rfl) (by simp) rfl rfl rfl rfl rfl rfl rfl (fun v26 s26 p26 A26 => ?_))))
  refine f2i A26 u129 u27 rfl rfl rfl rfl rfl rfl (fun r27 m27 => ?_)
  refine Xc rfl (Xc rfl (dn ?_))
  exact re rfl func95 rfl (Xu rfl Xe) rfl ⟨_, rfl, rfl, z.ky (Kx19.st p26 rfl)⟩
 refine sk (sr (Xc rfl (Xc rfl (Xc rfl (cv' u129 u3 rfl (shlK rfl rfl rfl rfl rfl rfl rfl rfl (Xc rfl (Yc ux19_0 rfl (fa_ Fx19_0 (Yf rfl) (by simp) rfl rfl rfl rfl rfl rfl rfl (fun v29 s29 p29 A29 => ?_))))))))))
 refine fa_ A29 (Yf rfl) (by simp) rfl rfl rfl rfl rfl rfl rfl (fun v30 s30 p30 A30 => ?_)
 refine f2i A30 u129 u27 rfl rfl rfl rfl rfl rfl (fun r31 m31 => ?_)
 refine Xc rfl (Xc rfl (dn ?_))
 exact re rfl func95 rfl (Xu rfl Xe) rfl ⟨_, rfl, rfl, z.ky (Kx19.st (Xn p29 p30) rfl)⟩
def spec_ItemOk.f (a0 : Item) : Option (Bool) :=
 (if (((decide (a0.Kind < (0 : Int))) || (decide (a0.Kind > (3 : Int)))) || (decide ((a0.T.length : Int) > (40 : Int)))) = true then (some false) else (if ((a0.Kind != (1 : Int)) && (a0.N != (0 : Int))) = true then (some false) else ((if (a0.Kind != (2 : Int)) = true then ((spec_FloatBits.f a0.F).bind fun r14 => (some (r14 != (0 : Int)))) else (some false)).bind fun y13 => (if y13 = true then (some false) else (some ((a0.Kind == (3 : Int)) || ((a0.T.length : Int) == (0 : Int))))))))
def spec_ItemOk.Q (w : World) (F : Nat → Prop) (r : Bool) (v : Value) (w' : World) : Prop :=
 v = (.bool r) ∧ Ky [] w w'
theorem spec_ItemOk.calls (a0 : Item) (w : World) (F : Nat → Prop) (w0_0 : Value) (w0_1 : Value) (h0_0 : Kd.flt.rd w [w0_0] a0.F F) (h0_1 : Yr.rd w [w0_1] a0.T F) (r : Bool) (m : spec_ItemOk.f a0 = some r) :
  Calls prog 105 #[(.agg #[(iI a0.Kind), (iI a0.N), w0_0, w0_1])] w (RT (spec_ItemOk.Q w F) r) := by
 obtain ⟨s0, rfl, kp0, z⟩ := Xl w F
 have A0_1 := z.rd h0_1
 refine Xd (args := [(.agg #[(iI a0.Kind), (iI a0.N), w0_0, w0_1])]) func105 ntmps105 rfl m ?_
 unfold spec_ItemOk.f
 refine sr (bx' (cs := [(iI a0.Kind), (iI a0.N), w0_0, w0_1]) 40 rfl rfl (fun b2 s2 p2 B2 => ?_))
 refine Xc rfl (dn (sq (sr (Ye fa29_0 rfl (Yl B2 u3 rfl (Xc rfl (Xc rfl (jy [6, 7, 8, 9, 10] [8, 9, 10, 11, 12, 13] 10 (.bool ((decide (a0.Kind < (0 : Int))) || (decide (a0.Kind > (3 : Int))))) rfl (fun Kg4 => ?_) (fun j4 => ?_)))))))))
 ·
  rcases bft (decide (a0.Kind < (0 : Int))) with hb4 | hb4
  ·
   exact Yb hb4 (Xk rfl (Xk rfl (Xk rfl (Xc rfl (Kg4 _ (Ag.put ((Ag.put ((Ag.put ((Ag.put (Ag.base rfl) rfl)) rfl)) rfl)) rfl) (by rw [hb4]; rfl))))))
  exact Yb hb4 (Ye fa29_0 rfl (Yl B2 u3 rfl (Xc rfl (Xc rfl (Kg4 _ (Ag.put ((Ag.put ((Ag.put ((Ag.put (Ag.base rfl) rfl)) rfl)) rfl)) rfl) (by rw [hb4]; rfl))))))
 refine Xc rfl (jy [11, 12, 13, 14, 15, 16] [] 16 (.bool (((decide (a0.Kind < (0 : Int))) || (decide (a0.Kind > (3 : Int)))) || (decide ((a0.T.length : Int) > (40 : Int))))) rfl (fun Kg5 => ?_) (fun j5 => ?_))
 ·
  rcases bft ((decide (a0.Kind < (0 : Int))) || (decide (a0.Kind > (3 : Int)))) with hb5 | hb5
  ·
   exact Yb hb5 (Xk rfl (Xk rfl (Xk rfl (Xk rfl (Xc rfl (Kg5 _ (Ag.put ((Ag.put ((Ag.put ((Ag.put ((Ag.put (Ag.base rfl) rfl)) rfl)) rfl)) rfl)) rfl) (by rw [hb5]; rfl)))))))
  refine Yb hb5 (Ye fa29_3 rfl (Yl B2 u22 rfl ?_))
  exact ln' (A0_1.kp (kp0.st p2 rfl)) u22 rfl (Xc rfl (Xc rfl (Kg5 _ (Ag.put ((Ag.put ((Ag.put ((Ag.put ((Ag.put (Ag.base rfl) rfl)) rfl)) rfl)) rfl)) rfl) (by rw [hb5]; rfl))))
 refine dn (cd rfl (fun h8 => ?_) (fun h8 => ?_))
 ·
  refine sr (Xc rfl (dn ?_))
  exact re rfl func105 rfl (Xu rfl Xe) rfl ⟨_, rfl, rfl, z.ky (kp0.st p2 rfl)⟩
 refine sk (sq (sr (Ye fa29_0 rfl (Yl B2 u3 rfl (Xc rfl (Xc rfl (jy [20, 21, 22, 23, 24] [] 24 (.bool ((a0.Kind != (1 : Int)) && (a0.N != (0 : Int)))) rfl (fun Kg10 => ?_) (fun j10 => ?_))))))))
 ·
  rcases bft (a0.Kind != (1 : Int)) with hb10 | hb10
  ·
   exact Yb hb10 (Ye fa29_1 rfl (Yl B2 u3 rfl (Xc rfl (Xc rfl (Kg10 _ (Ag.put ((Ag.put ((Ag.put ((Ag.put (Ag.base rfl) rfl)) rfl)) rfl)) rfl) (by rw [hb10]; rfl))))))
  exact Yb hb10 (Xk rfl (Xk rfl (Xk rfl (Xc rfl (Kg10 _ (Ag.put ((Ag.put ((Ag.put ((Ag.put (Ag.base rfl) rfl)) rfl)) rfl)) rfl) (by rw [hb10]; rfl))))))
 refine dn (cd rfl (fun h11 => ?_) (fun h11 => ?_))
 ·
  refine sr (Xc rfl (dn ?_))
  exact re rfl func105 rfl (Xu rfl Xe) rfl ⟨_, rfl, rfl, z.ky (kp0.st p2 rfl)⟩
 refine sk (sq (sr (Ye fa29_0 rfl (Yl B2 u3 rfl (Xc rfl (Xc rfl (ji [] (fun (y13 : Bool) e w => ∃ (s : St) (e0 : Env), w = s.w ∧ e = upd (upd e0 1 (pB b2)) 33 (.bool y13) ∧ Kp s0 s ∧ BlF s b2 29 [(iI a0.Kind), (iI a0.N), w0_0, w0_1] 40) (fun Gj13 Kj13 => ?_) ?_)))))))
 ·
  rcases bft (a0.Kind != (2 : Int)) with hb13 | hb13
  ·
   refine Yb hb13 ?_
   rw [if_pos hb13]
   refine Ye fa29_2 rfl (Yl B2 u27 rfl (Yn 41 rfl func95 rfl (spec_FloatBits.calls a0.F s2.w (mm [] s2) w0_0 (Xq (s := s2) (Yq h0_0))) (fun r14 s15 p15 n15 => ?_)))
   refine Xc rfl (Xc rfl ?_)
   exact Kj13 _ _ _ ⟨s15, _, rfl, (ue (ue rfl rfl) rfl), (kp0.st (Xn p2 p15) rfl), (B2.st p15 rfl)⟩
  refine Yb hb13 ?_
  rw [if_neg (by rw [hb13]; decide)]
  refine Xk rfl (Xk rfl (Xk rfl (Xk rfl (Xc rfl ?_))))
  exact Kj13 _ _ _ ⟨s2, _, rfl, (ue (ue rfl rfl) rfl), (kp0.st p2 rfl), B2⟩
 rintro y13 _ _ ⟨s19, _, rfl, rfl, Ky13, By13_b2⟩
 refine dn (cd rfl (fun h21 => ?_) (fun h21 => ?_))
 ·
  exact sr (Xc rfl (dn (re rfl func105 rfl (Xu rfl Xe) rfl ⟨_, rfl, rfl, z.ky Ky13⟩)))
 refine sk (sr (Ye fa29_0 rfl (Yl By13_b2 u3 rfl (Xc rfl (Xc rfl (jy [37, 38, 39, 40, 41, 42] [9] 42 (.bool ((a0.Kind == (3 : Int)) || ((a0.T.length : Int) == (0 : Int)))) rfl (fun Kg22 => ?_) (fun j22 => ?_)))))))
 ·
  rcases bft (a0.Kind == (3 : Int)) with hb22 | hb22
  ·
   exact Yb hb22 (Xk rfl (Xk rfl (Xk rfl (Xk rfl (Xc rfl (Kg22 _ (Ag.put ((Ag.put ((Ag.put ((Ag.put ((Ag.put (Ag.base rfl) rfl)) rfl)) rfl)) rfl)) rfl) (by rw [hb22]; rfl)))))))
  refine Yb hb22 (Ye fa29_3 rfl (Yl By13_b2 u22 rfl ?_))
  exact ln' (A0_1.kp Ky13) u22 rfl (Xc rfl (Xc rfl (Kg22 _ (Ag.put ((Ag.put ((Ag.put ((Ag.put ((Ag.put (Ag.base rfl) rfl)) rfl)) rfl)) rfl)) rfl) (by rw [hb22]; rfl))))
 exact Xc rfl (dn (re rfl func105 rfl (Xu rfl Xe) rfl ⟨_, rfl, rfl, z.ky Ky13⟩))
def spec_l3copy.f (a0 : Item) : Option (Item) :=
 (if ([] : (List Int)).length + a0.T.length ≤ Lim then (some (Item.mk a0.Kind a0.N a0.F (([] : (List Int)) ++ a0.T))) else none)
def spec_l3copy.Q (w : World) (F : Nat → Prop) (r : Item) (v : Value) (w' : World) : Prop :=
 ∃ (v0 : Value) (v1 : Value), v = (.agg #[(iI r.Kind), (iI r.N), v0, v1]) ∧ FO kd29 w w' [(iI r.Kind), (iI r.N), v0, v1] r ∧ Ky [] w w'
theorem spec_l3copy.calls (a0 : Item) (w : World) (F : Nat → Prop) (w0_0 : Value) (w0_1 : Value) (h0_0 : Kd.flt.rd w [w0_0] a0.F F) (h0_1 : Yr.rd w [w0_1] a0.T F) (r : Item) (m : spec_l3copy.f a0 = some r) :
  Calls prog 247 #[(.agg #[(iI a0.Kind), (iI a0.N), w0_0, w0_1])] w (RT (spec_l3copy.Q w F) r) := by
 obtain ⟨s0, rfl, kp0, z⟩ := Xl w F
 have A0_0 := Yq h0_0
 refine Xd (args := [(.agg #[(iI a0.Kind), (iI a0.N), w0_0, w0_1])]) func247 ntmps247 rfl m ?_
 unfold spec_l3copy.f
 refine sr (bx' (cs := [(iI a0.Kind), (iI a0.N), w0_0, w0_1]) 40 rfl rfl (fun b2 s2 p2 B2 => ?_))
 refine al' (cs := [(iI 0), (iI 0), (.float .f64 0), (.slice none 0 0)]) 41 rfl o29 rfl (fun b4 s4 p4 B4 => ?_)
 refine dn (sr (lt0 (K := (Kd.int .u8)) 42 u22 z5 rfl rfl rfl rfl rfl (fun v6 s6 p6 A6 => ?_)))
 refine Ye fa29_3 rfl ?_
 have A8 := B2.st (Xn p4 p6) rfl
 refine Yl A8 u22 rfl ?_
 have K9 := kp0.st (Yi p2 p4 p6) rfl
 refine apF' Xv sl22 A6 ((z.rd h0_1).kp K9) rfl (fun v11 s11 p11 A11 => ?_)
 refine Ye fa29_3 rfl (sv' (A8.st p11 rfl) z22 rfl A11.rd.one rfl (fun s14 p14 B14 => ?_))
 refine dn (sr (Ya (es := [(iI a0.Kind), (iI a0.N), w0_0, v11]) B14 u29 z29 rfl ?_))
 have A17 := A11.st p14 rfl
 refine Xx (vs := [(iI a0.Kind), (iI a0.N), w0_0, v11]) (B4.st (Yi p6 p11 p14) rfl) z29 rfl (Xb rfl (Xb rfl (Xb (FL.one A0_0) (Xb A17.rd.one Xj)))) rfl (fun s18 p18 B18 => ?_)
 refine dn ?_
 have A20 : OwF kd29 s18 [(iI a0.Kind), (iI a0.N), w0_0, v11] (Item.mk a0.Kind a0.N a0.F (([] : (List Int)) ++ a0.T)) 42 := (Xs (fun x : Item => (x.Kind, x.N, x.F, x.T)) (Item.mk a0.Kind a0.N a0.F (([] : (List Int)) ++ a0.T)) (Xy (Xf .i64 a0.Kind) (Xy (Xf .i64 a0.N) (Xy (Xz A0_0) (A17.st p18 rfl)))))
 have K23 := K9.st (Yi p11 p14 p18) rfl
 exact re rfl func247 rfl (r_b B18 u29 rfl z29 rfl Xe) rfl ⟨_, rfl, w0_0, v11, rfl, A20.fo K23 rfl z.l, z.ky K23⟩
def spec_ItemClean.f (a0 : Item) : Option (Item) :=
 ((spec_ItemOk.f a0).bind fun r9 => (if (!r9) = true then (some (Item.mk (0 : Int) (0 : Int) (0 : Nat) ([] : (List Int)))) else ((spec_l3copy.f a0).bind fun r21 => ((if (fcmp .f64 a0.F (0 : Nat) == some .eq) = true then (some (0 : Nat)) else (some r21.F)).bind fun y30 => (some (Item.mk r21.Kind r21.N y30 r21.T))))))
def spec_ItemClean.Q (w : World) (F : Nat → Prop) (r : Item) (v : Value) (w' : World) : Prop :=
 ∃ (v0 : Value) (v1 : Value), v = (.agg #[(iI r.Kind), (iI r.N), v0, v1]) ∧ FO kd29 w w' [(iI r.Kind), (iI r.N), v0, v1] r ∧ Ky [] w w'
theorem spec_ItemClean.calls (a0 : Item) (w : World) (F : Nat → Prop) (w0_0 : Value) (w0_1 : Value) (h0_0 : Kd.flt.rd w [w0_0] a0.F F) (h0_1 : Yr.rd w [w0_1] a0.T F) (r : Item) (m : spec_ItemClean.f a0 = some r) :
  Calls prog 189 #[(.agg #[(iI a0.Kind), (iI a0.N), w0_0, w0_1])] w (RT (spec_ItemClean.Q w F) r) := by
 obtain ⟨s0, rfl, kp0, z⟩ := Xl w F
 have A0_0 := Yq h0_0
 have A0_1 := z.rd h0_1
 refine Xd (args := [(.agg #[(iI a0.Kind), (iI a0.N), w0_0, w0_1])]) func189 ntmps189 rfl m ?_
 unfold spec_ItemClean.f
 refine sr (bx' (cs := [(iI a0.Kind), (iI a0.N), w0_0, w0_1]) 40 rfl rfl (fun b2 s2 p2 B2 => ?_))
 refine al' (cs := [(iI 0), (iI 0), (.float .f64 0), (.slice none 0 0)]) 41 rfl o29 rfl (fun b4 s4 p4 B4 => ?_)
 refine dn (sq (sr ?_))
 have A6 := B2.st p4 rfl
 refine Ya (es := [(iI a0.Kind), (iI a0.N), w0_0, w0_1]) A6 u29 z29 rfl ?_
 have K7 := kp0.st (Xn p2 p4) rfl
 refine Yn 42 rfl func105 rfl (spec_ItemOk.calls a0 s4.w (mm [0] s4) w0_0 w0_1 ((Xq (s := s4) A0_0).sub (D := [0]) rfl) (A0_1.kp K7)) (fun r9 s10 p10 n10 => ?_)
 refine Xc rfl (dn (cd rfl (fun h11 => ?_) (fun h11 => ?_)))
 ·
  refine sr (bd' (cells := [(iI 0), (iI 0), (.float .f64 0), (.slice none 0 0)]) pl29 o29 rfl rfl ?_)
  refine Xx (vs := [(iI 0), (iI 0), (.float .f64 0), (.slice none 0 0)]) (B4.st p10 rfl) z29 rfl (Xb rfl (Xb rfl (Xb (FL.one (Yf rfl)) (Xb rfl Xj)))) rfl (fun s13 p13 B13 => ?_)
  refine dn ?_
  have A15 : OwF kd29 s13 [(iI 0), (iI 0), (.float .f64 0), (.slice none 0 0)] (Item.mk (0 : Int) (0 : Int) (0 : Nat) ([] : (List Int))) 43 := ow_z _ _ (Yj (fun x : Item => (x.Kind, x.N, x.F, x.T)) (Item.mk (0 : Int) (0 : Int) (0 : Nat) ([] : (List Int))) (Xi (Xf .i64 (0 : Int)) (Xi (Xf .i64 (0 : Int)) (Xi (Xz (Yf rfl)) (Yk 5 (Kd.int .u8))))))
  have K17 := K7.st (Xn p10 p13) rfl
  exact re rfl func189 rfl (r_b B13 u29 rfl z29 rfl Xe) rfl ⟨_, rfl, (.float .f64 0), (.slice none 0 0), rfl, A15.fo K17 rfl z.l, z.ky K17⟩
 refine sk (sr ?_)
 have A18 := A6.st p10 rfl
 refine Ya (es := [(iI a0.Kind), (iI a0.N), w0_0, w0_1]) A18 u29 z29 rfl ?_
 have K19 := K7.st p10 rfl
 refine cl' rfl func247 rfl (spec_l3copy.calls a0 s10.w (mm [0] s10) w0_0 w0_1 ((Xq (s := s10) A0_0).sub (D := [0]) rfl) (A0_1.kp K19)) ?_
 rintro r21 _ w21 m21 ⟨v21_0, v21_1, rfl, f21_0, ky21⟩
 obtain ⟨s22, rfl, p22, n22⟩ := nwx s10 w21 44 ky21
 obtain ⟨hu21_0_0, Au21_0_1⟩ := ap29 (f21_0.c n22)
 refine al' (cs := [(iI 0), (iI 0), (.float .f64 0), (.slice none 0 0)]) 45 rfl o29 rfl (fun b24 s24 p24 B24 => ?_)
 have A26 := Au21_0_1.st p24 rfl
 refine Xx (vs := [(iI r21.Kind), (iI r21.N), v21_0, v21_1]) B24 z29 rfl (Xb rfl (Xb rfl (Xb (FL.one hu21_0_0) (Xb A26.rd.one Xj)))) rfl (fun s27 p27 B27 => ?_)
 refine dn (sq (sr (Ye fa29_2 rfl ?_)))
 refine Yl (A18.st (Yi p22 p24 p27) rfl) u27 rfl (fq_' A0_0 (Yf rfl) rfl (dn (jc (fun (y30 : Nat) e w => ∃ (s : St) (e0 : Env) (uy30_0 : Value), w = s.w ∧ e = upd (upd e0 2 (pB b4)) 3 (pB b24) ∧ Kp s0 s ∧ FL uy30_0 y30 ∧ BlF s b24 29 [(iI r21.Kind), (iI r21.N), uy30_0, v21_1] 45 ∧ BlF s b4 29 [(iI 0), (iI 0), (.float .f64 0), (.slice none 0 0)] 41 ∧ OwF Yr s [v21_1] r21.T 44) (fun Gj30 Kj30 => ?_) ?_)))
 ·
  refine cd rfl (fun h31 => ?_) (fun h31 => ?_)
  ·
   refine rg (Ye fa29_2 rfl (sv' B27 z27 rfl (FL.one (Yf rfl)) rfl (fun s32 p32 B32 => ?_)))
   exact dn (Kj30 _ _ _ ⟨s32, _, (.float .f64 0), rfl, (ue (ue rfl rfl) rfl), (K19.st (Yo p22 p24 p27 p32) rfl), (Yf rfl), B32, (B4.st (tr5 p10 p22 p24 p27 p32) rfl), (A26.st (Xn p27 p32) rfl)⟩)
  exact sk (Kj30 _ _ _ ⟨s27, _, v21_0, rfl, (ue (ue rfl rfl) rfl), (K19.st (Yi p22 p24 p27) rfl), hu21_0_0, B27, (B4.st (Yo p10 p22 p24 p27) rfl), (A26.st p27 rfl)⟩)
 rintro y30 _ _ ⟨s40, _, uy30_0, rfl, rfl, Ky30, Fy30_0, By30_b24, By30_b4, Cy30_23⟩
 refine sr (Ya (es := [(iI r21.Kind), (iI r21.N), uy30_0, v21_1]) By30_b24 u29 z29 rfl (Xx (vs := [(iI r21.Kind), (iI r21.N), uy30_0, v21_1]) By30_b4 z29 rfl (Xb rfl (Xb rfl (Xb (FL.one Fy30_0) (Xb Cy30_23.rd.one Xj)))) rfl (fun s43 p43 B43 => ?_)))
 refine dn ?_
 have A45 : OwF kd29 s43 [(iI r21.Kind), (iI r21.N), uy30_0, v21_1] (Item.mk r21.Kind r21.N y30 r21.T) 44 := (Xs (fun x : Item => (x.Kind, x.N, x.F, x.T)) (Item.mk r21.Kind r21.N y30 r21.T) (Xy (Xf .i64 r21.Kind) (Xy (Xf .i64 r21.N) (Xy (Xz Fy30_0) (Cy30_23.st p43 rfl)))))
 have K48 := Ky30.st p43 rfl
 exact re rfl func189 rfl (r_b B43 u29 rfl z29 rfl Xe) rfl ⟨_, rfl, uy30_0, v21_1, rfl, A45.fo K48 rfl z.l, z.ky K48⟩
def spec_l1Once.f (a0 : l1Cur) (a1 : Int) : Option (Bool × l1Cur) :=
 ((spec_l1Below.f a0 a1).bind fun r3 => (some ((r3.1 == (0 : Int)), (l1Cur.mk a0.b r3.2.i r3.2.h))))
def spec_l1Once.Q (w : World) (F : Nat → Prop) (p0 : Nat) (w0_0 : Value) (r : Bool × l1Cur) (v : Value) (w' : World) : Prop :=
 v = (.bool r.1) ∧ BlW w' p0 184 [w0_0, (iI r.2.i), (iI r.2.h)] ∧ Ky [p0] w w'
theorem spec_l1Once.calls (a0 : l1Cur) (a1 : Int) (w : World) (F : Nat → Prop) (p0 : Nat) (w0_0 : Value) (h0_0 : Yr.rd w [w0_0] a0.b F) (hb0 : BlW w p0 184 [w0_0, (iI a0.i), (iI a0.h)]) (hF : ∀ b, F b → b ∉ [p0]) (r : Bool × l1Cur) (m : spec_l1Once.f a0 a1 = some r) :
  Calls prog 72 #[(pB p0), (iI a1)] w (RT (spec_l1Once.Q w F p0 w0_0) r) := by
 obtain ⟨s0, rfl, kp0, z⟩ := start1 w F [p0] hF
 have B0 := z.bl hb0 (by simp)
 refine Xd (args := [(pB p0), (iI a1)]) func72 ntmps72 rfl m ?_
 unfold spec_l1Once.f
 refine sr (Xc rfl (dn (sr (Xc rfl (Xc rfl (clB B0 rfl func74 rfl (spec_l1Below.calls a0 a1 s0.w (mm [0] s0) p0 w0_0 (z.rd h0_0) B0.w (B0.apart rfl)) (fun r3 s4 p4 B4 => ?_)))))))
 refine Xc rfl (Xc rfl (dn ?_))
 exact re rfl func72 rfl (Xu rfl Xe) rfl ⟨_, rfl, rfl, B4.w, z.ky (kp0.st p4 rfl)⟩
def spec_l2bits.b0 (a0 : l1Cur) (x3 : Int × Int × Int × Int) : Option ((Int × Int × Int × Int) ⊕ (Int × l1Cur)) :=
 (if (decide (x3.2.1 < (8 : Int))) = true then ((spec_l1Byte.f (l1Cur.mk a0.b x3.2.2.1 x3.2.2.2)).bind fun r8 => (some (Sum.inl ((IntKind.wrap .u64 ((IntKind.wrap .u64 (x3.1 * (256 : Int))) + (IntKind.wrap .u64 r8.1))), (IntKind.wrap .i64 (x3.2.1 + (1 : Int))), r8.2.i, r8.2.h)))) else (((spec_l1Below.f (l1Cur.mk a0.b x3.2.2.1 x3.2.2.2) (9 : Int)).bind fun r13 => (if (r13.1 == (0 : Int)) = true then ((spec_l1Below.f (l1Cur.mk a0.b r13.2.i r13.2.h) (2 : Int)).bind fun r19 => ((spec_l1Below.f (l1Cur.mk a0.b r19.2.i r19.2.h) (3 : Int)).bind fun r24 => (some ((ior .u64 (ishl .u64 (IntKind.wrap .u64 r19.1) (63 : Int)) (IntKind.wrap .u64 r24.1)), (l1Cur.mk a0.b r24.2.i r24.2.h))))) else (if (r13.1 == (1 : Int)) = true then ((spec_l1Below.f (l1Cur.mk a0.b r13.2.i r13.2.h) (2 : Int)).bind fun r31 => ((spec_l1Below.f (l1Cur.mk a0.b r31.2.i r31.2.h) (3 : Int)).bind fun r36 => (some ((ior .u64 (ishl .u64 (IntKind.wrap .u64 r31.1) (63 : Int)) (IntKind.wrap .u64 ((9218868437227405311 : Int) + (IntKind.wrap .u64 r36.1)))), (l1Cur.mk a0.b r36.2.i r36.2.h))))) else (if (r13.1 == (2 : Int)) = true then ((spec_l1Below.f (l1Cur.mk a0.b r13.2.i r13.2.h) (2 : Int)).bind fun r43 => (some ((ior .u64 (ior .u64 (ishl .u64 (IntKind.wrap .u64 r43.1) (63 : Int)) (9218868437227405312 : Int)) (ishr .u64 x3.1 (12 : Int))), (l1Cur.mk a0.b r43.2.i r43.2.h)))) else (if (r13.1 == (3 : Int)) = true then ((spec_l1Below.f (l1Cur.mk a0.b r13.2.i r13.2.h) (2 : Int)).bind fun r50 => ((spec_l1Below.f (l1Cur.mk a0.b r50.2.i r50.2.h) (3 : Int)).bind fun r55 => (some ((ior .u64 (ishl .u64 (IntKind.wrap .u64 r50.1) (63 : Int)) (IntKind.wrap .u64 ((4503599627370495 : Int) + (IntKind.wrap .u64 r55.1)))), (l1Cur.mk a0.b r55.2.i r55.2.h))))) else (if (r13.1 == (4 : Int)) = true then ((spec_l1Below.f (l1Cur.mk a0.b r13.2.i r13.2.h) (12 : Int)).bind fun r62 => ((spec_l1Below.f (l1Cur.mk a0.b r62.2.i r62.2.h) (16 : Int)).bind fun r67 => (some ((ior .u64 (ishl .u64 (IntKind.wrap .u64 (IntKind.wrap .i64 ((1023 : Int) + r62.1))) (52 : Int)) (ishl .u64 (IntKind.wrap .u64 r67.1) (48 : Int))), (l1Cur.mk a0.b r67.2.i r67.2.h))))) else (if (r13.1 == (5 : Int)) = true then ((spec_l1Below.f (l1Cur.mk a0.b r13.2.i r13.2.h) (21 : Int)).bind fun r74 => ((spec_FloatBits.f (FloatKind.f64.nearest (IntKind.wrap .i64 (r74.1 - (10 : Int))))).bind fun r78 => (some (r78, (l1Cur.mk a0.b r74.2.i r74.2.h))))) else (some (x3.1, (l1Cur.mk a0.b r13.2.i r13.2.h)))))))))).bind fun o => some (Sum.inr o)))
def spec_l2bits.f (a0 : l1Cur) : Option (Int × l1Cur) :=
 (iter (spec_l2bits.b0 a0) ((0 : Int), (0 : Int), a0.i, a0.h))
def spec_l2bits.Q (w : World) (F : Nat → Prop) (p0 : Nat) (w0_0 : Value) (r : Int × l1Cur) (v : Value) (w' : World) : Prop :=
 v = (.int .u64 r.1) ∧ BlW w' p0 184 [w0_0, (iI r.2.i), (iI r.2.h)] ∧ Ky [p0] w w'
theorem spec_l2bits.calls (a0 : l1Cur) (w : World) (F : Nat → Prop) (p0 : Nat) (w0_0 : Value) (h0_0 : Yr.rd w [w0_0] a0.b F) (hb0 : BlW w p0 184 [w0_0, (iI a0.i), (iI a0.h)]) (hF : ∀ b, F b → b ∉ [p0]) (r : Int × l1Cur) (m : spec_l2bits.f a0 = some r) :
  Calls prog 232 #[(pB p0)] w (RT (spec_l2bits.Q w F p0 w0_0) r) := by
 obtain ⟨s0, rfl, kp0, z⟩ := start1 w F [p0] hF
 have A0_0 := z.rd h0_0
 refine Xd (args := [(pB p0)]) func232 ntmps232 rfl m ?_
 unfold spec_l2bits.f
 refine sr (Xc rfl (dn (sr (Xc rfl (dn (sq (sr (Xc rfl (dn (bl (lpI (fun (x3 : Int × Int × Int × Int) e w => ∃ (s : St) (e0 : Env), w = s.w ∧ e = upd (upd (upd e0 0 (pB p0)) 3 (.int .u64 x3.1)) 4 (iI x3.2.1) ∧ Kp s0 s ∧ BlF s p0 184 [w0_0, (iI x3.2.2.1), (iI x3.2.2.2)] 2) ⟨s0, _, rfl, (ue (ue (ue rfl rfl) rfl) rfl), kp0, (z.bl hb0 (by simp))⟩ (fun g3 ih3 => ?_))))))))))))
 rintro x3 _ _ ⟨s4, _, rfl, rfl, Kx3, Bx3_p0⟩
 unfold spec_l2bits.b0
 refine sq (sr (Xc rfl (Xc rfl (dn (cd rfl (fun h6 => ?_) (fun h6 => ?_))))))
 ·
  refine sk (sq (bl (rg (Xc rfl (Xc rfl (Xc rfl ?_))))))
  refine clB Bx3_p0 rfl func163 rfl (spec_l1Byte.calls (l1Cur.mk a0.b x3.2.2.1 x3.2.2.2) s4.w (mm [0] s4) p0 w0_0 (A0_0.kp Kx3) Bx3_p0.w (Bx3_p0.apart rfl)) (fun r8 s9 p9 B9 => ?_)
  refine cv' u129 u3 rfl (Xc rfl (Xc rfl (dn (ib (rg (Xc rfl (Xc rfl (Xc rfl (dn ?_)))))))))
  exact lb ih3 ⟨s9, _, rfl, (ue (ue (ue rfl rfl) rfl) rfl), (Kx3.st p9 rfl), B9⟩
 refine xt rfl (sgb (sq (sr (Xc rfl ?_))))
 refine clB Bx3_p0 rfl func74 rfl (spec_l1Below.calls (l1Cur.mk a0.b x3.2.2.1 x3.2.2.2) (9 : Int) s4.w (mm [0] s4) p0 w0_0 (A0_0.kp Kx3) Bx3_p0.w (Bx3_p0.apart rfl)) (fun r13 s14 p14 B14 => ?_)
 refine dn (bl (sr (Xc rfl (Xc rfl (dn (cd rfl (fun h16 => ?_) (fun h16 => ?_)))))))
 ·
  refine sr (Xc rfl ?_)
  have K17 := Kx3.st p14 rfl
  refine clB B14 rfl func74 rfl (spec_l1Below.calls (l1Cur.mk a0.b r13.2.i r13.2.h) (2 : Int) s14.w (mm [0] s14) p0 w0_0 (A0_0.kp K17) B14.w (B14.apart rfl)) (fun r19 s20 p20 B20 => ?_)
  refine cv' u129 u3 rfl (shlK rfl rfl rfl rfl rfl rfl rfl rfl (Xc rfl ?_))
  have K22 := K17.st p20 rfl
  refine clB B20 rfl func74 rfl (spec_l1Below.calls (l1Cur.mk a0.b r19.2.i r19.2.h) (3 : Int) s20.w (mm [0] s20) p0 w0_0 (A0_0.kp K22) B20.w (B20.apart rfl)) (fun r24 s25 p25 B25 => ?_)
  refine cv' u129 u3 rfl (Xc rfl (Xc rfl (dn ?_)))
  exact re rfl func232 rfl (Xu rfl Xe) rfl ⟨_, rfl, rfl, B25.w, z.ky (K22.st p25 rfl)⟩
 refine sr (Xc rfl (Xc rfl (dn (cd rfl (fun h28 => ?_) (fun h28 => ?_)))))
 ·
  refine sr (Xc rfl ?_)
  have K29 := Kx3.st p14 rfl
  refine clB B14 rfl func74 rfl (spec_l1Below.calls (l1Cur.mk a0.b r13.2.i r13.2.h) (2 : Int) s14.w (mm [0] s14) p0 w0_0 (A0_0.kp K29) B14.w (B14.apart rfl)) (fun r31 s32 p32 B32 => ?_)
  refine cv' u129 u3 rfl (shlK rfl rfl rfl rfl rfl rfl rfl rfl (Xc rfl ?_))
  have K34 := K29.st p32 rfl
  refine clB B32 rfl func74 rfl (spec_l1Below.calls (l1Cur.mk a0.b r31.2.i r31.2.h) (3 : Int) s32.w (mm [0] s32) p0 w0_0 (A0_0.kp K34) B32.w (B32.apart rfl)) (fun r36 s37 p37 B37 => ?_)
  refine cv' u129 u3 rfl (Xc rfl (Xc rfl (Xc rfl (dn ?_))))
  exact re rfl func232 rfl (Xu rfl Xe) rfl ⟨_, rfl, rfl, B37.w, z.ky (K34.st p37 rfl)⟩
 refine sr (Xc rfl (Xc rfl (dn (cd rfl (fun h40 => ?_) (fun h40 => ?_)))))
 ·
  refine sr (Xc rfl ?_)
  have K41 := Kx3.st p14 rfl
  refine clB B14 rfl func74 rfl (spec_l1Below.calls (l1Cur.mk a0.b r13.2.i r13.2.h) (2 : Int) s14.w (mm [0] s14) p0 w0_0 (A0_0.kp K41) B14.w (B14.apart rfl)) (fun r43 s44 p44 B44 => ?_)
  refine cv' u129 u3 rfl (shlK rfl rfl rfl rfl rfl rfl rfl rfl (Xc rfl (Xc rfl (shrK rfl rfl rfl rfl rfl rfl rfl rfl (Xc rfl (Xc rfl (dn ?_)))))))
  exact re rfl func232 rfl (Xu rfl Xe) rfl ⟨_, rfl, rfl, B44.w, z.ky (K41.st p44 rfl)⟩
 refine sr (Xc rfl (Xc rfl (dn (cd rfl (fun h47 => ?_) (fun h47 => ?_)))))
 ·
  refine sr (Xc rfl ?_)
  have K48 := Kx3.st p14 rfl
  refine clB B14 rfl func74 rfl (spec_l1Below.calls (l1Cur.mk a0.b r13.2.i r13.2.h) (2 : Int) s14.w (mm [0] s14) p0 w0_0 (A0_0.kp K48) B14.w (B14.apart rfl)) (fun r50 s51 p51 B51 => ?_)
  refine cv' u129 u3 rfl (shlK rfl rfl rfl rfl rfl rfl rfl rfl (Xc rfl ?_))
  have K53 := K48.st p51 rfl
  refine clB B51 rfl func74 rfl (spec_l1Below.calls (l1Cur.mk a0.b r50.2.i r50.2.h) (3 : Int) s51.w (mm [0] s51) p0 w0_0 (A0_0.kp K53) B51.w (B51.apart rfl)) (fun r55 s56 p56 B56 => ?_)
  refine cv' u129 u3 rfl (Xc rfl (Xc rfl (Xc rfl (dn ?_))))
  exact re rfl func232 rfl (Xu rfl Xe) rfl ⟨_, rfl, rfl, B56.w, z.ky (K53.st p56 rfl)⟩
 refine sr (Xc rfl (Xc rfl (dn (cd rfl (fun h59 => ?_) (fun h59 => ?_)))))
 ·
  refine sr (Xc rfl ?_)
  have K60 := Kx3.st p14 rfl
  refine clB B14 rfl func74 rfl (spec_l1Below.calls (l1Cur.mk a0.b r13.2.i r13.2.h) (12 : Int) s14.w (mm [0] s14) p0 w0_0 (A0_0.kp K60) B14.w (B14.apart rfl)) (fun r62 s63 p63 B63 => ?_)
  refine Xc rfl (cv' u129 u3 rfl (shlK rfl rfl rfl rfl rfl rfl rfl rfl (Xc rfl ?_)))
  have K65 := K60.st p63 rfl
  refine clB B63 rfl func74 rfl (spec_l1Below.calls (l1Cur.mk a0.b r62.2.i r62.2.h) (16 : Int) s63.w (mm [0] s63) p0 w0_0 (A0_0.kp K65) B63.w (B63.apart rfl)) (fun r67 s68 p68 B68 => ?_)
  refine cv' u129 u3 rfl (shlK rfl rfl rfl rfl rfl rfl rfl rfl (Xc rfl (Xc rfl (dn ?_))))
  exact re rfl func232 rfl (Xu rfl Xe) rfl ⟨_, rfl, rfl, B68.w, z.ky (K65.st p68 rfl)⟩
 refine sr (Xc rfl (Xc rfl (dn (cd rfl (fun h71 => ?_) (fun h71 => ?_)))))
 ·
  refine sr (Xc rfl ?_)
  have K72 := Kx3.st p14 rfl
  refine clB B14 rfl func74 rfl (spec_l1Below.calls (l1Cur.mk a0.b r13.2.i r13.2.h) (21 : Int) s14.w (mm [0] s14) p0 w0_0 (A0_0.kp K72) B14.w (B14.apart rfl)) (fun r74 s75 p75 B75 => ?_)
  refine Xc rfl (i2f u27 u3 rfl rfl rfl rfl rfl rfl (fun v77 A77 => ?_))
  refine Yn 52 rfl func95 rfl (spec_FloatBits.calls (FloatKind.f64.nearest (IntKind.wrap .i64 (r74.1 - (10 : Int)))) s75.w (mm [] s75) v77 (Xq (s := s75) A77)) (fun r78 s79 p79 n79 => ?_)
  refine Xc rfl (dn ?_)
  exact re rfl func232 rfl (Xu rfl Xe) rfl ⟨_, rfl, rfl, (BlF.w (B75.st p79 rfl)), z.ky (K72.st (Xn p75 p79) rfl)⟩
 refine sk (ib (sr (Xc rfl (Xc rfl (dn ?_)))))
 exact re rfl func232 rfl (Xu rfl Xe) rfl ⟨_, rfl, rfl, B14.w, z.ky (Kx3.st p14 rfl)⟩
def spec_FloatOf.b1  (x21 : Nat × Int) : Option ((Nat × Int) ⊕ (Nat ⊕ Nat)) :=
 (if (decide (x21.2 < (0 : Int))) = true then (some (Sum.inl ((far .quo x21.1 (4611686018427387904 : Nat)), (IntKind.wrap .i64 (x21.2 + (1 : Int)))))) else ((some (Sum.inl x21.1)).bind fun o => some (Sum.inr o)))
def spec_FloatOf.b0  (x16 : Nat × Int) : Option ((Nat × Int) ⊕ (Nat ⊕ Nat)) :=
 (if (decide (x16.2 > (0 : Int))) = true then (some (Sum.inl ((far .mul x16.1 (4611686018427387904 : Nat)), (IntKind.wrap .i64 (x16.2 - (1 : Int)))))) else ((iter spec_FloatOf.b1 (x16.1, x16.2)).bind fun o => some (Sum.inr o)))
def spec_FloatOf.f (a0 : Int) : Option (Nat) :=
 ((if ((IntKind.wrap .i64 (iand .u64 (ishr .u64 a0 (52 : Int)) (2047 : Int))) == (2047 : Int)) = true then (if ((iand .u64 a0 (4503599627370495 : Int)) != (0 : Int)) = true then (some (Sum.inr (far .quo (0 : Nat) (0 : Nat)))) else (some (Sum.inl (far .quo (4607182418800017408 : Nat) (0 : Nat))))) else ((if ((IntKind.wrap .i64 (iand .u64 (ishr .u64 a0 (52 : Int)) (2047 : Int))) == (0 : Int)) = true then (some ((far .quo (FloatKind.f64.nearest (iand .u64 a0 (4503599627370495 : Int))) (4841369599423283200 : Nat)), (-1022 : Int))) else (some ((far .add (far .quo (FloatKind.f64.nearest (iand .u64 a0 (4503599627370495 : Int))) (4841369599423283200 : Nat)) (4607182418800017408 : Nat)), (IntKind.wrap .i64 ((IntKind.wrap .i64 (iand .u64 (ishr .u64 a0 (52 : Int)) (2047 : Int))) - (1023 : Int)))))).bind fun y10 => (iter spec_FloatOf.b0 (y10.1, y10.2)))).bind (sel fun y3 => (if ((ishr .u64 a0 (63 : Int)) == (1 : Int)) = true then (some (fneg y3)) else (some y3))))
def spec_FloatOf.Q (w : World) (F : Nat → Prop) (r : Nat) (v : Value) (w' : World) : Prop :=
 FL v r ∧ Ky [] w w'
theorem spec_FloatOf.calls (a0 : Int) (w : World) (F : Nat → Prop)   (r : Nat) (m : spec_FloatOf.f a0 = some r) :
  Calls prog 231 #[(.int .u64 a0)] w (RT (spec_FloatOf.Q w F) r) := by
 obtain ⟨s0, rfl, kp0, z⟩ := Xl w F
 refine Xd (args := [(.int .u64 a0)]) func231 ntmps231 rfl m ?_
 unfold spec_FloatOf.f
 refine sr (Yh (.float .f64 0) rfl (dn (sr (Xc rfl (shrK rfl rfl rfl rfl rfl rfl rfl rfl (Xc rfl (cv' u3 u129 rfl (Xc rfl (dn (sr (Xc rfl (Xc rfl (Xc rfl (dn ?_))))))))))))))
 refine sr (Yh (.float .f64 0) rfl (dn (sr (Xc rfl (i2f u27 u129 rfl rfl rfl rfl rfl rfl (fun v1 A1 => ?_))))))
 refine fa_ A1 (Yf rfl) (by simp) rfl rfl rfl rfl rfl rfl rfl (fun v2 s2 p2 A2 => ?_)
 refine Yh v2 rfl (dn (sq (sr (Xc rfl (Xc rfl (dn (jr (fun (y3 : Nat) e w => ∃ (s : St) (e0 : Env) (uy3_0 : Value), w = s.w ∧ e = upd (upd e0 0 (.int .u64 a0)) 6 uy3_0 ∧ Kp s0 s ∧ FL uy3_0 y3) (fun Gj3 Kj3 hG3 => ?_) ?_)))))))
 ·
  refine cd rfl (fun h4 => ?_) (fun h4 => ?_)
  ·
   refine sq (sr (Xc rfl (Xc rfl (dn (cd rfl (fun h5 => ?_) (fun h5 => ?_))))))
   ·
    refine sr (Yc (.float .f64 0) rfl (Yc (.float .f64 0) rfl (fa_ (Yf rfl) (Yf rfl) (by simp) rfl rfl rfl rfl rfl rfl rfl (fun v6 s6 p6 A6 => ?_))))
    refine Yh v6 rfl (dn (jri hG3 ?_))
    exact re rfl func231 rfl (Xu rfl Xe) rfl ⟨_, rfl, A6, z.ky (kp0.st (Xn p2 p6) rfl)⟩
   refine sk (rg (Yc (.float .f64 0) rfl (fa_ (Yf rfl) (Yf rfl) (by simp) rfl rfl rfl rfl rfl rfl rfl (fun v8 s8 p8 A8 => ?_))))
   refine Yh v8 rfl (dn ?_)
   exact Kj3 _ _ _ ⟨s8, _, v8, rfl, (ue (ue rfl rfl) rfl), (kp0.st (Xn p2 p8) rfl), A8⟩
  refine sr (Xc rfl (Xc rfl (Xc rfl (dn (sq (sr (Xc rfl (Xc rfl (dn (jc (fun (y10 : Nat × Int) e w => ∃ (s : St) (e0 : Env) (uy10_0 : Value), w = s.w ∧ e = upd (upd (upd e0 0 (.int .u64 a0)) 6 uy10_0) 7 (iI y10.2) ∧ Kp s0 s ∧ FL uy10_0 y10.1) (fun Gj10 Kj10 => ?_) ?_))))))))))
  ·
   refine cd rfl (fun h11 => ?_) (fun h11 => ?_)
   ·
    refine rg (Xc rfl (dn ?_))
    exact Kj10 _ _ _ ⟨s2, _, v2, rfl, (ue (ue (ue rfl rfl) rfl) rfl), (kp0.st p2 rfl), A2⟩
   refine rg (Yc v2 rfl (fa_ A2 (Yf rfl) (by simp) rfl rfl rfl rfl rfl rfl rfl (fun v13 s13 p13 A13 => ?_)))
   refine Yh v13 rfl (dn ?_)
   exact Kj10 _ _ _ ⟨s13, _, v13, rfl, (ue (ue (ue rfl rfl) rfl) rfl), (kp0.st (Xn p2 p13) rfl), A13⟩
  rintro y10 _ _ ⟨s15, _, uy10_0, rfl, rfl, Ky10, Fy10_0⟩
  refine sq (bl (lpI (fun (x16 : Nat × Int) e w => ∃ (s : St) (e0 : Env) (ux16_0 : Value), w = s.w ∧ e = upd (upd (upd e0 0 (.int .u64 a0)) 6 ux16_0) 7 (iI x16.2) ∧ Kp s0 s ∧ FL ux16_0 x16.1) ⟨s15, _, uy10_0, rfl, (ue (ue (ue rfl rfl) rfl) rfl), Ky10, Fy10_0⟩ (fun g16 ih16 => ?_)))
  rintro x16 _ _ ⟨s17, _, ux16_0, rfl, rfl, Kx16, Fx16_0⟩
  unfold spec_FloatOf.b0
  refine sq (sr (Xc rfl (Xc rfl (dn (cd rfl (fun h18 => ?_) (fun h18 => ?_))))))
  ·
   refine sk (sq (bl (rg (Yc ux16_0 rfl (fa_ Fx16_0 (Yf rfl) (by simp) rfl rfl rfl rfl rfl rfl rfl (fun v19 s19 p19 A19 => ?_))))))
   refine Yh v19 rfl (dn (ib (rg (Xc rfl (Xc rfl (Xc rfl (dn ?_)))))))
   exact lb ih16 ⟨s19, _, v19, rfl, (ue (ue (ue rfl rfl) rfl) rfl), (Kx16.st p19 rfl), A19⟩
  refine xt rfl (sgb (bl (lpI (fun (x21 : Nat × Int) e w => ∃ (s : St) (e0 : Env) (ux21_0 : Value), w = s.w ∧ e = upd (upd (upd e0 0 (.int .u64 a0)) 6 ux21_0) 7 (iI x21.2) ∧ Kp s0 s ∧ FL ux21_0 x21.1) ⟨s17, _, ux16_0, rfl, (ue (ue (ue rfl rfl) rfl) rfl), Kx16, Fx16_0⟩ (fun g21 ih21 => ?_))))
  rintro x21 _ _ ⟨s22, _, ux21_0, rfl, rfl, Kx21, Fx21_0⟩
  unfold spec_FloatOf.b1
  refine sq (sr (Xc rfl (Xc rfl (dn (cd rfl (fun h23 => ?_) (fun h23 => ?_))))))
  ·
   refine sk (sq (bl (rg (Yc ux21_0 rfl (fa_ Fx21_0 (Yf rfl) (by simp) rfl rfl rfl rfl rfl rfl rfl (fun v24 s24 p24 A24 => ?_))))))
   refine Yh v24 rfl (dn (ib (rg (Xc rfl (Xc rfl (Xc rfl (dn ?_)))))))
   exact lb ih21 ⟨s24, _, v24, rfl, (ue (ue (ue rfl rfl) rfl) rfl), (Kx21.st p24 rfl), A24⟩
  exact xt rfl (sgb (Kj3 _ _ _ ⟨s22, _, ux21_0, rfl, (ue (ue rfl rfl) rfl), Kx21, Fx21_0⟩))
 rintro y3 _ _ ⟨s26, _, uy3_0, rfl, rfl, Ky3, Fy3_0⟩
 refine sq (sr (Xc rfl (shrK rfl rfl rfl rfl rfl rfl rfl rfl (Xc rfl (dn (cd rfl (fun h27 => ?_) (fun h27 => ?_)))))))
 ·
  refine sr (Yc uy3_0 rfl (fng_ Fy3_0 rfl rfl rfl rfl rfl rfl (fun v28 A28 => ?_)))
  exact Yh v28 rfl (dn (re rfl func231 rfl (Xu rfl Xe) rfl ⟨_, rfl, A28, z.ky Ky3⟩))
 exact sk (sr (Yc uy3_0 rfl (Yh uy3_0 rfl (dn (re rfl func231 rfl (Xu rfl Xe) rfl ⟨_, rfl, Fy3_0, z.ky Ky3⟩)))))
def spec_l2float.f (a0 : l1Cur) : Option (Nat × l1Cur) :=
 ((spec_l2bits.f a0).bind fun r3 => ((spec_FloatOf.f r3.1).bind fun r6 => (some (r6, (l1Cur.mk a0.b r3.2.i r3.2.h)))))
def spec_l2float.Q (w : World) (F : Nat → Prop) (p0 : Nat) (w0_0 : Value) (r : Nat × l1Cur) (v : Value) (w' : World) : Prop :=
 FL v r.1 ∧ BlW w' p0 184 [w0_0, (iI r.2.i), (iI r.2.h)] ∧ Ky [p0] w w'
theorem spec_l2float.calls (a0 : l1Cur) (w : World) (F : Nat → Prop) (p0 : Nat) (w0_0 : Value) (h0_0 : Yr.rd w [w0_0] a0.b F) (hb0 : BlW w p0 184 [w0_0, (iI a0.i), (iI a0.h)]) (hF : ∀ b, F b → b ∉ [p0]) (r : Nat × l1Cur) (m : spec_l2float.f a0 = some r) :
  Calls prog 164 #[(pB p0)] w (RT (spec_l2float.Q w F p0 w0_0) r) := by
 obtain ⟨s0, rfl, kp0, z⟩ := start1 w F [p0] hF
 have B0 := z.bl hb0 (by simp)
 refine Xd (args := [(pB p0)]) func164 ntmps164 rfl m ?_
 unfold spec_l2float.f
 refine sr (Yh (.float .f64 0) rfl (dn (sr (Xc rfl (clB B0 rfl func232 rfl (spec_l2bits.calls a0 s0.w (mm [0] s0) p0 w0_0 (z.rd h0_0) B0.w (B0.apart rfl)) (fun r3 s4 p4 B4 => ?_))))))
 refine cl' rfl func231 rfl (spec_FloatOf.calls r3.1 s4.w (mm [] s4)) ?_
 rintro r6 v6_0 w6 m6 ⟨f6_0, ky6⟩
 obtain ⟨s7, rfl, p7, n7⟩ := nwx s4 w6 41 ky6
 refine Yh v6_0 rfl (dn ?_)
 exact re rfl func164 rfl (Xu rfl Xe) rfl ⟨_, rfl, f6_0, (BlF.w (B4.st p7 rfl)), z.ky (kp0.st (Xn p4 p7) rfl)⟩
def spec_l1some.b0 (a0 : l1Cur) (r3 : Int × l1Cur) (x6 : (List Int) × Int × Int × Int) : Option (((List Int) × Int × Int × Int) ⊕ ((List Int) × l1Cur)) :=
 (if (decide (x6.2.1 < r3.1)) = true then ((spec_l1Byte.f (l1Cur.mk a0.b x6.2.2.1 x6.2.2.2)).bind fun r13 => (if x6.1.length + ([(IntKind.wrap .u8 r13.1)]).length ≤ Lim then (some (Sum.inl ((x6.1 ++ [(IntKind.wrap .u8 r13.1)]), (IntKind.wrap .i64 (x6.2.1 + (1 : Int))), r13.2.i, r13.2.h))) else none)) else ((some (x6.1, (l1Cur.mk a0.b x6.2.2.1 x6.2.2.2))).bind fun o => some (Sum.inr o)))
def spec_l1some.f (a0 : l1Cur) (a1 : Int) : Option ((List Int) × l1Cur) :=
 ((spec_l1Below.f a0 (IntKind.wrap .i64 (a1 + (1 : Int)))).bind fun r3 => (iter (spec_l1some.b0 a0 r3) (([] : (List Int)), (0 : Int), r3.2.i, r3.2.h)))
def spec_l1some.Q (w : World) (F : Nat → Prop) (p0 : Nat) (w0_0 : Value) (r : (List Int) × l1Cur) (v : Value) (w' : World) : Prop :=
 FO Yr w w' [v] r.1 ∧ BlW w' p0 184 [w0_0, (iI r.2.i), (iI r.2.h)] ∧ Ky [p0] w w'
theorem spec_l1some.calls (a0 : l1Cur) (a1 : Int) (w : World) (F : Nat → Prop) (p0 : Nat) (w0_0 : Value) (h0_0 : Yr.rd w [w0_0] a0.b F) (hb0 : BlW w p0 184 [w0_0, (iI a0.i), (iI a0.h)]) (hF : ∀ b, F b → b ∉ [p0]) (r : (List Int) × l1Cur) (m : spec_l1some.f a0 a1 = some r) :
  Calls prog 165 #[(pB p0), (iI a1)] w (RT (spec_l1some.Q w F p0 w0_0) r) := by
 obtain ⟨s0, rfl, kp0, z⟩ := start1 w F [p0] hF
 have A0_0 := z.rd h0_0
 have B0 := z.bl hb0 (by simp)
 refine Xd (args := [(pB p0), (iI a1)]) func165 ntmps165 rfl m ?_
 unfold spec_l1some.f
 refine sr (Xc rfl (dn (sr (Xc rfl (dn (sr (Xc rfl (Xc rfl (Xc rfl (clB B0 rfl func74 rfl (spec_l1Below.calls a0 (IntKind.wrap .i64 (a1 + (1 : Int))) s0.w (mm [0] s0) p0 w0_0 A0_0 B0.w (B0.apart rfl)) (fun r3 s4 p4 B4 => ?_)))))))))))
 refine Xc rfl (dn (sq (sr (Xc rfl (dn (bl ?_))))))
 refine lpI (fun (x6 : (List Int) × Int × Int × Int) e w => ∃ (s : St) (e0 : Env) (vx6_0 : Value), w = s.w ∧ e = upd (upd (upd (upd e0 0 (pB p0)) 5 vx6_0) 6 (iI r3.1)) 7 (iI x6.2.1) ∧ Kp s0 s ∧ OwF Yr s [vx6_0] x6.1 42 ∧ BlF s p0 184 [w0_0, (iI x6.2.2.1), (iI x6.2.2.2)] 2) ⟨s4, _, (.slice none 0 0), rfl, (ue (ue (ue (ue rfl rfl) rfl) rfl) rfl), (kp0.st p4 rfl), (Ym 5 (Kd.int .u8) _ 42), B4⟩ (fun g6 ih6 => ?_)
 rintro x6 _ _ ⟨s8, _, vx6_0, rfl, rfl, Kx6, Ax6_0, Bx6_p0⟩
 unfold spec_l1some.b0
 refine sq (sr (Xc rfl (Xc rfl (Xc rfl (dn (cd rfl (fun h11 => ?_) (fun h11 => ?_)))))))
 ·
  refine sk (sq (bl (rg (Yc vx6_0 rfl (Xc rfl ?_)))))
  refine clB Bx6_p0 rfl func163 rfl (spec_l1Byte.calls (l1Cur.mk a0.b x6.2.2.1 x6.2.2.2) s8.w (mm [0] s8) p0 w0_0 (A0_0.kp Kx6) Bx6_p0.w (Bx6_p0.apart rfl)) (fun r13 s14 p14 B14 => ?_)
  refine cv' u5 u3 rfl (ltF' (K := (Kd.int .u8)) (cells := [(.int .u8 (IntKind.wrap .u8 r13.1))]) [(IntKind.wrap .u8 r13.1)] 44 Xv u22 z5 o5 (fun w => (Yd _ _ _)) rfl (fun v16 s16 p16 A16 => ?_))
  refine apF' Xv sl22 (Ax6_0.st (Xn p14 p16) rfl) A16.rd rfl (fun v19 s19 p19 A19 => ?_)
  refine Yh v19 rfl (dn (ib (rg (Xc rfl (Xc rfl (Xc rfl (dn ?_)))))))
  exact lb ih6 ⟨s19, _, v19, rfl, (ue (ue (ue (ue rfl rfl) rfl) rfl) rfl), (Kx6.st (Yi p14 p16 p19) rfl), A19, (B14.st (Xn p16 p19) rfl)⟩
 exact xt rfl (sgb (sr (Yc vx6_0 rfl (Yh vx6_0 rfl (dn (re rfl func165 rfl (Xu rfl Xe) rfl ⟨_, rfl, Ax6_0.fo Kx6 rfl z.l, Bx6_p0.w, z.ky Kx6⟩))))))
def spec_l3key.f (a0 : l1Cur) : Option (Item × l1Cur) :=
 ((spec_l1Below.f a0 (6 : Int)).bind fun r7 => (if (r7.1 == (0 : Int)) = true then ((spec_l1Below.f (l1Cur.mk a0.b r7.2.i r7.2.h) (3 : Int)).bind fun r14 => (some ((Item.mk (3 : Int) (0 : Int) (0 : Nat) ([(IntKind.wrap .u8 (IntKind.wrap .i64 ((97 : Int) + r14.1)))])), (l1Cur.mk a0.b r14.2.i r14.2.h)))) else (if (r7.1 == (1 : Int)) = true then ((spec_l1Below.f (l1Cur.mk a0.b r7.2.i r7.2.h) (5 : Int)).bind fun r30 => ((spec_ItemClean.f (Item.mk (2 : Int) (0 : Int) (far .quo (FloatKind.f64.nearest (IntKind.wrap .i64 (r30.1 - (2 : Int)))) (4611686018427387904 : Nat)) ([] : (List Int)))).bind fun r35 => (some (r35, (l1Cur.mk a0.b r30.2.i r30.2.h))))) else ((if (r7.1 == (2 : Int)) = true then ((spec_l1Once.f (l1Cur.mk a0.b r7.2.i r7.2.h) (3 : Int)).bind fun r50 => (if r50.1 = true then ((spec_l2float.f (l1Cur.mk a0.b r50.2.i r50.2.h)).bind fun r56 => ((spec_ItemClean.f (Item.mk (2 : Int) (0 : Int) r56.1 ([] : (List Int)))).bind fun r59 => (some (Sum.inr (r59, (l1Cur.mk a0.b r56.2.i r56.2.h)))))) else (some (Sum.inl (r50.2.i, r50.2.h))))) else ((if (r7.1 == (3 : Int)) = true then ((spec_l1Once.f (l1Cur.mk a0.b r7.2.i r7.2.h) (4 : Int)).bind fun r76 => (if r76.1 = true then ((spec_l1some.f (l1Cur.mk a0.b r76.2.i r76.2.h) (40 : Int)).bind fun r82 => (some (Sum.inr (Sum.inr ((Item.mk (3 : Int) (0 : Int) (0 : Nat) r82.1), (l1Cur.mk a0.b r82.2.i r82.2.h)))))) else (some (Sum.inl (r76.2.i, r76.2.h))))) else (some (Sum.inl (r7.2.i, r7.2.h)))).bind (sel fun y72 => (some (Sum.inl (y72.1, y72.2)))))).bind (sel fun y46 => ((spec_l1Below.f (l1Cur.mk a0.b y46.1 y46.2) (6 : Int)).bind fun r105 => (some ((Item.mk (1 : Int) (IntKind.wrap .i64 (r105.1 - (1 : Int))) (0 : Nat) ([] : (List Int))), (l1Cur.mk a0.b r105.2.i r105.2.h)))))))))
def spec_l3key.Q (w : World) (F : Nat → Prop) (p0 : Nat) (w0_0 : Value) (r : Item × l1Cur) (v : Value) (w' : World) : Prop :=
 ∃ (v0 : Value) (v1 : Value), v = (.agg #[(iI r.1.Kind), (iI r.1.N), v0, v1]) ∧ FO kd29 w w' [(iI r.1.Kind), (iI r.1.N), v0, v1] r.1 ∧ BlW w' p0 184 [w0_0, (iI r.2.i), (iI r.2.h)] ∧ Ky [p0] w w'
theorem spec_l3key.calls (a0 : l1Cur) (w : World) (F : Nat → Prop) (p0 : Nat) (w0_0 : Value) (h0_0 : Yr.rd w [w0_0] a0.b F) (hb0 : BlW w p0 184 [w0_0, (iI a0.i), (iI a0.h)]) (hF : ∀ b, F b → b ∉ [p0]) (r : Item × l1Cur) (m : spec_l3key.f a0 = some r) :
  Calls prog 98 #[(pB p0)] w (RT (spec_l3key.Q w F p0 w0_0) r) := by
 obtain ⟨s0, rfl, kp0, z⟩ := start1 w F [p0] hF
 have A0_0 := z.rd h0_0
 refine Xd (args := [(pB p0)]) func98 ntmps98 rfl m ?_
 unfold spec_l3key.f
 refine sr (al' (cs := [(iI 0), (iI 0), (.float .f64 0), (.slice none 0 0)]) 40 rfl o29 rfl (fun b3 s3 p3 B3 => ?_))
 refine dn (sq (sr (Xc rfl ?_)))
 have K5 := kp0.st p3 rfl
 have A8 := BlF.st (z.bl hb0 (by simp)) p3 rfl
 refine clB A8 rfl func74 rfl (spec_l1Below.calls a0 (6 : Int) s3.w (mm [0] s3) p0 w0_0 (A0_0.kp K5) A8.w (A8.apart rfl)) (fun r7 s9 p9 B9 => ?_)
 refine dn (bl (sr (Xc rfl (Xc rfl (dn (cd rfl (fun h11 => ?_) (fun h11 => ?_)))))))
 ·
  refine sr (Xc rfl ?_)
  have K12 := K5.st p9 rfl
  refine clB B9 rfl func74 rfl (spec_l1Below.calls (l1Cur.mk a0.b r7.2.i r7.2.h) (3 : Int) s9.w (mm [0] s9) p0 w0_0 (A0_0.kp K12) B9.w (B9.apart rfl)) (fun r14 s15 p15 B15 => ?_)
  refine Xc rfl (cv' u5 u3 rfl (ltF' (K := (Kd.int .u8)) (cells := [(.int .u8 (IntKind.wrap .u8 (IntKind.wrap .i64 ((97 : Int) + r14.1))))]) [(IntKind.wrap .u8 (IntKind.wrap .i64 ((97 : Int) + r14.1)))] 43 Xv u22 z5 o5 (fun w => (Yd _ _ _)) rfl (fun v17 s17 p17 A17 => ?_)))
  refine bd' (cells := [(iI 3), (iI 0), (.float .f64 0), v17]) pl29 o29 rfl (lfill_pc (pc_c rfl (pc_c (oc A17.rd.one) pc_n)) rfl) (Xx (vs := [(iI 3), (iI 0), (.float .f64 0), v17]) (B3.st (Yi p9 p15 p17) rfl) z29 rfl (Xb rfl (Xb rfl (Xb (FL.one (Yf rfl)) (Xb A17.rd.one Xj)))) rfl (fun s20 p20 B20 => ?_))
  refine dn ?_
  have A22 : OwF kd29 s20 [(iI 3), (iI 0), (.float .f64 0), v17] (Item.mk (3 : Int) (0 : Int) (0 : Nat) ([(IntKind.wrap .u8 (IntKind.wrap .i64 ((97 : Int) + r14.1)))])) 43 := (Xs (fun x : Item => (x.Kind, x.N, x.F, x.T)) (Item.mk (3 : Int) (0 : Int) (0 : Nat) ([(IntKind.wrap .u8 (IntKind.wrap .i64 ((97 : Int) + r14.1)))])) (Xy (Xf .i64 (3 : Int)) (Xy (Xf .i64 (0 : Int)) (Xy (Xz (Yf rfl)) (A17.st p20 rfl)))))
  have K25 := K12.st (Yi p15 p17 p20) rfl
  exact re rfl func98 rfl (r_b B20 u29 rfl z29 rfl Xe) rfl ⟨_, rfl, (.float .f64 0), v17, rfl, A22.fo K25 rfl z.l, (BlF.w (B15.st (Xn p17 p20) rfl)), z.ky K25⟩
 refine sr (Xc rfl (Xc rfl (dn (cd rfl (fun h27 => ?_) (fun h27 => ?_)))))
 ·
  refine sr (Xc rfl ?_)
  have K28 := K5.st p9 rfl
  refine clB B9 rfl func74 rfl (spec_l1Below.calls (l1Cur.mk a0.b r7.2.i r7.2.h) (5 : Int) s9.w (mm [0] s9) p0 w0_0 (A0_0.kp K28) B9.w (B9.apart rfl)) (fun r30 s31 p31 B31 => ?_)
  refine Xc rfl (i2f u27 u3 rfl rfl rfl rfl rfl rfl (fun v33 A33 => ?_))
  refine fa_ A33 (Yf rfl) (by simp) rfl rfl rfl rfl rfl rfl rfl (fun v34 s34 p34 A34 => ?_)
  refine bd' (cells := [(iI 2), (iI 0), v34, (.slice none 0 0)]) pl29 o29 rfl (lfill_pc (pc_c rfl (pc_c (oc (FL.one A34)) pc_n)) rfl) (cl' rfl func189 rfl (spec_ItemClean.calls (Item.mk (2 : Int) (0 : Int) (far .quo (FloatKind.f64.nearest (IntKind.wrap .i64 (r30.1 - (2 : Int)))) (4611686018427387904 : Nat)) ([] : (List Int))) s34.w (mm [] s34) v34 (.slice none 0 0) (Xq (s := s34) A34) (rd_nil 5 (Kd.int .u8) s34 [])) ?_)
  rintro r35 _ w35 m35 ⟨v35_0, v35_1, rfl, f35_0, ky35⟩
  obtain ⟨s36, rfl, p36, n36⟩ := nwx s34 w35 45 ky35
  obtain ⟨hu35_0_0, Au35_0_1⟩ := ap29 (f35_0.c n36)
  refine Xx (vs := [(iI r35.Kind), (iI r35.N), v35_0, v35_1]) (B3.st (Yo p9 p31 p34 p36) rfl) z29 rfl (Xb rfl (Xb rfl (Xb (FL.one hu35_0_0) (Xb Au35_0_1.rd.one Xj)))) rfl (fun s39 p39 B39 => ?_)
  refine dn ?_
  have A41 : OwF kd29 s39 [(iI r35.Kind), (iI r35.N), v35_0, v35_1] r35 45 := (Xs (fun x : Item => (x.Kind, x.N, x.F, x.T)) r35 (Xy (Xf .i64 r35.Kind) (Xy (Xf .i64 r35.N) (Xy (Xz hu35_0_0) (Au35_0_1.st p39 rfl)))))
  have K44 := K28.st (Yo p31 p34 p36 p39) rfl
  exact re rfl func98 rfl (r_b B39 u29 rfl z29 rfl Xe) rfl ⟨_, rfl, v35_0, v35_1, rfl, A41.fo K44 rfl z.l, (BlF.w (B31.st (Yi p34 p36 p39) rfl)), z.ky K44⟩
 refine sr (Xc rfl (Xc rfl (dn (jr (fun (y46 : Int × Int) e w => ∃ (s : St) (e0 : Env), w = s.w ∧ e = upd (upd e0 0 (pB p0)) 2 (pB b3) ∧ Kp s0 s ∧ BlF s p0 184 [w0_0, (iI y46.1), (iI y46.2)] 2 ∧ BlF s b3 29 [(iI 0), (iI 0), (.float .f64 0), (.slice none 0 0)] 40) (fun Gj46 Kj46 hG46 => ?_) ?_))))
 ·
  refine cd rfl (fun h47 => ?_) (fun h47 => ?_)
  ·
   refine sr (Xc rfl ?_)
   have K48 := K5.st p9 rfl
   refine clB B9 rfl func72 rfl (spec_l1Once.calls (l1Cur.mk a0.b r7.2.i r7.2.h) (3 : Int) s9.w (mm [0] s9) p0 w0_0 (A0_0.kp K48) B9.w (B9.apart rfl)) (fun r50 s51 p51 B51 => ?_)
   refine dn (cd rfl (fun h53 => ?_) (fun h53 => ?_))
   ·
    refine sr (Xc rfl ?_)
    have K54 := K48.st p51 rfl
    refine cl' rfl func164 rfl (spec_l2float.calls (l1Cur.mk a0.b r50.2.i r50.2.h) s51.w (mm [0] s51) p0 w0_0 (A0_0.kp K54) B51.w (B51.apart rfl)) ?_
    rintro r56 v56_0 w56 m56 ⟨f56_0, bw56, ky56⟩
    obtain ⟨s57, rfl, p57, n57, g57⟩ := nwb 47 B51 ky56
    refine bd' (cells := [(iI 2), (iI 0), v56_0, (.slice none 0 0)]) pl29 o29 rfl (lfill_pc (pc_c rfl (pc_c (oc (FL.one f56_0)) pc_n)) rfl) (cl' rfl func189 rfl (spec_ItemClean.calls (Item.mk (2 : Int) (0 : Int) r56.1 ([] : (List Int))) s57.w (mm [] s57) v56_0 (.slice none 0 0) (Xq (s := s57) f56_0) (rd_nil 5 (Kd.int .u8) s57 [])) ?_)
    rintro r59 _ w59 m59 ⟨v59_0, v59_1, rfl, f59_0, ky59⟩
    obtain ⟨s60, rfl, p60, n60⟩ := nwx s57 w59 48 ky59
    obtain ⟨hu59_0_0, Au59_0_1⟩ := ap29 (f59_0.c n60)
    refine Xx (vs := [(iI r59.Kind), (iI r59.N), v59_0, v59_1]) (B3.st (Yo p9 p51 p57 p60) rfl) z29 rfl (Xb rfl (Xb rfl (Xb (FL.one hu59_0_0) (Xb Au59_0_1.rd.one Xj)))) rfl (fun s63 p63 B63 => ?_)
    refine dn (jri hG46 ?_)
    have A65 : OwF kd29 s63 [(iI r59.Kind), (iI r59.N), v59_0, v59_1] r59 48 := (Xs (fun x : Item => (x.Kind, x.N, x.F, x.T)) r59 (Xy (Xf .i64 r59.Kind) (Xy (Xf .i64 r59.N) (Xy (Xz hu59_0_0) (Au59_0_1.st p63 rfl)))))
    have K68 := K54.st (Yi p57 p60 p63) rfl
    exact re rfl func98 rfl (r_b B63 u29 rfl z29 rfl Xe) rfl ⟨_, rfl, v59_0, v59_1, rfl, A65.fo K68 rfl z.l, (BlF.w (BlF.st (blf_mk bw56 g57) (Xn p60 p63) rfl)), z.ky K68⟩
   exact sk (Kj46 _ _ _ ⟨s51, _, rfl, (ue (ue rfl rfl) rfl), (K48.st p51 rfl), B51, (B3.st (Xn p9 p51) rfl)⟩)
  refine sr (Xc rfl (Xc rfl (dn (jr (fun (y72 : Int × Int) e w => ∃ (s : St) (e0 : Env), w = s.w ∧ e = upd (upd e0 0 (pB p0)) 2 (pB b3) ∧ Kp s0 s ∧ BlF s p0 184 [w0_0, (iI y72.1), (iI y72.2)] 2 ∧ BlF s b3 29 [(iI 0), (iI 0), (.float .f64 0), (.slice none 0 0)] 40) (fun Gj72 Kj72 hG72 => ?_) ?_))))
  ·
   refine cd rfl (fun h73 => ?_) (fun h73 => ?_)
   ·
    refine sr (Xc rfl ?_)
    have K74 := K5.st p9 rfl
    refine clB B9 rfl func72 rfl (spec_l1Once.calls (l1Cur.mk a0.b r7.2.i r7.2.h) (4 : Int) s9.w (mm [0] s9) p0 w0_0 (A0_0.kp K74) B9.w (B9.apart rfl)) (fun r76 s77 p77 B77 => ?_)
    refine dn (cd rfl (fun h79 => ?_) (fun h79 => ?_))
    ·
     refine sr (Xc rfl ?_)
     have K80 := K74.st p77 rfl
     refine cl' rfl func165 rfl (spec_l1some.calls (l1Cur.mk a0.b r76.2.i r76.2.h) (40 : Int) s77.w (mm [0] s77) p0 w0_0 (A0_0.kp K80) B77.w (B77.apart rfl)) ?_
     rintro r82 v82_0 w82 m82 ⟨f82_0, bw82, ky82⟩
     obtain ⟨s83, rfl, p83, n83, g83⟩ := nwb 50 B77 ky82
     have A82_0 := f82_0.c n83
     refine bd' (cells := [(iI 3), (iI 0), (.float .f64 0), v82_0]) pl29 o29 rfl (lfill_pc (pc_c rfl (pc_c (oc A82_0.rd.one) pc_n)) rfl) (Xx (vs := [(iI 3), (iI 0), (.float .f64 0), v82_0]) (B3.st (Yi p9 p77 p83) rfl) z29 rfl (Xb rfl (Xb rfl (Xb (FL.one (Yf rfl)) (Xb A82_0.rd.one Xj)))) rfl (fun s87 p87 B87 => ?_))
     refine dn (jri hG72 (jri hG46 ?_))
     have A89 : OwF kd29 s87 [(iI 3), (iI 0), (.float .f64 0), v82_0] (Item.mk (3 : Int) (0 : Int) (0 : Nat) r82.1) 50 := (Xs (fun x : Item => (x.Kind, x.N, x.F, x.T)) (Item.mk (3 : Int) (0 : Int) (0 : Nat) r82.1) (Xy (Xf .i64 (3 : Int)) (Xy (Xf .i64 (0 : Int)) (Xy (Xz (Yf rfl)) (A82_0.st p87 rfl)))))
     have K92 := K80.st (Xn p83 p87) rfl
     exact re rfl func98 rfl (r_b B87 u29 rfl z29 rfl Xe) rfl ⟨_, rfl, (.float .f64 0), v82_0, rfl, A89.fo K92 rfl z.l, (BlF.w (BlF.st (blf_mk bw82 g83) p87 rfl)), z.ky K92⟩
    exact sk (Kj72 _ _ _ ⟨s77, _, rfl, (ue (ue rfl rfl) rfl), (K74.st p77 rfl), B77, (B3.st (Xn p9 p77) rfl)⟩)
   exact sk (Kj72 _ _ _ ⟨s9, _, rfl, (ue (ue rfl rfl) rfl), (K5.st p9 rfl), B9, (B3.st p9 rfl)⟩)
  rintro y72 _ _ ⟨s98, _, rfl, rfl, Ky72, By72_p0, By72_b3⟩
  exact Kj46 _ _ _ ⟨s98, _, rfl, (ue (ue rfl rfl) rfl), Ky72, By72_p0, By72_b3⟩
 rintro y46 _ _ ⟨s101, _, rfl, rfl, Ky46, By46_p0, By46_b3⟩
 refine ib (sr (Xc rfl ?_))
 refine clB By46_p0 rfl func74 rfl (spec_l1Below.calls (l1Cur.mk a0.b y46.1 y46.2) (6 : Int) s101.w (mm [0] s101) p0 w0_0 (A0_0.kp Ky46) By46_p0.w (By46_p0.apart rfl)) (fun r105 s106 p106 B106 => ?_)
 refine Xc rfl (bd' (cells := [(iI 1), (iI (IntKind.wrap .i64 (r105.1 - (1 : Int)))), (.float .f64 0), (.slice none 0 0)]) pl29 o29 rfl rfl ?_)
 refine Xx (vs := [(iI 1), (iI (IntKind.wrap .i64 (r105.1 - (1 : Int)))), (.float .f64 0), (.slice none 0 0)]) (By46_b3.st p106 rfl) z29 rfl (Xb rfl (Xb rfl (Xb (FL.one (Yf rfl)) (Xb rfl Xj)))) rfl (fun s109 p109 B109 => ?_)
 refine dn ?_
 have A111 : OwF kd29 s109 [(iI 1), (iI (IntKind.wrap .i64 (r105.1 - (1 : Int)))), (.float .f64 0), (.slice none 0 0)] (Item.mk (1 : Int) (IntKind.wrap .i64 (r105.1 - (1 : Int))) (0 : Nat) ([] : (List Int))) 52 := ow_z _ _ (Yj (fun x : Item => (x.Kind, x.N, x.F, x.T)) (Item.mk (1 : Int) (IntKind.wrap .i64 (r105.1 - (1 : Int))) (0 : Nat) ([] : (List Int))) (Xi (Xf .i64 (1 : Int)) (Xi (Xf .i64 (IntKind.wrap .i64 (r105.1 - (1 : Int)))) (Xi (Xz (Yf rfl)) (Yk 5 (Kd.int .u8))))))
 have K113 := Ky46.st (Xn p106 p109) rfl
 exact re rfl func98 rfl (r_b B109 u29 rfl z29 rfl Xe) rfl ⟨_, rfl, (.float .f64 0), (.slice none 0 0), rfl, A111.fo K113 rfl z.l, (BlF.w (B106.st p109 rfl)), z.ky K113⟩
def spec_l1number.b0 (a0 : l1Cur) (x11 : Int × Int × Int × Int) : Option ((Int × Int × Int × Int) ⊕ (Int × l1Cur)) :=
 (if (decide (x11.2.1 > (0 : Int))) = true then ((spec_l1Byte.f (l1Cur.mk a0.b x11.2.2.1 x11.2.2.2)).bind fun r17 => (some (Sum.inl ((IntKind.wrap .i64 ((IntKind.wrap .i64 (x11.1 * (256 : Int))) + r17.1)), (IntKind.wrap .i64 (x11.2.1 - (1 : Int))), r17.2.i, r17.2.h)))) else (((spec_l1Below.f (l1Cur.mk a0.b x11.2.2.1 x11.2.2.2) (12 : Int)).bind fun r22 => (if (r22.1 == (0 : Int)) = true then (some ((IntKind.wrap .i64 (0 - x11.1)), (l1Cur.mk a0.b r22.2.i r22.2.h))) else (if (r22.1 == (1 : Int)) = true then ((spec_l1Below.f (l1Cur.mk a0.b r22.2.i r22.2.h) (7 : Int)).bind fun r34 => (if 0 ≤ (IntKind.wrap .i64 ((8 : Int) * (IntKind.wrap .i64 ((1 : Int) + r34.1)))) then ((spec_l1Below.f (l1Cur.mk a0.b r34.2.i r34.2.h) (2 : Int)).bind fun r46 => (some ((IntKind.wrap .i64 ((ishl .i64 (1 : Int) (IntKind.wrap .i64 ((8 : Int) * (IntKind.wrap .i64 ((1 : Int) + r34.1))))) - r46.1)), (l1Cur.mk a0.b r46.2.i r46.2.h)))) else none)) else (if (r22.1 == (2 : Int)) = true then (some ((9223372036854775807 : Int), (l1Cur.mk a0.b r22.2.i r22.2.h))) else (if (r22.1 == (3 : Int)) = true then (some ((-9223372036854775808 : Int), (l1Cur.mk a0.b r22.2.i r22.2.h))) else (some (x11.1, (l1Cur.mk a0.b r22.2.i r22.2.h)))))))).bind fun o => some (Sum.inr o)))
def spec_l1number.f (a0 : l1Cur) : Option (Int × l1Cur) :=
 ((spec_l1Below.f a0 (1000 : Int)).bind fun r3 => ((spec_l1Below.f (l1Cur.mk a0.b r3.2.i r3.2.h) (6 : Int)).bind fun r8 => (iter (spec_l1number.b0 a0) (r3.1, r8.1, r8.2.i, r8.2.h))))
def spec_l1number.Q (w : World) (F : Nat → Prop) (p0 : Nat) (w0_0 : Value) (r : Int × l1Cur) (v : Value) (w' : World) : Prop :=
 v = (iI r.1) ∧ BlW w' p0 184 [w0_0, (iI r.2.i), (iI r.2.h)] ∧ Ky [p0] w w'
theorem spec_l1number.calls (a0 : l1Cur) (w : World) (F : Nat → Prop) (p0 : Nat) (w0_0 : Value) (h0_0 : Yr.rd w [w0_0] a0.b F) (hb0 : BlW w p0 184 [w0_0, (iI a0.i), (iI a0.h)]) (hF : ∀ b, F b → b ∉ [p0]) (r : Int × l1Cur) (m : spec_l1number.f a0 = some r) :
  Calls prog 230 #[(pB p0)] w (RT (spec_l1number.Q w F p0 w0_0) r) := by
 obtain ⟨s0, rfl, kp0, z⟩ := start1 w F [p0] hF
 have A0_0 := z.rd h0_0
 have B0 := z.bl hb0 (by simp)
 refine Xd (args := [(pB p0)]) func230 ntmps230 rfl m ?_
 unfold spec_l1number.f
 refine sr (Xc rfl (dn (sr (Xc rfl (clB B0 rfl func74 rfl (spec_l1Below.calls a0 (1000 : Int) s0.w (mm [0] s0) p0 w0_0 A0_0 B0.w (B0.apart rfl)) (fun r3 s4 p4 B4 => ?_))))))
 refine Xc rfl (dn (sq (sr (Xc rfl ?_))))
 have K6 := kp0.st p4 rfl
 refine clB B4 rfl func74 rfl (spec_l1Below.calls (l1Cur.mk a0.b r3.2.i r3.2.h) (6 : Int) s4.w (mm [0] s4) p0 w0_0 (A0_0.kp K6) B4.w (B4.apart rfl)) (fun r8 s9 p9 B9 => ?_)
 refine Xc rfl (dn (bl ?_))
 refine lpI (fun (x11 : Int × Int × Int × Int) e w => ∃ (s : St) (e0 : Env), w = s.w ∧ e = upd (upd (upd e0 0 (pB p0)) 3 (iI x11.1)) 4 (iI x11.2.1) ∧ Kp s0 s ∧ BlF s p0 184 [w0_0, (iI x11.2.2.1), (iI x11.2.2.2)] 2) ⟨s9, _, rfl, (ue (ue (ue rfl rfl) rfl) rfl), (K6.st p9 rfl), B9⟩ (fun g11 ih11 => ?_)
 rintro x11 _ _ ⟨s13, _, rfl, rfl, Kx11, Bx11_p0⟩
 unfold spec_l1number.b0
 refine sq (sr (Xc rfl (Xc rfl (dn (cd rfl (fun h15 => ?_) (fun h15 => ?_))))))
 ·
  refine sk (sq (bl (rg (Xc rfl (Xc rfl (Xc rfl ?_))))))
  refine clB Bx11_p0 rfl func163 rfl (spec_l1Byte.calls (l1Cur.mk a0.b x11.2.2.1 x11.2.2.2) s13.w (mm [0] s13) p0 w0_0 (A0_0.kp Kx11) Bx11_p0.w (Bx11_p0.apart rfl)) (fun r17 s18 p18 B18 => ?_)
  refine Xc rfl (Xc rfl (dn (ib (rg (Xc rfl (Xc rfl (Xc rfl (dn ?_))))))))
  exact lb ih11 ⟨s18, _, rfl, (ue (ue (ue rfl rfl) rfl) rfl), (Kx11.st p18 rfl), B18⟩
 refine xt rfl (sgb (sq (sr (Xc rfl ?_))))
 refine clB Bx11_p0 rfl func74 rfl (spec_l1Below.calls (l1Cur.mk a0.b x11.2.2.1 x11.2.2.2) (12 : Int) s13.w (mm [0] s13) p0 w0_0 (A0_0.kp Kx11) Bx11_p0.w (Bx11_p0.apart rfl)) (fun r22 s23 p23 B23 => ?_)
 refine dn (bl (sr (Xc rfl (Xc rfl (dn (cd rfl (fun h25 => ?_) (fun h25 => ?_)))))))
 ·
  refine sr (Xc rfl (Xc rfl (Xc rfl (dn ?_))))
  exact re rfl func230 rfl (Xu rfl Xe) rfl ⟨_, rfl, rfl, B23.w, z.ky (Kx11.st p23 rfl)⟩
 refine sr (Xc rfl (Xc rfl (dn (cd rfl (fun h27 => ?_) (fun h27 => ?_)))))
 ·
  refine sq (zdraw [[], [0], [1], [2], [3], [], [5, 1], [4, 6], [7, 6, 0, 1, 2, 3, 4, 5, 6, 7]] [some 26, some 27, some 28, some 29, some 30, some 31, some 32, some 33, some 2] [[0], [26], [27], [28], [29], [0], [31], [30, 32], [33]] [0, 1, 2, 3, 4, 5, 6, 7, 8] ⟨by kernel_rfl, by kernel_rfl, by kernel_rfl⟩ (by kernel_rfl) (fun s28 p28 l28 tb28 zd28 => ?_))
  refine Xt 1 [some 31] tb28 ((zd28.add 0 26 (pB p0) rfl).add 5 31 (pB p0) rfl) (Xa (Xh rfl) rfl (Xa (Xh rfl) rfl Xg)) (by kernel_rfl) rfl (fun l31 e31 zd31 => ?_)
  have K32 := Kx11.st (Xn p23 p28) rfl
  have A35 := B23.st p28 rfl
  refine clB A35 rfl func74 rfl (spec_l1Below.calls (l1Cur.mk a0.b r22.2.i r22.2.h) (7 : Int) s28.w (mm [0] s28) p0 w0_0 (A0_0.kp K32) A35.w (A35.apart rfl)) (fun r34 s36 p36 B36 => ?_)
  refine Xm (L' := [5]) (D' := [0, 1]) zd31 rfl (fun zd38 => ?_)
  refine mg fun hg41 => (Xt 6 [some 30, some 29, some 28] tb28 (((zd38.add 2 28 (iI (IntKind.wrap .i64 ((1 : Int) + r34.1))) rfl).add 3 29 (iI (IntKind.wrap .i64 ((8 : Int) * (IntKind.wrap .i64 ((1 : Int) + r34.1))))) rfl).add 4 30 (iI (ishl .i64 (1 : Int) (IntKind.wrap .i64 ((8 : Int) * (IntKind.wrap .i64 ((1 : Int) + r34.1)))))) rfl) (Xa (shl__q hg41 rfl rfl rfl rfl rfl rfl rfl) rfl (Xa (Xh rfl) rfl (Xa (Xh rfl) rfl (Xa (Xh rfl) rfl Xg)))) (by kernel_rfl) rfl (fun l43 e43 zd43 => ?_))
  have K44 := K32.st p36 rfl
  refine clB B36 rfl func74 rfl (spec_l1Below.calls (l1Cur.mk a0.b r34.2.i r34.2.h) (2 : Int) s36.w (mm [0] s36) p0 w0_0 (A0_0.kp K44) B36.w (B36.apart rfl)) (fun r46 s47 p47 B47 => ?_)
  refine Xm (L' := [4, 3, 2]) (D' := [5, 6, 0, 1]) zd43 rfl (fun zd49 => ?_)
  refine Yp [7, 8] tb28 zd49 (Xa (shl__q hg41 rfl rfl rfl rfl rfl rfl rfl) rfl (Xa (Xh rfl) rfl (Xa (Xh rfl) rfl Xg))) (by kernel_rfl) (by decide) (Xc rfl (Xc rfl (dn ?_)))
  exact re rfl func230 rfl (Xu rfl Xe) rfl ⟨_, rfl, rfl, B47.w, z.ky (K44.st p47 rfl)⟩
 refine sr (Xc rfl (Xc rfl (dn (cd rfl (fun h51 => ?_) (fun h51 => ?_)))))
 ·
  refine sr (Xc rfl (dn ?_))
  exact re rfl func230 rfl (Xu rfl Xe) rfl ⟨_, rfl, rfl, B23.w, z.ky (Kx11.st p23 rfl)⟩
 refine sr (Xc rfl (Xc rfl (dn (cd rfl (fun h53 => ?_) (fun h53 => ?_)))))
 ·
  refine sr (Xc rfl (dn ?_))
  exact re rfl func230 rfl (Xu rfl Xe) rfl ⟨_, rfl, rfl, B23.w, z.ky (Kx11.st p23 rfl)⟩
 refine sk (ib (sr (Xc rfl (Xc rfl (dn ?_)))))
 exact re rfl func230 rfl (Xu rfl Xe) rfl ⟨_, rfl, rfl, B23.w, z.ky (Kx11.st p23 rfl)⟩
def spec_l3value.f (a0 : l1Cur) : Option (Item × l1Cur) :=
 ((spec_l1Below.f a0 (5 : Int)).bind fun r7 => (if (r7.1 == (0 : Int)) = true then ((spec_l1some.f (l1Cur.mk a0.b r7.2.i r7.2.h) (8 : Int)).bind fun r14 => (some ((Item.mk (3 : Int) (0 : Int) (0 : Nat) r14.1), (l1Cur.mk a0.b r14.2.i r14.2.h)))) else (if (r7.1 == (1 : Int)) = true then ((spec_l2float.f (l1Cur.mk a0.b r7.2.i r7.2.h)).bind fun r29 => (some ((Item.mk (2 : Int) (0 : Int) r29.1 ([] : (List Int))), (l1Cur.mk a0.b r29.2.i r29.2.h)))) else (if (r7.1 == (2 : Int)) = true then ((spec_l1Below.f (l1Cur.mk a0.b r7.2.i r7.2.h) (64 : Int)).bind fun r42 => (some ((Item.mk (2 : Int) (0 : Int) (far .quo (FloatKind.f64.nearest (IntKind.wrap .i64 (r42.1 - (32 : Int)))) (4616189618054758400 : Nat)) ([] : (List Int))), (l1Cur.mk a0.b r42.2.i r42.2.h)))) else ((if (r7.1 == (3 : Int)) = true then ((spec_l1Once.f (l1Cur.mk a0.b r7.2.i r7.2.h) (5 : Int)).bind fun r58 => (if r58.1 = true then ((spec_l1some.f (l1Cur.mk a0.b r58.2.i r58.2.h) (40 : Int)).bind fun r64 => (some (Sum.inr ((Item.mk (3 : Int) (0 : Int) (0 : Nat) r64.1), (l1Cur.mk a0.b r64.2.i r64.2.h))))) else (some (Sum.inl (r58.2.i, r58.2.h))))) else (some (Sum.inl (r7.2.i, r7.2.h)))).bind (sel fun y54 => ((spec_l1number.f (l1Cur.mk a0.b y54.1 y54.2)).bind fun r84 => (some ((Item.mk (1 : Int) r84.1 (0 : Nat) ([] : (List Int))), (l1Cur.mk a0.b r84.2.i r84.2.h))))))))))
def spec_l3value.Q (w : World) (F : Nat → Prop) (p0 : Nat) (w0_0 : Value) (r : Item × l1Cur) (v : Value) (w' : World) : Prop :=
 ∃ (v0 : Value) (v1 : Value), v = (.agg #[(iI r.1.Kind), (iI r.1.N), v0, v1]) ∧ FO kd29 w w' [(iI r.1.Kind), (iI r.1.N), v0, v1] r.1 ∧ BlW w' p0 184 [w0_0, (iI r.2.i), (iI r.2.h)] ∧ Ky [p0] w w'
theorem spec_l3value.calls (a0 : l1Cur) (w : World) (F : Nat → Prop) (p0 : Nat) (w0_0 : Value) (h0_0 : Yr.rd w [w0_0] a0.b F) (hb0 : BlW w p0 184 [w0_0, (iI a0.i), (iI a0.h)]) (hF : ∀ b, F b → b ∉ [p0]) (r : Item × l1Cur) (m : spec_l3value.f a0 = some r) :
  Calls prog 161 #[(pB p0)] w (RT (spec_l3value.Q w F p0 w0_0) r) := by
 obtain ⟨s0, rfl, kp0, z⟩ := start1 w F [p0] hF
 have A0_0 := z.rd h0_0
 refine Xd (args := [(pB p0)]) func161 ntmps161 rfl m ?_
 unfold spec_l3value.f
 refine sr (al' (cs := [(iI 0), (iI 0), (.float .f64 0), (.slice none 0 0)]) 40 rfl o29 rfl (fun b3 s3 p3 B3 => ?_))
 refine dn (sq (sr (Xc rfl ?_)))
 have K5 := kp0.st p3 rfl
 have A8 := BlF.st (z.bl hb0 (by simp)) p3 rfl
 refine clB A8 rfl func74 rfl (spec_l1Below.calls a0 (5 : Int) s3.w (mm [0] s3) p0 w0_0 (A0_0.kp K5) A8.w (A8.apart rfl)) (fun r7 s9 p9 B9 => ?_)
 refine dn (bl (sr (Xc rfl (Xc rfl (dn (cd rfl (fun h11 => ?_) (fun h11 => ?_)))))))
 ·
  refine sr (Xc rfl ?_)
  have K12 := K5.st p9 rfl
  refine cl' rfl func165 rfl (spec_l1some.calls (l1Cur.mk a0.b r7.2.i r7.2.h) (8 : Int) s9.w (mm [0] s9) p0 w0_0 (A0_0.kp K12) B9.w (B9.apart rfl)) ?_
  rintro r14 v14_0 w14 m14 ⟨f14_0, bw14, ky14⟩
  obtain ⟨s15, rfl, p15, n15, g15⟩ := nwb 42 B9 ky14
  have A14_0 := f14_0.c n15
  refine bd' (cells := [(iI 3), (iI 0), (.float .f64 0), v14_0]) pl29 o29 rfl (lfill_pc (pc_c rfl (pc_c (oc A14_0.rd.one) pc_n)) rfl) (Xx (vs := [(iI 3), (iI 0), (.float .f64 0), v14_0]) (B3.st (Xn p9 p15) rfl) z29 rfl (Xb rfl (Xb rfl (Xb (FL.one (Yf rfl)) (Xb A14_0.rd.one Xj)))) rfl (fun s19 p19 B19 => ?_))
  refine dn ?_
  have A21 : OwF kd29 s19 [(iI 3), (iI 0), (.float .f64 0), v14_0] (Item.mk (3 : Int) (0 : Int) (0 : Nat) r14.1) 42 := (Xs (fun x : Item => (x.Kind, x.N, x.F, x.T)) (Item.mk (3 : Int) (0 : Int) (0 : Nat) r14.1) (Xy (Xf .i64 (3 : Int)) (Xy (Xf .i64 (0 : Int)) (Xy (Xz (Yf rfl)) (A14_0.st p19 rfl)))))
  have K24 := K12.st (Xn p15 p19) rfl
  exact re rfl func161 rfl (r_b B19 u29 rfl z29 rfl Xe) rfl ⟨_, rfl, (.float .f64 0), v14_0, rfl, A21.fo K24 rfl z.l, (BlF.w (BlF.st (blf_mk bw14 g15) p19 rfl)), z.ky K24⟩
 refine sr (Xc rfl (Xc rfl (dn (cd rfl (fun h26 => ?_) (fun h26 => ?_)))))
 ·
  refine sr (Xc rfl ?_)
  have K27 := K5.st p9 rfl
  refine cl' rfl func164 rfl (spec_l2float.calls (l1Cur.mk a0.b r7.2.i r7.2.h) s9.w (mm [0] s9) p0 w0_0 (A0_0.kp K27) B9.w (B9.apart rfl)) ?_
  rintro r29 v29_0 w29 m29 ⟨f29_0, bw29, ky29⟩
  obtain ⟨s30, rfl, p30, n30, g30⟩ := nwb 43 B9 ky29
  refine bd' (cells := [(iI 2), (iI 0), v29_0, (.slice none 0 0)]) pl29 o29 rfl (lfill_pc (pc_c rfl (pc_c (oc (FL.one f29_0)) pc_n)) rfl) (Xx (vs := [(iI 2), (iI 0), v29_0, (.slice none 0 0)]) (B3.st (Xn p9 p30) rfl) z29 rfl (Xb rfl (Xb rfl (Xb (FL.one f29_0) (Xb rfl Xj)))) rfl (fun s33 p33 B33 => ?_))
  refine dn ?_
  have A35 : OwF kd29 s33 [(iI 2), (iI 0), v29_0, (.slice none 0 0)] (Item.mk (2 : Int) (0 : Int) r29.1 ([] : (List Int))) 44 := ow_z _ _ (Yj (fun x : Item => (x.Kind, x.N, x.F, x.T)) (Item.mk (2 : Int) (0 : Int) r29.1 ([] : (List Int))) (Xi (Xf .i64 (2 : Int)) (Xi (Xf .i64 (0 : Int)) (Xi (Xz f29_0) (Yk 5 (Kd.int .u8))))))
  have K37 := K27.st (Xn p30 p33) rfl
  exact re rfl func161 rfl (r_b B33 u29 rfl z29 rfl Xe) rfl ⟨_, rfl, v29_0, (.slice none 0 0), rfl, A35.fo K37 rfl z.l, (BlF.w (BlF.st (blf_mk bw29 g30) p33 rfl)), z.ky K37⟩
 refine sr (Xc rfl (Xc rfl (dn (cd rfl (fun h39 => ?_) (fun h39 => ?_)))))
 ·
  refine sr (Xc rfl ?_)
  have K40 := K5.st p9 rfl
  refine clB B9 rfl func74 rfl (spec_l1Below.calls (l1Cur.mk a0.b r7.2.i r7.2.h) (64 : Int) s9.w (mm [0] s9) p0 w0_0 (A0_0.kp K40) B9.w (B9.apart rfl)) (fun r42 s43 p43 B43 => ?_)
  refine Xc rfl (i2f u27 u3 rfl rfl rfl rfl rfl rfl (fun v45 A45 => ?_))
  refine fa_ A45 (Yf rfl) (by simp) rfl rfl rfl rfl rfl rfl rfl (fun v46 s46 p46 A46 => ?_)
  refine bd' (cells := [(iI 2), (iI 0), v46, (.slice none 0 0)]) pl29 o29 rfl (lfill_pc (pc_c rfl (pc_c (oc (FL.one A46)) pc_n)) rfl) (Xx (vs := [(iI 2), (iI 0), v46, (.slice none 0 0)]) (B3.st (Yi p9 p43 p46) rfl) z29 rfl (Xb rfl (Xb rfl (Xb (FL.one A46) (Xb rfl Xj)))) rfl (fun s48 p48 B48 => ?_))
  refine dn ?_
  have A50 : OwF kd29 s48 [(iI 2), (iI 0), v46, (.slice none 0 0)] (Item.mk (2 : Int) (0 : Int) (far .quo (FloatKind.f64.nearest (IntKind.wrap .i64 (r42.1 - (32 : Int)))) (4616189618054758400 : Nat)) ([] : (List Int))) 46 := ow_z _ _ (Yj (fun x : Item => (x.Kind, x.N, x.F, x.T)) (Item.mk (2 : Int) (0 : Int) (far .quo (FloatKind.f64.nearest (IntKind.wrap .i64 (r42.1 - (32 : Int)))) (4616189618054758400 : Nat)) ([] : (List Int))) (Xi (Xf .i64 (2 : Int)) (Xi (Xf .i64 (0 : Int)) (Xi (Xz A46) (Yk 5 (Kd.int .u8))))))
  have K52 := K40.st (Yi p43 p46 p48) rfl
  exact re rfl func161 rfl (r_b B48 u29 rfl z29 rfl Xe) rfl ⟨_, rfl, v46, (.slice none 0 0), rfl, A50.fo K52 rfl z.l, (BlF.w (B43.st (Xn p46 p48) rfl)), z.ky K52⟩
 refine sr (Xc rfl (Xc rfl (dn (jr (fun (y54 : Int × Int) e w => ∃ (s : St) (e0 : Env), w = s.w ∧ e = upd (upd e0 0 (pB p0)) 2 (pB b3) ∧ Kp s0 s ∧ BlF s p0 184 [w0_0, (iI y54.1), (iI y54.2)] 2 ∧ BlF s b3 29 [(iI 0), (iI 0), (.float .f64 0), (.slice none 0 0)] 40) (fun Gj54 Kj54 hG54 => ?_) ?_))))
 ·
  refine cd rfl (fun h55 => ?_) (fun h55 => ?_)
  ·
   refine sr (Xc rfl ?_)
   have K56 := K5.st p9 rfl
   refine clB B9 rfl func72 rfl (spec_l1Once.calls (l1Cur.mk a0.b r7.2.i r7.2.h) (5 : Int) s9.w (mm [0] s9) p0 w0_0 (A0_0.kp K56) B9.w (B9.apart rfl)) (fun r58 s59 p59 B59 => ?_)
   refine dn (cd rfl (fun h61 => ?_) (fun h61 => ?_))
   ·
    refine sr (Xc rfl ?_)
    have K62 := K56.st p59 rfl
    refine cl' rfl func165 rfl (spec_l1some.calls (l1Cur.mk a0.b r58.2.i r58.2.h) (40 : Int) s59.w (mm [0] s59) p0 w0_0 (A0_0.kp K62) B59.w (B59.apart rfl)) ?_
    rintro r64 v64_0 w64 m64 ⟨f64_0, bw64, ky64⟩
    obtain ⟨s65, rfl, p65, n65, g65⟩ := nwb 48 B59 ky64
    have A64_0 := f64_0.c n65
    refine bd' (cells := [(iI 3), (iI 0), (.float .f64 0), v64_0]) pl29 o29 rfl (lfill_pc (pc_c rfl (pc_c (oc A64_0.rd.one) pc_n)) rfl) (Xx (vs := [(iI 3), (iI 0), (.float .f64 0), v64_0]) (B3.st (Yi p9 p59 p65) rfl) z29 rfl (Xb rfl (Xb rfl (Xb (FL.one (Yf rfl)) (Xb A64_0.rd.one Xj)))) rfl (fun s69 p69 B69 => ?_))
    refine dn (jri hG54 ?_)
    have A71 : OwF kd29 s69 [(iI 3), (iI 0), (.float .f64 0), v64_0] (Item.mk (3 : Int) (0 : Int) (0 : Nat) r64.1) 48 := (Xs (fun x : Item => (x.Kind, x.N, x.F, x.T)) (Item.mk (3 : Int) (0 : Int) (0 : Nat) r64.1) (Xy (Xf .i64 (3 : Int)) (Xy (Xf .i64 (0 : Int)) (Xy (Xz (Yf rfl)) (A64_0.st p69 rfl)))))
    have K74 := K62.st (Xn p65 p69) rfl
    exact re rfl func161 rfl (r_b B69 u29 rfl z29 rfl Xe) rfl ⟨_, rfl, (.float .f64 0), v64_0, rfl, A71.fo K74 rfl z.l, (BlF.w (BlF.st (blf_mk bw64 g65) p69 rfl)), z.ky K74⟩
   exact sk (Kj54 _ _ _ ⟨s59, _, rfl, (ue (ue rfl rfl) rfl), (K56.st p59 rfl), B59, (B3.st (Xn p9 p59) rfl)⟩)
  exact sk (Kj54 _ _ _ ⟨s9, _, rfl, (ue (ue rfl rfl) rfl), (K5.st p9 rfl), B9, (B3.st p9 rfl)⟩)
 rintro y54 _ _ ⟨s80, _, rfl, rfl, Ky54, By54_p0, By54_b3⟩
 refine ib (sr (Xc rfl ?_))
 refine clB By54_p0 rfl func230 rfl (spec_l1number.calls (l1Cur.mk a0.b y54.1 y54.2) s80.w (mm [0] s80) p0 w0_0 (A0_0.kp Ky54) By54_p0.w (By54_p0.apart rfl)) (fun r84 s85 p85 B85 => ?_)
 refine bd' (cells := [(iI 1), (iI r84.1), (.float .f64 0), (.slice none 0 0)]) pl29 o29 rfl rfl (Xx (vs := [(iI 1), (iI r84.1), (.float .f64 0), (.slice none 0 0)]) (By54_b3.st p85 rfl) z29 rfl (Xb rfl (Xb rfl (Xb (FL.one (Yf rfl)) (Xb rfl Xj)))) rfl (fun s88 p88 B88 => ?_))
 refine dn ?_
 have A90 : OwF kd29 s88 [(iI 1), (iI r84.1), (.float .f64 0), (.slice none 0 0)] (Item.mk (1 : Int) r84.1 (0 : Nat) ([] : (List Int))) 50 := ow_z _ _ (Yj (fun x : Item => (x.Kind, x.N, x.F, x.T)) (Item.mk (1 : Int) r84.1 (0 : Nat) ([] : (List Int))) (Xi (Xf .i64 (1 : Int)) (Xi (Xf .i64 r84.1) (Xi (Xz (Yf rfl)) (Yk 5 (Kd.int .u8))))))
 have K92 := Ky54.st (Xn p85 p88) rfl
 exact re rfl func161 rfl (r_b B88 u29 rfl z29 rfl Xe) rfl ⟨_, rfl, (.float .f64 0), (.slice none 0 0), rfl, A90.fo K92 rfl z.l, (BlF.w (B85.st p88 rfl)), z.ky K92⟩
def spec_l6tuple.f (a0 : l1Cur) : Option (Tuple × l1Cur) :=
 ((spec_l1Below.f a0 (9 : Int)).bind fun r7 => ((spec_l3key.f (l1Cur.mk a0.b r7.2.i r7.2.h)).bind fun r13 => ((spec_l3value.f (l1Cur.mk a0.b r13.2.i r13.2.h)).bind fun r19 => ((spec_l1Once.f (l1Cur.mk a0.b r19.2.i r19.2.h) (3 : Int)).bind fun r31 => ((if r31.1 = true then ((spec_l1Below.f (l1Cur.mk a0.b r31.2.i r31.2.h) (9 : Int)).bind fun r39 => (some (r39.2.i, r39.2.h, (IntKind.wrap .i64 ((1 : Int) + r39.1))))) else (some (r31.2.i, r31.2.h, (0 : Int)))).bind fun y35 => (some ((Tuple.mk (IntKind.wrap .i64 ((1 : Int) + r7.1)) y35.2.2 r13.1 r19.1), (l1Cur.mk a0.b y35.1 y35.2.1))))))))
def spec_l6tuple.Q (w : World) (F : Nat → Prop) (p0 : Nat) (w0_0 : Value) (r : Tuple × l1Cur) (v : Value) (w' : World) : Prop :=
 ∃ (v0 : Value) (v1 : Value) (v2 : Value) (v3 : Value), v = (.agg #[(iI r.1.Xmin), (iI r.1.Xmax), (iI r.1.Key.Kind), (iI r.1.Key.N), v0, v1, (iI r.1.Value.Kind), (iI r.1.Value.N), v2, v3]) ∧ FO kd31 w w' [(iI r.1.Xmin), (iI r.1.Xmax), (iI r.1.Key.Kind), (iI r.1.Key.N), v0, v1, (iI r.1.Value.Kind), (iI r.1.Value.N), v2, v3] r.1 ∧ BlW w' p0 184 [w0_0, (iI r.2.i), (iI r.2.h)] ∧ Ky [p0] w w'
theorem spec_l6tuple.calls (a0 : l1Cur) (w : World) (F : Nat → Prop) (p0 : Nat) (w0_0 : Value) (h0_0 : Yr.rd w [w0_0] a0.b F) (hb0 : BlW w p0 184 [w0_0, (iI a0.i), (iI a0.h)]) (hF : ∀ b, F b → b ∉ [p0]) (r : Tuple × l1Cur) (m : spec_l6tuple.f a0 = some r) :
  Calls prog 70 #[(pB p0)] w (RT (spec_l6tuple.Q w F p0 w0_0) r) := by
 obtain ⟨s0, rfl, kp0, z⟩ := start1 w F [p0] hF
 have A0_0 := z.rd h0_0
 refine Xd (args := [(pB p0)]) func70 ntmps70 rfl m ?_
 unfold spec_l6tuple.f
 refine sr (al' (cs := [(iI 0), (iI 0), (iI 0), (iI 0), (.float .f64 0), (.slice none 0 0), (iI 0), (iI 0), (.float .f64 0), (.slice none 0 0)]) 40 rfl o31 rfl (fun b3 s3 p3 B3 => ?_))
 refine dn (sr (Xc rfl ?_))
 have K5 := kp0.st p3 rfl
 have A8 := BlF.st (z.bl hb0 (by simp)) p3 rfl
 refine clB A8 rfl func74 rfl (spec_l1Below.calls a0 (9 : Int) s3.w (mm [0] s3) p0 w0_0 (A0_0.kp K5) A8.w (A8.apart rfl)) (fun r7 s9 p9 B9 => ?_)
 refine Xc rfl (Xc rfl ?_)
 have K11 := K5.st p9 rfl
 refine cl' rfl func98 rfl (spec_l3key.calls (l1Cur.mk a0.b r7.2.i r7.2.h) s9.w (mm [0] s9) p0 w0_0 (A0_0.kp K11) B9.w (B9.apart rfl)) ?_
 rintro r13 _ w13 m13 ⟨v13_0, v13_1, rfl, f13_0, bw13, ky13⟩
 obtain ⟨s14, rfl, p14, n14, g14⟩ := nwb 42 B9 ky13
 obtain ⟨hu13_0_0, Au13_0_1⟩ := ap29 (f13_0.c n14)
 have B14 := blf_mk bw13 g14
 refine Xc rfl ?_
 have K17 := K11.st p14 rfl
 refine cl' rfl func161 rfl (spec_l3value.calls (l1Cur.mk a0.b r13.2.i r13.2.h) s14.w (mm [0] s14) p0 w0_0 (A0_0.kp K17) B14.w (B14.apart rfl)) ?_
 rintro r19 _ w19 m19 ⟨v19_0, v19_1, rfl, f19_0, bw19, ky19⟩
 obtain ⟨s20, rfl, p20, n20, g20⟩ := nwb 43 B14 ky19
 obtain ⟨hu19_0_0, Au19_0_1⟩ := ap29 (f19_0.c n20)
 refine bd' (cells := [(iI (IntKind.wrap .i64 ((1 : Int) + r7.1))), (iI 0), (iI r13.1.Kind), (iI r13.1.N), v13_0, v13_1, (iI r19.1.Kind), (iI r19.1.N), v19_0, v19_1]) pl31 o31 rfl rfl (al' (cs := [(iI 0), (iI 0), (iI 0), (iI 0), (.float .f64 0), (.slice none 0 0), (iI 0), (iI 0), (.float .f64 0), (.slice none 0 0)]) 44 rfl o31 rfl (fun b23 s23 p23 B23 => ?_))
 have A25 := Au19_0_1.st p23 rfl
 have A26 := Au13_0_1.st (Xn p20 p23) rfl
 refine Xx (vs := [(iI (IntKind.wrap .i64 ((1 : Int) + r7.1))), (iI 0), (iI r13.1.Kind), (iI r13.1.N), v13_0, v13_1, (iI r19.1.Kind), (iI r19.1.N), v19_0, v19_1]) B23 z31 rfl (Xb rfl (Xb rfl (Xb rfl (Xb rfl (Xb (FL.one hu13_0_0) (Xb A26.rd.one (Xb rfl (Xb rfl (Xb (FL.one hu19_0_0) (Xb A25.rd.one Xj)))))))))) rfl (fun s27 p27 B27 => ?_)
 refine dn (sq (sr (Xc rfl ?_)))
 have K29 := K17.st (Yi p20 p23 p27) rfl
 have A32 := BlF.st (blf_mk bw19 g20) (Xn p23 p27) rfl
 refine clB A32 rfl func72 rfl (spec_l1Once.calls (l1Cur.mk a0.b r19.2.i r19.2.h) (3 : Int) s27.w (mm [0] s27) p0 w0_0 (A0_0.kp K29) A32.w (A32.apart rfl)) (fun r31 s33 p33 B33 => ?_)
 refine dn (jc (fun (y35 : Int × Int × Int) e w => ∃ (s : St) (e0 : Env), w = s.w ∧ e = upd (upd e0 2 (pB b3)) 3 (pB b23) ∧ Kp s0 s ∧ BlF s p0 184 [w0_0, (iI y35.1), (iI y35.2.1)] 2 ∧ BlF s b23 31 [(iI (IntKind.wrap .i64 ((1 : Int) + r7.1))), (iI y35.2.2), (iI r13.1.Kind), (iI r13.1.N), v13_0, v13_1, (iI r19.1.Kind), (iI r19.1.N), v19_0, v19_1] 44 ∧ BlF s b3 31 [(iI 0), (iI 0), (iI 0), (iI 0), (.float .f64 0), (.slice none 0 0), (iI 0), (iI 0), (.float .f64 0), (.slice none 0 0)] 40 ∧ OwF Yr s [v13_1] r13.1.T 42 ∧ OwF Yr s [v19_1] r19.1.T 43) (fun Gj35 Kj35 => ?_) ?_)
 ·
  refine cd rfl (fun h36 => ?_) (fun h36 => ?_)
  ·
   refine rg (Xc rfl ?_)
   have K37 := K29.st p33 rfl
   refine clB B33 rfl func74 rfl (spec_l1Below.calls (l1Cur.mk a0.b r31.2.i r31.2.h) (9 : Int) s33.w (mm [0] s33) p0 w0_0 (A0_0.kp K37) B33.w (B33.apart rfl)) (fun r39 s40 p40 B40 => ?_)
   refine Xc rfl (Ye fa31_1 rfl ?_)
   refine sv' (B27.st (Xn p33 p40) rfl) z3 rfl rfl rfl (fun s43 p43 B43 => ?_)
   exact dn (Kj35 _ _ _ ⟨s43, _, rfl, (ue (ue rfl rfl) rfl), (K37.st (Xn p40 p43) rfl), (B40.st p43 rfl), B43, (B3.st (tr8 p9 p14 p20 p23 p27 p33 p40 p43) rfl), (A26.st (Yo p27 p33 p40 p43) rfl), (A25.st (Yo p27 p33 p40 p43) rfl)⟩)
  exact sk (Kj35 _ _ _ ⟨s33, _, rfl, (ue (ue rfl rfl) rfl), (K29.st p33 rfl), B33, (B27.st p33 rfl), (B3.st (tr6 p9 p14 p20 p23 p27 p33) rfl), (A26.st (Xn p27 p33) rfl), (A25.st (Xn p27 p33) rfl)⟩)
 rintro y35 _ _ ⟨s55, _, rfl, rfl, Ky35, By35_p0, By35_b23, By35_b3, Cy35_15, Cy35_21⟩
 refine sr (Ya (es := [(iI (IntKind.wrap .i64 ((1 : Int) + r7.1))), (iI y35.2.2), (iI r13.1.Kind), (iI r13.1.N), v13_0, v13_1, (iI r19.1.Kind), (iI r19.1.N), v19_0, v19_1]) By35_b23 u31 z31 rfl (Xx (vs := [(iI (IntKind.wrap .i64 ((1 : Int) + r7.1))), (iI y35.2.2), (iI r13.1.Kind), (iI r13.1.N), v13_0, v13_1, (iI r19.1.Kind), (iI r19.1.N), v19_0, v19_1]) By35_b3 z31 rfl (Xb rfl (Xb rfl (Xb rfl (Xb rfl (Xb (FL.one hu13_0_0) (Xb Cy35_15.rd.one (Xb rfl (Xb rfl (Xb (FL.one hu19_0_0) (Xb Cy35_21.rd.one Xj)))))))))) rfl (fun s59 p59 B59 => ?_)))
 refine dn ?_
 obtain ⟨s63, hw63, p63, A63⟩ := ow_2 (Xs (fun x : Item => (x.Kind, x.N, x.F, x.T)) r13.1 (Xy (Xf .i64 r13.1.Kind) (Xy (Xf .i64 r13.1.N) (Xy (Xz hu13_0_0) (Cy35_15.st p59 rfl))))) (Xs (fun x : Item => (x.Kind, x.N, x.F, x.T)) r19.1 (Xy (Xf .i64 r19.1.Kind) (Xy (Xf .i64 r19.1.N) (Xy (Xz hu19_0_0) (Cy35_21.st p59 rfl))))) rfl rfl
 rw [hw63]
 have A65 : OwF kd31 s63 [(iI (IntKind.wrap .i64 ((1 : Int) + r7.1))), (iI y35.2.2), (iI r13.1.Kind), (iI r13.1.N), v13_0, v13_1, (iI r19.1.Kind), (iI r19.1.N), v19_0, v19_1] (Tuple.mk (IntKind.wrap .i64 ((1 : Int) + r7.1)) y35.2.2 r13.1 r19.1) 42 := (Xs (fun x : Tuple => (x.Xmin, x.Xmax, x.Key, x.Value)) (Tuple.mk (IntKind.wrap .i64 ((1 : Int) + r7.1)) y35.2.2 r13.1 r19.1) (Xy (Xf .i64 (IntKind.wrap .i64 ((1 : Int) + r7.1))) (Xy (Xf .i64 y35.2.2) A63)))
 have K68 := Ky35.st (Xn p59 p63) rfl
 exact re rfl func70 rfl (r_b (B59.st p63 rfl) u31 rfl z31 rfl Xe) rfl ⟨_, rfl, v13_0, v13_1, v19_0, v19_1, rfl, A65.fo K68 rfl z.l, (BlF.w (By35_p0.st (Xn p59 p63) rfl)), z.ky K68⟩
def spec_l5in.f (a0 : Int) (a1 : Int) (a2 : Int) : Option (Bool) :=
 (some ((decide (a0 ≥ a1)) && (decide (a0 ≤ a2))))
def spec_l5in.Q (w : World) (F : Nat → Prop) (r : Bool) (v : Value) (w' : World) : Prop :=
 v = (.bool r) ∧ Ky [] w w'
theorem spec_l5in.calls (a0 : Int) (a1 : Int) (a2 : Int) (w : World) (F : Nat → Prop)   (r : Bool) (m : spec_l5in.f a0 a1 a2 = some r) :
  Calls prog 83 #[(iI a0), (iI a1), (iI a2)] w (RT (spec_l5in.Q w F) r) := by
 obtain ⟨s0, rfl, kp0, z⟩ := Xl w F
 refine Xd (args := [(iI a0), (iI a1), (iI a2)]) func83 ntmps83 rfl m ?_
 unfold spec_l5in.f
 refine sr (Xc rfl (dn (sr (Xc rfl (Xc rfl (Xc rfl (Xc rfl (jy [10, 11, 12, 13, 14] [8] 14 (.bool ((decide (a0 ≥ a1)) && (decide (a0 ≤ a2)))) rfl (fun Kg1 => ?_) (fun j1 => ?_)))))))))
 ·
  rcases bft (decide (a0 ≥ a1)) with hb1 | hb1
  ·
   exact Yb hb1 (Xc rfl (Xc rfl (Xc rfl (Xc rfl (Kg1 _ (Ag.put ((Ag.put ((Ag.put ((Ag.put (Ag.base rfl) rfl)) rfl)) rfl)) rfl) (by rw [hb1]; rfl))))))
  exact Yb hb1 (Xk rfl (Xk rfl (Xk rfl (Xc rfl (Kg1 _ (Ag.put ((Ag.put ((Ag.put ((Ag.put (Ag.base rfl) rfl)) rfl)) rfl)) rfl) (by rw [hb1]; rfl))))))
 exact Xc rfl (dn (re rfl func83 rfl (Xu rfl Xe) rfl ⟨_, rfl, rfl, z.ky kp0⟩))
def spec_KeyOk.f (a0 : Item) : Option (Bool) :=
 ((spec_ItemOk.f a0).bind fun r6 => ((if (r6 && (a0.Kind != (0 : Int))) = true then ((if (fcmp .f64 a0.F (0 : Nat) == some .eq) = true then ((spec_FloatBits.f a0.F).bind fun r13 => (some (r13 != (0 : Int)))) else (some false)).bind fun y12 => (some (!y12))) else (some false)).bind fun y10 => (some y10)))
def spec_KeyOk.Q (w : World) (F : Nat → Prop) (r : Bool) (v : Value) (w' : World) : Prop :=
 v = (.bool r) ∧ Ky [] w w'
theorem spec_KeyOk.calls (a0 : Item) (w : World) (F : Nat → Prop) (w0_0 : Value) (w0_1 : Value) (h0_0 : Kd.flt.rd w [w0_0] a0.F F) (h0_1 : Yr.rd w [w0_1] a0.T F) (r : Bool) (m : spec_KeyOk.f a0 = some r) :
  Calls prog 26 #[(.agg #[(iI a0.Kind), (iI a0.N), w0_0, w0_1])] w (RT (spec_KeyOk.Q w F) r) := by
 obtain ⟨s0, rfl, kp0, z⟩ := Xl w F
 have A0_0 := Yq h0_0
 refine Xd (args := [(.agg #[(iI a0.Kind), (iI a0.N), w0_0, w0_1])]) func26 ntmps26 rfl m ?_
 unfold spec_KeyOk.f
 refine sr (bx' (cs := [(iI a0.Kind), (iI a0.N), w0_0, w0_1]) 40 rfl rfl (fun b2 s2 p2 B2 => ?_))
 refine Xc rfl (dn (sr (Ya (es := [(iI a0.Kind), (iI a0.N), w0_0, w0_1]) B2 u29 z29 rfl ?_)))
 have K4 := kp0.st p2 rfl
 refine Yn 41 rfl func105 rfl (spec_ItemOk.calls a0 s2.w (mm [0] s2) w0_0 w0_1 ((Xq (s := s2) A0_0).sub (D := [0]) rfl) ((z.rd h0_1).kp K4)) (fun r6 s7 p7 n7 => ?_)
 refine Xc rfl (jy [5, 6, 7, 8, 9] [7, 8, 9, 10, 11, 12, 13, 14, 15, 16, 17, 18, 19] 9 (.bool (r6 && (a0.Kind != (0 : Int)))) rfl (fun Kg8 => ?_) (fun j8 => ?_))
 ·
  rcases bft r6 with hb8 | hb8
  ·
   refine Yb hb8 (Ye fa29_0 rfl ?_)
   exact Yl (B2.st p7 rfl) u3 rfl (Xc rfl (Xc rfl (Kg8 _ (Ag.put ((Ag.put ((Ag.put ((Ag.put (Ag.base rfl) rfl)) rfl)) rfl)) rfl) (by rw [hb8]; rfl))))
  exact Yb hb8 (Xk rfl (Xk rfl (Xk rfl (Xc rfl (Kg8 _ (Ag.put ((Ag.put ((Ag.put ((Ag.put (Ag.base rfl) rfl)) rfl)) rfl)) rfl) (by rw [hb8]; rfl))))))
 refine Xc rfl (ji [19] (fun (y10 : Bool) e w => ∃ (s : St) (e0 : Env), w = s.w ∧ e = upd e0 21 (.bool y10) ∧ Kp s0 s) (fun Gj10 Kj10 => ?_) ?_)
 ·
  rcases bft (r6 && (a0.Kind != (0 : Int))) with hb10 | hb10
  ·
   refine Yb hb10 ?_
   rw [if_pos hb10]
   refine Ye fa29_2 rfl ?_
   have A11 := B2.st p7 rfl
   refine Yl A11 u27 rfl (fq_' A0_0 (Yf rfl) rfl (Xc rfl (ji [17, 18, 19] (fun (y12 : Bool) e w => ∃ (s : St) (e0 : Env), w = s.w ∧ e = upd (upd e0 10 (.bool true)) 19 (.bool y12) ∧ Kp s0 s) (fun Gj12 Kj12 => ?_) ?_)))
   ·
    rcases bft (fcmp .f64 a0.F (0 : Nat) == some .eq) with hb12 | hb12
    ·
     refine Yb hb12 ?_
     rw [if_pos hb12]
     refine Ye fa29_2 rfl (Yl A11 u27 rfl (Yn 42 rfl func95 rfl (spec_FloatBits.calls a0.F s7.w (mm [] s7) w0_0 (Xq (s := s7) A0_0)) (fun r13 s14 p14 n14 => ?_)))
     refine Xc rfl (Xc rfl ?_)
     exact Kj12 _ _ _ ⟨s14, _, rfl, (ue (ue rfl rfl) rfl), (K4.st (Xn p7 p14) rfl)⟩
    refine Yb hb12 ?_
    rw [if_neg (by rw [hb12]; decide)]
    refine Xk rfl (Xk rfl (Xk rfl (Xk rfl (Xc rfl ?_))))
    exact Kj12 _ _ _ ⟨s7, _, rfl, (ue (ue rfl rfl) rfl), (K4.st p7 rfl)⟩
   rintro y12 _ _ ⟨s17, _, rfl, rfl, Ky12⟩
   exact Xc rfl (Xc rfl (Kj10 _ _ _ ⟨s17, _, rfl, (ue rfl rfl), Ky12⟩))
  refine Yb hb10 ?_
  rw [if_neg (by rw [hb10]; decide)]
  refine Xk rfl (Xk rfl (Xk rfl (Xk rfl (Xk rfl (Xk rfl (Xk rfl (Xk rfl (Xk rfl (Xk rfl (Xc rfl ?_))))))))))
  exact Kj10 _ _ _ ⟨s7, _, rfl, (ue rfl rfl), (K4.st p7 rfl)⟩
 rintro y10 _ _ ⟨s19, _, rfl, rfl, Ky10⟩
 exact Xc rfl (dn (re rfl func26 rfl (Xu rfl Xe) rfl ⟨_, rfl, rfl, z.ky Ky10⟩))
def spec_TupleOk.f (a0 : Tuple) : Option (Bool) :=
 ((spec_l5in.f a0.Xmin (1 : Int) (400 : Int)).bind fun r5 => ((if r5 = true then ((spec_l5in.f a0.Xmax (0 : Int) (400 : Int)).bind fun r9 => (some r9)) else (some false)).bind fun y7 => ((if y7 = true then ((spec_KeyOk.f a0.Key).bind fun r19 => (some r19)) else (some false)).bind fun y17 => ((if y17 = true then ((spec_ItemOk.f a0.Value).bind fun r27 => (some r27)) else (some false)).bind fun y25 => (some (y25 && (a0.Value.Kind != (0 : Int))))))))
def spec_TupleOk.Q (w : World) (F : Nat → Prop) (r : Bool) (v : Value) (w' : World) : Prop :=
 v = (.bool r) ∧ Ky [] w w'
theorem spec_TupleOk.calls (a0 : Tuple) (w : World) (F : Nat → Prop) (w0_0 : Value) (w0_1 : Value) (w0_2 : Value) (w0_3 : Value) (h0_0 : Kd.flt.rd w [w0_0] a0.Key.F F) (h0_1 : Yr.rd w [w0_1] a0.Key.T F) (h0_2 : Kd.flt.rd w [w0_2] a0.Value.F F) (h0_3 : Yr.rd w [w0_3] a0.Value.T F) (r : Bool) (m : spec_TupleOk.f a0 = some r) :
  Calls prog 29 #[(.agg #[(iI a0.Xmin), (iI a0.Xmax), (iI a0.Key.Kind), (iI a0.Key.N), w0_0, w0_1, (iI a0.Value.Kind), (iI a0.Value.N), w0_2, w0_3])] w (RT (spec_TupleOk.Q w F) r) := by
 obtain ⟨s0, rfl, kp0, z⟩ := Xl w F
 refine Xd (args := [(.agg #[(iI a0.Xmin), (iI a0.Xmax), (iI a0.Key.Kind), (iI a0.Key.N), w0_0, w0_1, (iI a0.Value.Kind), (iI a0.Value.N), w0_2, w0_3])]) func29 ntmps29 rfl m ?_
 unfold spec_TupleOk.f
 refine sr (bx' (cs := [(iI a0.Xmin), (iI a0.Xmax), (iI a0.Key.Kind), (iI a0.Key.N), w0_0, w0_1, (iI a0.Value.Kind), (iI a0.Value.N), w0_2, w0_3]) 40 rfl rfl (fun b3 s3 p3 B3 => ?_))
 refine Xc rfl (dn (sr (Ye fa31_0 rfl (Yl B3 u3 rfl (Yn 41 rfl func83 rfl (spec_l5in.calls a0.Xmin (1 : Int) (400 : Int) s3.w (mm [] s3)) (fun r5 s6 p6 n6 => ?_))))))
 refine Xc rfl (ji [8, 9, 10, 11, 12, 13, 14, 15, 16, 17, 18, 19, 20, 21, 22, 23, 24] (fun (y7 : Bool) e w => ∃ (s : St) (e0 : Env), w = s.w ∧ e = upd (upd e0 1 (pB b3)) 10 (.bool y7) ∧ Kp s0 s ∧ BlF s b3 31 [(iI a0.Xmin), (iI a0.Xmax), (iI a0.Key.Kind), (iI a0.Key.N), w0_0, w0_1, (iI a0.Value.Kind), (iI a0.Value.N), w0_2, w0_3] 40) (fun Gj7 Kj7 => ?_) ?_)
 ·
  rcases bft r5 with hb7 | hb7
  ·
   refine Yb hb7 ?_
   rw [if_pos hb7]
   refine Ye fa31_1 rfl ?_
   have A8 := B3.st p6 rfl
   refine Yl A8 u3 rfl (Yn 42 rfl func83 rfl (spec_l5in.calls a0.Xmax (0 : Int) (400 : Int) s6.w (mm [] s6)) (fun r9 s10 p10 n10 => ?_))
   exact Xc rfl (Kj7 _ _ _ ⟨s10, _, rfl, (ue (ue rfl rfl) rfl), (kp0.st (Yi p3 p6 p10) rfl), (A8.st p10 rfl)⟩)
  refine Yb hb7 ?_
  rw [if_neg (by rw [hb7]; decide)]
  refine Xk rfl (Xk rfl (Xk rfl (Xc rfl ?_)))
  exact Kj7 _ _ _ ⟨s6, _, rfl, (ue (ue rfl rfl) rfl), (kp0.st (Xn p3 p6) rfl), (B3.st p6 rfl)⟩
 rintro y7 _ _ ⟨s15, _, rfl, rfl, Ky7, By7_b3⟩
 refine Xc rfl (ji [13, 14, 15, 16, 17, 18, 19, 20, 21, 22, 23, 24] (fun (y17 : Bool) e w => ∃ (s : St) (e0 : Env), w = s.w ∧ e = upd (upd e0 1 (pB b3)) 15 (.bool y17) ∧ Kp s0 s ∧ BlF s b3 31 [(iI a0.Xmin), (iI a0.Xmax), (iI a0.Key.Kind), (iI a0.Key.N), w0_0, w0_1, (iI a0.Value.Kind), (iI a0.Value.N), w0_2, w0_3] 40) (fun Gj17 Kj17 => ?_) ?_)
 ·
  rcases bft y7 with hb17 | hb17
  ·
   refine Yb hb17 ?_
   rw [if_pos hb17]
   refine Ye fa31_2 rfl (Ya (es := [(iI a0.Key.Kind), (iI a0.Key.N), w0_0, w0_1]) By7_b3 u29 z29 rfl ?_)
   refine Yn 43 rfl func26 rfl (spec_KeyOk.calls a0.Key s15.w (mm [0] s15) w0_0 w0_1 ((Xq (s := s15) (Yq h0_0)).sub (D := [0]) rfl) ((z.rd h0_1).kp Ky7)) (fun r19 s20 p20 n20 => ?_)
   exact Xc rfl (Kj17 _ _ _ ⟨s20, _, rfl, (ue (ue rfl rfl) rfl), (Ky7.st p20 rfl), (By7_b3.st p20 rfl)⟩)
  refine Yb hb17 ?_
  rw [if_neg (by rw [hb17]; decide)]
  exact Xk rfl (Xk rfl (Xk rfl (Xc rfl (Kj17 _ _ _ ⟨s15, _, rfl, (ue (ue rfl rfl) rfl), Ky7, By7_b3⟩))))
 rintro y17 _ _ ⟨s23, _, rfl, rfl, Ky17, By17_b3⟩
 refine Xc rfl (ji [18, 19, 20, 21, 22, 23, 24] (fun (y25 : Bool) e w => ∃ (s : St) (e0 : Env), w = s.w ∧ e = upd (upd e0 1 (pB b3)) 20 (.bool y25) ∧ Kp s0 s ∧ BlF s b3 31 [(iI a0.Xmin), (iI a0.Xmax), (iI a0.Key.Kind), (iI a0.Key.N), w0_0, w0_1, (iI a0.Value.Kind), (iI a0.Value.N), w0_2, w0_3] 40) (fun Gj25 Kj25 => ?_) ?_)
 ·
  rcases bft y17 with hb25 | hb25
  ·
   refine Yb hb25 ?_
   rw [if_pos hb25]
   refine Ye fa31_3 rfl (Ya (es := [(iI a0.Value.Kind), (iI a0.Value.N), w0_2, w0_3]) By17_b3 u29 z29 rfl ?_)
   refine Yn 44 rfl func105 rfl (spec_ItemOk.calls a0.Value s23.w (mm [0] s23) w0_2 w0_3 ((Xq (s := s23) (Yq h0_2)).sub (D := [0]) rfl) ((z.rd h0_3).kp Ky17)) (fun r27 s28 p28 n28 => ?_)
   exact Xc rfl (Kj25 _ _ _ ⟨s28, _, rfl, (ue (ue rfl rfl) rfl), (Ky17.st p28 rfl), (By17_b3.st p28 rfl)⟩)
  refine Yb hb25 ?_
  rw [if_neg (by rw [hb25]; decide)]
  exact Xk rfl (Xk rfl (Xk rfl (Xc rfl (Kj25 _ _ _ ⟨s23, _, rfl, (ue (ue rfl rfl) rfl), Ky17, By17_b3⟩))))
 rintro y25 _ _ ⟨s31, _, rfl, rfl, Ky25, By25_b3⟩
 refine Xc rfl (jy [21, 22, 23, 24, 25, 26] [24] 26 (.bool (y25 && (a0.Value.Kind != (0 : Int)))) rfl (fun Kg33 => ?_) (fun j33 => ?_))
 ·
  rcases bft y25 with hb33 | hb33
  ·
   exact Yb hb33 (Ye fa31_3 rfl (Ye fa29_0 rfl (Yl By25_b3 u3 rfl (Xc rfl (Xc rfl (Kg33 _ (Ag.put ((Ag.put ((Ag.put ((Ag.put ((Ag.put (Ag.base rfl) rfl)) rfl)) rfl)) rfl)) rfl) (by rw [hb33]; rfl)))))))
  exact Yb hb33 (Xk rfl (Xk rfl (Xk rfl (Xk rfl (Xc rfl (Kg33 _ (Ag.put ((Ag.put ((Ag.put ((Ag.put ((Ag.put (Ag.base rfl) rfl)) rfl)) rfl)) rfl)) rfl) (by rw [hb33]; rfl)))))))
 exact Xc rfl (dn (re rfl func29 rfl (Xu rfl Xe) rfl ⟨_, rfl, rfl, z.ky Ky25⟩))
def spec_FloatRank.f (a0 : Nat) : Option (Int) :=
 ((spec_FloatBits.f a0).bind fun r1 => (if (r1 == (9221120237041090560 : Int)) = true then (some (18446744073709551615 : Int)) else (if (fcmp .f64 a0 (0 : Nat) == some .eq) = true then (some (9223372036854775808 : Int)) else (if ((ishr .u64 r1 (63 : Int)) == (1 : Int)) = true then (some (ixor .u64 (IntKind.max .u64) r1)) else (some (ior .u64 r1 (9223372036854775808 : Int)))))))
def spec_FloatRank.Q (w : World) (F : Nat → Prop) (r : Int) (v : Value) (w' : World) : Prop :=
 v = (.int .u64 r) ∧ Ky [] w w'
theorem spec_FloatRank.calls (a0 : Nat) (w : World) (F : Nat → Prop) (w0_0 : Value) (h0_0 : Kd.flt.rd w [w0_0] a0 F) (r : Int) (m : spec_FloatRank.f a0 = some r) :
  Calls prog 197 #[w0_0] w (RT (spec_FloatRank.Q w F) r) := by
 obtain ⟨s0, rfl, kp0, z⟩ := Xl w F
 have A0_0 := Yq h0_0
 refine Xd (args := [w0_0]) func197 ntmps197 rfl m ?_
 unfold spec_FloatRank.f
 refine sr (Xc rfl (dn (sr (Yc w0_0 rfl (Yn 40 rfl func95 rfl (spec_FloatBits.calls a0 s0.w (mm [] s0) w0_0 (Xq (s := s0) A0_0)) (fun r1 s2 p2 n2 => ?_))))))
 refine Xc rfl (dn (sq (sr (Xc rfl (Xc rfl (dn (cd rfl (fun h3 => ?_) (fun h3 => ?_))))))))
 ·
  refine sr (Xc rfl (dn ?_))
  exact re rfl func197 rfl (Xu rfl Xe) rfl ⟨_, rfl, rfl, z.ky (kp0.st p2 rfl)⟩
 refine sk (sq (sr (Yc w0_0 rfl (fq_' A0_0 (Yf rfl) rfl (dn (cd rfl (fun h5 => ?_) (fun h5 => ?_)))))))
 ·
  refine sr (Xc rfl (dn ?_))
  exact re rfl func197 rfl (Xu rfl Xe) rfl ⟨_, rfl, rfl, z.ky (kp0.st p2 rfl)⟩
 refine sk (sq (sr (Xc rfl (shrK rfl rfl rfl rfl rfl rfl rfl rfl (Xc rfl (dn (cd rfl (fun h7 => ?_) (fun h7 => ?_))))))))
 ·
  refine sr (Xc rfl (Xc rfl (Xc rfl (dn ?_))))
  exact re rfl func197 rfl (Xu rfl Xe) rfl ⟨_, rfl, rfl, z.ky (kp0.st p2 rfl)⟩
 refine sk (sr (Xc rfl (Xc rfl (Xc rfl (dn ?_)))))
 exact re rfl func197 rfl (Xu rfl Xe) rfl ⟨_, rfl, rfl, z.ky (kp0.st p2 rfl)⟩
def spec_l3high.b0 (a0 : Int) (x1 : (List Int) × Int) : Option (((List Int) × Int) ⊕ (List Int)) :=
 (if (decide (x1.2 ≥ (0 : Int))) = true then (if 0 ≤ (IntKind.wrap .u64 (IntKind.wrap .i64 ((8 : Int) * x1.2))) then (if x1.1.length + ([(IntKind.wrap .u8 (iand .u64 (ishr .u64 a0 (IntKind.wrap .u64 (IntKind.wrap .i64 ((8 : Int) * x1.2)))) (255 : Int)))]).length ≤ Lim then (some (Sum.inl ((x1.1 ++ [(IntKind.wrap .u8 (iand .u64 (ishr .u64 a0 (IntKind.wrap .u64 (IntKind.wrap .i64 ((8 : Int) * x1.2)))) (255 : Int)))]), (IntKind.wrap .i64 (x1.2 - (1 : Int)))))) else none) else none) else ((some x1.1).bind fun o => some (Sum.inr o)))
def spec_l3high.f (a0 : Int) : Option ((List Int)) :=
 (iter (spec_l3high.b0 a0) (([] : (List Int)), (7 : Int)))
def spec_l3high.Q (w : World) (F : Nat → Prop) (r : (List Int)) (v : Value) (w' : World) : Prop :=
 FO Yr w w' [v] r ∧ Ky [] w w'
theorem spec_l3high.calls (a0 : Int) (w : World) (F : Nat → Prop)   (r : (List Int)) (m : spec_l3high.f a0 = some r) :
  Calls prog 252 #[(.int .u64 a0)] w (RT (spec_l3high.Q w F) r) := by
 obtain ⟨s0, rfl, kp0, z⟩ := Xl w F
 refine Xd (args := [(.int .u64 a0)]) func252 ntmps252 rfl m ?_
 unfold spec_l3high.f
 refine sr (Xc rfl (dn (sr (Xc rfl (dn (sq (sr (Xc rfl (dn (bl (lpI (fun (x1 : (List Int) × Int) e w => ∃ (s : St) (e0 : Env) (vx1_0 : Value), w = s.w ∧ e = upd (upd (upd e0 0 (.int .u64 a0)) 3 vx1_0) 4 (iI x1.2) ∧ Kp s0 s ∧ OwF Yr s [vx1_0] x1.1 40) ⟨s0, _, (.slice none 0 0), rfl, (ue (ue (ue rfl rfl) rfl) rfl), kp0, (Ym 5 (Kd.int .u8) _ 40)⟩ (fun g1 ih1 => ?_))))))))))))
 rintro x1 _ _ ⟨s2, _, vx1_0, rfl, rfl, Kx1, Ax1_0⟩
 unfold spec_l3high.b0
 refine sq (sr (Xc rfl (Xc rfl (dn (cd rfl (fun h4 => ?_) (fun h4 => ?_))))))
 ·
  refine sk (sq (bl (rg (Yc vx1_0 rfl (Xc rfl (Xc rfl (Xc rfl (cv' u200 u3 rfl (shr_ rfl rfl rfl rfl rfl rfl rfl (Xc rfl (cv' u5 u129 rfl (ltF' (K := (Kd.int .u8)) (cells := [(.int .u8 (IntKind.wrap .u8 (iand .u64 (ishr .u64 a0 (IntKind.wrap .u64 (IntKind.wrap .i64 ((8 : Int) * x1.2)))) (255 : Int))))]) [(IntKind.wrap .u8 (iand .u64 (ishr .u64 a0 (IntKind.wrap .u64 (IntKind.wrap .i64 ((8 : Int) * x1.2)))) (255 : Int)))] 41 Xv u22 z5 o5 (fun w => (Yd _ _ _)) rfl (fun v5 s5 p5 A5 => ?_)))))))))))))
  refine apF' Xv sl22 (Ax1_0.st p5 rfl) A5.rd rfl (fun v8 s8 p8 A8 => ?_)
  refine Yh v8 rfl (dn (ib (rg (Xc rfl (Xc rfl (Xc rfl (dn ?_)))))))
  exact lb ih1 ⟨s8, _, v8, rfl, (ue (ue (ue rfl rfl) rfl) rfl), (Kx1.st (Xn p5 p8) rfl), A8⟩
 exact xt rfl (sgb (sr (Yc vx1_0 rfl (Yh vx1_0 rfl (dn (re rfl func252 rfl (Xu rfl Xe) rfl ⟨_, rfl, Ax1_0.fo Kx1 rfl z.l, z.ky Kx1⟩))))))
def spec_l3bytes.f (a0 : Item) (a1 : Int) : Option ((List Int)) :=
 (if (a0.Kind == (1 : Int)) = true then ((spec_l3high.f (ixor .u64 (IntKind.wrap .u64 a0.N) (9223372036854775808 : Int))).bind fun r8 => (if ([(IntKind.wrap .u8 a0.Kind)]).length + r8.length ≤ Lim then (some ([(IntKind.wrap .u8 a0.Kind)] ++ r8)) else none)) else (if (a0.Kind == (2 : Int)) = true then ((spec_l3high.f a1).bind fun r16 => (if ([(IntKind.wrap .u8 a0.Kind)]).length + r16.length ≤ Lim then (some ([(IntKind.wrap .u8 a0.Kind)] ++ r16)) else none)) else (if ([(IntKind.wrap .u8 a0.Kind)]).length + a0.T.length ≤ Lim then (some ([(IntKind.wrap .u8 a0.Kind)] ++ a0.T)) else none)))
def spec_l3bytes.Q (w : World) (F : Nat → Prop) (r : (List Int)) (v : Value) (w' : World) : Prop :=
 FO Yr w w' [v] r ∧ Ky [] w w'
theorem spec_l3bytes.calls (a0 : Item) (a1 : Int) (w : World) (F : Nat → Prop) (w0_0 : Value) (w0_1 : Value) (h0_0 : Kd.flt.rd w [w0_0] a0.F F) (h0_1 : Yr.rd w [w0_1] a0.T F) (r : (List Int)) (m : spec_l3bytes.f a0 a1 = some r) :
  Calls prog 196 #[(.agg #[(iI a0.Kind), (iI a0.N), w0_0, w0_1]), (.int .u64 a1)] w (RT (spec_l3bytes.Q w F) r) := by
 obtain ⟨s0, rfl, kp0, z⟩ := Xl w F
 refine Xd (args := [(.agg #[(iI a0.Kind), (iI a0.N), w0_0, w0_1]), (.int .u64 a1)]) func196 ntmps196 rfl m ?_
 unfold spec_l3bytes.f
 refine sr (bx' (cs := [(iI a0.Kind), (iI a0.N), w0_0, w0_1]) 40 rfl rfl (fun b2 s2 p2 B2 => ?_))
 refine Xc rfl (dn (sr (Ye fa29_0 rfl (Yl B2 u3 rfl (cv' u5 u3 rfl (ltF' (K := (Kd.int .u8)) (cells := [(.int .u8 (IntKind.wrap .u8 a0.Kind))]) [(IntKind.wrap .u8 a0.Kind)] 41 Xv u22 z5 o5 (fun w => (Yd _ _ _)) rfl (fun v4 s4 p4 A4 => ?_)))))))
 refine Yh v4 rfl (dn (sq (sr (Ye fa29_0 rfl ?_))))
 have A6 := B2.st p4 rfl
 refine Yl A6 u3 rfl (dn (bl (sr (Xc rfl (Xc rfl (dn (cd rfl (fun h7 => ?_) (fun h7 => ?_))))))))
 ·
  refine sr (Yc v4 rfl (Ye fa29_1 rfl (Yl A6 u3 rfl (cv' u129 u3 rfl (Xc rfl (clO 42 rfl func252 rfl (spec_l3high.calls (ixor .u64 (IntKind.wrap .u64 a0.N) (9223372036854775808 : Int)) s4.w (mm [] s4)) (fun r8 v8_0 s9 p9 A8_0 => ?_)))))))
  refine apF' Xv sl22 (A4.st p9 rfl) A8_0.rd rfl (fun v12 s12 p12 A12 => ?_)
  refine Yh v12 rfl (dn ?_)
  have K14 := kp0.st (Yo p2 p4 p9 p12) rfl
  exact re rfl func196 rfl (Xu rfl Xe) rfl ⟨_, rfl, A12.fo K14 rfl z.l, z.ky K14⟩
 refine sr (Xc rfl (Xc rfl (dn (cd rfl (fun h15 => ?_) (fun h15 => ?_)))))
 ·
  refine sr (Yc v4 rfl (Xc rfl (clO 43 rfl func252 rfl (spec_l3high.calls a1 s4.w (mm [] s4)) (fun r16 v16_0 s17 p17 A16_0 => ?_))))
  refine apF' Xv sl22 (A4.st p17 rfl) A16_0.rd rfl (fun v20 s20 p20 A20 => ?_)
  refine Yh v20 rfl (dn ?_)
  have K22 := kp0.st (Yo p2 p4 p17 p20) rfl
  exact re rfl func196 rfl (Xu rfl Xe) rfl ⟨_, rfl, A20.fo K22 rfl z.l, z.ky K22⟩
 refine sk (ib (sr (Yc v4 rfl (Ye fa29_3 rfl (Yl A6 u22 rfl ?_)))))
 have K23 := kp0.st (Xn p2 p4) rfl
 refine apF' Xv sl22 A4 ((z.rd h0_1).kp K23) rfl (fun v25 s25 p25 A25 => ?_)
 refine Yh v25 rfl (dn ?_)
 have K27 := K23.st p25 rfl
 exact re rfl func196 rfl (Xu rfl Xe) rfl ⟨_, rfl, A25.fo K27 rfl z.l, z.ky K27⟩
def spec_KeyBytes.f (a0 : Item) : Option ((List Int)) :=
 ((spec_KeyOk.f a0).bind fun r6 => (if (!r6) = true then (some ([] : (List Int))) else ((spec_FloatRank.f a0.F).bind fun r19 => ((spec_l3bytes.f a0 r19).bind fun r25 => (some r25)))))
def spec_KeyBytes.Q (w : World) (F : Nat → Prop) (r : (List Int)) (v : Value) (w' : World) : Prop :=
 FO Yr w w' [v] r ∧ Ky [] w w'
theorem spec_KeyBytes.calls (a0 : Item) (w : World) (F : Nat → Prop) (w0_0 : Value) (w0_1 : Value) (h0_0 : Kd.flt.rd w [w0_0] a0.F F) (h0_1 : Yr.rd w [w0_1] a0.T F) (r : (List Int)) (m : spec_KeyBytes.f a0 = some r) :
  Calls prog 109 #[(.agg #[(iI a0.Kind), (iI a0.N), w0_0, w0_1])] w (RT (spec_KeyBytes.Q w F) r) := by
 obtain ⟨s0, rfl, kp0, z⟩ := Xl w F
 have A0_0 := Yq h0_0
 have A0_1 := z.rd h0_1
 refine Xd (args := [(.agg #[(iI a0.Kind), (iI a0.N), w0_0, w0_1])]) func109 ntmps109 rfl m ?_
 unfold spec_KeyBytes.f
 refine sr (bx' (cs := [(iI a0.Kind), (iI a0.N), w0_0, w0_1]) 40 rfl rfl (fun b2 s2 p2 B2 => ?_))
 refine Xc rfl (dn (sq (sr (Ya (es := [(iI a0.Kind), (iI a0.N), w0_0, w0_1]) B2 u29 z29 rfl ?_))))
 have K4 := kp0.st p2 rfl
 refine Yn 41 rfl func26 rfl (spec_KeyOk.calls a0 s2.w (mm [0] s2) w0_0 w0_1 ((Xq (s := s2) A0_0).sub (D := [0]) rfl) (A0_1.kp K4)) (fun r6 s7 p7 n7 => ?_)
 refine Xc rfl (dn (cd rfl (fun h8 => ?_) (fun h8 => ?_)))
 ·
  refine sr (Xc rfl (dn ?_))
  have K9 := K4.st p7 rfl
  exact re rfl func109 rfl (Xu rfl Xe) rfl ⟨_, rfl, (Ym 5 (Kd.int .u8) s7 40).fo K9 rfl z.l, z.ky K9⟩
 refine sk (sq (zdraw [[], [], [1], [2], [0, 3, 3], [4, 4, 0, 1, 2, 3, 4]] [some 6, some 7, some 8, some 9, some 10, some 2] [[1], [1], [7], [8], [6, 9], [10]] [0, 1, 2, 3, 4, 5] ⟨by kernel_rfl, by kernel_rfl, by kernel_rfl⟩ (by kernel_rfl) (fun s10 p10 l10 tb10 zd10 => ?_)))
 refine Xt 3 [some 6] tb10 (((zd10.add 0 6 (.agg #[(iI a0.Kind), (iI a0.N), w0_0, w0_1]) rfl).add 1 7 (pO b2 2) rfl).add 2 8 w0_0 rfl) (Xa (Xp (B2.st (Xn p7 p10) rfl) u27 rfl) rfl (Xa (Xo fa29_2 rfl) rfl (Xa (Yg (es := [(iI a0.Kind), (iI a0.N), w0_0, w0_1]) (B2.st (Xn p7 p10) rfl) u29 z29 rfl) rfl Xg))) (by kernel_rfl) rfl (fun l16 e16 zd16 => ?_)
 refine Yn 42 rfl func197 rfl (spec_FloatRank.calls a0.F s10.w (mm [] s10) w0_0 (Xq (s := s10) A0_0)) (fun r19 s20 p20 n20 => ?_)
 refine Xm (L' := [0]) (D' := [1, 2, 3]) zd16 rfl (fun zd21 => ?_)
 refine Yp [4, 5] tb10 zd21 (Xa (Yg (es := [(iI a0.Kind), (iI a0.N), w0_0, w0_1]) (B2.st (Yi p7 p10 p20) rfl) u29 z29 rfl) rfl Xg) (by kernel_rfl) (by decide) ?_
 have K23 := K4.st (Yi p7 p10 p20) rfl
 refine clO 43 rfl func196 rfl (spec_l3bytes.calls a0 r19 s20.w (mm [0] s20) w0_0 w0_1 ((Xq (s := s20) A0_0).sub (D := [0]) rfl) (A0_1.kp K23)) (fun r25 v25_0 s26 p26 A25_0 => ?_)
 refine Yh v25_0 rfl (dn ?_)
 have K28 := K23.st p26 rfl
 exact re rfl func109 rfl (Xu rfl Xe) rfl ⟨_, rfl, A25_0.fo K28 rfl z.l, z.ky K28⟩
def spec_ValueBytes.f (a0 : Item) : Option ((List Int)) :=
 ((spec_ItemOk.f a0).bind fun r6 => (if ((!r6) || (a0.Kind == (0 : Int))) = true then (some ([] : (List Int))) else ((spec_FloatBits.f a0.F).bind fun r21 => ((spec_l3bytes.f a0 r21).bind fun r27 => (some r27)))))
def spec_ValueBytes.Q (w : World) (F : Nat → Prop) (r : (List Int)) (v : Value) (w' : World) : Prop :=
 FO Yr w w' [v] r ∧ Ky [] w w'
theorem spec_ValueBytes.calls (a0 : Item) (w : World) (F : Nat → Prop) (w0_0 : Value) (w0_1 : Value) (h0_0 : Kd.flt.rd w [w0_0] a0.F F) (h0_1 : Yr.rd w [w0_1] a0.T F) (r : (List Int)) (m : spec_ValueBytes.f a0 = some r) :
  Calls prog 110 #[(.agg #[(iI a0.Kind), (iI a0.N), w0_0, w0_1])] w (RT (spec_ValueBytes.Q w F) r) := by
 obtain ⟨s0, rfl, kp0, z⟩ := Xl w F
 have A0_0 := Yq h0_0
 have A0_1 := z.rd h0_1
 refine Xd (args := [(.agg #[(iI a0.Kind), (iI a0.N), w0_0, w0_1])]) func110 ntmps110 rfl m ?_
 unfold spec_ValueBytes.f
 refine sr (bx' (cs := [(iI a0.Kind), (iI a0.N), w0_0, w0_1]) 40 rfl rfl (fun b2 s2 p2 B2 => ?_))
 refine Xc rfl (dn (sq (sr (Ya (es := [(iI a0.Kind), (iI a0.N), w0_0, w0_1]) B2 u29 z29 rfl ?_))))
 have K4 := kp0.st p2 rfl
 refine Yn 41 rfl func105 rfl (spec_ItemOk.calls a0 s2.w (mm [0] s2) w0_0 w0_1 ((Xq (s := s2) A0_0).sub (D := [0]) rfl) (A0_1.kp K4)) (fun r6 s7 p7 n7 => ?_)
 refine Xc rfl (Xc rfl (jy [6, 7, 8, 9, 10] [] 10 (.bool ((!r6) || (a0.Kind == (0 : Int)))) rfl (fun Kg8 => ?_) (fun j8 => ?_)))
 ·
  rcases bft (!r6) with hb8 | hb8
  ·
   exact Yb hb8 (Xk rfl (Xk rfl (Xk rfl (Xc rfl (Kg8 _ (Ag.put ((Ag.put ((Ag.put ((Ag.put (Ag.base rfl) rfl)) rfl)) rfl)) rfl) (by rw [hb8]; rfl))))))
  refine Yb hb8 (Ye fa29_0 rfl ?_)
  exact Yl (B2.st p7 rfl) u3 rfl (Xc rfl (Xc rfl (Kg8 _ (Ag.put ((Ag.put ((Ag.put ((Ag.put (Ag.base rfl) rfl)) rfl)) rfl)) rfl) (by rw [hb8]; rfl))))
 refine dn (cd rfl (fun h10 => ?_) (fun h10 => ?_))
 ·
  refine sr (Xc rfl (dn ?_))
  have K11 := K4.st p7 rfl
  exact re rfl func110 rfl (Xu rfl Xe) rfl ⟨_, rfl, (Ym 5 (Kd.int .u8) s7 40).fo K11 rfl z.l, z.ky K11⟩
 refine sk (sq (zdraw [[], [], [1], [2], [0, 3, 3], [4, 4, 0, 1, 2, 3, 4]] [some 11, some 12, some 13, some 14, some 15, some 2] [[1], [1], [12], [13], [11, 14], [15]] [0, 1, 2, 3, 4, 5] ⟨by kernel_rfl, by kernel_rfl, by kernel_rfl⟩ (by kernel_rfl) (fun s12 p12 l12 tb12 zd12 => ?_)))
 refine Xt 3 [some 11] tb12 (((zd12.add 0 11 (.agg #[(iI a0.Kind), (iI a0.N), w0_0, w0_1]) rfl).add 1 12 (pO b2 2) rfl).add 2 13 w0_0 rfl) (Xa (Xp (B2.st (Xn p7 p12) rfl) u27 rfl) rfl (Xa (Xo fa29_2 rfl) rfl (Xa (Yg (es := [(iI a0.Kind), (iI a0.N), w0_0, w0_1]) (B2.st (Xn p7 p12) rfl) u29 z29 rfl) rfl Xg))) (by kernel_rfl) rfl (fun l18 e18 zd18 => ?_)
 refine Yn 42 rfl func95 rfl (spec_FloatBits.calls a0.F s12.w (mm [] s12) w0_0 (Xq (s := s12) A0_0)) (fun r21 s22 p22 n22 => ?_)
 refine Xm (L' := [0]) (D' := [1, 2, 3]) zd18 rfl (fun zd23 => ?_)
 refine Yp [4, 5] tb12 zd23 (Xa (Yg (es := [(iI a0.Kind), (iI a0.N), w0_0, w0_1]) (B2.st (Yi p7 p12 p22) rfl) u29 z29 rfl) rfl Xg) (by kernel_rfl) (by decide) ?_
 have K25 := K4.st (Yi p7 p12 p22) rfl
 refine clO 43 rfl func196 rfl (spec_l3bytes.calls a0 r21 s22.w (mm [0] s22) w0_0 w0_1 ((Xq (s := s22) A0_0).sub (D := [0]) rfl) (A0_1.kp K25)) (fun r27 v27_0 s28 p28 A27_0 => ?_)
 refine Yh v27_0 rfl (dn ?_)
 have K30 := K25.st p28 rfl
 exact re rfl func110 rfl (Xu rfl Xe) rfl ⟨_, rfl, A27_0.fo K30 rfl z.l, z.ky K30⟩
def spec_PutNum.b0 (a1 : Int) (x4 : Int × (List Int) × Int) : Option ((Int × (List Int) × Int) ⊕ (List Int)) :=
 (if (decide (x4.2.2 < a1)) = true then (if x4.2.1.length + ([(IntKind.wrap .u8 (x4.1.tmod (256 : Int)))]).length ≤ Lim then (some (Sum.inl ((IntKind.wrap .i64 (x4.1.tdiv (256 : Int))), (x4.2.1 ++ [(IntKind.wrap .u8 (x4.1.tmod (256 : Int)))]), (IntKind.wrap .i64 (x4.2.2 + (1 : Int)))))) else none) else ((if (decide (x4.1 > (0 : Int))) = true then (some ([] : (List Int))) else (some x4.2.1)).bind fun o => some (Sum.inr o)))
def spec_PutNum.f (a0 : Int) (a1 : Int) : Option ((List Int)) :=
 (if (((decide (a1 < (1 : Int))) || (decide (a1 > (8 : Int)))) || (decide (a0 < (0 : Int)))) = true then (some ([] : (List Int))) else (iter (spec_PutNum.b0 a1) (a0, ([] : (List Int)), (0 : Int))))
def spec_PutNum.Q (w : World) (F : Nat → Prop) (r : (List Int)) (v : Value) (w' : World) : Prop :=
 FO Yr w w' [v] r ∧ Ky [] w w'
theorem spec_PutNum.calls (a0 : Int) (a1 : Int) (w : World) (F : Nat → Prop)   (r : (List Int)) (m : spec_PutNum.f a0 a1 = some r) :
  Calls prog 111 #[(iI a0), (iI a1)] w (RT (spec_PutNum.Q w F) r) := by
 obtain ⟨s0, rfl, kp0, z⟩ := Xl w F
 refine Xd (args := [(iI a0), (iI a1)]) func111 ntmps111 rfl m ?_
 unfold spec_PutNum.f
 refine sr (Xc rfl (dn (sr (Xc rfl (dn (sq (sr (Xc rfl (Xc rfl (Xc rfl (jy [9, 10, 11, 12] [6, 7, 8, 9] 12 (.bool ((decide (a1 < (1 : Int))) || (decide (a1 > (8 : Int))))) rfl (fun Kg1 => ?_) (fun j1 => ?_))))))))))))
 ·
  rcases bft (decide (a1 < (1 : Int))) with hb1 | hb1
  ·
   exact Yb hb1 (Xk rfl (Xk rfl (Xc rfl (Kg1 _ (Ag.put ((Ag.put ((Ag.put (Ag.base rfl) rfl)) rfl)) rfl) (by rw [hb1]; rfl)))))
  exact Yb hb1 (Xc rfl (Xc rfl (Xc rfl (Kg1 _ (Ag.put ((Ag.put ((Ag.put (Ag.base rfl) rfl)) rfl)) rfl) (by rw [hb1]; rfl)))))
 refine Xc rfl (jy [13, 14, 15, 16] [] 16 (.bool (((decide (a1 < (1 : Int))) || (decide (a1 > (8 : Int)))) || (decide (a0 < (0 : Int))))) rfl (fun Kg2 => ?_) (fun j2 => ?_))
 ·
  rcases bft ((decide (a1 < (1 : Int))) || (decide (a1 > (8 : Int)))) with hb2 | hb2
  ·
   exact Yb hb2 (Xk rfl (Xk rfl (Xc rfl (Kg2 _ (Ag.put ((Ag.put ((Ag.put (Ag.base rfl) rfl)) rfl)) rfl) (by rw [hb2]; rfl)))))
  exact Yb hb2 (Xc rfl (Xc rfl (Xc rfl (Kg2 _ (Ag.put ((Ag.put ((Ag.put (Ag.base rfl) rfl)) rfl)) rfl) (by rw [hb2]; rfl)))))
 refine dn (cd rfl (fun h3 => ?_) (fun h3 => ?_))
 ·
  exact sr (Xc rfl (Xc rfl (dn (re rfl func111 rfl (Xu rfl Xe) rfl ⟨_, rfl, (Ym 5 (Kd.int .u8) s0 40).fo kp0 rfl z.l, z.ky kp0⟩))))
 refine sk (sq (sr (Xc rfl (dn (bl (lpI (fun (x4 : Int × (List Int) × Int) e w => ∃ (s : St) (e0 : Env) (vx4_0 : Value), w = s.w ∧ e = upd (upd (upd (upd e0 0 (iI x4.1)) 1 (iI a1)) 5 vx4_0) 6 (iI x4.2.2) ∧ Kp s0 s ∧ OwF Yr s [vx4_0] x4.2.1 40) ⟨s0, _, (.slice none 0 0), rfl, (ue (ue (ue (ue rfl rfl) rfl) rfl) rfl), kp0, (Ym 5 (Kd.int .u8) _ 40)⟩ (fun g4 ih4 => ?_)))))))
 rintro x4 _ _ ⟨s5, _, vx4_0, rfl, rfl, Kx4, Ax4_0⟩
 unfold spec_PutNum.b0
 refine sq (sr (Xc rfl (Xc rfl (Xc rfl (dn (cd rfl (fun h7 => ?_) (fun h7 => ?_)))))))
 ·
  refine sk (sq (bl (sr (Yc vx4_0 rfl (Xc rfl (remK rfl rfl rfl rfl rfl rfl rfl rfl (cv' u5 u3 rfl (ltF' (K := (Kd.int .u8)) (cells := [(.int .u8 (IntKind.wrap .u8 (x4.1.tmod (256 : Int))))]) [(IntKind.wrap .u8 (x4.1.tmod (256 : Int)))] 41 Xv u22 z5 o5 (fun w => (Yd _ _ _)) rfl (fun v8 s8 p8 A8 => ?_)))))))))
  refine apF' Xv sl22 (Ax4_0.st p8 rfl) A8.rd rfl (fun v11 s11 p11 A11 => ?_)
  refine Yh v11 rfl (dn (rg (Xc rfl (quoK rfl rfl rfl rfl rfl rfl rfl rfl (Xc rfl (dn (ib (rg (Xc rfl (Xc rfl (Xc rfl (dn ?_))))))))))))
  exact lb ih4 ⟨s11, _, v11, rfl, (ue (ue (ue (ue rfl rfl) rfl) rfl) rfl), (Kx4.st (Xn p8 p11) rfl), A11⟩
 refine xt rfl (sgb (sq (sr (Xc rfl (Xc rfl (dn (cd rfl (fun h14 => ?_) (fun h14 => ?_))))))))
 ·
  exact sr (Xc rfl (dn (re rfl func111 rfl (Xu rfl Xe) rfl ⟨_, rfl, (Ym 5 (Kd.int .u8) s5 40).fo Kx4 rfl z.l, z.ky Kx4⟩)))
 exact sk (sr (Yc vx4_0 rfl (Yh vx4_0 rfl (dn (re rfl func111 rfl (Xu rfl Xe) rfl ⟨_, rfl, Ax4_0.fo Kx4 rfl z.l, z.ky Kx4⟩)))))
def spec_TupleBytes.f (a0 : Tuple) : Option ((List Int)) :=
 ((spec_TupleOk.f a0).bind fun r8 => (if (!r8) = true then (some ([] : (List Int))) else ((spec_KeyBytes.f a0.Key).bind fun r15 => ((spec_ValueBytes.f a0.Value).bind fun r21 => ((spec_PutNum.f a0.Xmin (4 : Int)).bind fun r25 => ((spec_PutNum.f a0.Xmax (4 : Int)).bind fun r29 => (if r25.length + r29.length ≤ Lim then (if (r25 ++ r29).length + ([(IntKind.wrap .u8 (r15.length : Int))]).length ≤ Lim then (if ((r25 ++ r29) ++ [(IntKind.wrap .u8 (r15.length : Int))]).length + r15.length ≤ Lim then (if (((r25 ++ r29) ++ [(IntKind.wrap .u8 (r15.length : Int))]) ++ r15).length + ([(IntKind.wrap .u8 (r21.length : Int))]).length ≤ Lim then (if ((((r25 ++ r29) ++ [(IntKind.wrap .u8 (r15.length : Int))]) ++ r15) ++ [(IntKind.wrap .u8 (r21.length : Int))]).length + r21.length ≤ Lim then (some (((((r25 ++ r29) ++ [(IntKind.wrap .u8 (r15.length : Int))]) ++ r15) ++ [(IntKind.wrap .u8 (r21.length : Int))]) ++ r21)) else none) else none) else none) else none) else none)))))))
def spec_TupleBytes.Q (w : World) (F : Nat → Prop) (r : (List Int)) (v : Value) (w' : World) : Prop :=
 FO Yr w w' [v] r ∧ Ky [] w w'
theorem spec_TupleBytes.calls (a0 : Tuple) (w : World) (F : Nat → Prop) (w0_0 : Value) (w0_1 : Value) (w0_2 : Value) (w0_3 : Value) (h0_0 : Kd.flt.rd w [w0_0] a0.Key.F F) (h0_1 : Yr.rd w [w0_1] a0.Key.T F) (h0_2 : Kd.flt.rd w [w0_2] a0.Value.F F) (h0_3 : Yr.rd w [w0_3] a0.Value.T F) (r : (List Int)) (m : spec_TupleBytes.f a0 = some r) :
  Calls prog 32 #[(.agg #[(iI a0.Xmin), (iI a0.Xmax), (iI a0.Key.Kind), (iI a0.Key.N), w0_0, w0_1, (iI a0.Value.Kind), (iI a0.Value.N), w0_2, w0_3])] w (RT (spec_TupleBytes.Q w F) r) := by
 obtain ⟨s0, rfl, kp0, z⟩ := Xl w F
 have A0_0 := Yq h0_0
 have A0_1 := z.rd h0_1
 have A0_2 := Yq h0_2
 have A0_3 := z.rd h0_3
 refine Xd (args := [(.agg #[(iI a0.Xmin), (iI a0.Xmax), (iI a0.Key.Kind), (iI a0.Key.N), w0_0, w0_1, (iI a0.Value.Kind), (iI a0.Value.N), w0_2, w0_3])]) func32 ntmps32 rfl m ?_
 unfold spec_TupleBytes.f
 refine sr (bx' (cs := [(iI a0.Xmin), (iI a0.Xmax), (iI a0.Key.Kind), (iI a0.Key.N), w0_0, w0_1, (iI a0.Value.Kind), (iI a0.Value.N), w0_2, w0_3]) 40 rfl rfl (fun b3 s3 p3 B3 => ?_))
 refine Xc rfl (dn (sq (sr (Ya (es := [(iI a0.Xmin), (iI a0.Xmax), (iI a0.Key.Kind), (iI a0.Key.N), w0_0, w0_1, (iI a0.Value.Kind), (iI a0.Value.N), w0_2, w0_3]) B3 u31 z31 rfl ?_))))
 have K5 := kp0.st p3 rfl
 refine Yn 41 rfl func29 rfl (spec_TupleOk.calls a0 s3.w (mm [0] s3) w0_0 w0_1 w0_2 w0_3 ((Xq (s := s3) A0_0).sub (D := [0]) rfl) (A0_1.kp K5) ((Xq (s := s3) A0_2).sub (D := [0]) rfl) (A0_3.kp K5)) (fun r8 s9 p9 n9 => ?_)
 refine Xc rfl (dn (cd rfl (fun h10 => ?_) (fun h10 => ?_)))
 ·
  refine sr (Xc rfl (dn ?_))
  have K11 := K5.st p9 rfl
  exact re rfl func32 rfl (Xu rfl Xe) rfl ⟨_, rfl, (Ym 5 (Kd.int .u8) s9 40).fo K11 rfl z.l, z.ky K11⟩
 refine sk (sr (Ye fa31_2 rfl ?_))
 have A12 := B3.st p9 rfl
 refine Ya (es := [(iI a0.Key.Kind), (iI a0.Key.N), w0_0, w0_1]) A12 u29 z29 rfl ?_
 have K13 := K5.st p9 rfl
 refine clO 42 rfl func109 rfl (spec_KeyBytes.calls a0.Key s9.w (mm [0] s9) w0_0 w0_1 ((Xq (s := s9) A0_0).sub (D := [0]) rfl) (A0_1.kp K13)) (fun r15 v15_0 s16 p16 A15_0 => ?_)
 refine Yh v15_0 rfl (dn (sr (Ye fa31_3 rfl ?_)))
 have A18 := A12.st p16 rfl
 refine Ya (es := [(iI a0.Value.Kind), (iI a0.Value.N), w0_2, w0_3]) A18 u29 z29 rfl ?_
 have K19 := K13.st p16 rfl
 refine clO 43 rfl func110 rfl (spec_ValueBytes.calls a0.Value s16.w (mm [0] s16) w0_2 w0_3 ((Xq (s := s16) A0_2).sub (D := [0]) rfl) (A0_3.kp K19)) (fun r21 v21_0 s22 p22 A21_0 => ?_)
 refine Yh v21_0 rfl (dn (sr (Ye fa31_0 rfl ?_)))
 have A24 := A18.st p22 rfl
 refine Yl A24 u3 rfl (clO 44 rfl func111 rfl (spec_PutNum.calls a0.Xmin (4 : Int) s22.w (mm [] s22)) (fun r25 v25_0 s26 p26 A25_0 => ?_))
 refine Yh v25_0 rfl (dn (sr (Yc v25_0 rfl (Ye fa31_1 rfl ?_))))
 refine Yl (A24.st p26 rfl) u3 rfl (clO 45 rfl func111 rfl (spec_PutNum.calls a0.Xmax (4 : Int) s26.w (mm [] s26)) (fun r29 v29_0 s30 p30 A29_0 => ?_))
 refine apF' Xv sl22 (A25_0.st p30 rfl) A29_0.rd rfl (fun v33 s33 p33 A33 => ?_)
 refine Yh v33 rfl (dn (sr (Yc v33 rfl (Yc v15_0 rfl ?_))))
 have A35 := A15_0.st (Yo p22 p26 p30 p33) rfl
 refine ln' A35.rd u22 rfl (cv' u5 u3 rfl (ltF' (K := (Kd.int .u8)) (cells := [(.int .u8 (IntKind.wrap .u8 (r15.length : Int)))]) [(IntKind.wrap .u8 (r15.length : Int))] 46 Xv u22 z5 o5 (fun w => (Yd _ _ _)) rfl (fun v36 s36 p36 A36 => ?_)))
 refine apF' Xv sl22 (A33.st p36 rfl) A36.rd rfl (fun v39 s39 p39 A39 => ?_)
 refine Yh v39 rfl (dn (sr (Yc v39 rfl (Yc v15_0 rfl ?_))))
 refine apF' Xv sl22 A39 (A35.st (Xn p36 p39) rfl).rd rfl (fun v42 s42 p42 A42 => ?_)
 refine Yh v42 rfl (dn (sr (Yc v42 rfl (Yc v21_0 rfl ?_))))
 have A44 := A21_0.st (tr6 p26 p30 p33 p36 p39 p42) rfl
 refine ln' A44.rd u22 rfl (cv' u5 u3 rfl (ltF' (K := (Kd.int .u8)) (cells := [(.int .u8 (IntKind.wrap .u8 (r21.length : Int)))]) [(IntKind.wrap .u8 (r21.length : Int))] 47 Xv u22 z5 o5 (fun w => (Yd _ _ _)) rfl (fun v45 s45 p45 A45 => ?_)))
 refine apF' Xv sl22 (A42.st p45 rfl) A45.rd rfl (fun v48 s48 p48 A48 => ?_)
 refine Yh v48 rfl (dn (sr (Yc v48 rfl (Yc v21_0 rfl ?_))))
 refine apF' Xv sl22 A48 (A44.st (Xn p45 p48) rfl).rd rfl (fun v51 s51 p51 A51 => ?_)
 refine Yh v51 rfl (dn ?_)
 have K53 := K19.st (tr10 p22 p26 p30 p33 p36 p39 p42 p45 p48 p51) rfl
 exact re rfl func32 rfl (Xu rfl Xe) rfl ⟨_, rfl, A51.fo K53 rfl z.l, z.ky K53⟩
def spec_PageUsed.b0 (a0 : Page) (x15 : Int × Int) : Option ((Int × Int) ⊕ Int) :=
 (if (decide (x15.2 < (a0.Slots.length : Int))) = true then (if 0 ≤ x15.2 ∧ x15.2 < (a0.Slots.length : Int) then (if (decide (((at_ a0.Slots x15.2).length : Int) > (92 : Int))) = true then (some (Sum.inr (-1 : Int))) else (if 0 ≤ x15.2 ∧ x15.2 < (a0.Slots.length : Int) then (some (Sum.inl ((IntKind.wrap .i64 (x15.1 + ((at_ a0.Slots x15.2).length : Int))), (IntKind.wrap .i64 (x15.2 + (1 : Int)))))) else none)) else none) else (((if (decide ((a0.Slots.length : Int) > (0 : Int))) = true then (if 0 ≤ (IntKind.wrap .i64 ((a0.Slots.length : Int) - (1 : Int))) ∧ (IntKind.wrap .i64 ((a0.Slots.length : Int) - (1 : Int))) < (a0.Slots.length : Int) then (some (((at_ a0.Slots (IntKind.wrap .i64 ((a0.Slots.length : Int) - (1 : Int)))).length : Int) == (0 : Int))) else none) else (some false)).bind fun y27 => (if y27 = true then (some (-1 : Int)) else (if (decide (x15.1 > (240 : Int))) = true then (some (-1 : Int)) else (some x15.1)))).bind fun o => some (Sum.inr o)))
def spec_PageUsed.f (a0 : Page) : Option (Int) :=
 ((spec_l5in.f a0.Lsn (0 : Int) (1000000 : Int)).bind fun r4 => (if ((!r4) || (decide ((a0.Slots.length : Int) > (16 : Int)))) = true then (some (-1 : Int)) else (iter (spec_PageUsed.b0 a0) ((IntKind.wrap .i64 ((1 : Int) + (a0.Slots.length : Int))), (0 : Int)))))
def spec_PageUsed.Q (w : World) (F : Nat → Prop) (r : Int) (v : Value) (w' : World) : Prop :=
 v = (iI r) ∧ Ky [] w w'
theorem spec_PageUsed.calls (a0 : Page) (w : World) (F : Nat → Prop) (w0_0 : Value) (h0_0 : (Kd.sl 22 Yr).rd w [w0_0] a0.Slots F) (r : Int) (m : spec_PageUsed.f a0 = some r) :
  Calls prog 107 #[(.agg #[(iI a0.Lsn), w0_0])] w (RT (spec_PageUsed.Q w F) r) := by
 obtain ⟨s0, rfl, kp0, z⟩ := Xl w F
 have A0_0 := z.rd h0_0
 refine Xd (args := [(.agg #[(iI a0.Lsn), w0_0])]) func107 ntmps107 rfl m ?_
 unfold spec_PageUsed.f
 refine sr (bx' (cs := [(iI a0.Lsn), w0_0]) 40 rfl rfl (fun b2 s2 p2 B2 => ?_))
 refine Xc rfl (dn (sq (sr (Ye fa116_0 rfl (Yl B2 u3 rfl (Yn 41 rfl func83 rfl (spec_l5in.calls a0.Lsn (0 : Int) (1000000 : Int) s2.w (mm [] s2)) (fun r4 s5 p5 n5 => ?_)))))))
 refine Xc rfl (Xc rfl (jy [9, 10, 11, 12, 13, 14] [] 14 (.bool ((!r4) || (decide ((a0.Slots.length : Int) > (16 : Int))))) rfl (fun Kg6 => ?_) (fun j6 => ?_)))
 ·
  rcases bft (!r4) with hb6 | hb6
  ·
   exact Yb hb6 (Xk rfl (Xk rfl (Xk rfl (Xk rfl (Xc rfl (Kg6 _ (Ag.put ((Ag.put ((Ag.put ((Ag.put ((Ag.put (Ag.base rfl) rfl)) rfl)) rfl)) rfl)) rfl) (by rw [hb6]; rfl)))))))
  refine Yb hb6 (Ye fa116_1 rfl ?_)
  exact Yl (B2.st p5 rfl) u114 rfl (ln' (A0_0.kp (kp0.st (Xn p2 p5) rfl)) u114 rfl (Xc rfl (Xc rfl (Kg6 _ (Ag.put ((Ag.put ((Ag.put ((Ag.put ((Ag.put (Ag.base rfl) rfl)) rfl)) rfl)) rfl)) rfl) (by rw [hb6]; rfl)))))
 refine dn (cd rfl (fun h10 => ?_) (fun h10 => ?_))
 ·
  refine sr (Xc rfl (dn ?_))
  exact re rfl func107 rfl (Xu rfl Xe) rfl ⟨_, rfl, rfl, z.ky (kp0.st (Xn p2 p5) rfl)⟩
 refine sk (sr (Ye fa116_1 rfl ?_))
 have A12 := B2.st p5 rfl
 refine Yl A12 u114 rfl ?_
 have K13 := kp0.st (Xn p2 p5) rfl
 refine ln' (A0_0.kp K13) u114 rfl (Xc rfl (Xc rfl (dn (sq (sr (Xc rfl (dn (bl (lpI (fun (x15 : Int × Int) e w => ∃ (s : St) (e0 : Env), w = s.w ∧ e = upd (upd (upd e0 1 (pB b2)) 3 (iI x15.1)) 4 (iI x15.2) ∧ Kp s0 s ∧ BlF s b2 116 [(iI a0.Lsn), w0_0] 40) ⟨s5, _, rfl, (ue (ue (ue rfl rfl) rfl) rfl), K13, A12⟩ (fun g15 ih15 => ?_))))))))))
 rintro x15 _ _ ⟨s16, _, rfl, rfl, Kx15, Bx15_b2⟩
 unfold spec_PageUsed.b0
 refine sq (sr (Xc rfl (Ye fa116_1 rfl (Yl Bx15_b2 u114 rfl ?_))))
 have A18 := A0_0.kp Kx15
 refine ln' A18 u114 rfl (Xc rfl (dn (cd rfl (fun h19 => ?_) (fun h19 => ?_))))
 ·
  refine sk (sq (bl (sq (sr (Ye fa116_1 rfl (Yl Bx15_b2 u114 rfl (Xc rfl (ix' A18 u114 z22 rfl (fun ad20 es20 h0_20 h1_20 he20 ce20 ia20 => ?_)))))))))
  obtain ⟨v20, rfl, he20'⟩ := he20
  have A20 : RdF Yr s16 [v20] (at_ a0.Slots x15.2) [0] := ⟨v20, rfl, he20'⟩
  refine lc0' ce20 u22 rfl (ln' A20 u22 rfl (Xc rfl (dn (cd rfl (fun h23 => ?_) (fun h23 => ?_)))))
  ·
   exact sr (Xc rfl (dn (sgi (re rfl func107 rfl (Xu rfl Xe) rfl ⟨_, rfl, rfl, z.ky Kx15⟩))))
  refine sk (rg (Xc rfl (Ye fa116_1 rfl (Yl Bx15_b2 u114 rfl (Xc rfl (ix' A18 u114 z22 rfl (fun ad24 es24 h0_24 h1_24 he24 ce24 ia24 => ?_)))))))
  obtain ⟨v24, rfl, he24'⟩ := he24
  have A24 : RdF Yr s16 [v24] (at_ a0.Slots x15.2) [0] := ⟨v24, rfl, he24'⟩
  exact lc0' ce24 u22 rfl (ln' A24 u22 rfl (Xc rfl (Xc rfl (dn (ib (rg (Xc rfl (Xc rfl (Xc rfl (dn (lb ih15 ⟨s16, _, rfl, (ue (ue (ue rfl rfl) rfl) rfl), Kx15, Bx15_b2⟩)))))))))))
 refine xt rfl (sgb (sq (sr (Ye fa116_1 rfl (Yl Bx15_b2 u114 rfl (ln' A18 u114 rfl (Xc rfl (Xc rfl (ji [] (fun (y27 : Bool) e w => ∃ (s : St) (e0 : Env), w = s.w ∧ e = upd (upd e0 3 (iI x15.1)) 56 (.bool y27) ∧ Kp s0 s) (fun Gj27 Kj27 => ?_) ?_)))))))))
 ·
  rcases bft (decide ((a0.Slots.length : Int) > (0 : Int))) with hb27 | hb27
  ·
   refine Yb hb27 ?_
   rw [if_pos hb27]
   refine Ye fa116_1 rfl (Yl Bx15_b2 u114 rfl (Ye fa116_1 rfl (Yl Bx15_b2 u114 rfl (ln' A18 u114 rfl (Xc rfl (ix' A18 u114 z22 rfl (fun ad28 es28 h0_28 h1_28 he28 ce28 ia28 => ?_)))))))
   obtain ⟨v28, rfl, he28'⟩ := he28
   have A28 : RdF Yr s16 [v28] (at_ a0.Slots (IntKind.wrap .i64 ((a0.Slots.length : Int) - (1 : Int)))) [0] := ⟨v28, rfl, he28'⟩
   exact lc0' ce28 u22 rfl (ln' A28 u22 rfl (Xc rfl (Xc rfl (Kj27 _ _ _ ⟨s16, _, rfl, (ue (ue rfl rfl) rfl), Kx15⟩))))
  refine Yb hb27 ?_
  rw [if_neg (by rw [hb27]; decide)]
  exact Xk rfl (Xk rfl (Xk rfl (Xk rfl (Xk rfl (Xk rfl (Xk rfl (Xk rfl (Xk rfl (Xk rfl (Xc rfl (Kj27 _ _ _ ⟨s16, _, rfl, (ue (ue rfl rfl) rfl), Kx15⟩)))))))))))
 rintro y27 _ _ ⟨s31, _, rfl, rfl, Ky27⟩
 refine dn (cd rfl (fun h32 => ?_) (fun h32 => ?_))
 ·
  exact sr (Xc rfl (dn (re rfl func107 rfl (Xu rfl Xe) rfl ⟨_, rfl, rfl, z.ky Ky27⟩)))
 refine sk (sq (sr (Xc rfl (Xc rfl (dn (cd rfl (fun h33 => ?_) (fun h33 => ?_)))))))
 ·
  exact sr (Xc rfl (dn (re rfl func107 rfl (Xu rfl Xe) rfl ⟨_, rfl, rfl, z.ky Ky27⟩)))
 exact sk (sr (Xc rfl (Xc rfl (dn (re rfl func107 rfl (Xu rfl Xe) rfl ⟨_, rfl, rfl, z.ky Ky27⟩)))))
def spec_GetNum.b0 (a0 : (List Int)) (a1 : Int) (x7 : Int × Int) : Option ((Int × Int) ⊕ (Int × Bool)) :=
 (if (decide (x7.2 ≥ (0 : Int))) = true then (if 0 ≤ (IntKind.wrap .i64 (a1 + x7.2)) ∧ (IntKind.wrap .i64 (a1 + x7.2)) < (a0.length : Int) then (if ((x7.2 == (7 : Int)) && (decide ((IntKind.wrap .i64 (at_ a0 (IntKind.wrap .i64 (a1 + x7.2)))) > (127 : Int)))) = true then (some (Sum.inr ((0 : Int), false))) else (some (Sum.inl ((IntKind.wrap .i64 ((IntKind.wrap .i64 (x7.1 * (256 : Int))) + (IntKind.wrap .i64 (at_ a0 (IntKind.wrap .i64 (a1 + x7.2)))))), (IntKind.wrap .i64 (x7.2 - (1 : Int))))))) else none) else ((some (x7.1, true)).bind fun o => some (Sum.inr o)))
def spec_GetNum.f (a0 : (List Int)) (a1 : Int) (a2 : Int) : Option (Int × Bool) :=
 (if (((((decide (a2 < (1 : Int))) || (decide (a2 > (8 : Int)))) || (decide (a1 < (0 : Int)))) || (decide (a1 > (a0.length : Int)))) || (decide (a2 > (IntKind.wrap .i64 ((a0.length : Int) - a1))))) = true then (some ((0 : Int), false)) else (iter (spec_GetNum.b0 a0 a1) ((0 : Int), (IntKind.wrap .i64 (a2 - (1 : Int))))))
def spec_GetNum.Q (w : World) (F : Nat → Prop) (r : Int × Bool) (v : Value) (w' : World) : Prop :=
 v = .tuple #[(iI r.1), (.bool r.2)] ∧ Ky [] w w'
theorem spec_GetNum.calls (a0 : (List Int)) (a1 : Int) (a2 : Int) (w : World) (F : Nat → Prop) (w0_0 : Value) (h0_0 : Yr.rd w [w0_0] a0 F) (r : Int × Bool) (m : spec_GetNum.f a0 a1 a2 = some r) :
  Calls prog 166 #[w0_0, (iI a1), (iI a2)] w (RT (spec_GetNum.Q w F) r) := by
 obtain ⟨s0, rfl, kp0, z⟩ := Xl w F
 have A0_0 := z.rd h0_0
 refine Xd (args := [w0_0, (iI a1), (iI a2)]) func166 ntmps166 rfl m ?_
 unfold spec_GetNum.f
 refine sr (Xc rfl (Xc rfl (dn (sq (sr (Xc rfl (Xc rfl (Xc rfl (jy [13, 14, 15, 16] [6, 7, 8, 9, 10, 11, 12, 13, 14, 15, 16, 17, 18, 19, 20, 21, 22, 23] 16 (.bool ((decide (a2 < (1 : Int))) || (decide (a2 > (8 : Int))))) rfl (fun Kg2 => ?_) (fun j2 => ?_))))))))))
 ·
  rcases bft (decide (a2 < (1 : Int))) with hb2 | hb2
  ·
   exact Yb hb2 (Xk rfl (Xk rfl (Xc rfl (Kg2 _ (Ag.put ((Ag.put ((Ag.put (Ag.base rfl) rfl)) rfl)) rfl) (by rw [hb2]; rfl)))))
  exact Yb hb2 (Xc rfl (Xc rfl (Xc rfl (Kg2 _ (Ag.put ((Ag.put ((Ag.put (Ag.base rfl) rfl)) rfl)) rfl) (by rw [hb2]; rfl)))))
 refine Xc rfl (jy [17, 18, 19, 20] [10, 11, 12, 13, 14, 15, 16, 17, 18, 19, 20, 21, 22, 23] 20 (.bool (((decide (a2 < (1 : Int))) || (decide (a2 > (8 : Int)))) || (decide (a1 < (0 : Int))))) rfl (fun Kg3 => ?_) (fun j3 => ?_))
 ·
  rcases bft ((decide (a2 < (1 : Int))) || (decide (a2 > (8 : Int)))) with hb3 | hb3
  ·
   exact Yb hb3 (Xk rfl (Xk rfl (Xc rfl (Kg3 _ (Ag.put ((Ag.put ((Ag.put (Ag.base rfl) rfl)) rfl)) rfl) (by rw [hb3]; rfl)))))
  exact Yb hb3 (Xc rfl (Xc rfl (Xc rfl (Kg3 _ (Ag.put ((Ag.put ((Ag.put (Ag.base rfl) rfl)) rfl)) rfl) (by rw [hb3]; rfl)))))
 refine Xc rfl (jy [21, 22, 23, 24, 25, 26] [16, 17, 18, 19, 20, 21, 22, 23] 26 (.bool ((((decide (a2 < (1 : Int))) || (decide (a2 > (8 : Int)))) || (decide (a1 < (0 : Int)))) || (decide (a1 > (a0.length : Int))))) rfl (fun Kg4 => ?_) (fun j4 => ?_))
 ·
  rcases bft (((decide (a2 < (1 : Int))) || (decide (a2 > (8 : Int)))) || (decide (a1 < (0 : Int)))) with hb4 | hb4
  ·
   exact Yb hb4 (Xk rfl (Xk rfl (Xk rfl (Xk rfl (Xc rfl (Kg4 _ (Ag.put ((Ag.put ((Ag.put ((Ag.put ((Ag.put (Ag.base rfl) rfl)) rfl)) rfl)) rfl)) rfl) (by rw [hb4]; rfl)))))))
  exact Yb hb4 (Xc rfl (Yc w0_0 rfl (ln' A0_0 u22 rfl (Xc rfl (Xc rfl (Kg4 _ (Ag.put ((Ag.put ((Ag.put ((Ag.put ((Ag.put (Ag.base rfl) rfl)) rfl)) rfl)) rfl)) rfl) (by rw [hb4]; rfl)))))))
 refine Xc rfl (jy [27, 28, 29, 30, 31, 32, 33, 34] [] 34 (.bool (((((decide (a2 < (1 : Int))) || (decide (a2 > (8 : Int)))) || (decide (a1 < (0 : Int)))) || (decide (a1 > (a0.length : Int)))) || (decide (a2 > (IntKind.wrap .i64 ((a0.length : Int) - a1)))))) rfl (fun Kg5 => ?_) (fun j5 => ?_))
 ·
  rcases bft ((((decide (a2 < (1 : Int))) || (decide (a2 > (8 : Int)))) || (decide (a1 < (0 : Int)))) || (decide (a1 > (a0.length : Int)))) with hb5 | hb5
  ·
   exact Yb hb5 (Xk rfl (Xk rfl (Xk rfl (Xk rfl (Xk rfl (Xk rfl (Xc rfl (Kg5 _ (Ag.put ((Ag.put ((Ag.put ((Ag.put ((Ag.put ((Ag.put ((Ag.put (Ag.base rfl) rfl)) rfl)) rfl)) rfl)) rfl)) rfl)) rfl) (by rw [hb5]; rfl)))))))))
  exact Yb hb5 (Xc rfl (Yc w0_0 rfl (ln' A0_0 u22 rfl (Xc rfl (Xc rfl (Xc rfl (Xc rfl (Kg5 _ (Ag.put ((Ag.put ((Ag.put ((Ag.put ((Ag.put ((Ag.put ((Ag.put (Ag.base rfl) rfl)) rfl)) rfl)) rfl)) rfl)) rfl)) rfl) (by rw [hb5]; rfl)))))))))
 refine dn (cd rfl (fun h6 => ?_) (fun h6 => ?_))
 ·
  exact sr (Xc rfl (Xc rfl (dn (re rfl func166 rfl (Xu rfl (Xu rfl Xe)) rfl ⟨_, rfl, rfl, z.ky kp0⟩))))
 refine sk (sr (Xc rfl (dn (sq (sr (Xc rfl (Xc rfl (Xc rfl (dn (bl (lpI (fun (x7 : Int × Int) e w => ∃ (s : St) (e0 : Env), w = s.w ∧ e = upd (upd (upd (upd e0 0 w0_0) 1 (iI a1)) 8 (iI x7.1)) 9 (iI x7.2) ∧ Kp s0 s) ⟨s0, _, rfl, (ue (ue (ue (ue rfl rfl) rfl) rfl) rfl), kp0⟩ (fun g7 ih7 => ?_))))))))))))
 rintro x7 _ _ ⟨s8, _, rfl, rfl, Kx7⟩
 unfold spec_GetNum.b0
 refine sq (sr (Xc rfl (Xc rfl (dn (cd rfl (fun h9 => ?_) (fun h9 => ?_))))))
 ·
  refine sk (sq (bl (sr (Yc w0_0 rfl (Xc rfl (Xc rfl (Xc rfl ?_)))))))
  refine ix' (A0_0.kp Kx7) u22 z5 rfl (fun ad11 es11 h0_11 h1_11 he11 ce11 ia11 => ?_)
  obtain rfl := he11
  refine lc0' ce11 u5 rfl (cv' u3 u5 rfl (Xc rfl (dn (sq (sr (Xc rfl (Xc rfl (Xc rfl (jy [50, 51, 52, 53] [] 53 (.bool ((x7.2 == (7 : Int)) && (decide ((IntKind.wrap .i64 (at_ a0 (IntKind.wrap .i64 (a1 + x7.2)))) > (127 : Int))))) rfl (fun Kg13 => ?_) (fun j13 => ?_))))))))))
  ·
   rcases bft (x7.2 == (7 : Int)) with hb13 | hb13
   ·
    exact Yb hb13 (Xc rfl (Xc rfl (Xc rfl (Kg13 _ (Ag.put ((Ag.put ((Ag.put (Ag.base rfl) rfl)) rfl)) rfl) (by rw [hb13]; rfl)))))
   exact Yb hb13 (Xk rfl (Xk rfl (Xc rfl (Kg13 _ (Ag.put ((Ag.put ((Ag.put (Ag.base rfl) rfl)) rfl)) rfl) (by rw [hb13]; rfl)))))
  refine dn (cd rfl (fun h14 => ?_) (fun h14 => ?_))
  ·
   exact sr (Xc rfl (Xc rfl (dn (sgi (re rfl func166 rfl (Xu rfl (Xu rfl Xe)) rfl ⟨_, rfl, rfl, z.ky Kx7⟩)))))
  exact sk (rg (Xc rfl (Xc rfl (Xc rfl (Xc rfl (Xc rfl (dn (ib (rg (Xc rfl (Xc rfl (Xc rfl (dn (lb ih7 ⟨s8, _, rfl, (ue (ue (ue (ue rfl rfl) rfl) rfl) rfl), Kx7⟩))))))))))))))
 exact xt rfl (sgb (sr (Xc rfl (Xc rfl (Xc rfl (dn (re rfl func166 rfl (Xu rfl (Xu rfl Xe)) rfl ⟨_, rfl, rfl, z.ky Kx7⟩)))))))
def spec_l3low.b0 (a0 : (List Int)) (x2 : Int × Int) : Option ((Int × Int) ⊕ Int) :=
 (if (decide (x2.2 < (a0.length : Int))) = true then (if 0 ≤ x2.2 ∧ x2.2 < (a0.length : Int) then (some (Sum.inl ((ior .u64 (ishl .u64 x2.1 (8 : Int)) (IntKind.wrap .u64 (at_ a0 x2.2))), (IntKind.wrap .i64 (x2.2 + (1 : Int)))))) else none) else ((some x2.1).bind fun o => some (Sum.inr o)))
def spec_l3low.f (a0 : (List Int)) : Option (Int) :=
 (iter (spec_l3low.b0 a0) ((0 : Int), (0 : Int)))
def spec_l3low.Q (w : World) (F : Nat → Prop) (r : Int) (v : Value) (w' : World) : Prop :=
 v = (.int .u64 r) ∧ Ky [] w w'
theorem spec_l3low.calls (a0 : (List Int)) (w : World) (F : Nat → Prop) (w0_0 : Value) (h0_0 : Yr.rd w [w0_0] a0 F) (r : Int) (m : spec_l3low.f a0 = some r) :
  Calls prog 233 #[w0_0] w (RT (spec_l3low.Q w F) r) := by
 obtain ⟨s0, rfl, kp0, z⟩ := Xl w F
 refine Xd (args := [w0_0]) func233 ntmps233 rfl m ?_
 unfold spec_l3low.f
 refine sr (Xc rfl (dn (sr (Xc rfl (dn (sq (sr (Xc rfl (dn (bl (lpI (fun (x2 : Int × Int) e w => ∃ (s : St) (e0 : Env), w = s.w ∧ e = upd (upd (upd e0 0 w0_0) 3 (.int .u64 x2.1)) 4 (iI x2.2) ∧ Kp s0 s) ⟨s0, _, rfl, (ue (ue (ue rfl rfl) rfl) rfl), kp0⟩ (fun g2 ih2 => ?_))))))))))))
 rintro x2 _ _ ⟨s3, _, rfl, rfl, Kx2⟩
 unfold spec_l3low.b0
 refine sq (sr (Xc rfl (Yc w0_0 rfl ?_)))
 have A4 := (z.rd h0_0).kp Kx2
 refine ln' A4 u22 rfl (Xc rfl (dn (cd rfl (fun h5 => ?_) (fun h5 => ?_))))
 ·
  refine sk (sq (bl (rg (Xc rfl (shlK rfl rfl rfl rfl rfl rfl rfl rfl (Yc w0_0 rfl (Xc rfl (ix' A4 u22 z5 rfl (fun ad6 es6 h0_6 h1_6 he6 ce6 ia6 => ?_)))))))))
  obtain rfl := he6
  exact lc0' ce6 u5 rfl (cv' u129 u5 rfl (Xc rfl (Xc rfl (dn (ib (rg (Xc rfl (Xc rfl (Xc rfl (dn (lb ih2 ⟨s3, _, rfl, (ue (ue (ue rfl rfl) rfl) rfl), Kx2⟩)))))))))))
 exact xt rfl (sgb (sr (Xc rfl (Xc rfl (dn (re rfl func233 rfl (Xu rfl Xe) rfl ⟨_, rfl, rfl, z.ky Kx2⟩))))))
def spec_FloatUnrank.f (a0 : Int) : Option (Nat × Bool) :=
 ((if (a0 == (18446744073709551615 : Int)) = true then (some (9221120237041090560 : Int)) else ((if ((ishr .u64 a0 (63 : Int)) == (1 : Int)) = true then (some (iand .u64 a0 (9223372036854775807 : Int))) else (some (ixor .u64 (IntKind.max .u64) a0))).bind fun y3 => (some y3))).bind fun y1 => ((spec_FloatOf.f y1).bind fun r7 => ((spec_FloatRank.f r7).bind fun r9 => (if (r9 != a0) = true then (some ((0 : Nat), false)) else (some (r7, true))))))
def spec_FloatUnrank.Q (w : World) (F : Nat → Prop) (r : Nat × Bool) (v : Value) (w' : World) : Prop :=
 ∃ (v0 : Value), v = .tuple #[v0, (.bool r.2)] ∧ FL v0 r.1 ∧ Ky [] w w'
theorem spec_FloatUnrank.calls (a0 : Int) (w : World) (F : Nat → Prop)   (r : Nat × Bool) (m : spec_FloatUnrank.f a0 = some r) :
  Calls prog 234 #[(.int .u64 a0)] w (RT (spec_FloatUnrank.Q w F) r) := by
 obtain ⟨s0, rfl, kp0, z⟩ := Xl w F
 refine Xd (args := [(.int .u64 a0)]) func234 ntmps234 rfl m ?_
 unfold spec_FloatUnrank.f
 refine sr (Yh (.float .f64 0) rfl (Xc rfl (dn (sr (Xc rfl (dn (sq (sr (Xc rfl (Xc rfl (dn (jc (fun (y1 : Int) e w => ∃ (s : St) (e0 : Env), w = s.w ∧ e = upd (upd e0 0 (.int .u64 a0)) 4 (.int .u64 y1) ∧ Kp s0 s) (fun Gj1 Kj1 => ?_) ?_))))))))))))
 ·
  refine cd rfl (fun h2 => ?_) (fun h2 => ?_)
  ·
   exact rg (Xc rfl (dn (Kj1 _ _ _ ⟨s0, _, rfl, (ue (ue rfl rfl) rfl), kp0⟩)))
  refine sr (Xc rfl (shrK rfl rfl rfl rfl rfl rfl rfl rfl (Xc rfl (dn (jc (fun (y3 : Int) e w => ∃ (s : St) (e0 : Env), w = s.w ∧ e = upd (upd e0 0 (.int .u64 a0)) 4 (.int .u64 y3) ∧ Kp s0 s) (fun Gj3 Kj3 => ?_) ?_)))))
  ·
   refine cd rfl (fun h4 => ?_) (fun h4 => ?_)
   ·
    exact rg (Xc rfl (Xc rfl (Xc rfl (dn (Kj3 _ _ _ ⟨s0, _, rfl, (ue (ue rfl rfl) rfl), kp0⟩)))))
   exact rg (Xc rfl (Xc rfl (Xc rfl (dn (Kj3 _ _ _ ⟨s0, _, rfl, (ue (ue rfl rfl) rfl), kp0⟩)))))
  rintro y3 _ _ ⟨s5, _, rfl, rfl, Ky3⟩
  exact Kj1 _ _ _ ⟨s5, _, rfl, (ue (ue rfl rfl) rfl), Ky3⟩
 rintro y1 _ _ ⟨s6, _, rfl, rfl, Ky1⟩
 refine sr (Xc rfl (cl' rfl func231 rfl (spec_FloatOf.calls y1 s6.w (mm [] s6)) ?_))
 rintro r7 v7_0 w7 m7 ⟨f7_0, ky7⟩
 obtain ⟨s8, rfl, p8, n8⟩ := nwx s6 w7 40 ky7
 refine Yh v7_0 rfl (dn (sq (sr (Yc v7_0 rfl (Yn 41 rfl func197 rfl (spec_FloatRank.calls r7 s8.w (mm [] s8) v7_0 (Xq (s := s8) f7_0)) (fun r9 s10 p10 n10 => ?_))))))
 refine Xc rfl (Xc rfl (dn (cd rfl (fun h11 => ?_) (fun h11 => ?_))))
 ·
  refine sr (Yh (.float .f64 0) rfl (Xc rfl (dn ?_)))
  exact re rfl func234 rfl (Xu rfl (Xu rfl Xe)) rfl ⟨_, rfl, (.float .f64 0), rfl, (Yf rfl), z.ky (Ky1.st (Xn p8 p10) rfl)⟩
 refine sk (sr (Yc v7_0 rfl (Yh v7_0 rfl (Xc rfl (dn ?_)))))
 exact re rfl func234 rfl (Xu rfl (Xu rfl Xe)) rfl ⟨_, rfl, v7_0, rfl, f7_0, z.ky (Ky1.st (Xn p8 p10) rfl)⟩
def spec_KeyRead.f (a0 : (List Int)) : Option (Item × Bool) :=
 (if ((decide ((a0.length : Int) < (1 : Int))) || (decide ((a0.length : Int) > (41 : Int)))) = true then (some ((Item.mk (0 : Int) (0 : Int) (0 : Nat) ([] : (List Int))), false)) else (if 0 ≤ (0 : Int) ∧ (0 : Int) < (a0.length : Int) then ((if ((IntKind.wrap .i64 (at_ a0 (0 : Int))) == (1 : Int)) = true then (if 0 ≤ (1 : Int) ∧ (1 : Int) ≤ (a0.length : Int) then ((spec_l3low.f (a0.drop ((1 : Int)).toNat)).bind fun r26 => (some ((IntKind.wrap .i64 (ixor .u64 r26 (9223372036854775808 : Int))), (0 : Nat), ([] : (List Int))))) else none) else ((if ((IntKind.wrap .i64 (at_ a0 (0 : Int))) == (2 : Int)) = true then (if 0 ≤ (1 : Int) ∧ (1 : Int) ≤ (a0.length : Int) then ((spec_l3low.f (a0.drop ((1 : Int)).toNat)).bind fun r39 => ((spec_FloatUnrank.f r39).bind fun r41 => (some (r41.1, ([] : (List Int)))))) else none) else ((if ((IntKind.wrap .i64 (at_ a0 (0 : Int))) == (3 : Int)) = true then (if 0 ≤ (1 : Int) ∧ (1 : Int) ≤ (a0.length : Int) then (if ([] : (List Int)).length + (a0.drop ((1 : Int)).toNat).length ≤ Lim then (some (([] : (List Int)) ++ (a0.drop ((1 : Int)).toNat))) else none) else none) else (some ([] : (List Int)))).bind fun y48 => (some ((0 : Nat), y48)))).bind fun y33 => (some ((0 : Int), y33.1, y33.2)))).bind fun y20 => ((spec_KeyBytes.f (Item.mk (IntKind.wrap .i64 (at_ a0 (0 : Int))) y20.1 y20.2.1 y20.2.2)).bind fun r90 => (if (!((str r90).toList == (str a0).toList)) = true then (some ((Item.mk (0 : Int) (0 : Int) (0 : Nat) ([] : (List Int))), false)) else (some ((Item.mk (IntKind.wrap .i64 (at_ a0 (0 : Int))) y20.1 y20.2.1 y20.2.2), true))))) else none))
def spec_KeyRead.Q (w : World) (F : Nat → Prop) (r : Item × Bool) (v : Value) (w' : World) : Prop :=
 ∃ (v0 : Value) (v1 : Value), v = .tuple #[(.agg #[(iI r.1.Kind), (iI r.1.N), v0, v1]), (.bool r.2)] ∧ FO kd29 w w' [(iI r.1.Kind), (iI r.1.N), v0, v1] r.1 ∧ Ky [] w w'
theorem spec_KeyRead.calls (a0 : (List Int)) (w : World) (F : Nat → Prop) (w0_0 : Value) (h0_0 : Yr.rd w [w0_0] a0 F) (r : Item × Bool) (m : spec_KeyRead.f a0 = some r) :
  Calls prog 167 #[w0_0] w (RT (spec_KeyRead.Q w F) r) := by
 obtain ⟨s0, rfl, kp0, z⟩ := Xl w F
 have A0_0 := z.rd h0_0
 refine Xd (args := [w0_0]) func167 ntmps167 rfl m ?_
 unfold spec_KeyRead.f
 refine sr (al' (cs := [(iI 0), (iI 0), (.float .f64 0), (.slice none 0 0)]) 40 rfl o29 rfl (fun b2 s2 p2 B2 => ?_))
 refine Xc rfl (dn (sr (al' (cs := [(iI 0), (iI 0), (.float .f64 0), (.slice none 0 0)]) 41 rfl o29 rfl (fun b4 s4 p4 B4 => ?_))))
 refine dn (sq (sr (Yc w0_0 rfl ?_)))
 have K6 := kp0.st (Xn p2 p4) rfl
 have A7 := A0_0.kp K6
 refine ln' A7 u22 rfl (Xc rfl (Xc rfl (jy [8, 9, 10, 11, 12] [] 12 (.bool ((decide ((a0.length : Int) < (1 : Int))) || (decide ((a0.length : Int) > (41 : Int))))) rfl (fun Kg8 => ?_) (fun j8 => ?_))))
 ·
  rcases bft (decide ((a0.length : Int) < (1 : Int))) with hb8 | hb8
  ·
   exact Yb hb8 (Xk rfl (Xk rfl (Xk rfl (Xc rfl (Kg8 _ (Ag.put ((Ag.put ((Ag.put ((Ag.put (Ag.base rfl) rfl)) rfl)) rfl)) rfl) (by rw [hb8]; rfl))))))
  exact Yb hb8 (Yc w0_0 rfl (ln' A7 u22 rfl (Xc rfl (Xc rfl (Kg8 _ (Ag.put ((Ag.put ((Ag.put ((Ag.put (Ag.base rfl) rfl)) rfl)) rfl)) rfl) (by rw [hb8]; rfl))))))
 refine dn (cd rfl (fun h9 => ?_) (fun h9 => ?_))
 ·
  refine sr (Ya (es := [(iI 0), (iI 0), (.float .f64 0), (.slice none 0 0)]) B4 u29 z29 rfl ?_)
  refine Xx (vs := [(iI 0), (iI 0), (.float .f64 0), (.slice none 0 0)]) (B2.st p4 rfl) z29 rfl (Xb rfl (Xb rfl (Xb (FL.one (Yf rfl)) (Xb rfl Xj)))) rfl (fun s11 p11 B11 => ?_)
  refine Xc rfl (dn ?_)
  have A13 : OwF kd29 s11 [(iI 0), (iI 0), (.float .f64 0), (.slice none 0 0)] (Item.mk (0 : Int) (0 : Int) (0 : Nat) ([] : (List Int))) 42 := ow_z _ _ (Yj (fun x : Item => (x.Kind, x.N, x.F, x.T)) (Item.mk (0 : Int) (0 : Int) (0 : Nat) ([] : (List Int))) (Xi (Xf .i64 (0 : Int)) (Xi (Xf .i64 (0 : Int)) (Xi (Xz (Yf rfl)) (Yk 5 (Kd.int .u8))))))
  have K15 := K6.st p11 rfl
  exact re rfl func167 rfl (r_b B11 u29 rfl z29 rfl (Xu rfl Xe)) rfl ⟨_, rfl, (.float .f64 0), (.slice none 0 0), rfl, A13.fo K15 rfl z.l, z.ky K15⟩
 refine sk (sr (Yc w0_0 rfl (ix' A7 u22 z5 rfl (fun ad16 es16 h0_16 h1_16 he16 ce16 ia16 => ?_))))
 obtain rfl := he16
 refine lc0' ce16 u5 rfl (cv' u3 u5 rfl (Ye fa29_0 rfl (sv' B4 z3 rfl rfl rfl (fun s18 p18 B18 => ?_))))
 refine dn (sq (sr (Ye fa29_0 rfl (Yl B18 u3 rfl (dn (bl (sr (Xc rfl (Xc rfl (dn (jc (fun (y20 : Int × Nat × (List Int)) e w => ∃ (s : St) (e0 : Env) (vy20_0 uy20_0 : Value), w = s.w ∧ e = upd (upd (upd e0 0 w0_0) 2 (pB b2)) 4 (pB b4) ∧ Kp s0 s ∧ OwF Yr s [vy20_0] y20.2.2 46 ∧ FL uy20_0 y20.2.1 ∧ BlF s b4 29 [(iI (IntKind.wrap .i64 (at_ a0 (0 : Int)))), (iI y20.1), uy20_0, vy20_0] 41 ∧ BlF s b2 29 [(iI 0), (iI 0), (.float .f64 0), (.slice none 0 0)] 40) (fun Gj20 Kj20 => ?_) ?_)))))))))))
 ·
  refine cd rfl (fun h21 => ?_) (fun h21 => ?_)
  ·
   refine rg (Yc w0_0 rfl ?_)
   have K22 := K6.st p18 rfl
   refine sla (A0_0.kp K22) u22 z5 rfl rfl rfl rfl rfl rfl rfl (fun v24 A24 => ?_)
   refine Yn 43 rfl func233 rfl (spec_l3low.calls (a0.drop ((1 : Int)).toNat) s18.w (mm [0] s18) v24 A24) (fun r26 s27 p27 n27 => ?_)
   refine Xc rfl (cv' u3 u129 rfl (Ye fa29_1 rfl ?_))
   refine sv' (B18.st p27 rfl) z3 rfl rfl rfl (fun s29 p29 B29 => ?_)
   exact dn (Kj20 _ _ _ ⟨s29, _, (.slice none 0 0), (.float .f64 0), rfl, (ue (ue (ue rfl rfl) rfl) rfl), (K22.st (Xn p27 p29) rfl), (Ym 5 (Kd.int .u8) _ 46), (Yf rfl), B29, (B2.st (Yo p4 p18 p27 p29) rfl)⟩)
  refine sr (Xc rfl (Xc rfl (dn (jc (fun (y33 : Nat × (List Int)) e w => ∃ (s : St) (e0 : Env) (vy33_0 uy33_0 : Value), w = s.w ∧ e = upd (upd (upd e0 0 w0_0) 2 (pB b2)) 4 (pB b4) ∧ Kp s0 s ∧ OwF Yr s [vy33_0] y33.2 46 ∧ FL uy33_0 y33.1 ∧ BlF s b4 29 [(iI (IntKind.wrap .i64 (at_ a0 (0 : Int)))), (iI 0), uy33_0, vy33_0] 41 ∧ BlF s b2 29 [(iI 0), (iI 0), (.float .f64 0), (.slice none 0 0)] 40) (fun Gj33 Kj33 => ?_) ?_))))
  ·
   refine cd rfl (fun h34 => ?_) (fun h34 => ?_)
   ·
    refine rg (Yc w0_0 rfl ?_)
    have K35 := K6.st p18 rfl
    refine sla (A0_0.kp K35) u22 z5 rfl rfl rfl rfl rfl rfl rfl (fun v37 A37 => ?_)
    refine Yn 44 rfl func233 rfl (spec_l3low.calls (a0.drop ((1 : Int)).toNat) s18.w (mm [0] s18) v37 A37) (fun r39 s40 p40 n40 => ?_)
    refine cl' rfl func234 rfl (spec_FloatUnrank.calls r39 s40.w (mm [] s40)) ?_
    rintro r41 _ w41 m41 ⟨v41_0, rfl, f41_0, ky41⟩
    obtain ⟨s42, rfl, p42, n42⟩ := nwx s40 w41 45 ky41
    refine Xc rfl (Xc (v := v41_0) rfl (Xc (v := (.bool r41.2)) rfl (Ye fa29_2 rfl ?_)))
    refine sv' (B18.st (Xn p40 p42) rfl) z27 rfl (FL.one f41_0) rfl (fun s44 p44 B44 => ?_)
    exact dn (Kj33 _ _ _ ⟨s44, _, (.slice none 0 0), v41_0, rfl, (ue (ue (ue rfl rfl) rfl) rfl), (K35.st (Yi p40 p42 p44) rfl), (Ym 5 (Kd.int .u8) _ 46), f41_0, B44, (B2.st (tr5 p4 p18 p40 p42 p44) rfl)⟩)
   refine sr (Xc rfl (Xc rfl (dn (jc (fun (y48 : (List Int)) e w => ∃ (s : St) (e0 : Env) (vy48_0 : Value), w = s.w ∧ e = upd (upd (upd e0 0 w0_0) 2 (pB b2)) 4 (pB b4) ∧ Kp s0 s ∧ OwF Yr s [vy48_0] y48 46 ∧ BlF s b4 29 [(iI (IntKind.wrap .i64 (at_ a0 (0 : Int)))), (iI 0), (.float .f64 0), vy48_0] 41 ∧ BlF s b2 29 [(iI 0), (iI 0), (.float .f64 0), (.slice none 0 0)] 40) (fun Gj48 Kj48 => ?_) ?_))))
   ·
    refine cd rfl (fun h49 => ?_) (fun h49 => ?_)
    ·
     refine rg (lt0 (K := (Kd.int .u8)) 46 u22 z5 rfl rfl rfl rfl rfl (fun v50 s50 p50 A50 => ?_))
     refine Yc w0_0 rfl ?_
     have K52 := K6.st (Xn p18 p50) rfl
     refine sla (A0_0.kp K52) u22 z5 rfl rfl rfl rfl rfl rfl rfl (fun v54 A54 => ?_)
     refine apF' Xv sl22 A50 A54 rfl (fun v56 s56 p56 A56 => ?_)
     refine Ye fa29_3 rfl (sv' (B18.st (Xn p50 p56) rfl) z22 rfl A56.rd.one rfl (fun s59 p59 B59 => ?_))
     exact dn (Kj48 _ _ _ ⟨s59, _, v56, rfl, (ue (ue (ue rfl rfl) rfl) rfl), (K52.st (Xn p56 p59) rfl), (A56.st p59 rfl), B59, (B2.st (tr5 p4 p18 p50 p56 p59) rfl)⟩)
    exact sk (Kj48 _ _ _ ⟨s18, _, (.slice none 0 0), rfl, (ue (ue (ue rfl rfl) rfl) rfl), (K6.st p18 rfl), (Ym 5 (Kd.int .u8) _ 46), B18, (B2.st (Xn p4 p18) rfl)⟩)
   rintro y48 _ _ ⟨s66, _, vy48_0, rfl, rfl, Ky48, Ay48_0, By48_b4, By48_b2⟩
   exact Kj33 _ _ _ ⟨s66, _, vy48_0, (.float .f64 0), rfl, (ue (ue (ue rfl rfl) rfl) rfl), Ky48, Ay48_0, (Yf rfl), By48_b4, By48_b2⟩
  rintro y33 _ _ ⟨s70, _, vy33_0, uy33_0, rfl, rfl, Ky33, Ay33_0, Fy33_0, By33_b4, By33_b2⟩
  exact Kj20 _ _ _ ⟨s70, _, vy33_0, uy33_0, rfl, (ue (ue (ue rfl rfl) rfl) rfl), Ky33, Ay33_0, Fy33_0, By33_b4, By33_b2⟩
 rintro y20 _ _ ⟨s74, _, vy20_0, uy20_0, rfl, rfl, Ky20, Ay20_0, Fy20_0, By20_b4, By20_b2⟩
 refine ib (sq (sq (zdraw [[], [0], [1], [], [3], [2, 4]] [some 46, some 47, some 48, some 49, some 50, some 51] [[4], [46], [47], [0], [49], [48, 50]] [0, 1, 2, 3, 4, 5] ⟨by kernel_rfl, by kernel_rfl, by kernel_rfl⟩ (by kernel_rfl) (fun s78 p78 l78 tb78 zd78 => ?_))))
 refine Xt 1 [some 50, some 49] tb78 (((zd78.add 0 46 (.agg #[(iI (IntKind.wrap .i64 (at_ a0 (0 : Int)))), (iI y20.1), uy20_0, vy20_0]) rfl).add 3 49 w0_0 rfl).add 4 50 (.string (str a0)) rfl) (Xa (b2s_q (A0_0.kp (Ky20.st p78 rfl)) u22 u9 u5 rfl rfl rfl rfl rfl rfl) rfl (Xa (Xr w0_0 rfl) rfl (Xa (Yg (es := [(iI (IntKind.wrap .i64 (at_ a0 (0 : Int)))), (iI y20.1), uy20_0, vy20_0]) (By20_b4.st p78 rfl) u29 z29 rfl) rfl Xg))) (by kernel_rfl) rfl (fun l85 e85 zd85 => ?_)
 have A89 := Ay20_0.st p78 rfl
 refine clO 47 rfl func109 rfl (spec_KeyBytes.calls (Item.mk (IntKind.wrap .i64 (at_ a0 (0 : Int))) y20.1 y20.2.1 y20.2.2) s78.w (mm [46] s78) uy20_0 vy20_0 ((Xq (s := s78) Fy20_0).sub (D := [46]) rfl) A89.rd) (fun r90 v90_0 s91 p91 A90_0 => ?_)
 refine Xm (L' := [4, 3]) (D' := [0, 1]) zd85 rfl (fun zd93 => ?_)
 refine Yp [5] tb78 (zd93.add 2 48 (.string (str r90)) rfl) (Xa (b2s_q A90_0.rd u22 u9 u5 rfl rfl rfl rfl rfl rfl) rfl (Xa (b2s_q (A0_0.kp (Ky20.st (Xn p78 p91) rfl)) u22 u9 u5 rfl rfl rfl rfl rfl rfl) rfl (Xa (Xr w0_0 rfl) rfl Xg))) (by kernel_rfl) (by decide) (Xc rfl (dn (cd rfl (fun h97 => ?_) (fun h97 => ?_))))
 ·
  refine sr (bd' (cells := [(iI 0), (iI 0), (.float .f64 0), (.slice none 0 0)]) pl29 o29 rfl rfl ?_)
  refine Xx (vs := [(iI 0), (iI 0), (.float .f64 0), (.slice none 0 0)]) (By20_b2.st (Xn p78 p91) rfl) z29 rfl (Xb rfl (Xb rfl (Xb (FL.one (Yf rfl)) (Xb rfl Xj)))) rfl (fun s99 p99 B99 => ?_)
  refine Xc rfl (dn ?_)
  have A101 : OwF kd29 s99 [(iI 0), (iI 0), (.float .f64 0), (.slice none 0 0)] (Item.mk (0 : Int) (0 : Int) (0 : Nat) ([] : (List Int))) 48 := ow_z _ _ (Yj (fun x : Item => (x.Kind, x.N, x.F, x.T)) (Item.mk (0 : Int) (0 : Int) (0 : Nat) ([] : (List Int))) (Xi (Xf .i64 (0 : Int)) (Xi (Xf .i64 (0 : Int)) (Xi (Xz (Yf rfl)) (Yk 5 (Kd.int .u8))))))
  have K103 := Ky20.st (Yi p78 p91 p99) rfl
  exact re rfl func167 rfl (r_b B99 u29 rfl z29 rfl (Xu rfl Xe)) rfl ⟨_, rfl, (.float .f64 0), (.slice none 0 0), rfl, A101.fo K103 rfl z.l, z.ky K103⟩
 refine sk (sr ?_)
 refine Ya (es := [(iI (IntKind.wrap .i64 (at_ a0 (0 : Int)))), (iI y20.1), uy20_0, vy20_0]) (By20_b4.st (Xn p78 p91) rfl) u29 z29 rfl ?_
 have A106 := A89.st p91 rfl
 refine Xx (vs := [(iI (IntKind.wrap .i64 (at_ a0 (0 : Int)))), (iI y20.1), uy20_0, vy20_0]) (By20_b2.st (Xn p78 p91) rfl) z29 rfl (Xb rfl (Xb rfl (Xb (FL.one Fy20_0) (Xb A106.rd.one Xj)))) rfl (fun s107 p107 B107 => ?_)
 refine Xc rfl (dn ?_)
 have A109 : OwF kd29 s107 [(iI (IntKind.wrap .i64 (at_ a0 (0 : Int)))), (iI y20.1), uy20_0, vy20_0] (Item.mk (IntKind.wrap .i64 (at_ a0 (0 : Int))) y20.1 y20.2.1 y20.2.2) 46 := (Xs (fun x : Item => (x.Kind, x.N, x.F, x.T)) (Item.mk (IntKind.wrap .i64 (at_ a0 (0 : Int))) y20.1 y20.2.1 y20.2.2) (Xy (Xf .i64 (IntKind.wrap .i64 (at_ a0 (0 : Int)))) (Xy (Xf .i64 y20.1) (Xy (Xz Fy20_0) (A106.st p107 rfl)))))
 have K112 := Ky20.st (Yi p78 p91 p107) rfl
 exact re rfl func167 rfl (r_b B107 u29 rfl z29 rfl (Xu rfl Xe)) rfl ⟨_, rfl, uy20_0, vy20_0, rfl, A109.fo K112 rfl z.l, z.ky K112⟩
def spec_ValueRead.f (a0 : (List Int)) : Option (Item × Bool) :=
 (if ((decide ((a0.length : Int) < (1 : Int))) || (decide ((a0.length : Int) > (41 : Int)))) = true then (some ((Item.mk (0 : Int) (0 : Int) (0 : Nat) ([] : (List Int))), false)) else (if 0 ≤ (0 : Int) ∧ (0 : Int) < (a0.length : Int) then ((if ((IntKind.wrap .i64 (at_ a0 (0 : Int))) == (1 : Int)) = true then (if 0 ≤ (1 : Int) ∧ (1 : Int) ≤ (a0.length : Int) then ((spec_l3low.f (a0.drop ((1 : Int)).toNat)).bind fun r26 => (some ((IntKind.wrap .i64 (ixor .u64 r26 (9223372036854775808 : Int))), (0 : Nat), ([] : (List Int))))) else none) else ((if ((IntKind.wrap .i64 (at_ a0 (0 : Int))) == (2 : Int)) = true then (if 0 ≤ (1 : Int) ∧ (1 : Int) ≤ (a0.length : Int) then ((spec_l3low.f (a0.drop ((1 : Int)).toNat)).bind fun r39 => ((spec_FloatOf.f r39).bind fun r41 => (some (r41, ([] : (List Int)))))) else none) else ((if ((IntKind.wrap .i64 (at_ a0 (0 : Int))) == (3 : Int)) = true then (if 0 ≤ (1 : Int) ∧ (1 : Int) ≤ (a0.length : Int) then (if ([] : (List Int)).length + (a0.drop ((1 : Int)).toNat).length ≤ Lim then (some (([] : (List Int)) ++ (a0.drop ((1 : Int)).toNat))) else none) else none) else (some ([] : (List Int)))).bind fun y48 => (some ((0 : Nat), y48)))).bind fun y33 => (some ((0 : Int), y33.1, y33.2)))).bind fun y20 => ((spec_ValueBytes.f (Item.mk (IntKind.wrap .i64 (at_ a0 (0 : Int))) y20.1 y20.2.1 y20.2.2)).bind fun r90 => (if (!((str r90).toList == (str a0).toList)) = true then (some ((Item.mk (0 : Int) (0 : Int) (0 : Nat) ([] : (List Int))), false)) else (some ((Item.mk (IntKind.wrap .i64 (at_ a0 (0 : Int))) y20.1 y20.2.1 y20.2.2), true))))) else none))
def spec_ValueRead.Q (w : World) (F : Nat → Prop) (r : Item × Bool) (v : Value) (w' : World) : Prop :=
 ∃ (v0 : Value) (v1 : Value), v = .tuple #[(.agg #[(iI r.1.Kind), (iI r.1.N), v0, v1]), (.bool r.2)] ∧ FO kd29 w w' [(iI r.1.Kind), (iI r.1.N), v0, v1] r.1 ∧ Ky [] w w'
theorem spec_ValueRead.calls (a0 : (List Int)) (w : World) (F : Nat → Prop) (w0_0 : Value) (h0_0 : Yr.rd w [w0_0] a0 F) (r : Item × Bool) (m : spec_ValueRead.f a0 = some r) :
  Calls prog 168 #[w0_0] w (RT (spec_ValueRead.Q w F) r) := by
 obtain ⟨s0, rfl, kp0, z⟩ := Xl w F
 have A0_0 := z.rd h0_0
 refine Xd (args := [w0_0]) func168 ntmps168 rfl m ?_
 unfold spec_ValueRead.f
 refine sr (al' (cs := [(iI 0), (iI 0), (.float .f64 0), (.slice none 0 0)]) 40 rfl o29 rfl (fun b2 s2 p2 B2 => ?_))
 refine Xc rfl (dn (sr (al' (cs := [(iI 0), (iI 0), (.float .f64 0), (.slice none 0 0)]) 41 rfl o29 rfl (fun b4 s4 p4 B4 => ?_))))
 refine dn (sq (sr (Yc w0_0 rfl ?_)))
 have K6 := kp0.st (Xn p2 p4) rfl
 have A7 := A0_0.kp K6
 refine ln' A7 u22 rfl (Xc rfl (Xc rfl (jy [8, 9, 10, 11, 12] [] 12 (.bool ((decide ((a0.length : Int) < (1 : Int))) || (decide ((a0.length : Int) > (41 : Int))))) rfl (fun Kg8 => ?_) (fun j8 => ?_))))
 ·
  rcases bft (decide ((a0.length : Int) < (1 : Int))) with hb8 | hb8
  ·
   exact Yb hb8 (Xk rfl (Xk rfl (Xk rfl (Xc rfl (Kg8 _ (Ag.put ((Ag.put ((Ag.put ((Ag.put (Ag.base rfl) rfl)) rfl)) rfl)) rfl) (by rw [hb8]; rfl))))))
  exact Yb hb8 (Yc w0_0 rfl (ln' A7 u22 rfl (Xc rfl (Xc rfl (Kg8 _ (Ag.put ((Ag.put ((Ag.put ((Ag.put (Ag.base rfl) rfl)) rfl)) rfl)) rfl) (by rw [hb8]; rfl))))))
 refine dn (cd rfl (fun h9 => ?_) (fun h9 => ?_))
 ·
  refine sr (Ya (es := [(iI 0), (iI 0), (.float .f64 0), (.slice none 0 0)]) B4 u29 z29 rfl ?_)
  refine Xx (vs := [(iI 0), (iI 0), (.float .f64 0), (.slice none 0 0)]) (B2.st p4 rfl) z29 rfl (Xb rfl (Xb rfl (Xb (FL.one (Yf rfl)) (Xb rfl Xj)))) rfl (fun s11 p11 B11 => ?_)
  refine Xc rfl (dn ?_)
  have A13 : OwF kd29 s11 [(iI 0), (iI 0), (.float .f64 0), (.slice none 0 0)] (Item.mk (0 : Int) (0 : Int) (0 : Nat) ([] : (List Int))) 42 := ow_z _ _ (Yj (fun x : Item => (x.Kind, x.N, x.F, x.T)) (Item.mk (0 : Int) (0 : Int) (0 : Nat) ([] : (List Int))) (Xi (Xf .i64 (0 : Int)) (Xi (Xf .i64 (0 : Int)) (Xi (Xz (Yf rfl)) (Yk 5 (Kd.int .u8))))))
  have K15 := K6.st p11 rfl
  exact re rfl func168 rfl (r_b B11 u29 rfl z29 rfl (Xu rfl Xe)) rfl ⟨_, rfl, (.float .f64 0), (.slice none 0 0), rfl, A13.fo K15 rfl z.l, z.ky K15⟩
 refine sk (sr (Yc w0_0 rfl (ix' A7 u22 z5 rfl (fun ad16 es16 h0_16 h1_16 he16 ce16 ia16 => ?_))))
 obtain rfl := he16
 refine lc0' ce16 u5 rfl (cv' u3 u5 rfl (Ye fa29_0 rfl (sv' B4 z3 rfl rfl rfl (fun s18 p18 B18 => ?_))))
 refine dn (sq (sr (Ye fa29_0 rfl (Yl B18 u3 rfl (dn (bl (sr (Xc rfl (Xc rfl (dn (jc (fun (y20 : Int × Nat × (List Int)) e w => ∃ (s : St) (e0 : Env) (vy20_0 uy20_0 : Value), w = s.w ∧ e = upd (upd (upd e0 0 w0_0) 2 (pB b2)) 4 (pB b4) ∧ Kp s0 s ∧ OwF Yr s [vy20_0] y20.2.2 46 ∧ FL uy20_0 y20.2.1 ∧ BlF s b4 29 [(iI (IntKind.wrap .i64 (at_ a0 (0 : Int)))), (iI y20.1), uy20_0, vy20_0] 41 ∧ BlF s b2 29 [(iI 0), (iI 0), (.float .f64 0), (.slice none 0 0)] 40) (fun Gj20 Kj20 => ?_) ?_)))))))))))
 ·
  refine cd rfl (fun h21 => ?_) (fun h21 => ?_)
  ·
   refine rg (Yc w0_0 rfl ?_)
   have K22 := K6.st p18 rfl
   refine sla (A0_0.kp K22) u22 z5 rfl rfl rfl rfl rfl rfl rfl (fun v24 A24 => ?_)
   refine Yn 43 rfl func233 rfl (spec_l3low.calls (a0.drop ((1 : Int)).toNat) s18.w (mm [0] s18) v24 A24) (fun r26 s27 p27 n27 => ?_)
   refine Xc rfl (cv' u3 u129 rfl (Ye fa29_1 rfl ?_))
   refine sv' (B18.st p27 rfl) z3 rfl rfl rfl (fun s29 p29 B29 => ?_)
   exact dn (Kj20 _ _ _ ⟨s29, _, (.slice none 0 0), (.float .f64 0), rfl, (ue (ue (ue rfl rfl) rfl) rfl), (K22.st (Xn p27 p29) rfl), (Ym 5 (Kd.int .u8) _ 46), (Yf rfl), B29, (B2.st (Yo p4 p18 p27 p29) rfl)⟩)
  refine sr (Xc rfl (Xc rfl (dn (jc (fun (y33 : Nat × (List Int)) e w => ∃ (s : St) (e0 : Env) (vy33_0 uy33_0 : Value), w = s.w ∧ e = upd (upd (upd e0 0 w0_0) 2 (pB b2)) 4 (pB b4) ∧ Kp s0 s ∧ OwF Yr s [vy33_0] y33.2 46 ∧ FL uy33_0 y33.1 ∧ BlF s b4 29 [(iI (IntKind.wrap .i64 (at_ a0 (0 : Int)))), (iI 0), uy33_0, vy33_0] 41 ∧ BlF s b2 29 [(iI 0), (iI 0), (.float .f64 0), (.slice none 0 0)] 40) (fun Gj33 Kj33 => ?_) ?_))))
  ·
   refine cd rfl (fun h34 => ?_) (fun h34 => ?_)
   ·
    refine rg (Yc w0_0 rfl ?_)
    have K35 := K6.st p18 rfl
    refine sla (A0_0.kp K35) u22 z5 rfl rfl rfl rfl rfl rfl rfl (fun v37 A37 => ?_)
    refine Yn 44 rfl func233 rfl (spec_l3low.calls (a0.drop ((1 : Int)).toNat) s18.w (mm [0] s18) v37 A37) (fun r39 s40 p40 n40 => ?_)
    refine cl' rfl func231 rfl (spec_FloatOf.calls r39 s40.w (mm [] s40)) ?_
    rintro r41 v41_0 w41 m41 ⟨f41_0, ky41⟩
    obtain ⟨s42, rfl, p42, n42⟩ := nwx s40 w41 45 ky41
    refine Ye fa29_2 rfl (sv' (B18.st (Xn p40 p42) rfl) z27 rfl (FL.one f41_0) rfl (fun s44 p44 B44 => ?_))
    exact dn (Kj33 _ _ _ ⟨s44, _, (.slice none 0 0), v41_0, rfl, (ue (ue (ue rfl rfl) rfl) rfl), (K35.st (Yi p40 p42 p44) rfl), (Ym 5 (Kd.int .u8) _ 46), f41_0, B44, (B2.st (tr5 p4 p18 p40 p42 p44) rfl)⟩)
   refine sr (Xc rfl (Xc rfl (dn (jc (fun (y48 : (List Int)) e w => ∃ (s : St) (e0 : Env) (vy48_0 : Value), w = s.w ∧ e = upd (upd (upd e0 0 w0_0) 2 (pB b2)) 4 (pB b4) ∧ Kp s0 s ∧ OwF Yr s [vy48_0] y48 46 ∧ BlF s b4 29 [(iI (IntKind.wrap .i64 (at_ a0 (0 : Int)))), (iI 0), (.float .f64 0), vy48_0] 41 ∧ BlF s b2 29 [(iI 0), (iI 0), (.float .f64 0), (.slice none 0 0)] 40) (fun Gj48 Kj48 => ?_) ?_))))
   ·
    refine cd rfl (fun h49 => ?_) (fun h49 => ?_)
    ·
     refine rg (lt0 (K := (Kd.int .u8)) 46 u22 z5 rfl rfl rfl rfl rfl (fun v50 s50 p50 A50 => ?_))
     refine Yc w0_0 rfl ?_
     have K52 := K6.st (Xn p18 p50) rfl
     refine sla (A0_0.kp K52) u22 z5 rfl rfl rfl rfl rfl rfl rfl (fun v54 A54 => ?_)
     refine apF' Xv sl22 A50 A54 rfl (fun v56 s56 p56 A56 => ?_)
     refine Ye fa29_3 rfl (sv' (B18.st (Xn p50 p56) rfl) z22 rfl A56.rd.one rfl (fun s59 p59 B59 => ?_))
     exact dn (Kj48 _ _ _ ⟨s59, _, v56, rfl, (ue (ue (ue rfl rfl) rfl) rfl), (K52.st (Xn p56 p59) rfl), (A56.st p59 rfl), B59, (B2.st (tr5 p4 p18 p50 p56 p59) rfl)⟩)
    exact sk (Kj48 _ _ _ ⟨s18, _, (.slice none 0 0), rfl, (ue (ue (ue rfl rfl) rfl) rfl), (K6.st p18 rfl), (Ym 5 (Kd.int .u8) _ 46), B18, (B2.st (Xn p4 p18) rfl)⟩)
   rintro y48 _ _ ⟨s66, _, vy48_0, rfl, rfl, Ky48, Ay48_0, By48_b4, By48_b2⟩
   exact Kj33 _ _ _ ⟨s66, _, vy48_0, (.float .f64 0), rfl, (ue (ue (ue rfl rfl) rfl) rfl), Ky48, Ay48_0, (Yf rfl), By48_b4, By48_b2⟩
  rintro y33 _ _ ⟨s70, _, vy33_0, uy33_0, rfl, rfl, Ky33, Ay33_0, Fy33_0, By33_b4, By33_b2⟩
  exact Kj20 _ _ _ ⟨s70, _, vy33_0, uy33_0, rfl, (ue (ue (ue rfl rfl) rfl) rfl), Ky33, Ay33_0, Fy33_0, By33_b4, By33_b2⟩
 rintro y20 _ _ ⟨s74, _, vy20_0, uy20_0, rfl, rfl, Ky20, Ay20_0, Fy20_0, By20_b4, By20_b2⟩
 refine ib (sq (sq (zdraw [[], [0], [1], [], [3], [2, 4]] [some 43, some 44, some 45, some 46, some 47, some 48] [[4], [43], [44], [0], [46], [45, 47]] [0, 1, 2, 3, 4, 5] ⟨by kernel_rfl, by kernel_rfl, by kernel_rfl⟩ (by kernel_rfl) (fun s78 p78 l78 tb78 zd78 => ?_))))
 refine Xt 1 [some 47, some 46] tb78 (((zd78.add 0 43 (.agg #[(iI (IntKind.wrap .i64 (at_ a0 (0 : Int)))), (iI y20.1), uy20_0, vy20_0]) rfl).add 3 46 w0_0 rfl).add 4 47 (.string (str a0)) rfl) (Xa (b2s_q (A0_0.kp (Ky20.st p78 rfl)) u22 u9 u5 rfl rfl rfl rfl rfl rfl) rfl (Xa (Xr w0_0 rfl) rfl (Xa (Yg (es := [(iI (IntKind.wrap .i64 (at_ a0 (0 : Int)))), (iI y20.1), uy20_0, vy20_0]) (By20_b4.st p78 rfl) u29 z29 rfl) rfl Xg))) (by kernel_rfl) rfl (fun l85 e85 zd85 => ?_)
 have A89 := Ay20_0.st p78 rfl
 refine clO 47 rfl func110 rfl (spec_ValueBytes.calls (Item.mk (IntKind.wrap .i64 (at_ a0 (0 : Int))) y20.1 y20.2.1 y20.2.2) s78.w (mm [46] s78) uy20_0 vy20_0 ((Xq (s := s78) Fy20_0).sub (D := [46]) rfl) A89.rd) (fun r90 v90_0 s91 p91 A90_0 => ?_)
 refine Xm (L' := [4, 3]) (D' := [0, 1]) zd85 rfl (fun zd93 => ?_)
 refine Yp [5] tb78 (zd93.add 2 45 (.string (str r90)) rfl) (Xa (b2s_q A90_0.rd u22 u9 u5 rfl rfl rfl rfl rfl rfl) rfl (Xa (b2s_q (A0_0.kp (Ky20.st (Xn p78 p91) rfl)) u22 u9 u5 rfl rfl rfl rfl rfl rfl) rfl (Xa (Xr w0_0 rfl) rfl Xg))) (by kernel_rfl) (by decide) (Xc rfl (dn (cd rfl (fun h97 => ?_) (fun h97 => ?_))))
 ·
  refine sr (bd' (cells := [(iI 0), (iI 0), (.float .f64 0), (.slice none 0 0)]) pl29 o29 rfl rfl ?_)
  refine Xx (vs := [(iI 0), (iI 0), (.float .f64 0), (.slice none 0 0)]) (By20_b2.st (Xn p78 p91) rfl) z29 rfl (Xb rfl (Xb rfl (Xb (FL.one (Yf rfl)) (Xb rfl Xj)))) rfl (fun s99 p99 B99 => ?_)
  refine Xc rfl (dn ?_)
  have A101 : OwF kd29 s99 [(iI 0), (iI 0), (.float .f64 0), (.slice none 0 0)] (Item.mk (0 : Int) (0 : Int) (0 : Nat) ([] : (List Int))) 48 := ow_z _ _ (Yj (fun x : Item => (x.Kind, x.N, x.F, x.T)) (Item.mk (0 : Int) (0 : Int) (0 : Nat) ([] : (List Int))) (Xi (Xf .i64 (0 : Int)) (Xi (Xf .i64 (0 : Int)) (Xi (Xz (Yf rfl)) (Yk 5 (Kd.int .u8))))))
  have K103 := Ky20.st (Yi p78 p91 p99) rfl
  exact re rfl func168 rfl (r_b B99 u29 rfl z29 rfl (Xu rfl Xe)) rfl ⟨_, rfl, (.float .f64 0), (.slice none 0 0), rfl, A101.fo K103 rfl z.l, z.ky K103⟩
 refine sk (sr ?_)
 refine Ya (es := [(iI (IntKind.wrap .i64 (at_ a0 (0 : Int)))), (iI y20.1), uy20_0, vy20_0]) (By20_b4.st (Xn p78 p91) rfl) u29 z29 rfl ?_
 have A106 := A89.st p91 rfl
 refine Xx (vs := [(iI (IntKind.wrap .i64 (at_ a0 (0 : Int)))), (iI y20.1), uy20_0, vy20_0]) (By20_b2.st (Xn p78 p91) rfl) z29 rfl (Xb rfl (Xb rfl (Xb (FL.one Fy20_0) (Xb A106.rd.one Xj)))) rfl (fun s107 p107 B107 => ?_)
 refine Xc rfl (dn ?_)
 have A109 : OwF kd29 s107 [(iI (IntKind.wrap .i64 (at_ a0 (0 : Int)))), (iI y20.1), uy20_0, vy20_0] (Item.mk (IntKind.wrap .i64 (at_ a0 (0 : Int))) y20.1 y20.2.1 y20.2.2) 46 := (Xs (fun x : Item => (x.Kind, x.N, x.F, x.T)) (Item.mk (IntKind.wrap .i64 (at_ a0 (0 : Int))) y20.1 y20.2.1 y20.2.2) (Xy (Xf .i64 (IntKind.wrap .i64 (at_ a0 (0 : Int)))) (Xy (Xf .i64 y20.1) (Xy (Xz Fy20_0) (A106.st p107 rfl)))))
 have K112 := Ky20.st (Yi p78 p91 p107) rfl
 exact re rfl func168 rfl (r_b B107 u29 rfl z29 rfl (Xu rfl Xe)) rfl ⟨_, rfl, uy20_0, vy20_0, rfl, A109.fo K112 rfl z.l, z.ky K112⟩
def spec_TupleRead.f (a0 : (List Int)) : Option (Tuple × Bool) :=
 (if ((decide ((a0.length : Int) < (10 : Int))) || (decide ((a0.length : Int) > (92 : Int)))) = true then (some ((Tuple.mk (0 : Int) (0 : Int) (Item.mk (0 : Int) (0 : Int) (0 : Nat) ([] : (List Int))) (Item.mk (0 : Int) (0 : Int) (0 : Nat) ([] : (List Int)))), false)) else ((spec_GetNum.f a0 (0 : Int) (4 : Int)).bind fun r16 => ((spec_GetNum.f a0 (4 : Int) (4 : Int)).bind fun r23 => (if 0 ≤ (8 : Int) ∧ (8 : Int) < (a0.length : Int) then (if (decide ((IntKind.wrap .i64 (at_ a0 (8 : Int))) > (IntKind.wrap .i64 ((a0.length : Int) - (10 : Int))))) = true then (some ((Tuple.mk (0 : Int) (0 : Int) (Item.mk (0 : Int) (0 : Int) (0 : Nat) ([] : (List Int))) (Item.mk (0 : Int) (0 : Int) (0 : Nat) ([] : (List Int)))), false)) else (if 0 ≤ (9 : Int) ∧ (9 : Int) ≤ (IntKind.wrap .i64 ((9 : Int) + (IntKind.wrap .i64 (at_ a0 (8 : Int))))) ∧ (IntKind.wrap .i64 ((9 : Int) + (IntKind.wrap .i64 (at_ a0 (8 : Int))))) ≤ (a0.length : Int) then ((spec_KeyRead.f ((a0.take ((IntKind.wrap .i64 ((9 : Int) + (IntKind.wrap .i64 (at_ a0 (8 : Int)))))).toNat).drop ((9 : Int)).toNat)).bind fun r41 => (if 0 ≤ (IntKind.wrap .i64 ((10 : Int) + (IntKind.wrap .i64 (at_ a0 (8 : Int))))) ∧ (IntKind.wrap .i64 ((10 : Int) + (IntKind.wrap .i64 (at_ a0 (8 : Int))))) ≤ (a0.length : Int) then ((spec_ValueRead.f (a0.drop ((IntKind.wrap .i64 ((10 : Int) + (IntKind.wrap .i64 (at_ a0 (8 : Int)))))).toNat)).bind fun r53 => ((if (!r41.2) = true then (some true) else ((if (!r53.2) = true then (some true) else ((spec_TupleBytes.f (Tuple.mk r16.1 r23.1 r41.1 r53.1)).bind fun r116 => (some (!((str r116).toList == (str a0).toList))))).bind fun y93 => (some y93))).bind fun y74 => (if y74 = true then (some ((Tuple.mk (0 : Int) (0 : Int) (Item.mk (0 : Int) (0 : Int) (0 : Nat) ([] : (List Int))) (Item.mk (0 : Int) (0 : Int) (0 : Nat) ([] : (List Int)))), false)) else (some ((Tuple.mk r16.1 r23.1 r41.1 r53.1), true))))) else none)) else none)) else none))))
def spec_TupleRead.Q (w : World) (F : Nat → Prop) (r : Tuple × Bool) (v : Value) (w' : World) : Prop :=
 ∃ (v0 : Value) (v1 : Value) (v2 : Value) (v3 : Value), v = .tuple #[(.agg #[(iI r.1.Xmin), (iI r.1.Xmax), (iI r.1.Key.Kind), (iI r.1.Key.N), v0, v1, (iI r.1.Value.Kind), (iI r.1.Value.N), v2, v3]), (.bool r.2)] ∧ FO kd31 w w' [(iI r.1.Xmin), (iI r.1.Xmax), (iI r.1.Key.Kind), (iI r.1.Key.N), v0, v1, (iI r.1.Value.Kind), (iI r.1.Value.N), v2, v3] r.1 ∧ Ky [] w w'
theorem spec_TupleRead.calls (a0 : (List Int)) (w : World) (F : Nat → Prop) (w0_0 : Value) (h0_0 : Yr.rd w [w0_0] a0 F) (r : Tuple × Bool) (m : spec_TupleRead.f a0 = some r) :
  Calls prog 77 #[w0_0] w (RT (spec_TupleRead.Q w F) r) := by
 obtain ⟨s0, rfl, kp0, z⟩ := Xl w F
 have A0_0 := z.rd h0_0
 refine Xd (args := [w0_0]) func77 ntmps77 rfl m ?_
 unfold spec_TupleRead.f
 refine sr (al' (cs := [(iI 0), (iI 0), (iI 0), (iI 0), (.float .f64 0), (.slice none 0 0), (iI 0), (iI 0), (.float .f64 0), (.slice none 0 0)]) 40 rfl o31 rfl (fun b2 s2 p2 B2 => ?_))
 refine Xc rfl (dn (sr (al' (cs := [(iI 0), (iI 0), (iI 0), (iI 0), (.float .f64 0), (.slice none 0 0), (iI 0), (iI 0), (.float .f64 0), (.slice none 0 0)]) 41 rfl o31 rfl (fun b4 s4 p4 B4 => ?_))))
 refine dn (sq (sr (Yc w0_0 rfl ?_)))
 have K6 := kp0.st (Xn p2 p4) rfl
 have A7 := A0_0.kp K6
 refine ln' A7 u22 rfl (Xc rfl (Xc rfl (jy [13, 14, 15, 16, 17] [] 17 (.bool ((decide ((a0.length : Int) < (10 : Int))) || (decide ((a0.length : Int) > (92 : Int))))) rfl (fun Kg8 => ?_) (fun j8 => ?_))))
 ·
  rcases bft (decide ((a0.length : Int) < (10 : Int))) with hb8 | hb8
  ·
   exact Yb hb8 (Xk rfl (Xk rfl (Xk rfl (Xc rfl (Kg8 _ (Ag.put ((Ag.put ((Ag.put ((Ag.put (Ag.base rfl) rfl)) rfl)) rfl)) rfl) (by rw [hb8]; rfl))))))
  exact Yb hb8 (Yc w0_0 rfl (ln' A7 u22 rfl (Xc rfl (Xc rfl (Kg8 _ (Ag.put ((Ag.put ((Ag.put ((Ag.put (Ag.base rfl) rfl)) rfl)) rfl)) rfl) (by rw [hb8]; rfl))))))
 refine dn (cd rfl (fun h9 => ?_) (fun h9 => ?_))
 ·
  refine sr (Ya (es := [(iI 0), (iI 0), (iI 0), (iI 0), (.float .f64 0), (.slice none 0 0), (iI 0), (iI 0), (.float .f64 0), (.slice none 0 0)]) B4 u31 z31 rfl ?_)
  refine Xx (vs := [(iI 0), (iI 0), (iI 0), (iI 0), (.float .f64 0), (.slice none 0 0), (iI 0), (iI 0), (.float .f64 0), (.slice none 0 0)]) (B2.st p4 rfl) z31 rfl (Xb rfl (Xb rfl (Xb rfl (Xb rfl (Xb (FL.one (Yf rfl)) (Xb rfl (Xb rfl (Xb rfl (Xb (FL.one (Yf rfl)) (Xb rfl Xj)))))))))) rfl (fun s11 p11 B11 => ?_)
  refine Xc rfl (dn ?_)
  have A13 : OwF kd31 s11 [(iI 0), (iI 0), (iI 0), (iI 0), (.float .f64 0), (.slice none 0 0), (iI 0), (iI 0), (.float .f64 0), (.slice none 0 0)] (Tuple.mk (0 : Int) (0 : Int) (Item.mk (0 : Int) (0 : Int) (0 : Nat) ([] : (List Int))) (Item.mk (0 : Int) (0 : Int) (0 : Nat) ([] : (List Int)))) 42 := ow_z _ _ (Yj (fun x : Tuple => (x.Xmin, x.Xmax, x.Key, x.Value)) (Tuple.mk (0 : Int) (0 : Int) (Item.mk (0 : Int) (0 : Int) (0 : Nat) ([] : (List Int))) (Item.mk (0 : Int) (0 : Int) (0 : Nat) ([] : (List Int)))) (Xi (Xf .i64 (0 : Int)) (Xi (Xf .i64 (0 : Int)) (Xi (Yj (fun x : Item => (x.Kind, x.N, x.F, x.T)) (Item.mk (0 : Int) (0 : Int) (0 : Nat) ([] : (List Int))) (Xi (Xf .i64 (0 : Int)) (Xi (Xf .i64 (0 : Int)) (Xi (Xz (Yf rfl)) (Yk 5 (Kd.int .u8)))))) (Yj (fun x : Item => (x.Kind, x.N, x.F, x.T)) (Item.mk (0 : Int) (0 : Int) (0 : Nat) ([] : (List Int))) (Xi (Xf .i64 (0 : Int)) (Xi (Xf .i64 (0 : Int)) (Xi (Xz (Yf rfl)) (Yk 5 (Kd.int .u8))))))))))
  have K15 := K6.st p11 rfl
  exact re rfl func77 rfl (r_b B11 u31 rfl z31 rfl (Xu rfl Xe)) rfl ⟨_, rfl, (.float .f64 0), (.slice none 0 0), (.float .f64 0), (.slice none 0 0), rfl, A13.fo K15 rfl z.l, z.ky K15⟩
 refine sk (sr (Yc w0_0 rfl (Yn 43 rfl func166 rfl (spec_GetNum.calls a0 (0 : Int) (4 : Int) s4.w (mm [0] s4) w0_0 A7) (fun r16 s17 p17 n17 => ?_))))
 refine Xc rfl (Xc (v := (iI r16.1)) rfl (Xc (v := (.bool r16.2)) rfl (Ye fa31_0 rfl ?_)))
 refine sv' (B4.st p17 rfl) z3 rfl rfl rfl (fun s19 p19 B19 => ?_)
 refine dn (sr (Yc w0_0 rfl ?_))
 have K21 := K6.st (Xn p17 p19) rfl
 refine Yn 44 rfl func166 rfl (spec_GetNum.calls a0 (4 : Int) (4 : Int) s19.w (mm [0] s19) w0_0 (A0_0.kp K21)) (fun r23 s24 p24 n24 => ?_)
 refine Xc rfl (Xc (v := (iI r23.1)) rfl (Xc (v := (.bool r23.2)) rfl (Ye fa31_1 rfl ?_)))
 refine sv' (B19.st p24 rfl) z3 rfl rfl rfl (fun s26 p26 B26 => ?_)
 refine dn (sr (Yc w0_0 rfl ?_))
 have K28 := K21.st (Xn p24 p26) rfl
 have A29 := A0_0.kp K28
 refine ix' A29 u22 z5 rfl (fun ad30 es30 h0_30 h1_30 he30 ce30 ia30 => ?_)
 obtain rfl := he30
 refine lc0' ce30 u5 rfl (cv' u3 u5 rfl (Xc rfl (dn (sq (sr (Xc rfl (Yc w0_0 rfl (ln' A29 u22 rfl (Xc rfl (Xc rfl (dn (cd rfl (fun h32 => ?_) (fun h32 => ?_)))))))))))))
 ·
  refine sr (bd' (cells := [(iI 0), (iI 0), (iI 0), (iI 0), (.float .f64 0), (.slice none 0 0), (iI 0), (iI 0), (.float .f64 0), (.slice none 0 0)]) pl31 o31 rfl rfl ?_)
  refine Xx (vs := [(iI 0), (iI 0), (iI 0), (iI 0), (.float .f64 0), (.slice none 0 0), (iI 0), (iI 0), (.float .f64 0), (.slice none 0 0)]) (B2.st (tr5 p4 p17 p19 p24 p26) rfl) z31 rfl (Xb rfl (Xb rfl (Xb rfl (Xb rfl (Xb (FL.one (Yf rfl)) (Xb rfl (Xb rfl (Xb rfl (Xb (FL.one (Yf rfl)) (Xb rfl Xj)))))))))) rfl (fun s34 p34 B34 => ?_)
  refine Xc rfl (dn ?_)
  have A36 : OwF kd31 s34 [(iI 0), (iI 0), (iI 0), (iI 0), (.float .f64 0), (.slice none 0 0), (iI 0), (iI 0), (.float .f64 0), (.slice none 0 0)] (Tuple.mk (0 : Int) (0 : Int) (Item.mk (0 : Int) (0 : Int) (0 : Nat) ([] : (List Int))) (Item.mk (0 : Int) (0 : Int) (0 : Nat) ([] : (List Int)))) 45 := ow_z _ _ (Yj (fun x : Tuple => (x.Xmin, x.Xmax, x.Key, x.Value)) (Tuple.mk (0 : Int) (0 : Int) (Item.mk (0 : Int) (0 : Int) (0 : Nat) ([] : (List Int))) (Item.mk (0 : Int) (0 : Int) (0 : Nat) ([] : (List Int)))) (Xi (Xf .i64 (0 : Int)) (Xi (Xf .i64 (0 : Int)) (Xi (Yj (fun x : Item => (x.Kind, x.N, x.F, x.T)) (Item.mk (0 : Int) (0 : Int) (0 : Nat) ([] : (List Int))) (Xi (Xf .i64 (0 : Int)) (Xi (Xf .i64 (0 : Int)) (Xi (Xz (Yf rfl)) (Yk 5 (Kd.int .u8)))))) (Yj (fun x : Item => (x.Kind, x.N, x.F, x.T)) (Item.mk (0 : Int) (0 : Int) (0 : Nat) ([] : (List Int))) (Xi (Xf .i64 (0 : Int)) (Xi (Xf .i64 (0 : Int)) (Xi (Xz (Yf rfl)) (Yk 5 (Kd.int .u8))))))))))
  have K38 := K28.st p34 rfl
  exact re rfl func77 rfl (r_b B34 u31 rfl z31 rfl (Xu rfl Xe)) rfl ⟨_, rfl, (.float .f64 0), (.slice none 0 0), (.float .f64 0), (.slice none 0 0), rfl, A36.fo K38 rfl z.l, z.ky K38⟩
 refine sk (sr (Yc w0_0 rfl (Xc rfl (Xc rfl (slb A29 u22 z5 rfl rfl rfl rfl rfl rfl rfl rfl (fun v39 A39 => ?_))))))
 refine cl' rfl func167 rfl (spec_KeyRead.calls ((a0.take ((IntKind.wrap .i64 ((9 : Int) + (IntKind.wrap .i64 (at_ a0 (8 : Int)))))).toNat).drop ((9 : Int)).toNat) s26.w (mm [0] s26) v39 A39) ?_
 rintro r41 _ w41 m41 ⟨v41_0, v41_1, rfl, f41_0, ky41⟩
 obtain ⟨s42, rfl, p42, n42⟩ := nwx s26 w41 46 ky41
 obtain ⟨hu41_0_0, Au41_0_1⟩ := ap29 (f41_0.c n42)
 refine Xc rfl (Xc (v := (.agg #[(iI r41.1.Kind), (iI r41.1.N), v41_0, v41_1])) rfl (Xc (v := (.bool r41.2)) rfl (al' (cs := [(iI 0), (iI 0), (.float .f64 0), (.slice none 0 0)]) 47 rfl o29 rfl (fun b44 s44 p44 B44 => ?_))))
 have A46 := Au41_0_1.st p44 rfl
 refine Xx (vs := [(iI r41.1.Kind), (iI r41.1.N), v41_0, v41_1]) B44 z29 rfl (Xb rfl (Xb rfl (Xb (FL.one hu41_0_0) (Xb A46.rd.one Xj)))) rfl (fun s47 p47 B47 => ?_)
 refine Xc rfl (dn (sr (Yc w0_0 rfl (Xc rfl (Xc rfl ?_)))))
 have K49 := K28.st (Yi p42 p44 p47) rfl
 refine sla (A0_0.kp K49) u22 z5 rfl rfl rfl rfl rfl rfl rfl (fun v51 A51 => ?_)
 refine cl' rfl func168 rfl (spec_ValueRead.calls (a0.drop ((IntKind.wrap .i64 ((10 : Int) + (IntKind.wrap .i64 (at_ a0 (8 : Int)))))).toNat) s47.w (mm [0] s47) v51 A51) ?_
 rintro r53 _ w53 m53 ⟨v53_0, v53_1, rfl, f53_0, ky53⟩
 obtain ⟨s54, rfl, p54, n54⟩ := nwx s47 w53 48 ky53
 obtain ⟨hu53_0_0, Au53_0_1⟩ := ap29 (f53_0.c n54)
 refine Xc rfl (Xc (v := (.agg #[(iI r53.1.Kind), (iI r53.1.N), v53_0, v53_1])) rfl (Xc (v := (.bool r53.2)) rfl (al' (cs := [(iI 0), (iI 0), (.float .f64 0), (.slice none 0 0)]) 49 rfl o29 rfl (fun b56 s56 p56 B56 => ?_))))
 have A58 := Au53_0_1.st p56 rfl
 refine Xx (vs := [(iI r53.1.Kind), (iI r53.1.N), v53_0, v53_1]) B56 z29 rfl (Xb rfl (Xb rfl (Xb (FL.one hu53_0_0) (Xb A58.rd.one Xj)))) rfl (fun s59 p59 B59 => ?_)
 refine Xc rfl (dn (sr ?_))
 refine Ya (es := [(iI r41.1.Kind), (iI r41.1.N), v41_0, v41_1]) (B47.st (Yi p54 p56 p59) rfl) u29 z29 rfl (Ye fa31_2 rfl ?_)
 have A63 := A46.st (Yo p47 p54 p56 p59) rfl
 refine Xx (vs := [(iI r41.1.Kind), (iI r41.1.N), v41_0, v41_1]) (B26.st (tr6 p42 p44 p47 p54 p56 p59) rfl) z29 rfl (Xb rfl (Xb rfl (Xb (FL.one hu41_0_0) (Xb A63.rd.one Xj)))) rfl (fun s64 p64 B64 => ?_)
 refine dn (sr ?_)
 refine Ya (es := [(iI r53.1.Kind), (iI r53.1.N), v53_0, v53_1]) (B59.st p64 rfl) u29 z29 rfl (Ye fa31_3 rfl ?_)
 have A67 := A58.st (Xn p59 p64) rfl
 refine Xx (vs := [(iI r53.1.Kind), (iI r53.1.N), v53_0, v53_1]) B64 z29 rfl (Xb rfl (Xb rfl (Xb (FL.one hu53_0_0) (Xb A67.rd.one Xj)))) rfl (fun s68 p68 B68 => ?_)
 refine dn (sq (sq (zdraw [[], [0], [1], [2], [3, 2], [2, 4], [5, 2], [6], [7, 6, 6], [8, 6], [6], [10, 6], [9, 11, 6], [6, 12]] [some 61, some 62, some 63, some 64, some 65, some 66, some 67, some 68, some 69, some 70, some 71, some 72, some 73, some 74] [[7], [61], [62], [9, 63], [64, 63], [63, 65], [66], [4, 67], [68, 67], [69, 67], [0, 67], [71, 67], [70, 72, 67], [67, 73]] [0, 1, 2, 3, 4, 5, 6, 7, 8, 9, 10, 11, 12, 13] ⟨by kernel_rfl, by kernel_rfl, by kernel_rfl⟩ (by kernel_rfl) (fun s70 p70 l70 tb70 zd70 => ?_))))
 have zd73 := ((zd70.add 0 61 (.bool r41.2) rfl).add 1 62 (.bool (!r41.2)) rfl).add 2 63 (.bool (!r41.2)) rfl
 refine ji [] (fun (y74 : Bool) e w => ∃ (s : St) (e0 : Env), w = s.w ∧ e = upd (upd (upd e0 2 (pB b2)) 4 (pB b4)) 74 (.bool y74) ∧ Kp s0 s ∧ BlF s b4 31 [(iI r16.1), (iI r23.1), (iI r41.1.Kind), (iI r41.1.N), v41_0, v41_1, (iI r53.1.Kind), (iI r53.1.N), v53_0, v53_1] 41 ∧ BlF s b2 31 [(iI 0), (iI 0), (iI 0), (iI 0), (.float .f64 0), (.slice none 0 0), (iI 0), (iI 0), (.float .f64 0), (.slice none 0 0)] 40 ∧ OwF Yr s [v41_1] r41.1.T 46 ∧ OwF Yr s [v53_1] r53.1.T 48) (fun Gj74 Kj74 => ?_) ?_
 ·
  rcases bft (!r41.2) with hb74 | hb74
  ·
   rw [if_pos hb74]
   rw [hb74] at zd73
   try rw [hb74]
   refine Yp [12, 13] tb70 (((((((((zd73.add 3 64 undef rfl).add 4 65 undef rfl).add 5 66 (.bool true) rfl).add 6 67 (.bool true) rfl).add 7 68 undef rfl).add 8 69 undef rfl).add 9 70 undef rfl).add 10 71 undef rfl).add 11 72 undef rfl) (Xa (Xw rfl) rfl (Xa (Xw rfl) rfl (Xa (Xw rfl) rfl (Xa (Xw rfl) rfl (Xa (Xw rfl) rfl (Xa (Xh rfl) rfl (Xa (Xh rfl) rfl (Xa (Xw rfl) rfl (Xa (Xw rfl) rfl (Xa (Xh rfl) rfl (Xa (qv_b (Xh rfl) hb74) rfl (Xa (Xh rfl) rfl Xg)))))))))))) (by kernel_rfl) (by decide) (Xk rfl (Xc rfl ?_))
   exact Kj74 _ _ _ ⟨s70, _, rfl, (ue (ue (ue rfl rfl) rfl) rfl), (K49.st (tr6 p54 p56 p59 p64 p68 p70) rfl), (B68.st p70 rfl), (B2.st (Yi (tr12 p4 p17 p19 p24 p26 p42 p44 p47 p54 p56 p59 p64) p68 p70) rfl), (A63.st (Yi p64 p68 p70) rfl), (A67.st (Xn p68 p70) rfl)⟩
  rw [if_neg (by rw [hb74]; decide)]
  rw [hb74] at zd73
  try rw [hb74]
  have zd92 := (((zd73.add 3 64 (.bool r53.2) rfl).add 4 65 (.bool (!r53.2)) rfl).add 5 66 (.bool (!r53.2)) rfl).add 6 67 (.bool (!r53.2)) rfl
  refine ji [] (fun (y93 : Bool) e w => ∃ (s : St) (e0 : Env), w = s.w ∧ e = upd (upd (upd e0 2 (pB b2)) 4 (pB b4)) 74 (.bool y93) ∧ Kp s0 s ∧ BlF s b4 31 [(iI r16.1), (iI r23.1), (iI r41.1.Kind), (iI r41.1.N), v41_0, v41_1, (iI r53.1.Kind), (iI r53.1.N), v53_0, v53_1] 41 ∧ BlF s b2 31 [(iI 0), (iI 0), (iI 0), (iI 0), (.float .f64 0), (.slice none 0 0), (iI 0), (iI 0), (.float .f64 0), (.slice none 0 0)] 40 ∧ OwF Yr s [v41_1] r41.1.T 46 ∧ OwF Yr s [v53_1] r53.1.T 48) (fun Gj93 Kj93 => ?_) ?_
  ·
   rcases bft (!r53.2) with hb93 | hb93
   ·
    rw [if_pos hb93]
    rw [hb93] at zd92
    try rw [hb93]
    refine Yp [12, 13] tb70 (((((zd92.add 7 68 undef rfl).add 8 69 undef rfl).add 9 70 undef rfl).add 10 71 undef rfl).add 11 72 undef rfl) (Xa (Xw rfl) rfl (Xa (Xw rfl) rfl (Xa (Xw rfl) rfl (Xa (Xw rfl) rfl (Xa (Xw rfl) rfl (Xa (Xh rfl) rfl (Xa (Xh rfl) rfl (Xa (qv_b (Xh rfl) hb93) rfl (Xa (Xh rfl) rfl (Xa (Xh rfl) rfl (Xa (qv_b (Xh rfl) hb74) rfl (Xa (Xh rfl) rfl Xg)))))))))))) (by kernel_rfl) (by decide) (Xk rfl (Xc rfl ?_))
    exact Kj93 _ _ _ ⟨s70, _, rfl, (ue (ue (ue rfl rfl) rfl) rfl), (K49.st (tr6 p54 p56 p59 p64 p68 p70) rfl), (B68.st p70 rfl), (B2.st (Yi (tr12 p4 p17 p19 p24 p26 p42 p44 p47 p54 p56 p59 p64) p68 p70) rfl), (A63.st (Yi p64 p68 p70) rfl), (A67.st (Xn p68 p70) rfl)⟩
   rw [if_neg (by rw [hb93]; decide)]
   rw [hb93] at zd92
   try rw [hb93]
   refine Xt 8 [some 72, some 71] tb70 (((zd92.add 7 68 (.agg #[(iI r16.1), (iI r23.1), (iI r41.1.Kind), (iI r41.1.N), v41_0, v41_1, (iI r53.1.Kind), (iI r53.1.N), v53_0, v53_1]) rfl).add 10 71 w0_0 rfl).add 11 72 (.string (str a0)) rfl) (Xa (b2s_q (A0_0.kp (K49.st (tr6 p54 p56 p59 p64 p68 p70) rfl)) u22 u9 u5 rfl rfl rfl rfl rfl rfl) rfl (Xa (Xr w0_0 rfl) rfl (Xa (Yg (es := [(iI r16.1), (iI r23.1), (iI r41.1.Kind), (iI r41.1.N), v41_0, v41_1, (iI r53.1.Kind), (iI r53.1.N), v53_0, v53_1]) (B68.st p70 rfl) u31 z31 rfl) rfl (Xa (Xh rfl) rfl (Xa (Xh rfl) rfl (Xa (qv_b (Xh rfl) hb93) rfl (Xa (Xh rfl) rfl (Xa (Xh rfl) rfl (Xa (qv_b (Xh rfl) hb74) rfl (Xa (Xh rfl) rfl Xg)))))))))) (by kernel_rfl) rfl (fun l110 e110 zd110 => ?_)
   have A114 := A63.st (Yi p64 p68 p70) rfl
   have A115 := A67.st (Xn p68 p70) rfl
   refine clO 50 rfl func32 rfl (spec_TupleBytes.calls (Tuple.mk r16.1 r23.1 r41.1 r53.1) s70.w (mm [46, 48] s70) v41_0 v41_1 v53_0 v53_1 ((Xq (s := s70) hu41_0_0).sub (D := [46, 48]) rfl) (A114.rd.sub (D := [46, 48]) rfl) ((Xq (s := s70) hu53_0_0).sub (D := [46, 48]) rfl) (A115.rd.sub (D := [46, 48]) rfl)) (fun r116 v116_0 s117 p117 A116_0 => ?_)
   refine Xm (L' := [11, 10]) (D' := [0, 1, 3, 4, 5, 2, 7, 6, 6, 8]) zd110 rfl (fun zd119 => ?_)
   refine Yp [12, 13] tb70 (zd119.add 9 70 (.string (str r116)) rfl) (Xa (b2s_q A116_0.rd u22 u9 u5 rfl rfl rfl rfl rfl rfl) rfl (Xa (b2s_q (A0_0.kp (K49.st (tr7 p54 p56 p59 p64 p68 p70 p117) rfl)) u22 u9 u5 rfl rfl rfl rfl rfl rfl) rfl (Xa (Xr w0_0 rfl) rfl Xg))) (by kernel_rfl) (by decide) (Xc rfl (Xc rfl ?_))
   exact Kj93 _ _ _ ⟨s117, _, rfl, (ue (ue (ue rfl rfl) rfl) rfl), (K49.st (tr7 p54 p56 p59 p64 p68 p70 p117) rfl), (B68.st (Xn p70 p117) rfl), (B2.st (Yo (tr12 p4 p17 p19 p24 p26 p42 p44 p47 p54 p56 p59 p64) p68 p70 p117) rfl), (A114.st p117 rfl), (A115.st p117 rfl)⟩
  rintro y93 _ _ ⟨s128, _, rfl, rfl, Ky93, By93_b4, By93_b2, Cy93_43, Cy93_55⟩
  exact Kj74 _ _ _ ⟨s128, _, rfl, (ue (ue (ue rfl rfl) rfl) rfl), Ky93, By93_b4, By93_b2, Cy93_43, Cy93_55⟩
 rintro y74 _ _ ⟨s131, _, rfl, rfl, Ky74, By74_b4, By74_b2, Cy74_43, Cy74_55⟩
 refine dn (cd rfl (fun h134 => ?_) (fun h134 => ?_))
 ·
  refine sr (bd' (cells := [(iI 0), (iI 0), (iI 0), (iI 0), (.float .f64 0), (.slice none 0 0), (iI 0), (iI 0), (.float .f64 0), (.slice none 0 0)]) pl31 o31 rfl rfl (Xx (vs := [(iI 0), (iI 0), (iI 0), (iI 0), (.float .f64 0), (.slice none 0 0), (iI 0), (iI 0), (.float .f64 0), (.slice none 0 0)]) By74_b2 z31 rfl (Xb rfl (Xb rfl (Xb rfl (Xb rfl (Xb (FL.one (Yf rfl)) (Xb rfl (Xb rfl (Xb rfl (Xb (FL.one (Yf rfl)) (Xb rfl Xj)))))))))) rfl (fun s135 p135 B135 => ?_)))
  refine Xc rfl (dn ?_)
  have A137 : OwF kd31 s135 [(iI 0), (iI 0), (iI 0), (iI 0), (.float .f64 0), (.slice none 0 0), (iI 0), (iI 0), (.float .f64 0), (.slice none 0 0)] (Tuple.mk (0 : Int) (0 : Int) (Item.mk (0 : Int) (0 : Int) (0 : Nat) ([] : (List Int))) (Item.mk (0 : Int) (0 : Int) (0 : Nat) ([] : (List Int)))) 51 := ow_z _ _ (Yj (fun x : Tuple => (x.Xmin, x.Xmax, x.Key, x.Value)) (Tuple.mk (0 : Int) (0 : Int) (Item.mk (0 : Int) (0 : Int) (0 : Nat) ([] : (List Int))) (Item.mk (0 : Int) (0 : Int) (0 : Nat) ([] : (List Int)))) (Xi (Xf .i64 (0 : Int)) (Xi (Xf .i64 (0 : Int)) (Xi (Yj (fun x : Item => (x.Kind, x.N, x.F, x.T)) (Item.mk (0 : Int) (0 : Int) (0 : Nat) ([] : (List Int))) (Xi (Xf .i64 (0 : Int)) (Xi (Xf .i64 (0 : Int)) (Xi (Xz (Yf rfl)) (Yk 5 (Kd.int .u8)))))) (Yj (fun x : Item => (x.Kind, x.N, x.F, x.T)) (Item.mk (0 : Int) (0 : Int) (0 : Nat) ([] : (List Int))) (Xi (Xf .i64 (0 : Int)) (Xi (Xf .i64 (0 : Int)) (Xi (Xz (Yf rfl)) (Yk 5 (Kd.int .u8))))))))))
  have K139 := Ky74.st p135 rfl
  exact re rfl func77 rfl (r_b B135 u31 rfl z31 rfl (Xu rfl Xe)) rfl ⟨_, rfl, (.float .f64 0), (.slice none 0 0), (.float .f64 0), (.slice none 0 0), rfl, A137.fo K139 rfl z.l, z.ky K139⟩
 refine sk (sr (Ya (es := [(iI r16.1), (iI r23.1), (iI r41.1.Kind), (iI r41.1.N), v41_0, v41_1, (iI r53.1.Kind), (iI r53.1.N), v53_0, v53_1]) By74_b4 u31 z31 rfl (Xx (vs := [(iI r16.1), (iI r23.1), (iI r41.1.Kind), (iI r41.1.N), v41_0, v41_1, (iI r53.1.Kind), (iI r53.1.N), v53_0, v53_1]) By74_b2 z31 rfl (Xb rfl (Xb rfl (Xb rfl (Xb rfl (Xb (FL.one hu41_0_0) (Xb Cy74_43.rd.one (Xb rfl (Xb rfl (Xb (FL.one hu53_0_0) (Xb Cy74_55.rd.one Xj)))))))))) rfl (fun s140 p140 B140 => ?_))))
 refine Xc rfl (dn ?_)
 obtain ⟨s144, hw144, p144, A144⟩ := ow_2 (Xs (fun x : Item => (x.Kind, x.N, x.F, x.T)) r41.1 (Xy (Xf .i64 r41.1.Kind) (Xy (Xf .i64 r41.1.N) (Xy (Xz hu41_0_0) (Cy74_43.st p140 rfl))))) (Xs (fun x : Item => (x.Kind, x.N, x.F, x.T)) r53.1 (Xy (Xf .i64 r53.1.Kind) (Xy (Xf .i64 r53.1.N) (Xy (Xz hu53_0_0) (Cy74_55.st p140 rfl))))) rfl rfl
 rw [hw144]
 have A146 : OwF kd31 s144 [(iI r16.1), (iI r23.1), (iI r41.1.Kind), (iI r41.1.N), v41_0, v41_1, (iI r53.1.Kind), (iI r53.1.N), v53_0, v53_1] (Tuple.mk r16.1 r23.1 r41.1 r53.1) 46 := (Xs (fun x : Tuple => (x.Xmin, x.Xmax, x.Key, x.Value)) (Tuple.mk r16.1 r23.1 r41.1 r53.1) (Xy (Xf .i64 r16.1) (Xy (Xf .i64 r23.1) A144)))
 have K149 := Ky74.st (Xn p140 p144) rfl
 exact re rfl func77 rfl (r_b (B140.st p144 rfl) u31 rfl z31 rfl (Xu rfl Xe)) rfl ⟨_, rfl, v41_0, v41_1, v53_0, v53_1, rfl, A146.fo K149 rfl z.l, z.ky K149⟩
def spec_HeapOk.b1 (a0 : Heap) (x7 : Int) (x25 : Int) : Option (Int ⊕ (Int ⊕ Bool)) :=
 (if (decide (x25 < (((at_ a0.Pages x7).Slots).length : Int))) = true then (if 0 ≤ x25 ∧ x25 < (((at_ a0.Pages x7).Slots).length : Int) then ((spec_TupleRead.f (at_ ((at_ a0.Pages x7).Slots) x25)).bind fun r37 => (if 0 ≤ x25 ∧ x25 < (((at_ a0.Pages x7).Slots).length : Int) then (if ((decide (((at_ ((at_ a0.Pages x7).Slots) x25).length : Int) > (0 : Int))) && (!r37.2)) = true then (some (Sum.inr (Sum.inr false))) else (some (Sum.inl (IntKind.wrap .i64 (x25 + (1 : Int)))))) else none)) else none) else ((some (Sum.inl (IntKind.wrap .i64 (x7 + (1 : Int))))).bind fun o => some (Sum.inr o)))
def spec_HeapOk.b0 (a0 : Heap) (x7 : Int) : Option (Int ⊕ Bool) :=
 (if (decide (x7 < (a0.Pages.length : Int))) = true then (if 0 ≤ x7 ∧ x7 < (a0.Pages.length : Int) then ((spec_PageUsed.f (at_ a0.Pages x7)).bind fun r21 => (if (decide (r21 < (0 : Int))) = true then (some (Sum.inr false)) else (iter (spec_HeapOk.b1 a0 x7) (0 : Int)))) else none) else ((some true).bind fun o => some (Sum.inr o)))
def spec_HeapOk.f (a0 : Heap) : Option (Bool) :=
 (if (decide ((a0.Pages.length : Int) > (16 : Int))) = true then (some false) else (iter (spec_HeapOk.b0 a0) (0 : Int)))
def spec_HeapOk.Q (w : World) (F : Nat → Prop) (r : Bool) (v : Value) (w' : World) : Prop :=
 v = (.bool r) ∧ Ky [] w w'
theorem spec_HeapOk.calls (a0 : Heap) (w : World) (F : Nat → Prop) (w0_0 : Value) (h0_0 : Yt.rd w [w0_0] a0.Pages F) (r : Bool) (m : spec_HeapOk.f a0 = some r) :
  Calls prog 30 #[(.agg #[w0_0])] w (RT (spec_HeapOk.Q w F) r) := by
 obtain ⟨s0, rfl, kp0, z⟩ := Xl w F
 have A0_0 := z.rd h0_0
 refine Xd (args := [(.agg #[w0_0])]) func30 ntmps30 rfl m ?_
 unfold spec_HeapOk.f
 refine sr (bx' (cs := [w0_0]) 40 rfl rfl (fun b2 s2 p2 B2 => ?_))
 refine Xc rfl (dn (sq (sr (Ye fa26_0 rfl (Yl B2 u24 rfl ?_)))))
 have K4 := kp0.st p2 rfl
 refine ln' (A0_0.kp K4) u24 rfl (Xc rfl (dn (cd rfl (fun h6 => ?_) (fun h6 => ?_))))
 ·
  exact sr (Xc rfl (dn (re rfl func30 rfl (Xu rfl Xe) rfl ⟨_, rfl, rfl, z.ky K4⟩)))
 refine sk (sq (sr (Xc rfl (dn (bl (lpI (fun (x7 : Int) e w => ∃ (s : St) (e0 : Env), w = s.w ∧ e = upd (upd e0 1 (pB b2)) 3 (iI x7) ∧ Kp s0 s ∧ BlF s b2 26 [w0_0] 40) ⟨s2, _, rfl, (ue (ue rfl rfl) rfl), K4, B2⟩ (fun g7 ih7 => ?_)))))))
 rintro x7 _ _ ⟨s8, _, rfl, rfl, Kx7, Bx7_b2⟩
 unfold spec_HeapOk.b0
 refine sq (sr (Xc rfl (Ye fa26_0 rfl (Yl Bx7_b2 u24 rfl ?_))))
 have A10 := A0_0.kp Kx7
 refine ln' A10 u24 rfl (Xc rfl (dn (cd rfl (fun h11 => ?_) (fun h11 => ?_))))
 ·
  refine sk (sq (bl (sr (Ye fa26_0 rfl (Yl Bx7_b2 u24 rfl (Xc rfl (ix' A10 u24 z116 rfl (fun ad12 es12 h0_12 h1_12 he12 ce12 ia12 => ?_))))))))
  obtain ⟨v12_0, rfl, A12_0⟩ := op116 he12
  refine lca ce12 u116 z116 rfl rfl rfl rfl rfl rfl rfl (al' (cs := [(iI 0), (.slice none 0 0)]) 41 rfl o116 rfl (fun b15 s15 p15 B15 => ?_))
  have A17 := A12_0.st p15 rfl
  refine Xx (vs := [(iI ((at_ a0.Pages x7).Lsn)), v12_0]) B15 z116 rfl (Xb rfl (Xb A17.one Xj)) rfl (fun s18 p18 B18 => ?_)
  refine dn (sq (sr (Ya (es := [(iI ((at_ a0.Pages x7).Lsn)), v12_0]) B18 u116 z116 rfl ?_)))
  have A20 := A17.st p18 rfl
  refine Yn 42 rfl func107 rfl (spec_PageUsed.calls (at_ a0.Pages x7) s18.w (mm [0] s18) v12_0 A20) (fun r21 s22 p22 n22 => ?_)
  refine Xc rfl (dn (cd rfl (fun h23 => ?_) (fun h23 => ?_)))
  ·
   refine sr (Xc rfl (dn (sgi ?_)))
   exact re rfl func30 rfl (Xu rfl Xe) rfl ⟨_, rfl, rfl, z.ky (Kx7.st (Yi p15 p18 p22) rfl)⟩
  refine sk (sr (Xc rfl (dn (bl ?_))))
  refine lpI (fun (x25 : Int) e w => ∃ (s : St) (e0 : Env), w = s.w ∧ e = upd (upd (upd (upd e0 1 (pB b2)) 3 (iI x7)) 4 (pB b15)) 5 (iI x25) ∧ Kp s0 s ∧ BlF s b15 116 [(iI ((at_ a0.Pages x7).Lsn)), v12_0] 41 ∧ BlF s b2 26 [w0_0] 40 ∧ RdF (Kd.sl 22 Yr) s [v12_0] ((at_ a0.Pages x7).Slots) [0]) ⟨s22, _, rfl, (ue (ue (ue (ue rfl rfl) rfl) rfl) rfl), (Kx7.st (Yi p15 p18 p22) rfl), (B18.st p22 rfl), (Bx7_b2.st (Yi p15 p18 p22) rfl), (A20.st p22 rfl)⟩ (fun g25 ih25 => ?_)
  rintro x25 _ _ ⟨s30, _, rfl, rfl, Kx25, Bx25_b15, Bx25_b2, Cx25_13⟩
  unfold spec_HeapOk.b1
  refine sq (sr (Xc rfl (Ye fa116_1 rfl (Yl Bx25_b15 u114 rfl (ln' Cx25_13 u114 rfl (Xc rfl (dn (cd rfl (fun h33 => ?_) (fun h33 => ?_)))))))))
  ·
   refine sk (sq (bl (sr (Ye fa116_1 rfl (Yl Bx25_b15 u114 rfl (Xc rfl (ix' Cx25_13 u114 z22 rfl (fun ad34 es34 h0_34 h1_34 he34 ce34 ia34 => ?_))))))))
   obtain ⟨v34, rfl, he34'⟩ := he34
   have A34 : RdF Yr s30 [v34] (at_ ((at_ a0.Pages x7).Slots) x25) [0] := ⟨v34, rfl, he34'⟩
   refine lc0' ce34 u22 rfl (cl' rfl func77 rfl (spec_TupleRead.calls (at_ ((at_ a0.Pages x7).Slots) x25) s30.w (mm [0] s30) v34 A34) ?_)
   rintro r37 _ w37 m37 ⟨v37_0, v37_1, v37_2, v37_3, rfl, f37_0, ky37⟩
   obtain ⟨s38, rfl, p38, n38⟩ := nwx s30 w37 43 ky37
   obtain ⟨s39, hw39, p39, hu37_0_0, Au37_0_1, hu37_0_2, Au37_0_3⟩ := ap31 44 (f37_0.c n38) rfl
   rw [hw39]
   refine Xc rfl (Xc (v := (.agg #[(iI r37.1.Xmin), (iI r37.1.Xmax), (iI r37.1.Key.Kind), (iI r37.1.Key.N), v37_0, v37_1, (iI r37.1.Value.Kind), (iI r37.1.Value.N), v37_2, v37_3])) rfl (Xc (v := (.bool r37.2)) rfl (al' (cs := [(iI 0), (iI 0), (iI 0), (iI 0), (.float .f64 0), (.slice none 0 0), (iI 0), (iI 0), (.float .f64 0), (.slice none 0 0)]) 45 rfl o31 rfl (fun b42 s42 p42 B42 => ?_))))
   refine Xx (vs := [(iI r37.1.Xmin), (iI r37.1.Xmax), (iI r37.1.Key.Kind), (iI r37.1.Key.N), v37_0, v37_1, (iI r37.1.Value.Kind), (iI r37.1.Value.N), v37_2, v37_3]) B42 z31 rfl (Xb rfl (Xb rfl (Xb rfl (Xb rfl (Xb (FL.one hu37_0_0) (Xb (Au37_0_1.st p42 rfl).rd.one (Xb rfl (Xb rfl (Xb (FL.one hu37_0_2) (Xb (Au37_0_3.st p42 rfl).rd.one Xj)))))))))) rfl (fun s46 p46 B46 => ?_)
   refine Xc rfl (dn (sr (Ye fa116_1 rfl ?_)))
   have A48 := Bx25_b15.st (Yo p38 p39 p42 p46) rfl
   refine Yl A48 u114 rfl (Xc rfl ?_)
   have A49 := Cx25_13.st (Yo p38 p39 p42 p46) rfl
   refine ix' A49 u114 z22 rfl (fun ad50 es50 h0_50 h1_50 he50 ce50 ia50 => ?_)
   obtain ⟨v50, rfl, he50'⟩ := he50
   have A50 : RdF Yr s46 [v50] (at_ ((at_ a0.Pages x7).Slots) x25) [0] := ⟨v50, rfl, he50'⟩
   refine lc0' ce50 u22 rfl (ln' A50 u22 rfl (Xc rfl (Xc rfl (jy [50, 51, 52, 53] [] 53 (.bool ((decide (((at_ ((at_ a0.Pages x7).Slots) x25).length : Int) > (0 : Int))) && (!r37.2))) rfl (fun Kg53 => ?_) (fun j53 => ?_)))))
   ·
    rcases bft (decide (((at_ ((at_ a0.Pages x7).Slots) x25).length : Int) > (0 : Int))) with hb53 | hb53
    ·
     exact Yb hb53 (Xc rfl (Xc rfl (Xc rfl (Kg53 _ (Ag.put ((Ag.put ((Ag.put (Ag.base rfl) rfl)) rfl)) rfl) (by rw [hb53]; rfl)))))
    exact Yb hb53 (Xk rfl (Xk rfl (Xc rfl (Kg53 _ (Ag.put ((Ag.put ((Ag.put (Ag.base rfl) rfl)) rfl)) rfl) (by rw [hb53]; rfl)))))
   refine dn (cd rfl (fun h54 => ?_) (fun h54 => ?_))
   ·
    refine sr (Xc rfl (dn (sgi (sgi ?_))))
    exact re rfl func30 rfl (Xu rfl Xe) rfl ⟨_, rfl, rfl, z.ky (Kx25.st (Yo p38 p39 p42 p46) rfl)⟩
   refine sk (ib (rg (Xc rfl (Xc rfl (Xc rfl (dn ?_))))))
   exact lb ih25 ⟨s46, _, rfl, (ue (ue (ue (ue rfl rfl) rfl) rfl) rfl), (Kx25.st (Yo p38 p39 p42 p46) rfl), A48, (Bx25_b2.st (Yo p38 p39 p42 p46) rfl), A49⟩
  exact xt rfl (sgb (ib (rg (Xc rfl (Xc rfl (Xc rfl (dn (lb ih7 ⟨s30, _, rfl, (ue (ue rfl rfl) rfl), Kx25, Bx25_b2⟩))))))))
 exact xt rfl (sgb (sr (Xc rfl (dn (re rfl func30 rfl (Xu rfl Xe) rfl ⟨_, rfl, rfl, z.ky Kx7⟩)))))
def spec_PagePlace.b0 (a0 : Page) (a1 : Int) (r6 : Int) (x18 : Int) : Option (Int ⊕ Int) :=
 (if (decide (x18 < (a0.Slots.length : Int))) = true then (if 0 ≤ x18 ∧ x18 < (a0.Slots.length : Int) then (if ((((at_ a0.Slots x18).length : Int) == (0 : Int)) && (decide ((IntKind.wrap .i64 (r6 + a1)) ≤ (240 : Int)))) = true then (some (Sum.inr x18)) else (some (Sum.inl (IntKind.wrap .i64 (x18 + (1 : Int)))))) else none) else ((if ((decide ((a0.Slots.length : Int) < (16 : Int))) && (decide ((IntKind.wrap .i64 ((IntKind.wrap .i64 (r6 + (1 : Int))) + a1)) ≤ (240 : Int)))) = true then (some (a0.Slots.length : Int)) else (some (-1 : Int))).bind fun o => some (Sum.inr o)))
def spec_PagePlace.f (a0 : Page) (a1 : Int) : Option (Int) :=
 ((spec_PageUsed.f a0).bind fun r6 => ((if (decide (r6 < (0 : Int))) = true then (some true) else ((spec_l5in.f a1 (1 : Int) (92 : Int)).bind fun r11 => (some (!r11)))).bind fun y8 => (if y8 = true then (some (-1 : Int)) else (iter (spec_PagePlace.b0 a0 a1 r6) (0 : Int)))))
def spec_PagePlace.Q (w : World) (F : Nat → Prop) (r : Int) (v : Value) (w' : World) : Prop :=
 v = (iI r) ∧ Ky [] w w'
theorem spec_PagePlace.calls (a0 : Page) (a1 : Int) (w : World) (F : Nat → Prop) (w0_0 : Value) (h0_0 : (Kd.sl 22 Yr).rd w [w0_0] a0.Slots F) (r : Int) (m : spec_PagePlace.f a0 a1 = some r) :
  Calls prog 162 #[(.agg #[(iI a0.Lsn), w0_0]), (iI a1)] w (RT (spec_PagePlace.Q w F) r) := by
 obtain ⟨s0, rfl, kp0, z⟩ := Xl w F
 have A0_0 := z.rd h0_0
 refine Xd (args := [(.agg #[(iI a0.Lsn), w0_0]), (iI a1)]) func162 ntmps162 rfl m ?_
 unfold spec_PagePlace.f
 refine sr (bx' (cs := [(iI a0.Lsn), w0_0]) 40 rfl rfl (fun b2 s2 p2 B2 => ?_))
 refine Xc rfl (dn (sr (Ya (es := [(iI a0.Lsn), w0_0]) B2 u116 z116 rfl ?_)))
 have K4 := kp0.st p2 rfl
 refine Yn 41 rfl func107 rfl (spec_PageUsed.calls a0 s2.w (mm [0] s2) w0_0 (A0_0.kp K4)) (fun r6 s7 p7 n7 => ?_)
 refine Xc rfl (dn (sq (sr (Xc rfl (Xc rfl (Xc rfl (ji [] (fun (y8 : Bool) e w => ∃ (s : St) (e0 : Env), w = s.w ∧ e = upd (upd (upd (upd e0 1 (iI a1)) 2 (pB b2)) 5 (iI r6)) 15 (.bool y8) ∧ Kp s0 s ∧ BlF s b2 116 [(iI a0.Lsn), w0_0] 40) (fun Gj8 Kj8 => ?_) ?_)))))))
 ·
  rcases bft (decide (r6 < (0 : Int))) with hb8 | hb8
  ·
   refine Yb hb8 ?_
   rw [if_pos hb8]
   refine Xk rfl (Xk rfl (Xk rfl (Xc rfl ?_)))
   exact Kj8 _ _ _ ⟨s7, _, rfl, (ue (ue (ue (ue rfl rfl) rfl) rfl) rfl), (K4.st p7 rfl), (B2.st p7 rfl)⟩
  refine Yb hb8 ?_
  rw [if_neg (by rw [hb8]; decide)]
  refine Xc rfl (Yn 42 rfl func83 rfl (spec_l5in.calls a1 (1 : Int) (92 : Int) s7.w (mm [] s7)) (fun r11 s12 p12 n12 => ?_))
  refine Xc rfl (Xc rfl ?_)
  exact Kj8 _ _ _ ⟨s12, _, rfl, (ue (ue (ue (ue rfl rfl) rfl) rfl) rfl), (K4.st (Xn p7 p12) rfl), (B2.st (Xn p7 p12) rfl)⟩
 rintro y8 _ _ ⟨s15, _, rfl, rfl, Ky8, By8_b2⟩
 refine dn (cd rfl (fun h17 => ?_) (fun h17 => ?_))
 ·
  exact sr (Xc rfl (dn (re rfl func162 rfl (Xu rfl Xe) rfl ⟨_, rfl, rfl, z.ky Ky8⟩)))
 refine sk (sq (sr (Xc rfl (dn (bl (lpI (fun (x18 : Int) e w => ∃ (s : St) (e0 : Env), w = s.w ∧ e = upd (upd (upd (upd e0 1 (iI a1)) 2 (pB b2)) 5 (iI r6)) 6 (iI x18) ∧ Kp s0 s ∧ BlF s b2 116 [(iI a0.Lsn), w0_0] 40) ⟨s15, _, rfl, (ue (ue (ue (ue rfl rfl) rfl) rfl) rfl), Ky8, By8_b2⟩ (fun g18 ih18 => ?_)))))))
 rintro x18 _ _ ⟨s19, _, rfl, rfl, Kx18, Bx18_b2⟩
 unfold spec_PagePlace.b0
 refine sq (sr (Xc rfl (Ye fa116_1 rfl (Yl Bx18_b2 u114 rfl ?_))))
 have A21 := A0_0.kp Kx18
 refine ln' A21 u114 rfl (Xc rfl (dn (cd rfl (fun h22 => ?_) (fun h22 => ?_))))
 ·
  refine sk (sq (bl (sr (Ye fa116_1 rfl (Yl Bx18_b2 u114 rfl (Xc rfl (ix' A21 u114 z22 rfl (fun ad23 es23 h0_23 h1_23 he23 ce23 ia23 => ?_))))))))
  obtain ⟨v23, rfl, he23'⟩ := he23
  have A23 : RdF Yr s19 [v23] (at_ a0.Slots x18) [0] := ⟨v23, rfl, he23'⟩
  refine lc0' ce23 u22 rfl (ln' A23 u22 rfl (Xc rfl (Xc rfl (jy [30, 31, 32, 33, 34, 35] [] 35 (.bool ((((at_ a0.Slots x18).length : Int) == (0 : Int)) && (decide ((IntKind.wrap .i64 (r6 + a1)) ≤ (240 : Int))))) rfl (fun Kg26 => ?_) (fun j26 => ?_)))))
  ·
   rcases bft (((at_ a0.Slots x18).length : Int) == (0 : Int)) with hb26 | hb26
   ·
    exact Yb hb26 (Xc rfl (Xc rfl (Xc rfl (Xc rfl (Xc rfl (Kg26 _ (Ag.put ((Ag.put ((Ag.put ((Ag.put ((Ag.put (Ag.base rfl) rfl)) rfl)) rfl)) rfl)) rfl) (by rw [hb26]; rfl)))))))
   exact Yb hb26 (Xk rfl (Xk rfl (Xk rfl (Xk rfl (Xc rfl (Kg26 _ (Ag.put ((Ag.put ((Ag.put ((Ag.put ((Ag.put (Ag.base rfl) rfl)) rfl)) rfl)) rfl)) rfl) (by rw [hb26]; rfl)))))))
  refine dn (cd rfl (fun h27 => ?_) (fun h27 => ?_))
  ·
   exact sr (Xc rfl (Xc rfl (dn (sgi (re rfl func162 rfl (Xu rfl Xe) rfl ⟨_, rfl, rfl, z.ky Kx18⟩)))))
  exact sk (ib (rg (Xc rfl (Xc rfl (Xc rfl (dn (lb ih18 ⟨s19, _, rfl, (ue (ue (ue (ue rfl rfl) rfl) rfl) rfl), Kx18, Bx18_b2⟩)))))))
 refine xt rfl (sgb (sq (sr (Ye fa116_1 rfl (Yl Bx18_b2 u114 rfl (ln' A21 u114 rfl (Xc rfl (Xc rfl (jy [41, 42, 43, 44, 45, 46, 47] [] 47 (.bool ((decide ((a0.Slots.length : Int) < (16 : Int))) && (decide ((IntKind.wrap .i64 ((IntKind.wrap .i64 (r6 + (1 : Int))) + a1)) ≤ (240 : Int))))) rfl (fun Kg28 => ?_) (fun j28 => ?_))))))))))
 ·
  rcases bft (decide ((a0.Slots.length : Int) < (16 : Int))) with hb28 | hb28
  ·
   exact Yb hb28 (Xc rfl (Xc rfl (Xc rfl (Xc rfl (Xc rfl (Xc rfl (Kg28 _ (Ag.put ((Ag.put ((Ag.put ((Ag.put ((Ag.put ((Ag.put (Ag.base rfl) rfl)) rfl)) rfl)) rfl)) rfl)) rfl) (by rw [hb28]; rfl))))))))
  exact Yb hb28 (Xk rfl (Xk rfl (Xk rfl (Xk rfl (Xk rfl (Xc rfl (Kg28 _ (Ag.put ((Ag.put ((Ag.put ((Ag.put ((Ag.put ((Ag.put (Ag.base rfl) rfl)) rfl)) rfl)) rfl)) rfl)) rfl) (by rw [hb28]; rfl))))))))
 refine dn (cd rfl (fun h29 => ?_) (fun h29 => ?_))
 ·
  exact sr (Ye fa116_1 rfl (Yl Bx18_b2 u114 rfl (ln' A21 u114 rfl (Xc rfl (dn (re rfl func162 rfl (Xu rfl Xe) rfl ⟨_, rfl, rfl, z.ky Kx18⟩))))))
 exact sk (sr (Xc rfl (dn (re rfl func162 rfl (Xu rfl Xe) rfl ⟨_, rfl, rfl, z.ky Kx18⟩))))
def spec_HeapPlace.b0 (a0 : Heap) (a1 : Int) (x18 : Int) : Option (Int ⊕ (Int × Int)) :=
 (if (decide (x18 < (a0.Pages.length : Int))) = true then (if 0 ≤ x18 ∧ x18 < (a0.Pages.length : Int) then ((spec_PagePlace.f (at_ a0.Pages x18) a1).bind fun r26 => (if (decide (r26 ≥ (0 : Int))) = true then (some (Sum.inr (x18, r26))) else (some (Sum.inl (IntKind.wrap .i64 (x18 + (1 : Int))))))) else none) else ((if (decide ((a0.Pages.length : Int) < (16 : Int))) = true then (some ((a0.Pages.length : Int), (0 : Int))) else (some ((-1 : Int), (-1 : Int)))).bind fun o => some (Sum.inr o)))
def spec_HeapPlace.f (a0 : Heap) (a1 : Int) : Option (Int × Int) :=
 ((spec_HeapOk.f a0).bind fun r6 => ((if (!r6) = true then (some true) else ((spec_l5in.f a1 (1 : Int) (92 : Int)).bind fun r11 => (some (!r11)))).bind fun y8 => (if y8 = true then (some ((-1 : Int), (-1 : Int))) else (iter (spec_HeapPlace.b0 a0 a1) (0 : Int)))))
def spec_HeapPlace.Q (w : World) (F : Nat → Prop) (r : Int × Int) (v : Value) (w' : World) : Prop :=
 v = .tuple #[(iI r.1), (iI r.2)] ∧ Ky [] w w'
theorem spec_HeapPlace.calls (a0 : Heap) (a1 : Int) (w : World) (F : Nat → Prop) (w0_0 : Value) (h0_0 : Yt.rd w [w0_0] a0.Pages F) (r : Int × Int) (m : spec_HeapPlace.f a0 a1 = some r) :
  Calls prog 71 #[(.agg #[w0_0]), (iI a1)] w (RT (spec_HeapPlace.Q w F) r) := by
 obtain ⟨s0, rfl, kp0, z⟩ := Xl w F
 have A0_0 := z.rd h0_0
 refine Xd (args := [(.agg #[w0_0]), (iI a1)]) func71 ntmps71 rfl m ?_
 unfold spec_HeapPlace.f
 refine sr (bx' (cs := [w0_0]) 40 rfl rfl (fun b2 s2 p2 B2 => ?_))
 refine Xc rfl (Xc rfl (dn (sq (sr (Ya (es := [w0_0]) B2 u26 z26 rfl ?_)))))
 have K4 := kp0.st p2 rfl
 refine Yn 41 rfl func30 rfl (spec_HeapOk.calls a0 s2.w (mm [0] s2) w0_0 (A0_0.kp K4)) (fun r6 s7 p7 n7 => ?_)
 refine Xc rfl (Xc rfl (ji [] (fun (y8 : Bool) e w => ∃ (s : St) (e0 : Env), w = s.w ∧ e = upd (upd (upd e0 1 (iI a1)) 2 (pB b2)) 15 (.bool y8) ∧ Kp s0 s ∧ BlF s b2 26 [w0_0] 40) (fun Gj8 Kj8 => ?_) ?_))
 ·
  rcases bft (!r6) with hb8 | hb8
  ·
   refine Yb hb8 ?_
   rw [if_pos hb8]
   refine Xk rfl (Xk rfl (Xk rfl (Xc rfl ?_)))
   exact Kj8 _ _ _ ⟨s7, _, rfl, (ue (ue (ue rfl rfl) rfl) rfl), (K4.st p7 rfl), (B2.st p7 rfl)⟩
  refine Yb hb8 ?_
  rw [if_neg (by rw [hb8]; decide)]
  refine Xc rfl (Yn 42 rfl func83 rfl (spec_l5in.calls a1 (1 : Int) (92 : Int) s7.w (mm [] s7)) (fun r11 s12 p12 n12 => ?_))
  refine Xc rfl (Xc rfl ?_)
  exact Kj8 _ _ _ ⟨s12, _, rfl, (ue (ue (ue rfl rfl) rfl) rfl), (K4.st (Xn p7 p12) rfl), (B2.st (Xn p7 p12) rfl)⟩
 rintro y8 _ _ ⟨s15, _, rfl, rfl, Ky8, By8_b2⟩
 refine dn (cd rfl (fun h17 => ?_) (fun h17 => ?_))
 ·
  exact sr (Xc rfl (Xc rfl (dn (re rfl func71 rfl (Xu rfl (Xu rfl Xe)) rfl ⟨_, rfl, rfl, z.ky Ky8⟩))))
 refine sk (sq (sr (Xc rfl (dn (bl (lpI (fun (x18 : Int) e w => ∃ (s : St) (e0 : Env), w = s.w ∧ e = upd (upd (upd e0 1 (iI a1)) 2 (pB b2)) 6 (iI x18) ∧ Kp s0 s ∧ BlF s b2 26 [w0_0] 40) ⟨s15, _, rfl, (ue (ue (ue rfl rfl) rfl) rfl), Ky8, By8_b2⟩ (fun g18 ih18 => ?_)))))))
 rintro x18 _ _ ⟨s19, _, rfl, rfl, Kx18, Bx18_b2⟩
 unfold spec_HeapPlace.b0
 refine sq (sr (Xc rfl (Ye fa26_0 rfl (Yl Bx18_b2 u24 rfl ?_))))
 have A21 := A0_0.kp Kx18
 refine ln' A21 u24 rfl (Xc rfl (dn (cd rfl (fun h22 => ?_) (fun h22 => ?_))))
 ·
  refine sk (sq (bl (sr (Ye fa26_0 rfl (Yl Bx18_b2 u24 rfl (Xc rfl (ix' A21 u24 z116 rfl (fun ad23 es23 h0_23 h1_23 he23 ce23 ia23 => ?_))))))))
  obtain ⟨v23_0, rfl, A23_0⟩ := op116 he23
  refine lca ce23 u116 z116 rfl rfl rfl rfl rfl rfl rfl (Xc rfl (Yn 43 rfl func162 rfl (spec_PagePlace.calls (at_ a0.Pages x18) a1 s19.w (mm [0] s19) v23_0 A23_0) (fun r26 s27 p27 n27 => ?_)))
  refine Xc rfl (dn (sr (Xc rfl (Xc rfl (dn (cd rfl (fun h28 => ?_) (fun h28 => ?_)))))))
  ·
   refine sr (Xc rfl (Xc rfl (Xc rfl (Xc rfl (dn (sgi ?_))))))
   exact re rfl func71 rfl (Xu rfl (Xu rfl Xe)) rfl ⟨_, rfl, rfl, z.ky (Kx18.st p27 rfl)⟩
  refine sk (ib (rg (Xc rfl (Xc rfl (Xc rfl (dn ?_))))))
  exact lb ih18 ⟨s27, _, rfl, (ue (ue (ue rfl rfl) rfl) rfl), (Kx18.st p27 rfl), (Bx18_b2.st p27 rfl)⟩
 refine xt rfl (sgb (sq (sr (Ye fa26_0 rfl (Yl Bx18_b2 u24 rfl (ln' A21 u24 rfl (Xc rfl (dn (cd rfl (fun h32 => ?_) (fun h32 => ?_))))))))))
 ·
  exact sr (Ye fa26_0 rfl (Yl Bx18_b2 u24 rfl (ln' A21 u24 rfl (Xc rfl (Xc rfl (dn (re rfl func71 rfl (Xu rfl (Xu rfl Xe)) rfl ⟨_, rfl, rfl, z.ky Kx18⟩)))))))
 exact sk (sr (Xc rfl (Xc rfl (dn (re rfl func71 rfl (Xu rfl (Xu rfl Xe)) rfl ⟨_, rfl, rfl, z.ky Kx18⟩)))))
def spec_HeapAt.f (a0 : Heap) (a1 : Int) (a2 : Int) : Option (Tuple × Bool) :=
 ((spec_HeapOk.f a0).bind fun r9 => ((if (!r9) = true then (some true) else ((spec_l5in.f a1 (0 : Int) (IntKind.wrap .i64 ((a0.Pages.length : Int) - (1 : Int)))).bind fun r18 => (some (!r18)))).bind fun y11 => ((if y11 = true then (some true) else (if 0 ≤ a1 ∧ a1 < (a0.Pages.length : Int) then ((spec_l5in.f a2 (0 : Int) (IntKind.wrap .i64 ((((at_ a0.Pages a1).Slots).length : Int) - (1 : Int)))).bind fun r31 => (some (!r31))) else none)).bind fun y26 => (if y26 = true then (some ((Tuple.mk (0 : Int) (0 : Int) (Item.mk (0 : Int) (0 : Int) (0 : Nat) ([] : (List Int))) (Item.mk (0 : Int) (0 : Int) (0 : Nat) ([] : (List Int)))), false)) else (if 0 ≤ a1 ∧ a1 < (a0.Pages.length : Int) then (if 0 ≤ a2 ∧ a2 < (((at_ a0.Pages a1).Slots).length : Int) then ((spec_TupleRead.f (at_ ((at_ a0.Pages a1).Slots) a2)).bind fun r52 => (some (r52.1, r52.2))) else none) else none)))))
def spec_HeapAt.Q (w : World) (F : Nat → Prop) (r : Tuple × Bool) (v : Value) (w' : World) : Prop :=
 ∃ (v0 : Value) (v1 : Value) (v2 : Value) (v3 : Value), v = .tuple #[(.agg #[(iI r.1.Xmin), (iI r.1.Xmax), (iI r.1.Key.Kind), (iI r.1.Key.N), v0, v1, (iI r.1.Value.Kind), (iI r.1.Value.N), v2, v3]), (.bool r.2)] ∧ FO kd31 w w' [(iI r.1.Xmin), (iI r.1.Xmax), (iI r.1.Key.Kind), (iI r.1.Key.N), v0, v1, (iI r.1.Value.Kind), (iI r.1.Value.N), v2, v3] r.1 ∧ Ky [] w w'
theorem spec_HeapAt.calls (a0 : Heap) (a1 : Int) (a2 : Int) (w : World) (F : Nat → Prop) (w0_0 : Value) (h0_0 : Yt.rd w [w0_0] a0.Pages F) (r : Tuple × Bool) (m : spec_HeapAt.f a0 a1 a2 = some r) :
  Calls prog 82 #[(.agg #[w0_0]), (iI a1), (iI a2)] w (RT (spec_HeapAt.Q w F) r) := by
 obtain ⟨s0, rfl, kp0, z⟩ := Xl w F
 have A0_0 := z.rd h0_0
 refine Xd (args := [(.agg #[w0_0]), (iI a1), (iI a2)]) func82 ntmps82 rfl m ?_
 unfold spec_HeapAt.f
 refine sr (bx' (cs := [w0_0]) 40 rfl rfl (fun b2 s2 p2 B2 => ?_))
 refine al' (cs := [(iI 0), (iI 0), (iI 0), (iI 0), (.float .f64 0), (.slice none 0 0), (iI 0), (iI 0), (.float .f64 0), (.slice none 0 0)]) 41 rfl o31 rfl (fun b4 s4 p4 B4 => ?_)
 refine Xc rfl (dn (sq (sr ?_)))
 have A6 := B2.st p4 rfl
 refine Ya (es := [w0_0]) A6 u26 z26 rfl ?_
 have K7 := kp0.st (Xn p2 p4) rfl
 refine Yn 42 rfl func30 rfl (spec_HeapOk.calls a0 s4.w (mm [0] s4) w0_0 (A0_0.kp K7)) (fun r9 s10 p10 n10 => ?_)
 refine Xc rfl (Xc rfl (ji [12, 13, 14, 15, 16, 17, 18, 19, 20, 21, 22, 23, 24] (fun (y11 : Bool) e w => ∃ (s : St) (e0 : Env), w = s.w ∧ e = upd (upd (upd (upd (upd e0 1 (iI a1)) 2 (iI a2)) 3 (pB b2)) 6 (pB b4)) 19 (.bool y11) ∧ Kp s0 s ∧ BlF s b4 31 [(iI 0), (iI 0), (iI 0), (iI 0), (.float .f64 0), (.slice none 0 0), (iI 0), (iI 0), (.float .f64 0), (.slice none 0 0)] 41 ∧ BlF s b2 26 [w0_0] 40) (fun Gj11 Kj11 => ?_) ?_))
 ·
  rcases bft (!r9) with hb11 | hb11
  ·
   refine Yb hb11 ?_
   rw [if_pos hb11]
   refine Xk rfl (Xk rfl (Xk rfl (Xk rfl (Xk rfl (Xk rfl (Xk rfl (Xc rfl ?_)))))))
   exact Kj11 _ _ _ ⟨s10, _, rfl, (ue (ue (ue (ue (ue rfl rfl) rfl) rfl) rfl) rfl), (K7.st p10 rfl), (B4.st p10 rfl), (A6.st p10 rfl)⟩
  refine Yb hb11 ?_
  rw [if_neg (by rw [hb11]; decide)]
  refine Xc rfl (Ye fa26_0 rfl ?_)
  have A15 := A6.st p10 rfl
  refine Yl A15 u24 rfl ?_
  have K16 := K7.st p10 rfl
  refine ln' (A0_0.kp K16) u24 rfl (Xc rfl (Yn 43 rfl func83 rfl (spec_l5in.calls a1 (0 : Int) (IntKind.wrap .i64 ((a0.Pages.length : Int) - (1 : Int))) s10.w (mm [] s10)) (fun r18 s19 p19 n19 => ?_)))
  refine Xc rfl (Xc rfl ?_)
  exact Kj11 _ _ _ ⟨s19, _, rfl, (ue (ue (ue (ue (ue rfl rfl) rfl) rfl) rfl) rfl), (K16.st p19 rfl), (B4.st (Xn p10 p19) rfl), (A15.st p19 rfl)⟩
 rintro y11 _ _ ⟨s23, _, rfl, rfl, Ky11, By11_b4, By11_b2⟩
 refine Xc rfl (ji [] (fun (y26 : Bool) e w => ∃ (s : St) (e0 : Env), w = s.w ∧ e = upd (upd (upd (upd (upd e0 1 (iI a1)) 2 (iI a2)) 3 (pB b2)) 6 (pB b4)) 32 (.bool y26) ∧ Kp s0 s ∧ BlF s b4 31 [(iI 0), (iI 0), (iI 0), (iI 0), (.float .f64 0), (.slice none 0 0), (iI 0), (iI 0), (.float .f64 0), (.slice none 0 0)] 41 ∧ BlF s b2 26 [w0_0] 40) (fun Gj26 Kj26 => ?_) ?_)
 ·
  rcases bft y11 with hb26 | hb26
  ·
   refine Yb hb26 ?_
   rw [if_pos hb26]
   exact Xk rfl (Xk rfl (Xk rfl (Xk rfl (Xk rfl (Xk rfl (Xk rfl (Xk rfl (Xk rfl (Xk rfl (Xk rfl (Xc rfl (Kj26 _ _ _ ⟨s23, _, rfl, (ue (ue (ue (ue (ue rfl rfl) rfl) rfl) rfl) rfl), Ky11, By11_b4, By11_b2⟩))))))))))))
  refine Yb hb26 ?_
  rw [if_neg (by rw [hb26]; decide)]
  refine Xc rfl (Ye fa26_0 rfl (Yl By11_b2 u24 rfl (Xc rfl ?_)))
  refine ix' (A0_0.kp Ky11) u24 z116 rfl (fun ad28 es28 h0_28 h1_28 he28 ce28 ia28 => ?_)
  obtain ⟨v28_0, rfl, A28_0⟩ := op116 he28
  refine Ye fa116_1 rfl (lc ce28 u114 rfl rfl rfl rfl rfl rfl rfl rfl (ln' A28_0 u114 rfl (Xc rfl (Yn 44 rfl func83 rfl (spec_l5in.calls a2 (0 : Int) (IntKind.wrap .i64 ((((at_ a0.Pages a1).Slots).length : Int) - (1 : Int))) s23.w (mm [] s23)) (fun r31 s32 p32 n32 => ?_)))))
  refine Xc rfl (Xc rfl ?_)
  exact Kj26 _ _ _ ⟨s32, _, rfl, (ue (ue (ue (ue (ue rfl rfl) rfl) rfl) rfl) rfl), (Ky11.st p32 rfl), (By11_b4.st p32 rfl), (By11_b2.st p32 rfl)⟩
 rintro y26 _ _ ⟨s36, _, rfl, rfl, Ky26, By26_b4, By26_b2⟩
 refine dn (cd rfl (fun h39 => ?_) (fun h39 => ?_))
 ·
  refine sr (bd' (cells := [(iI 0), (iI 0), (iI 0), (iI 0), (.float .f64 0), (.slice none 0 0), (iI 0), (iI 0), (.float .f64 0), (.slice none 0 0)]) pl31 o31 rfl rfl (Xx (vs := [(iI 0), (iI 0), (iI 0), (iI 0), (.float .f64 0), (.slice none 0 0), (iI 0), (iI 0), (.float .f64 0), (.slice none 0 0)]) By26_b4 z31 rfl (Xb rfl (Xb rfl (Xb rfl (Xb rfl (Xb (FL.one (Yf rfl)) (Xb rfl (Xb rfl (Xb rfl (Xb (FL.one (Yf rfl)) (Xb rfl Xj)))))))))) rfl (fun s40 p40 B40 => ?_)))
  refine Xc rfl (dn ?_)
  have A42 : OwF kd31 s40 [(iI 0), (iI 0), (iI 0), (iI 0), (.float .f64 0), (.slice none 0 0), (iI 0), (iI 0), (.float .f64 0), (.slice none 0 0)] (Tuple.mk (0 : Int) (0 : Int) (Item.mk (0 : Int) (0 : Int) (0 : Nat) ([] : (List Int))) (Item.mk (0 : Int) (0 : Int) (0 : Nat) ([] : (List Int)))) 45 := ow_z _ _ (Yj (fun x : Tuple => (x.Xmin, x.Xmax, x.Key, x.Value)) (Tuple.mk (0 : Int) (0 : Int) (Item.mk (0 : Int) (0 : Int) (0 : Nat) ([] : (List Int))) (Item.mk (0 : Int) (0 : Int) (0 : Nat) ([] : (List Int)))) (Xi (Xf .i64 (0 : Int)) (Xi (Xf .i64 (0 : Int)) (Xi (Yj (fun x : Item => (x.Kind, x.N, x.F, x.T)) (Item.mk (0 : Int) (0 : Int) (0 : Nat) ([] : (List Int))) (Xi (Xf .i64 (0 : Int)) (Xi (Xf .i64 (0 : Int)) (Xi (Xz (Yf rfl)) (Yk 5 (Kd.int .u8)))))) (Yj (fun x : Item => (x.Kind, x.N, x.F, x.T)) (Item.mk (0 : Int) (0 : Int) (0 : Nat) ([] : (List Int))) (Xi (Xf .i64 (0 : Int)) (Xi (Xf .i64 (0 : Int)) (Xi (Xz (Yf rfl)) (Yk 5 (Kd.int .u8))))))))))
  have K44 := Ky26.st p40 rfl
  exact re rfl func82 rfl (r_b B40 u31 rfl z31 rfl (Xu rfl Xe)) rfl ⟨_, rfl, (.float .f64 0), (.slice none 0 0), (.float .f64 0), (.slice none 0 0), rfl, A42.fo K44 rfl z.l, z.ky K44⟩
 refine sk (sr (Ye fa26_0 rfl (Yl By26_b2 u24 rfl (Xc rfl ?_))))
 refine ix' (A0_0.kp Ky26) u24 z116 rfl (fun ad46 es46 h0_46 h1_46 he46 ce46 ia46 => ?_)
 obtain ⟨v46_0, rfl, A46_0⟩ := op116 he46
 refine Ye fa116_1 rfl (lc ce46 u114 rfl rfl rfl rfl rfl rfl rfl rfl (Xc rfl (ix' A46_0 u114 z22 rfl (fun ad49 es49 h0_49 h1_49 he49 ce49 ia49 => ?_))))
 obtain ⟨v49, rfl, he49'⟩ := he49
 have A49 : RdF Yr s36 [v49] (at_ ((at_ a0.Pages a1).Slots) a2) [0] := ⟨v49, rfl, he49'⟩
 refine lc0' ce49 u22 rfl (cl' rfl func77 rfl (spec_TupleRead.calls (at_ ((at_ a0.Pages a1).Slots) a2) s36.w (mm [0] s36) v49 A49) ?_)
 rintro r52 _ w52 m52 ⟨v52_0, v52_1, v52_2, v52_3, rfl, f52_0, ky52⟩
 obtain ⟨s53, rfl, p53, n53⟩ := nwx s36 w52 46 ky52
 obtain ⟨s54, hw54, p54, hu52_0_0, Au52_0_1, hu52_0_2, Au52_0_3⟩ := ap31 47 (f52_0.c n53) rfl
 rw [hw54]
 refine Xc (v := (.agg #[(iI r52.1.Xmin), (iI r52.1.Xmax), (iI r52.1.Key.Kind), (iI r52.1.Key.N), v52_0, v52_1, (iI r52.1.Value.Kind), (iI r52.1.Value.N), v52_2, v52_3])) rfl (Xc (v := (.bool r52.2)) rfl ?_)
 refine Xx (vs := [(iI r52.1.Xmin), (iI r52.1.Xmax), (iI r52.1.Key.Kind), (iI r52.1.Key.N), v52_0, v52_1, (iI r52.1.Value.Kind), (iI r52.1.Value.N), v52_2, v52_3]) (By26_b4.st (Xn p53 p54) rfl) z31 rfl (Xb rfl (Xb rfl (Xb rfl (Xb rfl (Xb (FL.one hu52_0_0) (Xb Au52_0_1.rd.one (Xb rfl (Xb rfl (Xb (FL.one hu52_0_2) (Xb Au52_0_3.rd.one Xj)))))))))) rfl (fun s58 p58 B58 => ?_)
 refine Xc rfl (dn ?_)
 obtain ⟨s62, hw62, p62, A62⟩ := ow_2 (Xs (fun x : Item => (x.Kind, x.N, x.F, x.T)) r52.1.Key (Xy (Xf .i64 r52.1.Key.Kind) (Xy (Xf .i64 r52.1.Key.N) (Xy (Xz hu52_0_0) (Au52_0_1.st p58 rfl))))) (Xs (fun x : Item => (x.Kind, x.N, x.F, x.T)) r52.1.Value (Xy (Xf .i64 r52.1.Value.Kind) (Xy (Xf .i64 r52.1.Value.N) (Xy (Xz hu52_0_2) (Au52_0_3.st p58 rfl))))) rfl rfl
 rw [hw62]
 have A64 : OwF kd31 s62 [(iI r52.1.Xmin), (iI r52.1.Xmax), (iI r52.1.Key.Kind), (iI r52.1.Key.N), v52_0, v52_1, (iI r52.1.Value.Kind), (iI r52.1.Value.N), v52_2, v52_3] r52.1 46 := (Xs (fun x : Tuple => (x.Xmin, x.Xmax, x.Key, x.Value)) r52.1 (Xy (Xf .i64 r52.1.Xmin) (Xy (Xf .i64 r52.1.Xmax) A62)))
 have K67 := Ky26.st (Yo p53 p54 p58 p62) rfl
 exact re rfl func82 rfl (r_b (B58.st p62 rfl) u31 rfl z31 rfl (Xu rfl Xe)) rfl ⟨_, rfl, v52_0, v52_1, v52_2, v52_3, rfl, A64.fo K67 rfl z.l, z.ky K67⟩
def spec_l7copy.b0 (a0 : Page) (x11 : Int × (List (List Int))) : Option ((Int × (List (List Int))) ⊕ Page) :=
 (if (decide (x11.1 < (a0.Slots.length : Int))) = true then (if 0 ≤ x11.1 ∧ x11.1 < (a0.Slots.length : Int) then (if ([] : (List Int)).length + (at_ a0.Slots x11.1).length ≤ Lim then (if x11.2.length + ([(([] : (List Int)) ++ (at_ a0.Slots x11.1))]).length ≤ Lim then (some (Sum.inl ((IntKind.wrap .i64 (x11.1 + (1 : Int))), (x11.2 ++ [(([] : (List Int)) ++ (at_ a0.Slots x11.1))])))) else none) else none) else none) else ((some (Page.mk a0.Lsn x11.2)).bind fun o => some (Sum.inr o)))
def spec_l7copy.f (a0 : Page) : Option (Page) :=
 (iter (spec_l7copy.b0 a0) ((0 : Int), ([] : (List (List Int)))))
def spec_l7copy.Q (w : World) (F : Nat → Prop) (r : Page) (v : Value) (w' : World) : Prop :=
 ∃ (v0 : Value), v = (.agg #[(iI r.Lsn), v0]) ∧ FO kd116 w w' [(iI r.Lsn), v0] r ∧ Ky [] w w'
theorem spec_l7copy.calls (a0 : Page) (w : World) (F : Nat → Prop) (w0_0 : Value) (h0_0 : (Kd.sl 22 Yr).rd w [w0_0] a0.Slots F) (r : Page) (m : spec_l7copy.f a0 = some r) :
  Calls prog 176 #[(.agg #[(iI a0.Lsn), w0_0])] w (RT (spec_l7copy.Q w F) r) := by
 obtain ⟨s0, rfl, kp0, z⟩ := Xl w F
 have A0_0 := z.rd h0_0
 refine Xd (args := [(.agg #[(iI a0.Lsn), w0_0])]) func176 ntmps176 rfl m ?_
 unfold spec_l7copy.f
 refine sr (bx' (cs := [(iI a0.Lsn), w0_0]) 40 rfl rfl (fun b2 s2 p2 B2 => ?_))
 refine al' (cs := [(iI 0), (.slice none 0 0)]) 41 rfl o116 rfl (fun b4 s4 p4 B4 => ?_)
 refine dn (sr (Ye fa116_0 rfl ?_))
 have A6 := B2.st p4 rfl
 refine Yl A6 u3 rfl (bd' (cells := [(iI a0.Lsn), (.slice none 0 0)]) pl116 o116 rfl rfl (al' (cs := [(iI 0), (.slice none 0 0)]) 42 rfl o116 rfl (fun b7 s7 p7 B7 => ?_)))
 refine Xx (vs := [(iI a0.Lsn), (.slice none 0 0)]) B7 z116 rfl (Xb rfl (Xb rfl Xj)) rfl (fun s9 p9 B9 => ?_)
 refine dn (sq (sr (Xc rfl (dn (bl ?_)))))
 refine lpI (fun (x11 : Int × (List (List Int))) e w => ∃ (s : St) (e0 : Env) (vx11_0 : Value), w = s.w ∧ e = upd (upd (upd (upd e0 1 (pB b2)) 2 (pB b4)) 3 (pB b7)) 4 (iI x11.1) ∧ Kp s0 s ∧ OwF (Kd.sl 22 Yr) s [vx11_0] x11.2 43 ∧ BlF s b7 116 [(iI a0.Lsn), vx11_0] 42 ∧ BlF s b4 116 [(iI 0), (.slice none 0 0)] 41 ∧ BlF s b2 116 [(iI a0.Lsn), w0_0] 40) ⟨s9, _, (.slice none 0 0), rfl, (ue (ue (ue (ue rfl rfl) rfl) rfl) rfl), (kp0.st (Yo p2 p4 p7 p9) rfl), (Ym 22 Yr _ 43), B9, (B4.st (Xn p7 p9) rfl), (A6.st (Xn p7 p9) rfl)⟩ (fun g11 ih11 => ?_)
 rintro x11 _ _ ⟨s15, _, vx11_0, rfl, rfl, Kx11, Ax11_0, Bx11_b7, Bx11_b4, Bx11_b2⟩
 unfold spec_l7copy.b0
 refine sq (sr (Xc rfl (Ye fa116_1 rfl (Yl Bx11_b2 u114 rfl ?_))))
 refine ln' (A0_0.kp Kx11) u114 rfl (Xc rfl (dn (cd rfl (fun h21 => ?_) (fun h21 => ?_))))
 ·
  refine sk (sq (bl (zdraw [[], [0], [], [], [3], [], [4, 5], [6], [2, 7], [8], [1, 9, 8], [0, 1, 2, 3, 4, 5, 6, 7, 8, 9, 10], [11, 10, 10, 0, 1, 2, 3, 4, 5, 6, 7, 8, 9, 10]] [some 15, some 16, some 17, some 18, some 19, some 20, some 21, some 22, some 23, some 24, some 25, some 26, none] [[3], [15], [], [1], [18], [4], [19, 20], [21], [17, 22], [23], [16, 24], [3], [26, 25]] [0, 1, 2, 3, 4, 5, 6, 7, 8, 9, 10, 11, 12] ⟨by kernel_rfl, by kernel_rfl, by kernel_rfl⟩ (by kernel_rfl) (fun s22 p22 l22 tb22 zd22 => ?_))))
  have K30 := Kx11.st p22 rfl
  have A31 := A0_0.kp K30
  refine mg fun hg32 => ?_
  obtain ⟨ad32, es32, he32, ce32, ia32⟩ := ix_e A31 rfl hg32.1 hg32.2
  obtain ⟨v32, rfl, he32'⟩ := he32
  have A32 : RdF Yr s22 [v32] (at_ a0.Slots x11.1) [0] := ⟨v32, rfl, he32'⟩
  refine Xt 2 [some 22, some 21, some 20, some 19, some 18, some 16, some 15] tb22 (((((((zd22.add 0 15 (pO b7 1) rfl).add 1 16 vx11_0 rfl).add 3 18 (pO b2 1) rfl).add 4 19 w0_0 rfl).add 5 20 (iI x11.1) rfl).add 6 21 (.pointer (some ad32)) rfl).add 7 22 v32 rfl) (Xa (lc0_q ce32 u22 rfl rfl rfl rfl rfl rfl rfl rfl) rfl (Xa (ix_q A31 u114 z22 hg32.1 hg32.2 ia32 rfl rfl rfl rfl rfl rfl rfl) rfl (Xa (Xh rfl) rfl (Xa (Xp (Bx11_b2.st p22 rfl) u114 rfl) rfl (Xa (Xo fa116_1 rfl) rfl (Xa (Xp (Bx11_b7.st p22 rfl) u114 rfl) rfl (Xa (Xo fa116_1 rfl) rfl Xg))))))) (by kernel_rfl) rfl (fun l37 e37 zd37 => ?_)
  refine lt0 (K := (Kd.int .u8)) 44 u22 z5 rfl rfl rfl rfl rfl (fun v40 s40 p40 A40 => ?_)
  refine Xm (L' := [7, 6, 5, 4, 3, 1, 0]) (D' := [2]) zd37 rfl (fun zd42 => ?_)
  have K46 := K30.st p40 rfl
  refine Xt 8 [some 16, some 15] tb22 zd42 (Xa (lc0_q (ce32.st p40 rfl rfl) u22 rfl rfl rfl rfl rfl rfl rfl rfl) rfl (Xa (ix_q (A0_0.kp K46) u114 z22 hg32.1 hg32.2 ia32 rfl rfl rfl rfl rfl rfl rfl) rfl (Xa (Xh rfl) rfl (Xa (Xp (Bx11_b2.st (Xn p22 p40) rfl) u114 rfl) rfl (Xa (Xo fa116_1 rfl) rfl (Xa (Xp (Bx11_b7.st (Xn p22 p40) rfl) u114 rfl) rfl (Xa (Xo fa116_1 rfl) rfl Xg))))))) (by kernel_rfl) rfl (fun l43 e43 zd43 => ?_)
  refine apF' Xv sl22 A40 (A32.st p40 rfl) rfl (fun v50 s50 p50 A50 => ?_)
  refine Xm (L' := [1, 0]) (D' := [3, 4, 5, 6, 7, 8, 2]) zd43 rfl (fun zd52 => ?_)
  refine Xt 9 [some 16, some 15] tb22 zd52 (Xa (Xp (Bx11_b7.st (Yi p22 p40 p50) rfl) u114 rfl) rfl (Xa (Xo fa116_1 rfl) rfl Xg)) (by kernel_rfl) rfl (fun l53 e53 zd53 => ?_)
  refine ltO' (K := Yr) (cells := [v50]) [(([] : (List Int)) ++ (at_ a0.Slots x11.1))] 44 u114 z22 o22 (lo_one A50) rfl (lfill_pc (pc_c (oc A50.rd.one) pc_n) rfl) (fun v56 s56 p56 A56 => ?_)
  refine Xm (L' := [1, 0]) (D' := [9, 3, 4, 5, 6, 7, 8, 2]) zd53 rfl (fun zd58 => ?_)
  refine Yp [10, 11, 12] tb22 zd58 (Xa (Xp (Bx11_b7.st (Yo p22 p40 p50 p56) rfl) u114 rfl) rfl (Xa (Xo fa116_1 rfl) rfl Xg)) (by kernel_rfl) (by decide) (apO' sl114 (Ax11_0.st (Yo p22 p40 p50 p56) rfl) A56 rfl (fun v61 s61 p61 A61 => ?_))
  refine Ye fa116_1 rfl (sv' (Bx11_b7.st (tr5 p22 p40 p50 p56 p61) rfl) z114 rfl A61.rd.one rfl (fun s64 p64 B64 => ?_))
  refine dn (ib (rg (Xc rfl (Xc rfl (Xc rfl (dn ?_))))))
  exact lb ih11 ⟨s64, _, v61, rfl, (ue (ue (ue (ue rfl rfl) rfl) rfl) rfl), (K46.st (Yo p50 p56 p61 p64) rfl), (A61.st p64 rfl), B64, (Bx11_b4.st (tr6 p22 p40 p50 p56 p61 p64) rfl), (Bx11_b2.st (tr6 p22 p40 p50 p56 p61 p64) rfl)⟩
 refine xt rfl (sgb (sr (Ya (es := [(iI a0.Lsn), vx11_0]) Bx11_b7 u116 z116 rfl (Xx (vs := [(iI a0.Lsn), vx11_0]) Bx11_b4 z116 rfl (Xb rfl (Xb Ax11_0.rd.one Xj)) rfl (fun s70 p70 B70 => ?_)))))
 refine dn ?_
 have A72 : OwF kd116 s70 [(iI a0.Lsn), vx11_0] (Page.mk a0.Lsn x11.2) 43 := (Xs (fun x : Page => (x.Lsn, x.Slots)) (Page.mk a0.Lsn x11.2) (Xy (Xf .i64 a0.Lsn) (Ax11_0.st p70 rfl)))
 have K75 := Kx11.st p70 rfl
 exact re rfl func176 rfl (r_b B70 u116 rfl z116 rfl Xe) rfl ⟨_, rfl, vx11_0, rfl, A72.fo K75 rfl z.l, z.ky K75⟩
def spec_l10copy.b0 (a0 : Heap) (x8 : Int × (List Page)) : Option ((Int × (List Page)) ⊕ Heap) :=
 (if (decide (x8.1 < (a0.Pages.length : Int))) = true then (if 0 ≤ x8.1 ∧ x8.1 < (a0.Pages.length : Int) then ((spec_l7copy.f (at_ a0.Pages x8.1)).bind fun r37 => (if x8.2.length + ([r37]).length ≤ Lim then (some (Sum.inl ((IntKind.wrap .i64 (x8.1 + (1 : Int))), (x8.2 ++ [r37])))) else none)) else none) else ((some (Heap.mk x8.2)).bind fun o => some (Sum.inr o)))
def spec_l10copy.f (a0 : Heap) : Option (Heap) :=
 (iter (spec_l10copy.b0 a0) ((0 : Int), ([] : (List Page))))
def spec_l10copy.Q (w : World) (F : Nat → Prop) (r : Heap) (v : Value) (w' : World) : Prop :=
 ∃ (v0 : Value), v = (.agg #[v0]) ∧ FO kd26 w w' [v0] r ∧ Ky [] w w'
theorem spec_l10copy.calls (a0 : Heap) (w : World) (F : Nat → Prop) (w0_0 : Value) (h0_0 : Yt.rd w [w0_0] a0.Pages F) (r : Heap) (m : spec_l10copy.f a0 = some r) :
  Calls prog 84 #[(.agg #[w0_0])] w (RT (spec_l10copy.Q w F) r) := by
 obtain ⟨s0, rfl, kp0, z⟩ := Xl w F
 have A0_0 := z.rd h0_0
 refine Xd (args := [(.agg #[w0_0])]) func84 ntmps84 rfl m ?_
 unfold spec_l10copy.f
 refine sr (bx' (cs := [w0_0]) 40 rfl rfl (fun b2 s2 p2 B2 => ?_))
 refine al' (cs := [(.slice none 0 0)]) 41 rfl o26 rfl (fun b4 s4 p4 B4 => ?_)
 refine dn (sr (al' (cs := [(.slice none 0 0)]) 42 rfl o26 rfl (fun b6 s6 p6 B6 => ?_)))
 refine dn (sq (sr (Xc rfl (dn (bl ?_)))))
 refine lpI (fun (x8 : Int × (List Page)) e w => ∃ (s : St) (e0 : Env) (vx8_0 : Value), w = s.w ∧ e = upd (upd (upd (upd e0 1 (pB b2)) 2 (pB b4)) 3 (pB b6)) 4 (iI x8.1) ∧ Kp s0 s ∧ OwF Yt s [vx8_0] x8.2 43 ∧ BlF s b6 26 [vx8_0] 42 ∧ BlF s b4 26 [(.slice none 0 0)] 41 ∧ BlF s b2 26 [w0_0] 40) ⟨s6, _, (.slice none 0 0), rfl, (ue (ue (ue (ue rfl rfl) rfl) rfl) rfl), (kp0.st (Yi p2 p4 p6) rfl), (Ym 116 kd116 _ 43), B6, (B4.st p6 rfl), (B2.st (Xn p4 p6) rfl)⟩ (fun g8 ih8 => ?_)
 rintro x8 _ _ ⟨s12, _, vx8_0, rfl, rfl, Kx8, Ax8_0, Bx8_b6, Bx8_b4, Bx8_b2⟩
 unfold spec_l10copy.b0
 refine sq (sr (Xc rfl (Ye fa26_0 rfl (Yl Bx8_b2 u24 rfl ?_))))
 refine ln' (A0_0.kp Kx8) u24 rfl (Xc rfl (dn (cd rfl (fun h18 => ?_) (fun h18 => ?_))))
 ·
  refine sk (sq (bl (zdraw [[], [0], [], [2], [], [3, 4], [5], [6], [7], [1, 8, 7], [0, 1, 2, 3, 4, 5, 6, 7, 8, 9], [10, 9, 9, 0, 1, 2, 3, 4, 5, 6, 7, 8, 9]] [some 12, some 13, some 14, some 15, some 16, some 17, some 18, some 19, some 20, some 21, some 22, none] [[3], [12], [1], [14], [4], [15, 16], [17], [18], [19], [13, 20], [3], [22, 21]] [0, 1, 2, 3, 4, 5, 6, 7, 8, 9, 10, 11] ⟨by kernel_rfl, by kernel_rfl, by kernel_rfl⟩ (by kernel_rfl) (fun s19 p19 l19 tb19 zd19 => ?_))))
  have K27 := Kx8.st p19 rfl
  have A28 := A0_0.kp K27
  refine mg fun hg29 => ?_
  obtain ⟨ad29, es29, he29, ce29, ia29⟩ := ix_e A28 rfl hg29.1 hg29.2
  obtain ⟨v29_0, rfl, A29_0⟩ := op116 he29
  refine Xt 7 [some 13, some 12] tb19 (((((((zd19.add 0 12 (pB b6) rfl).add 1 13 vx8_0 rfl).add 2 14 (pB b2) rfl).add 3 15 w0_0 rfl).add 4 16 (iI x8.1) rfl).add 5 17 (.pointer (some ad29)) rfl).add 6 18 (.agg #[(iI ((at_ a0.Pages x8.1).Lsn)), v29_0]) rfl) (Xa (lca_q ce29 u116 z116 rfl rfl rfl rfl rfl rfl rfl) rfl (Xa (ix_q A28 u24 z116 hg29.1 hg29.2 ia29 rfl rfl rfl rfl rfl rfl rfl) rfl (Xa (Xh rfl) rfl (Xa (Xp (Bx8_b2.st p19 rfl) u24 rfl) rfl (Xa (Xo fa26_0 rfl) rfl (Xa (Xp (Bx8_b6.st p19 rfl) u24 rfl) rfl (Xa (Xo fa26_0 rfl) rfl Xg))))))) (by kernel_rfl) rfl (fun l34 e34 zd34 => ?_)
  refine cl' rfl func176 rfl (spec_l7copy.calls (at_ a0.Pages x8.1) s19.w (mm [0] s19) v29_0 A29_0) ?_
  rintro r37 _ w37 m37 ⟨v37_0, rfl, f37_0, ky37⟩
  obtain ⟨s38, rfl, p38, n38⟩ := nwx s19 w37 44 ky37
  refine Xm (L' := [1, 0]) (D' := [2, 3, 4, 5, 6, 7]) zd34 rfl (fun zd40 => ?_)
  refine Xt 8 [some 13, some 12] tb19 zd40 (Xa (Xp (Bx8_b6.st (Xn p19 p38) rfl) u24 rfl) rfl (Xa (Xo fa26_0 rfl) rfl Xg)) (by kernel_rfl) rfl (fun l41 e41 zd41 => ?_)
  have A43 : OwF kd116 s38 [(iI r37.Lsn), v37_0] r37 44 := (Xs (fun x : Page => (x.Lsn, x.Slots)) r37 (Xy (Xf .i64 r37.Lsn) (ap116 (f37_0.c n38))))
  refine ltO' (K := kd116) (cells := [(iI r37.Lsn), v37_0]) [r37] 44 u24 z116 o116 (lo_one A43) rfl rfl (fun v46 s46 p46 A46 => ?_)
  refine Xm (L' := [1, 0]) (D' := [8, 2, 3, 4, 5, 6, 7]) zd41 rfl (fun zd48 => ?_)
  refine Yp [9, 10, 11] tb19 zd48 (Xa (Xp (Bx8_b6.st (Yi p19 p38 p46) rfl) u24 rfl) rfl (Xa (Xo fa26_0 rfl) rfl Xg)) (by kernel_rfl) (by decide) (apO' sl24 (Ax8_0.st (Yi p19 p38 p46) rfl) A46 rfl (fun v51 s51 p51 A51 => ?_))
  refine Ye fa26_0 rfl (sv' (Bx8_b6.st (Yo p19 p38 p46 p51) rfl) z24 rfl A51.rd.one rfl (fun s54 p54 B54 => ?_))
  refine dn (ib (rg (Xc rfl (Xc rfl (Xc rfl (dn ?_))))))
  exact lb ih8 ⟨s54, _, v51, rfl, (ue (ue (ue (ue rfl rfl) rfl) rfl) rfl), (K27.st (Yo p38 p46 p51 p54) rfl), (A51.st p54 rfl), B54, (Bx8_b4.st (tr5 p19 p38 p46 p51 p54) rfl), (Bx8_b2.st (tr5 p19 p38 p46 p51 p54) rfl)⟩
 refine xt rfl (sgb (sr (Ya (es := [vx8_0]) Bx8_b6 u26 z26 rfl (Xx (vs := [vx8_0]) Bx8_b4 z26 rfl (Xb Ax8_0.rd.one Xj) rfl (fun s60 p60 B60 => ?_)))))
 refine dn ?_
 have A62 : OwF kd26 s60 [vx8_0] (Heap.mk x8.2) 43 := (Xs (fun x : Heap => (x.Pages)) (Heap.mk x8.2) (Ax8_0.st p60 rfl))
 have K65 := Kx8.st p60 rfl
 exact re rfl func84 rfl (r_b B60 u26 rfl z26 rfl Xe) rfl ⟨_, rfl, vx8_0, rfl, A62.fo K65 rfl z.l, z.ky K65⟩
def spec_PagePut.b0 (a1 : Int) (a2 : (List Int)) (a3 : Int) (x52 : (List (List Int))) : Option ((List (List Int)) ⊕ (Page × Bool)) :=
 (if (decide ((x52.length : Int) ≤ a1)) = true then (if x52.length + ([([] : (List Int))]).length ≤ Lim then (some (Sum.inl (x52 ++ [([] : (List Int))]))) else none) else ((if ([] : (List Int)).length + a2.length ≤ Lim then (if 0 ≤ a1 ∧ a1 < (x52.length : Int) then ((spec_PageUsed.f (Page.mk a3 (x52.set (a1).toNat (([] : (List Int)) ++ a2)))).bind fun r104 => (if (decide (r104 < (0 : Int))) = true then (some ((Page.mk (0 : Int) ([] : (List (List Int)))), false)) else (some ((Page.mk a3 (x52.set (a1).toNat (([] : (List Int)) ++ a2))), true)))) else none) else none).bind fun o => some (Sum.inr o)))
def spec_PagePut.f (a0 : Page) (a1 : Int) (a2 : (List Int)) (a3 : Int) : Option (Page × Bool) :=
 ((spec_PageUsed.f a0).bind fun r10 => ((if (decide (r10 < (0 : Int))) = true then (some true) else ((spec_l5in.f a1 (0 : Int) (15 : Int)).bind fun r16 => (some (!r16)))).bind fun y12 => ((if ((y12 || ((a2.length : Int) == (0 : Int))) || (decide ((a2.length : Int) > (92 : Int)))) = true then (some true) else ((spec_l5in.f a3 (1 : Int) (1000000 : Int)).bind fun r29 => (some (!r29)))).bind fun y28 => (if y28 = true then (some ((Page.mk (0 : Int) ([] : (List (List Int)))), false)) else ((spec_l7copy.f a0).bind fun r44 => (iter (spec_PagePut.b0 a1 a2 a3) r44.Slots))))))
def spec_PagePut.Q (w : World) (F : Nat → Prop) (r : Page × Bool) (v : Value) (w' : World) : Prop :=
 ∃ (v0 : Value), v = .tuple #[(.agg #[(iI r.1.Lsn), v0]), (.bool r.2)] ∧ FO kd116 w w' [(iI r.1.Lsn), v0] r.1 ∧ Ky [] w w'
theorem spec_PagePut.calls (a0 : Page) (a1 : Int) (a2 : (List Int)) (a3 : Int) (w : World) (F : Nat → Prop) (w0_0 : Value) (w2_0 : Value) (h0_0 : (Kd.sl 22 Yr).rd w [w0_0] a0.Slots F) (h2_0 : Yr.rd w [w2_0] a2 F) (r : Page × Bool) (m : spec_PagePut.f a0 a1 a2 a3 = some r) :
  Calls prog 85 #[(.agg #[(iI a0.Lsn), w0_0]), (iI a1), w2_0, (iI a3)] w (RT (spec_PagePut.Q w F) r) := by
 obtain ⟨s0, rfl, kp0, z⟩ := Xl w F
 have A0_0 := z.rd h0_0
 have A2_0 := z.rd h2_0
 refine Xd (args := [(.agg #[(iI a0.Lsn), w0_0]), (iI a1), w2_0, (iI a3)]) func85 ntmps85 rfl m ?_
 unfold spec_PagePut.f
 refine sr (bx' (cs := [(iI a0.Lsn), w0_0]) 40 rfl rfl (fun b3 s3 p3 B3 => ?_))
 refine al' (cs := [(iI 0), (.slice none 0 0)]) 41 rfl o116 rfl (fun b5 s5 p5 B5 => ?_)
 refine Xc rfl (dn (sq (sr ?_)))
 have A7 := B3.st p5 rfl
 refine Ya (es := [(iI a0.Lsn), w0_0]) A7 u116 z116 rfl ?_
 have K8 := kp0.st (Xn p3 p5) rfl
 refine Yn 42 rfl func107 rfl (spec_PageUsed.calls a0 s5.w (mm [0] s5) w0_0 (A0_0.kp K8)) (fun r10 s11 p11 n11 => ?_)
 refine Xc rfl (Xc rfl (ji [8, 9, 10, 11, 12, 13, 14, 15, 16, 17, 18, 19, 20, 21, 22] (fun (y12 : Bool) e w => ∃ (s : St) (e0 : Env), w = s.w ∧ e = upd (upd (upd (upd (upd (upd e0 1 (iI a1)) 2 w2_0) 3 (iI a3)) 4 (pB b3)) 8 (pB b5)) 18 (.bool y12) ∧ Kp s0 s ∧ BlF s b5 116 [(iI 0), (.slice none 0 0)] 41 ∧ BlF s b3 116 [(iI a0.Lsn), w0_0] 40) (fun Gj12 Kj12 => ?_) ?_))
 ·
  rcases bft (decide (r10 < (0 : Int))) with hb12 | hb12
  ·
   refine Yb hb12 ?_
   rw [if_pos hb12]
   refine Xk rfl (Xk rfl (Xk rfl (Xc rfl ?_)))
   exact Kj12 _ _ _ ⟨s11, _, rfl, (ue (ue (ue (ue (ue (ue rfl rfl) rfl) rfl) rfl) rfl) rfl), (K8.st p11 rfl), (B5.st p11 rfl), (A7.st p11 rfl)⟩
  refine Yb hb12 ?_
  rw [if_neg (by rw [hb12]; decide)]
  refine Xc rfl (Yn 43 rfl func83 rfl (spec_l5in.calls a1 (0 : Int) (15 : Int) s11.w (mm [] s11)) (fun r16 s17 p17 n17 => ?_))
  refine Xc rfl (Xc rfl ?_)
  exact Kj12 _ _ _ ⟨s17, _, rfl, (ue (ue (ue (ue (ue (ue rfl rfl) rfl) rfl) rfl) rfl) rfl), (K8.st (Xn p11 p17) rfl), (B5.st (Xn p11 p17) rfl), (A7.st (Xn p11 p17) rfl)⟩
 rintro y12 _ _ ⟨s21, _, rfl, rfl, Ky12, By12_b5, By12_b3⟩
 refine Xc rfl (jy [19, 20, 21, 22, 23] [13, 14, 15, 16, 17, 18, 19, 20, 21, 22] 23 (.bool (y12 || ((a2.length : Int) == (0 : Int)))) rfl (fun Kg24 => ?_) (fun j24 => ?_))
 ·
  rcases bft y12 with hb24 | hb24
  ·
   exact Yb hb24 (Xk rfl (Xk rfl (Xk rfl (Xc rfl (Kg24 _ (Ag.put ((Ag.put ((Ag.put ((Ag.put (Ag.base rfl) rfl)) rfl)) rfl)) rfl) (by rw [hb24]; rfl))))))
  refine Yb hb24 (Yc w2_0 rfl ?_)
  exact ln' (A2_0.kp Ky12) u22 rfl (Xc rfl (Xc rfl (Kg24 _ (Ag.put ((Ag.put ((Ag.put ((Ag.put (Ag.base rfl) rfl)) rfl)) rfl)) rfl) (by rw [hb24]; rfl))))
 refine Xc rfl (jy [24, 25, 26, 27, 28] [18, 19, 20, 21, 22] 28 (.bool ((y12 || ((a2.length : Int) == (0 : Int))) || (decide ((a2.length : Int) > (92 : Int))))) rfl (fun Kg26 => ?_) (fun j26 => ?_))
 ·
  rcases bft (y12 || ((a2.length : Int) == (0 : Int))) with hb26 | hb26
  ·
   exact Yb hb26 (Xk rfl (Xk rfl (Xk rfl (Xc rfl (Kg26 _ (Ag.put ((Ag.put ((Ag.put ((Ag.put (Ag.base rfl) rfl)) rfl)) rfl)) rfl) (by rw [hb26]; rfl))))))
  refine Yb hb26 (Yc w2_0 rfl ?_)
  exact ln' (A2_0.kp Ky12) u22 rfl (Xc rfl (Xc rfl (Kg26 _ (Ag.put ((Ag.put ((Ag.put ((Ag.put (Ag.base rfl) rfl)) rfl)) rfl)) rfl) (by rw [hb26]; rfl))))
 refine Xc rfl (ji [] (fun (y28 : Bool) e w => ∃ (s : St) (e0 : Env), w = s.w ∧ e = upd (upd (upd (upd (upd (upd e0 1 (iI a1)) 2 w2_0) 3 (iI a3)) 4 (pB b3)) 8 (pB b5)) 33 (.bool y28) ∧ Kp s0 s ∧ BlF s b5 116 [(iI 0), (.slice none 0 0)] 41 ∧ BlF s b3 116 [(iI a0.Lsn), w0_0] 40) (fun Gj28 Kj28 => ?_) ?_)
 ·
  rcases bft ((y12 || ((a2.length : Int) == (0 : Int))) || (decide ((a2.length : Int) > (92 : Int)))) with hb28 | hb28
  ·
   refine Yb hb28 ?_
   rw [if_pos hb28]
   exact Xk rfl (Xk rfl (Xk rfl (Xc rfl (Kj28 _ _ _ ⟨s21, _, rfl, (ue (ue (ue (ue (ue (ue rfl rfl) rfl) rfl) rfl) rfl) rfl), Ky12, By12_b5, By12_b3⟩))))
  refine Yb hb28 ?_
  rw [if_neg (by rw [hb28]; decide)]
  refine Xc rfl (Yn 44 rfl func83 rfl (spec_l5in.calls a3 (1 : Int) (1000000 : Int) s21.w (mm [] s21)) (fun r29 s30 p30 n30 => ?_))
  refine Xc rfl (Xc rfl ?_)
  exact Kj28 _ _ _ ⟨s30, _, rfl, (ue (ue (ue (ue (ue (ue rfl rfl) rfl) rfl) rfl) rfl) rfl), (Ky12.st p30 rfl), (By12_b5.st p30 rfl), (By12_b3.st p30 rfl)⟩
 rintro y28 _ _ ⟨s34, _, rfl, rfl, Ky28, By28_b5, By28_b3⟩
 refine dn (cd rfl (fun h37 => ?_) (fun h37 => ?_))
 ·
  refine sr (bd' (cells := [(iI 0), (.slice none 0 0)]) pl116 o116 rfl rfl (Xx (vs := [(iI 0), (.slice none 0 0)]) By28_b5 z116 rfl (Xb rfl (Xb rfl Xj)) rfl (fun s38 p38 B38 => ?_)))
  refine Xc rfl (dn ?_)
  have A40 : OwF kd116 s38 [(iI 0), (.slice none 0 0)] (Page.mk (0 : Int) ([] : (List (List Int)))) 45 := ow_z _ _ (Yj (fun x : Page => (x.Lsn, x.Slots)) (Page.mk (0 : Int) ([] : (List (List Int)))) (Xi (Xf .i64 (0 : Int)) (Yk 22 Yr)))
  have K42 := Ky28.st p38 rfl
  exact re rfl func85 rfl (r_b B38 u116 rfl z116 rfl (Xu rfl Xe)) rfl ⟨_, rfl, (.slice none 0 0), rfl, A40.fo K42 rfl z.l, z.ky K42⟩
 refine sk (sr (Ya (es := [(iI a0.Lsn), w0_0]) By28_b3 u116 z116 rfl ?_))
 refine cl' rfl func176 rfl (spec_l7copy.calls a0 s34.w (mm [0] s34) w0_0 (A0_0.kp Ky28)) ?_
 rintro r44 _ w44 m44 ⟨v44_0, rfl, f44_0, ky44⟩
 obtain ⟨s45, rfl, p45, n45⟩ := nwx s34 w44 46 ky44
 refine al' (cs := [(iI 0), (.slice none 0 0)]) 47 rfl o116 rfl (fun b47 s47 p47 B47 => ?_)
 have A49 := (ap116 (f44_0.c n45)).st p47 rfl
 refine Xx (vs := [(iI r44.Lsn), v44_0]) B47 z116 rfl (Xb rfl (Xb A49.rd.one Xj)) rfl (fun s50 p50 B50 => ?_)
 refine dn (sq (bl ?_))
 refine lpI (fun (x52 : (List (List Int))) e w => ∃ (s : St) (e0 : Env) (vx52_0 : Value), w = s.w ∧ e = upd (upd (upd (upd (upd e0 1 (iI a1)) 2 w2_0) 3 (iI a3)) 8 (pB b5)) 10 (pB b47) ∧ Kp s0 s ∧ OwF (Kd.sl 22 Yr) s [vx52_0] x52 46 ∧ BlF s b47 116 [(iI r44.Lsn), vx52_0] 47 ∧ BlF s b5 116 [(iI 0), (.slice none 0 0)] 41) ⟨s50, _, v44_0, rfl, (ue (ue (ue (ue (ue rfl rfl) rfl) rfl) rfl) rfl), (Ky28.st (Yi p45 p47 p50) rfl), (A49.st p50 rfl), B50, (By28_b5.st (Yi p45 p47 p50) rfl)⟩ (fun g52 ih52 => ?_)
 rintro x52 _ _ ⟨s56, _, vx52_0, rfl, rfl, Kx52, Ax52_0, Bx52_b47, Bx52_b5⟩
 unfold spec_PagePut.b0
 refine sq (sr (Ye fa116_1 rfl (Yl Bx52_b47 u114 rfl (ln' Ax52_0.rd u114 rfl (Xc rfl (Xc rfl (dn (cd rfl (fun h60 => ?_) (fun h60 => ?_)))))))))
 ·
  refine sk (bl (rg (Ye fa116_1 rfl (Yl Bx52_b47 u114 rfl ?_))))
  have A61 : OwF Yr s56 [(.slice none 0 0)] ([] : (List Int)) 49 := ow_z _ _ (Yk 5 (Kd.int .u8))
  refine ltO' (K := Yr) (cells := [(.slice none 0 0)]) [([] : (List Int))] 49 u114 z22 o22 (lo_one A61) rfl rfl (fun v64 s64 p64 A64 => ?_)
  refine apO' sl114 (Ax52_0.st p64 rfl) A64 rfl (fun v67 s67 p67 A67 => ?_)
  refine Ye fa116_1 rfl (sv' (Bx52_b47.st (Xn p64 p67) rfl) z114 rfl A67.rd.one rfl (fun s70 p70 B70 => ?_))
  refine dn (ib ?_)
  exact lb ih52 ⟨s70, _, v67, rfl, (ue (ue (ue (ue (ue rfl rfl) rfl) rfl) rfl) rfl), (Kx52.st (Yi p64 p67 p70) rfl), (A67.st p70 rfl), B70, (Bx52_b5.st (Yi p64 p67 p70) rfl)⟩
 refine xt rfl (sgb (sq (zdraw [[], [0], [], [], [], [3, 4], [1, 2, 0, 1, 2, 3, 4, 5], [6, 5, 5, 0, 1, 2, 3, 4, 5]] [some 47, some 48, some 49, some 50, some 51, some 52, some 53, none] [[10], [47], [1], [], [2], [50, 51], [48, 49], [53, 52]] [0, 1, 2, 3, 4, 5, 6, 7] ⟨by kernel_rfl, by kernel_rfl, by kernel_rfl⟩ (by kernel_rfl) (fun s75 p75 l75 tb75 zd75 => ?_))))
 refine Xt 3 [some 51, some 49, some 48, some 47] tb75 ((((zd75.add 0 47 (pO b47 1) rfl).add 1 48 vx52_0 rfl).add 2 49 (iI a1) rfl).add 4 51 w2_0 rfl) (Xa (Xr w2_0 rfl) rfl (Xa (Xh rfl) rfl (Xa (Xp (Bx52_b47.st p75 rfl) u114 rfl) rfl (Xa (Xo fa116_1 rfl) rfl Xg)))) (by kernel_rfl) rfl (fun l81 e81 zd81 => ?_)
 refine lt0 (K := (Kd.int .u8)) 50 u22 z5 rfl rfl rfl rfl rfl (fun v83 s83 p83 A83 => ?_)
 refine Xm (L' := [4, 2, 1, 0]) (D' := [3]) zd81 rfl (fun zd85 => ?_)
 refine Xt 5 [some 49, some 48, some 47] tb75 zd85 (Xa (Xr w2_0 rfl) rfl (Xa (Xh rfl) rfl (Xa (Xp (Bx52_b47.st (Xn p75 p83) rfl) u114 rfl) rfl (Xa (Xo fa116_1 rfl) rfl Xg)))) (by kernel_rfl) rfl (fun l86 e86 zd86 => ?_)
 have K88 := Kx52.st (Xn p75 p83) rfl
 refine apF' Xv sl22 A83 (A2_0.kp K88) rfl (fun v90 s90 p90 A90 => ?_)
 refine Xm (L' := [2, 1, 0]) (D' := [4, 5, 3]) zd86 rfl (fun zd92 => ?_)
 refine Yp [6, 7] tb75 zd92 (Xa (Xh rfl) rfl (Xa (Xp (Bx52_b47.st (Yi p75 p83 p90) rfl) u114 rfl) rfl (Xa (Xo fa116_1 rfl) rfl Xg))) (by kernel_rfl) (by decide) ?_
 have A94 := Ax52_0.st (Yi p75 p83 p90) rfl
 refine ix' A94.rd u114 z22 rfl (fun ad95 es95 h0_95 h1_95 he95 ce95 ia95 => ?_)
 obtain ⟨v95, rfl, he95'⟩ := he95
 have A95 : RdF Yr s90 [v95] (at_ x52 a1) [46] := ⟨v95, rfl, he95'⟩
 refine sog (x' := (([] : (List Int)) ++ a2)) lg_id A94 ia95 h0_95 h1_95 A90 rfl rfl z22 rfl rfl rfl rfl rfl (oc A90.rd.one) (fun s98 p98 A98 => ?_)
 refine dn (sr (Xc rfl (Ye fa116_0 rfl ?_)))
 refine sv' (Bx52_b47.st (Yo p75 p83 p90 p98) rfl) z3 rfl rfl rfl (fun s101 p101 B101 => ?_)
 refine dn (sq (sr (Ya (es := [(iI a3), vx52_0]) B101 u116 z116 rfl ?_)))
 have A103 := A98.st p101 rfl
 refine Yn 51 rfl func107 rfl (spec_PageUsed.calls (Page.mk a3 (x52.set (a1).toNat (([] : (List Int)) ++ a2))) s101.w (mm [46] s101) vx52_0 A103.rd) (fun r104 s105 p105 n105 => ?_)
 refine Xc rfl (dn (cd rfl (fun h106 => ?_) (fun h106 => ?_)))
 ·
  refine sr (bd' (cells := [(iI 0), (.slice none 0 0)]) pl116 o116 rfl rfl ?_)
  refine Xx (vs := [(iI 0), (.slice none 0 0)]) (Bx52_b5.st (tr6 p75 p83 p90 p98 p101 p105) rfl) z116 rfl (Xb rfl (Xb rfl Xj)) rfl (fun s108 p108 B108 => ?_)
  refine Xc rfl (dn ?_)
  have A110 : OwF kd116 s108 [(iI 0), (.slice none 0 0)] (Page.mk (0 : Int) ([] : (List (List Int)))) 52 := ow_z _ _ (Yj (fun x : Page => (x.Lsn, x.Slots)) (Page.mk (0 : Int) ([] : (List (List Int)))) (Xi (Xf .i64 (0 : Int)) (Yk 22 Yr)))
  have K112 := K88.st (tr5 p90 p98 p101 p105 p108) rfl
  exact re rfl func85 rfl (r_b B108 u116 rfl z116 rfl (Xu rfl Xe)) rfl ⟨_, rfl, (.slice none 0 0), rfl, A110.fo K112 rfl z.l, z.ky K112⟩
 refine sk (sr ?_)
 refine Ya (es := [(iI a3), vx52_0]) (B101.st p105 rfl) u116 z116 rfl ?_
 have A115 := A103.st p105 rfl
 refine Xx (vs := [(iI a3), vx52_0]) (Bx52_b5.st (tr6 p75 p83 p90 p98 p101 p105) rfl) z116 rfl (Xb rfl (Xb A115.rd.one Xj)) rfl (fun s116 p116 B116 => ?_)
 refine Xc rfl (dn ?_)
 have A118 : OwF kd116 s116 [(iI a3), vx52_0] (Page.mk a3 (x52.set (a1).toNat (([] : (List Int)) ++ a2))) 46 := (Xs (fun x : Page => (x.Lsn, x.Slots)) (Page.mk a3 (x52.set (a1).toNat (([] : (List Int)) ++ a2))) (Xy (Xf .i64 a3) (A115.st p116 rfl)))
 have K121 := K88.st (tr5 p90 p98 p101 p105 p116) rfl
 exact re rfl func85 rfl (r_b B116 u116 rfl z116 rfl (Xu rfl Xe)) rfl ⟨_, rfl, vx52_0, rfl, A118.fo K121 rfl z.l, z.ky K121⟩
end Go.Proofs.YtegicanjlefmdaaGreat
