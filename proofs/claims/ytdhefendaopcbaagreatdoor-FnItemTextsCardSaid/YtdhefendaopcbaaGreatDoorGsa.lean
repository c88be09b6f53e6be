/- The functions as models, and that the calls come to what the models tell. -/
import Derived.Test.YtdhefendaopcbaaGreatDoorGt
import Derived.Shelf.Strconv.Itoa3
import Derived.Shelf.Lay
import Derived.Ground.NamesProg
import Derived.Shelf.Strconv.ErrVarAll
import Derived.Shelf.Strconv.AtoiAll
import Derived.Shelf.Small.Strs
import Derived.Shelf.Strings.OnBuilder
import Derived.Shelf.Strings.Split
set_option linter.unusedVariables false
set_option linter.unusedSimpArgs false
set_option maxHeartbeats 4000000
set_option maxRecDepth 100000
noncomputable section
namespace Go.Proofs.YtdhefendaopcbaaGreatDoor
open Go V Tryz
def laws_big.f (a0 : (List Int)) : Option (Bool) :=
 (some (decide ((a0.length : Int) > (1048576 : Int))))
def laws_big.Q (w : World) (F : Nat → Prop) (r : Bool) (v : Value) (w' : World) : Prop :=
 v = (.bool r) ∧ Ky [] w w'
theorem laws_big.calls (a0 : (List Int)) (w : World) (F : Nat → Prop) (w0_0 : Value) (h0_0 : Ya.rd w [w0_0] a0 F) (r : Bool) (m : laws_big.f a0 = some r) :
  Calls prog 5 #[w0_0] w (RT (laws_big.Q w F) r) := by
 obtain ⟨s0, rfl, kp0, z⟩ := Xq w F
 refine Xd (args := [w0_0]) func5 ntmps5 rfl rfl m ?_
 unfold laws_big.f
 exact sr (Xc rfl (dn (sr (mv' w0_0 rfl (ln (z.rd h0_0) u22 rfl rfl rfl rfl rfl rfl (Xc rfl (Xc rfl (dn (re rfl func5 rfl (r_t rfl Xg) rfl ⟨_, rfl, rfl, z.ky kp0⟩)))))))))
def spec_l1New.b0 (a0 : (List Int)) (x2 : Int × Int) : Option ((Int × Int) ⊕ l1Cur) :=
 (if ((decide (x2.2 < (a0.length : Int))) && (decide (x2.2 < (4000 : Int)))) = true then (if 0 ≤ x2.2 ∧ x2.2 < (a0.length : Int) then (some (Sum.inl ((iand .i64 (IntKind.wrap .i64 ((IntKind.wrap .i64 ((IntKind.wrap .i64 (x2.1 * (131 : Int))) + (IntKind.wrap .i64 (at_ a0 x2.2)))) + (7 : Int))) (1073741823 : Int)), (IntKind.wrap .i64 (x2.2 + (1 : Int)))))) else none) else ((some (l1Cur.mk a0 (0 : Int) x2.1)).bind fun o => some (Sum.inr o)))
def spec_l1New.f (a0 : (List Int)) : Option (l1Cur) :=
 (iter (spec_l1New.b0 a0) ((IntKind.wrap .i64 ((25252 : Int) + (a0.length : Int))), (0 : Int)))
def spec_l1New.Q (w : World) (F : Nat → Prop) (r : l1Cur) (v : Value) (w' : World) : Prop :=
 ∃ (v0 : Nat) (v1 : Value), v = (pB v0) ∧ BlN w w' v0 80 [v1, (iI r.i), (iI r.h)] ∧ FRF Ya F w w' [v1] r.b ∧ Ky [] w w'
theorem spec_l1New.calls (a0 : (List Int)) (w : World) (F : Nat → Prop) (w0_0 : Value) (h0_0 : Ya.rd w [w0_0] a0 F) (r : l1Cur) (m : spec_l1New.f a0 = some r) :
  Calls prog 22 #[w0_0] w (RT (spec_l1New.Q w F) r) := by
 obtain ⟨s0, rfl, kp0, z⟩ := Xq w F
 have A0_0 := z.rd h0_0
 refine Xd (args := [w0_0]) func22 ntmps22 rfl rfl m ?_
 unfold spec_l1New.f
 refine sr (Xc rfl (dn (sr (mv' w0_0 rfl (ln A0_0 u22 rfl rfl rfl rfl rfl rfl (Xc rfl (Xc rfl (dn (sq (sr (Xc rfl (dn (bl (lpI (fun (x2 : Int × Int) e w => ∃ (s : St) (e0 : Env), w = s.w ∧ e = upd (upd (upd e0 0 w0_0) 3 (iI x2.1)) 4 (iI x2.2) ∧ Kp s0 s) ⟨s0, _, rfl, (ue (ue (ue rfl rfl) rfl) rfl), kp0⟩ (fun g2 ih2 => ?_)))))))))))))))
 rintro x2 _ _ ⟨s3, _, rfl, rfl, Kx2⟩
 unfold spec_l1New.b0
 refine sq (sr (Xc rfl (mv' w0_0 rfl ?_)))
 have A4 := A0_0.kp Kx2
 refine ln A4 u22 rfl rfl rfl rfl rfl rfl (Xc rfl (Xc rfl (jy [12, 13, 14, 15] [] 15 (.bool ((decide (x2.2 < (a0.length : Int))) && (decide (x2.2 < (4000 : Int))))) rfl (fun Kg5 => ?_) (fun j5 => ?_))))
 ·
  rcases bft (decide (x2.2 < (a0.length : Int))) with hb5 | hb5
  ·
   exact sbT hb5 (Xc rfl (Xc rfl (Xc rfl (Kg5 _ (Ag.put ((Ag.put ((Ag.put (Ag.base rfl) rfl)) rfl)) rfl) (by rw [hb5]; rfl)))))
  exact sbT hb5 (Xj rfl (Xj rfl (Xc rfl (Kg5 _ (Ag.put ((Ag.put ((Ag.put (Ag.base rfl) rfl)) rfl)) rfl) (by rw [hb5]; rfl)))))
 refine dn (cd rfl (fun h6 => ?_) (fun h6 => ?_))
 ·
  refine sk (sq (bl (rg (Xc rfl (Xc rfl (mv' w0_0 rfl (Xc rfl (ix A4 u22 z5 rfl rfl rfl rfl rfl rfl rfl rfl (fun ad7 es7 h0_7 h1_7 he7 ce7 ia7 => ?_)))))))))
  obtain rfl := he7
  exact lc0 ce7 u5 rfl rfl rfl rfl rfl rfl rfl rfl (cv u3 u5 rfl rfl rfl rfl rfl rfl (Xc rfl (Xc rfl (Xc rfl (Xc rfl (dn (ib (rg (Xc rfl (Xc rfl (Xc rfl (dn (lb ih2 ⟨s3, _, rfl, (ue (ue (ue rfl rfl) rfl) rfl), Kx2⟩)))))))))))))
 refine xt rfl (sgb (sr (mv' w0_0 rfl (Xc rfl (bd (cells := [w0_0, (iI 0), (iI x2.1)]) pl80 o80 rfl rfl rfl rfl rfl (lfill_pc (pc_c (oc A4.one) (pc_c rfl pc_n)) rfl) (bx (cs := [w0_0, (iI 0), (iI x2.1)]) 40 rfl rfl rfl rfl rfl rfl (fun b9 s9 p9 B9 => ?_)))))))
 refine Xc rfl (dn ?_)
 have K11 := Kx2.st p9 rfl
 exact re rfl func22 rfl (r_t rfl Xg) rfl ⟨_, rfl, b9, w0_0, rfl, BlF.fo B9 K11 rfl z.l, z.rf K11 A0_0, z.ky K11⟩
def spec_l1Byte.f (a0 : l1Cur) : Option (Int × l1Cur) :=
 ((if (decide (a0.i < (a0.b.length : Int))) = true then (if 0 ≤ a0.i ∧ a0.i < (a0.b.length : Int) then (some ((iand .i64 (IntKind.wrap .i64 ((iand .i64 (ixor .i64 (ishr .i64 (IntKind.wrap .i64 ((IntKind.wrap .i64 (a0.h * (6364136223846793005 : Int))) + (1442695040888963407 : Int))) (33 : Int)) (ishr .i64 (IntKind.wrap .i64 ((IntKind.wrap .i64 (a0.h * (6364136223846793005 : Int))) + (1442695040888963407 : Int))) (45 : Int))) (255 : Int)) + (IntKind.wrap .i64 (at_ a0.b a0.i)))) (255 : Int)), (IntKind.wrap .i64 (a0.i + (1 : Int))))) else none) else (some ((iand .i64 (ixor .i64 (ishr .i64 (IntKind.wrap .i64 ((IntKind.wrap .i64 (a0.h * (6364136223846793005 : Int))) + (1442695040888963407 : Int))) (33 : Int)) (ishr .i64 (IntKind.wrap .i64 ((IntKind.wrap .i64 (a0.h * (6364136223846793005 : Int))) + (1442695040888963407 : Int))) (45 : Int))) (255 : Int)), a0.i))).bind fun y38 => (some (y38.1, (l1Cur.mk a0.b y38.2 (IntKind.wrap .i64 ((IntKind.wrap .i64 (a0.h * (6364136223846793005 : Int))) + (1442695040888963407 : Int)))))))
def spec_l1Byte.Q (w : World) (F : Nat → Prop) (p0 : Nat) (w0_0 : Value) (r : Int × l1Cur) (v : Value) (w' : World) : Prop :=
 v = (iI r.1) ∧ BlW w' p0 80 [w0_0, (iI r.2.i), (iI r.2.h)] ∧ Ky [p0] w w'
theorem spec_l1Byte.calls (a0 : l1Cur) (w : World) (F : Nat → Prop) (p0 : Nat) (w0_0 : Value) (h0_0 : Ya.rd w [w0_0] a0.b F) (hb0 : BlW w p0 80 [w0_0, (iI a0.i), (iI a0.h)]) (hF : ∀ b, F b → b ∉ [p0]) (r : Int × l1Cur) (m : spec_l1Byte.f a0 = some r) :
  Calls prog 60 #[(pB p0)] w (RT (spec_l1Byte.Q w F p0 w0_0) r) := by
 obtain ⟨s0, rfl, kp0, z⟩ := start1 w F [p0] hF
 have A0_0 := z.rd h0_0
 have B0 := z.bl hb0 (by simp)
 refine Xd (args := [(pB p0)]) func60 ntmps60 rfl rfl m ?_
 unfold spec_l1Byte.f
 refine sr (Xc rfl (dn (sr (Xc rfl (Xc rfl (Xc rfl (Xt fa80_2 rfl (ld' B0 u3 rfl (Xc rfl (Xc rfl (Xc rfl (Xt fa80_2 rfl (sv' B0 z3 rfl rfl rfl (fun s3 p3 B3 => ?_))))))))))))))
 refine dn (sq (zdraw [[], [0], [1], [2], [3], [], [5], [6], [7], [8], [4, 9], [10], [11, 0, 1, 2, 3, 4, 5, 6, 7, 8, 9, 10, 11]] [some 13, some 14, some 15, some 16, some 17, some 18, some 19, some 20, some 21, some 22, some 23, some 24, some 3] [[0], [13], [14], [15], [16], [0], [18], [19], [20], [21], [17, 22], [23], [24]] [0, 1, 2, 3, 4, 5, 6, 7, 8, 9, 10, 11, 12] ⟨by kernel_rfl, by kernel_rfl, by kernel_rfl⟩ (by kernel_rfl) (fun s5 p5 l5 tb5 zd5 => ?_)))
 have zd10 := (((zd5.add 0 13 (pB p0) rfl).add 1 14 (pB p0) rfl).add 2 15 (pO p0 2) rfl).add 3 16 (iI (IntKind.wrap .i64 ((IntKind.wrap .i64 (a0.h * (6364136223846793005 : Int))) + (1442695040888963407 : Int)))) rfl
 refine zfin [10, 11, 12] tb5 ((((((zd10.add 4 17 (iI (ishr .i64 (IntKind.wrap .i64 ((IntKind.wrap .i64 (a0.h * (6364136223846793005 : Int))) + (1442695040888963407 : Int))) (33 : Int))) rfl).add 5 18 (pB p0) rfl).add 6 19 (pB p0) rfl).add 7 20 (pO p0 2) rfl).add 8 21 (iI (IntKind.wrap .i64 ((IntKind.wrap .i64 (a0.h * (6364136223846793005 : Int))) + (1442695040888963407 : Int)))) rfl).add 9 22 (iI (ishr .i64 (IntKind.wrap .i64 ((IntKind.wrap .i64 (a0.h * (6364136223846793005 : Int))) + (1442695040888963407 : Int))) (45 : Int))) rfl) (Xb (shrK_q rfl rfl rfl rfl rfl rfl rfl rfl) rfl (Xb (ld_q' (B3.st p5 rfl) u3 rfl) rfl (Xb (Xz fa80_2 rfl) rfl (Xb (Xm rfl) rfl (Xb (Xm rfl) rfl (Xb (shrK_q rfl rfl rfl rfl rfl rfl rfl rfl) rfl (Xb (ld_q' (B3.st p5 rfl) u3 rfl) rfl (Xb (Xz fa80_2 rfl) rfl (Xb (Xm rfl) rfl (Xb (Xm rfl) rfl Xo)))))))))) (by kernel_rfl) (by decide) (Xc rfl (Xc rfl (Xc rfl (dn (sq (sq (zdraw [[], [0], [1], [2], [], [4], [5], [6], [7], [3, 8]] [some 25, some 26, some 27, some 28, some 29, some 30, some 31, some 32, some 33, some 34] [[0], [25], [26], [27], [0], [29], [30], [31], [32], [28, 33]] [0, 1, 2, 3, 4, 5, 6, 7, 8, 9] ⟨by kernel_rfl, by kernel_rfl, by kernel_rfl⟩ (by kernel_rfl) (fun s20 p20 l20 tb20 zd20 => ?_))))))))
 refine zfin [9] tb20 (((((((((zd20.add 0 25 (pB p0) rfl).add 1 26 (pB p0) rfl).add 2 27 (pO p0 1) rfl).add 3 28 (iI a0.i) rfl).add 4 29 (pB p0) rfl).add 5 30 (pB p0) rfl).add 6 31 (pB p0) rfl).add 7 32 w0_0 rfl).add 8 33 (iI (a0.b.length : Int)) rfl) (Xb (ln_q (A0_0.kp (kp0.st (Xw p3 p5 p20) rfl)) u22 rfl rfl rfl rfl rfl rfl) rfl (Xb (ld_q' (B3.st (Xk p5 p20) rfl) u22 rfl) rfl (Xb (Xz fa80_0 rfl) rfl (Xb (Xm rfl) rfl (Xb (Xm rfl) rfl (Xb (ld_q' (B3.st (Xk p5 p20) rfl) u3 rfl) rfl (Xb (Xz fa80_1 rfl) rfl (Xb (Xm rfl) rfl (Xb (Xm rfl) rfl Xo))))))))) (by kernel_rfl) (by decide) (Xc rfl (dn (jc (fun (y38 : Int × Int) e w => ∃ (s : St) (e0 : Env), w = s.w ∧ e = upd e0 3 (iI y38.1) ∧ Kp s0 s ∧ BlF s p0 80 [w0_0, (iI y38.2), (iI (IntKind.wrap .i64 ((IntKind.wrap .i64 (a0.h * (6364136223846793005 : Int))) + (1442695040888963407 : Int))))] 2) (fun Gj38 Kj38 => ?_) ?_)))
 ·
  refine cd rfl (fun h39 => ?_) (fun h39 => ?_)
  ·
   refine sq (zdraw [[], [], [1], [2], [3], [], [5], [6], [7], [4, 8], [9], [10], [0, 11], [12], [13, 0, 1, 2, 3, 4, 5, 6, 7, 8, 9, 10, 11, 12, 13]] [some 35, some 36, some 37, some 38, some 39, some 40, some 41, some 42, some 43, some 44, some 45, some 46, some 47, some 48, some 3] [[3], [0], [36], [37], [38], [0], [40], [41], [42], [39, 43], [44], [45], [35, 46], [47], [48]] [0, 1, 2, 3, 4, 5, 6, 7, 8, 9, 10, 11, 12, 13, 14] ⟨by kernel_rfl, by kernel_rfl, by kernel_rfl⟩ (by kernel_rfl) (fun s40 p40 l40 tb40 zd40 => ?_))
   have zd41 := zd40.add 0 35 (iI (iand .i64 (ixor .i64 (ishr .i64 (IntKind.wrap .i64 ((IntKind.wrap .i64 (a0.h * (6364136223846793005 : Int))) + (1442695040888963407 : Int))) (33 : Int)) (ishr .i64 (IntKind.wrap .i64 ((IntKind.wrap .i64 (a0.h * (6364136223846793005 : Int))) + (1442695040888963407 : Int))) (45 : Int))) (255 : Int))) rfl
   have K52 := kp0.st (tr4 p3 p5 p20 p40) rfl
   have A53 := A0_0.kp K52
   refine mg fun hg54 => ?_
   obtain ⟨ad54, es54, he54, ce54, ia54⟩ := ix_e A53 rfl hg54.1 hg54.2
   obtain rfl := he54
   refine zfin [12, 13, 14] tb40 (((((((((((zd41.add 1 36 (pB p0) rfl).add 2 37 (pB p0) rfl).add 3 38 (pB p0) rfl).add 4 39 w0_0 rfl).add 5 40 (pB p0) rfl).add 6 41 (pB p0) rfl).add 7 42 (pO p0 1) rfl).add 8 43 (iI a0.i) rfl).add 9 44 (.pointer (some ad54)) rfl).add 10 45 (.int .u8 (at_ a0.b a0.i)) rfl).add 11 46 (iI (IntKind.wrap .i64 (at_ a0.b a0.i))) rfl) (Xb (cv_q u3 u5 rfl rfl rfl rfl rfl rfl) rfl (Xb (lc0_q ce54 u5 rfl rfl rfl rfl rfl rfl rfl rfl) rfl (Xb (ix_q A53 u22 z5 hg54.1 hg54.2 ia54 rfl rfl rfl rfl rfl rfl rfl) rfl (Xb (ld_q' (B3.st (Xw p5 p20 p40) rfl) u3 rfl) rfl (Xb (Xz fa80_1 rfl) rfl (Xb (Xm rfl) rfl (Xb (Xm rfl) rfl (Xb (ld_q' (B3.st (Xw p5 p20 p40) rfl) u22 rfl) rfl (Xb (Xz fa80_0 rfl) rfl (Xb (Xm rfl) rfl (Xb (Xm rfl) rfl (Xb (Xm rfl) rfl Xo)))))))))))) (by kernel_rfl) (by decide) (Xc rfl (Xc rfl (Xc rfl (dn (rg (Xc rfl (Xc rfl (Xc rfl (Xt fa80_1 rfl ?_)))))))))
   have A61 := B3.st (Xw p5 p20 p40) rfl
   refine ld' A61 u3 rfl (Xc rfl (Xc rfl (Xt fa80_1 rfl (sv' A61 z3 rfl rfl rfl (fun s62 p62 B62 => ?_)))))
   exact dn (Kj38 _ _ _ ⟨s62, _, rfl, (ue rfl rfl), (K52.st p62 rfl), B62⟩)
  exact sk (Kj38 _ _ _ ⟨s20, _, rfl, (ue rfl rfl), (kp0.st (Xw p3 p5 p20) rfl), (B3.st (Xk p5 p20) rfl)⟩)
 rintro y38 _ _ ⟨s67, _, rfl, rfl, Ky38, By38_p0⟩
 exact sr (Xc rfl (Xc rfl (dn (re rfl func60 rfl (r_t rfl Xg) rfl ⟨_, rfl, rfl, By38_p0.w, z.ky Ky38⟩))))
def spec_l1Below.f (a0 : l1Cur) (a1 : Int) : Option (Int × l1Cur) :=
 (if (decide (a1 ≤ (0 : Int))) = true then (some ((0 : Int), a0)) else (if (decide (a1 ≤ (256 : Int))) = true then ((spec_l1Byte.f a0).bind fun r5 => (if a1 ≠ 0 then (some ((r5.1.tmod a1), (l1Cur.mk a0.b r5.2.i r5.2.h))) else none)) else ((spec_l1Byte.f a0).bind fun r9 => ((spec_l1Byte.f (l1Cur.mk a0.b r9.2.i r9.2.h)).bind fun r14 => ((spec_l1Byte.f (l1Cur.mk a0.b r14.2.i r14.2.h)).bind fun r19 => ((spec_l1Byte.f (l1Cur.mk a0.b r19.2.i r19.2.h)).bind fun r24 => (if a1 ≠ 0 then (some (((IntKind.wrap .i64 ((IntKind.wrap .i64 ((IntKind.wrap .i64 ((IntKind.wrap .i64 (r9.1 * (16777216 : Int))) + (IntKind.wrap .i64 (r14.1 * (65536 : Int))))) + (IntKind.wrap .i64 (r19.1 * (256 : Int))))) + r24.1)).tmod a1), (l1Cur.mk a0.b r24.2.i r24.2.h))) else none)))))))
def spec_l1Below.Q (w : World) (F : Nat → Prop) (p0 : Nat) (w0_0 : Value) (r : Int × l1Cur) (v : Value) (w' : World) : Prop :=
 v = (iI r.1) ∧ BlW w' p0 80 [w0_0, (iI r.2.i), (iI r.2.h)] ∧ Ky [p0] w w'
theorem spec_l1Below.calls (a0 : l1Cur) (a1 : Int) (w : World) (F : Nat → Prop) (p0 : Nat) (w0_0 : Value) (h0_0 : Ya.rd w [w0_0] a0.b F) (hb0 : BlW w p0 80 [w0_0, (iI a0.i), (iI a0.h)]) (hF : ∀ b, F b → b ∉ [p0]) (r : Int × l1Cur) (m : spec_l1Below.f a0 a1 = some r) :
  Calls prog 31 #[(pB p0), (iI a1)] w (RT (spec_l1Below.Q w F p0 w0_0) r) := by
 obtain ⟨s0, rfl, kp0, z⟩ := start1 w F [p0] hF
 have A0_0 := z.rd h0_0
 have B0 := z.bl hb0 (by simp)
 refine Xd (args := [(pB p0), (iI a1)]) func31 ntmps31 rfl rfl m ?_
 unfold spec_l1Below.f
 refine sr (Xc rfl (dn (sq (sr (Xc rfl (Xc rfl (dn (cd rfl (fun h3 => ?_) (fun h3 => ?_)))))))))
 ·
  exact sr (Xc rfl (dn (re rfl func31 rfl (r_t rfl Xg) rfl ⟨_, rfl, rfl, B0.w, z.ky kp0⟩)))
 refine sk (sq (sr (Xc rfl (Xc rfl (dn (cd rfl (fun h4 => ?_) (fun h4 => ?_)))))))
 ·
  refine sr (Xc rfl (clB B0 rfl func60 rfl (spec_l1Byte.calls a0 s0.w (mm [0] s0) p0 w0_0 A0_0 B0.w (B0.apart rfl)) (fun r5 s6 p6 B6 => ?_)))
  refine Xc rfl (rem_ rfl rfl rfl rfl rfl rfl rfl (Xc rfl (dn ?_)))
  exact re rfl func31 rfl (r_t rfl Xg) rfl ⟨_, rfl, rfl, B6.w, z.ky (kp0.st p6 rfl)⟩
 refine sk (sr (Xc rfl (clB B0 rfl func60 rfl (spec_l1Byte.calls a0 s0.w (mm [0] s0) p0 w0_0 A0_0 B0.w (B0.apart rfl)) (fun r9 s10 p10 B10 => ?_))))
 refine Xc rfl (dn (sr (Xc rfl ?_)))
 have K12 := kp0.st p10 rfl
 refine clB B10 rfl func60 rfl (spec_l1Byte.calls (l1Cur.mk a0.b r9.2.i r9.2.h) s10.w (mm [0] s10) p0 w0_0 (A0_0.kp K12) B10.w (B10.apart rfl)) (fun r14 s15 p15 B15 => ?_)
 refine Xc rfl (dn (sr (Xc rfl ?_)))
 have K17 := K12.st p15 rfl
 refine clB B15 rfl func60 rfl (spec_l1Byte.calls (l1Cur.mk a0.b r14.2.i r14.2.h) s15.w (mm [0] s15) p0 w0_0 (A0_0.kp K17) B15.w (B15.apart rfl)) (fun r19 s20 p20 B20 => ?_)
 refine Xc rfl (dn (sr (Xc rfl ?_)))
 have K22 := K17.st p20 rfl
 refine clB B20 rfl func60 rfl (spec_l1Byte.calls (l1Cur.mk a0.b r19.2.i r19.2.h) s20.w (mm [0] s20) p0 w0_0 (A0_0.kp K22) B20.w (B20.apart rfl)) (fun r24 s25 p25 B25 => ?_)
 refine Xc rfl (dn (sr (Xc rfl (Xc rfl (Xc rfl (Xc rfl (Xc rfl (Xc rfl (Xc rfl (Xc rfl (Xc rfl (Xc rfl (Xc rfl (rem_ rfl rfl rfl rfl rfl rfl rfl ?_))))))))))))))
 refine Xc rfl (dn ?_)
 exact re rfl func31 rfl (r_t rfl Xg) rfl ⟨_, rfl, rfl, B25.w, z.ky (K22.st p25 rfl)⟩
def spec_l1some.b0 (a0 : l1Cur) (r3 : Int × l1Cur) (x6 : (List Int) × Int × Int × Int) : Option (((List Int) × Int × Int × Int) ⊕ ((List Int) × l1Cur)) :=
 (if (decide (x6.2.1 < r3.1)) = true then ((spec_l1Byte.f (l1Cur.mk a0.b x6.2.2.1 x6.2.2.2)).bind fun r13 => (if x6.1.length + ([(IntKind.wrap .u8 r13.1)]).length ≤ Lim then (some (Sum.inl ((x6.1 ++ [(IntKind.wrap .u8 r13.1)]), (IntKind.wrap .i64 (x6.2.1 + (1 : Int))), r13.2.i, r13.2.h))) else none)) else ((some (x6.1, (l1Cur.mk a0.b x6.2.2.1 x6.2.2.2))).bind fun o => some (Sum.inr o)))
def spec_l1some.f (a0 : l1Cur) (a1 : Int) : Option ((List Int) × l1Cur) :=
 ((spec_l1Below.f a0 (IntKind.wrap .i64 (a1 + (1 : Int)))).bind fun r3 => (iter (spec_l1some.b0 a0 r3) (([] : (List Int)), (0 : Int), r3.2.i, r3.2.h)))
def spec_l1some.Q (w : World) (F : Nat → Prop) (p0 : Nat) (w0_0 : Value) (r : (List Int) × l1Cur) (v : Value) (w' : World) : Prop :=
 FO Ya w w' [v] r.1 ∧ BlW w' p0 80 [w0_0, (iI r.2.i), (iI r.2.h)] ∧ Ky [p0] w w'
theorem spec_l1some.calls (a0 : l1Cur) (a1 : Int) (w : World) (F : Nat → Prop) (p0 : Nat) (w0_0 : Value) (h0_0 : Ya.rd w [w0_0] a0.b F) (hb0 : BlW w p0 80 [w0_0, (iI a0.i), (iI a0.h)]) (hF : ∀ b, F b → b ∉ [p0]) (r : (List Int) × l1Cur) (m : spec_l1some.f a0 a1 = some r) :
  Calls prog 59 #[(pB p0), (iI a1)] w (RT (spec_l1some.Q w F p0 w0_0) r) := by
 obtain ⟨s0, rfl, kp0, z⟩ := start1 w F [p0] hF
 have A0_0 := z.rd h0_0
 have B0 := z.bl hb0 (by simp)
 refine Xd (args := [(pB p0), (iI a1)]) func59 ntmps59 rfl rfl m ?_
 unfold spec_l1some.f
 refine sr (Xc rfl (dn (sr (Xc rfl (dn (sr (Xc rfl (Xc rfl (Xc rfl (clB B0 rfl func31 rfl (spec_l1Below.calls a0 (IntKind.wrap .i64 (a1 + (1 : Int))) s0.w (mm [0] s0) p0 w0_0 A0_0 B0.w (B0.apart rfl)) (fun r3 s4 p4 B4 => ?_)))))))))))
 refine Xc rfl (dn (sq (sr (Xc rfl (dn (bl ?_))))))
 refine lpI (fun (x6 : (List Int) × Int × Int × Int) e w => ∃ (s : St) (e0 : Env) (vx6_0 : Value), w = s.w ∧ e = upd (upd (upd (upd e0 0 (pB p0)) 5 vx6_0) 6 (iI r3.1)) 7 (iI x6.2.1) ∧ Kp s0 s ∧ OwF Ya s [vx6_0] x6.1 42 ∧ BlF s p0 80 [w0_0, (iI x6.2.2.1), (iI x6.2.2.2)] 2) ⟨s4, _, (.slice none 0 0), rfl, (ue (ue (ue (ue rfl rfl) rfl) rfl) rfl), (kp0.st p4 rfl), (Xu 5 (Kd.int .u8) _ 42), B4⟩ (fun g6 ih6 => ?_)
 rintro x6 _ _ ⟨s8, _, vx6_0, rfl, rfl, Kx6, Ax6_0, Bx6_p0⟩
 unfold spec_l1some.b0
 refine sq (sr (Xc rfl (Xc rfl (Xc rfl (dn (cd rfl (fun h11 => ?_) (fun h11 => ?_)))))))
 ·
  refine sk (sq (bl (rg (mv' vx6_0 rfl (Xc rfl ?_)))))
  refine clB Bx6_p0 rfl func60 rfl (spec_l1Byte.calls (l1Cur.mk a0.b x6.2.2.1 x6.2.2.2) s8.w (mm [0] s8) p0 w0_0 (A0_0.kp Kx6) Bx6_p0.w (Bx6_p0.apart rfl)) (fun r13 s14 p14 B14 => ?_)
  refine cv u5 u3 rfl rfl rfl rfl rfl rfl (ltF' (K := (Kd.int .u8)) (cells := [(.int .u8 (IntKind.wrap .u8 r13.1))]) [(IntKind.wrap .u8 r13.1)] 44 fl_int u22 z5 o5 (fun w => (Xv _ _ _)) rfl rfl (fun v16 s16 p16 A16 => ?_))
  refine apF fl_int sl22 (Ax6_0.st (Xk p14 p16) rfl) A16.rd rfl rfl rfl rfl rfl rfl rfl (fun v19 s19 p19 A19 => ?_)
  refine asg' v19 rfl (dn (ib (rg (Xc rfl (Xc rfl (Xc rfl (dn ?_)))))))
  exact lb ih6 ⟨s19, _, v19, rfl, (ue (ue (ue (ue rfl rfl) rfl) rfl) rfl), (Kx6.st (Xw p14 p16 p19) rfl), A19, (B14.st (Xk p16 p19) rfl)⟩
 exact xt rfl (sgb (sr (mv' vx6_0 rfl (asg' vx6_0 rfl (dn (re rfl func59 rfl (r_t rfl Xg) rfl ⟨_, rfl, Ax6_0.fo Kx6 rfl z.l, Bx6_p0.w, z.ky Kx6⟩))))))
def spec_FloatBits.b1 (y8 : Int × Nat) (x19 : Nat × Int) : Option ((Nat × Int) ⊕ Int) :=
 (if ((fcmp .f64 x19.1 (4607182418800017408 : Nat) == some .lt) && (decide (x19.2 > (-1022 : Int)))) = true then (some (Sum.inl ((far .mul x19.1 (4611686018427387904 : Nat)), (IntKind.wrap .i64 (x19.2 - (1 : Int)))))) else ((if (fcmp .f64 x19.1 (4607182418800017408 : Nat) == some .lt) = true then ((floatToIntVal .f64 (far .mul x19.1 (4841369599423283200 : Nat)) .u64).bind fun r27 => (some (ior .u64 y8.1 r27))) else ((floatToIntVal .f64 (far .mul (far .sub x19.1 (4607182418800017408 : Nat)) (4841369599423283200 : Nat)) .u64).bind fun r31 => (some (ior .u64 (ior .u64 y8.1 (ishl .u64 (IntKind.wrap .u64 (IntKind.wrap .i64 (x19.2 + (1023 : Int)))) (52 : Int))) r31)))).bind fun o => some (Sum.inr o)))
def spec_FloatBits.b0 (y8 : Int × Nat) (x14 : Nat × Int) : Option ((Nat × Int) ⊕ Int) :=
 (if (fcmp .f64 x14.1 (4611686018427387904 : Nat) == some .gt || fcmp .f64 x14.1 (4611686018427387904 : Nat) == some .eq) = true then (some (Sum.inl ((far .quo x14.1 (4611686018427387904 : Nat)), (IntKind.wrap .i64 (x14.2 + (1 : Int)))))) else ((iter (spec_FloatBits.b1 y8) (x14.1, x14.2)).bind fun o => some (Sum.inr o)))
def spec_FloatBits.f (a0 : Nat) : Option (Int) :=
 (if (fcmp .f64 a0 a0 != some .eq) = true then (some (9221120237041090560 : Int)) else ((if (fcmp .f64 a0 (0 : Nat) == some .lt) = true then (some true) else ((if (fcmp .f64 a0 (0 : Nat) == some .eq) = true then (some (fcmp .f64 (far .quo (4607182418800017408 : Nat) a0) (0 : Nat) == some .lt)) else (some false)).bind fun y3 => (some y3))).bind fun y2 => ((if y2 = true then (some ((9223372036854775808 : Int), (fneg a0))) else (some ((0 : Int), a0))).bind fun y8 => (if (fcmp .f64 y8.2 (0 : Nat) == some .eq) = true then (some y8.1) else (if (fcmp .f64 y8.2 (9218868437227405311 : Nat) == some .gt) = true then (some (ior .u64 y8.1 (9218868437227405312 : Int))) else (iter (spec_FloatBits.b0 y8) (y8.2, (0 : Int))))))))
def spec_FloatBits.Q (w : World) (F : Nat → Prop) (r : Int) (v : Value) (w' : World) : Prop :=
 v = (.int .u64 r) ∧ Ky [] w w'
theorem spec_FloatBits.calls (a0 : Nat) (w : World) (F : Nat → Prop) (w0_0 : Value) (h0_0 : Kd.flt.rd w [w0_0] a0 F) (r : Int) (m : spec_FloatBits.f a0 = some r) :
  Calls prog 29 #[w0_0] w (RT (spec_FloatBits.Q w F) r) := by
 obtain ⟨s0, rfl, kp0, z⟩ := Xq w F
 have A0_0 := fl_of h0_0
 refine Xd (args := [w0_0]) func29 ntmps29 rfl rfl m ?_
 unfold spec_FloatBits.f
 refine sr (Xc rfl (dn (sq (sr (mv' w0_0 rfl (mv' w0_0 rfl (fq_ A0_0 A0_0 rfl rfl rfl rfl rfl rfl rfl rfl (dn (cd rfl (fun h1 => ?_) (fun h1 => ?_))))))))))
 ·
  exact sr (Xc rfl (dn (re rfl func29 rfl (r_t rfl Xg) rfl ⟨_, rfl, rfl, z.ky kp0⟩)))
 refine sk (sr (Xc rfl (dn (sr (mv' w0_0 rfl (asg' w0_0 rfl (dn (sq (sr (mv' w0_0 rfl (fq_ A0_0 (Xl rfl) rfl rfl rfl rfl rfl rfl rfl rfl (Xc rfl (ji [] (fun (y2 : Bool) e w => ∃ (s : St) (e0 : Env), w = s.w ∧ e = upd (upd (upd (upd e0 0 w0_0) 3 (.int .u64 (0 : Int))) 4 w0_0) 20 (.bool y2) ∧ Kp s0 s) (fun Gj2 Kj2 => ?_) ?_)))))))))))))
 ·
  rcases bft (fcmp .f64 a0 (0 : Nat) == some .lt) with hb2 | hb2
  ·
   refine sbT hb2 ?_
   rw [if_pos hb2]
   exact Xj rfl (Xj rfl (Xj rfl (Xj rfl (Xj rfl (Xj rfl (Xj rfl (Xc rfl (Kj2 _ _ _ ⟨s0, _, rfl, (ue (ue (ue (ue rfl rfl) rfl) rfl) rfl), kp0⟩))))))))
  refine sbT hb2 ?_
  rw [if_neg (by rw [hb2]; decide)]
  refine mv' w0_0 rfl (fq_ A0_0 (Xl rfl) rfl rfl rfl rfl rfl rfl rfl rfl (Xc rfl (ji [10] (fun (y3 : Bool) e w => ∃ (s : St) (e0 : Env), w = s.w ∧ e = upd (upd (upd (upd (upd e0 0 w0_0) 3 (.int .u64 (0 : Int))) 4 w0_0) 12 (.bool false)) 19 (.bool y3) ∧ Kp s0 s) (fun Gj3 Kj3 => ?_) ?_)))
  ·
   rcases bft (fcmp .f64 a0 (0 : Nat) == some .eq) with hb3 | hb3
   ·
    refine sbT hb3 ?_
    rw [if_pos hb3]
    refine mv' w0_0 rfl (fa_ (Xl rfl) A0_0 (by simp) rfl rfl rfl rfl rfl rfl rfl (fun v4 s4 p4 A4 => ?_))
    refine fq_ A4 (Xl rfl) rfl rfl rfl rfl rfl rfl rfl rfl (Xc rfl ?_)
    exact Kj3 _ _ _ ⟨s4, _, rfl, (ue (ue (ue (ue (ue rfl rfl) rfl) rfl) rfl) rfl), (kp0.st p4 rfl)⟩
   refine sbT hb3 ?_
   rw [if_neg (by rw [hb3]; decide)]
   exact Xj rfl (Xj rfl (Xj rfl (Xc rfl (Kj3 _ _ _ ⟨s0, _, rfl, (ue (ue (ue (ue (ue rfl rfl) rfl) rfl) rfl) rfl), kp0⟩))))
  rintro y3 _ _ ⟨s6, _, rfl, rfl, Ky3⟩
  exact Xc rfl (Kj2 _ _ _ ⟨s6, _, rfl, (ue (ue (ue (ue rfl rfl) rfl) rfl) rfl), Ky3⟩)
 rintro y2 _ _ ⟨s7, _, rfl, rfl, Ky2⟩
 refine dn (jc (fun (y8 : Int × Nat) e w => ∃ (s : St) (e0 : Env) (uy8_0 : Value), w = s.w ∧ e = upd (upd e0 3 (.int .u64 y8.1)) 4 uy8_0 ∧ Kp s0 s ∧ FL uy8_0 y8.2) (fun Gj8 Kj8 => ?_) ?_)
 ·
  refine cd rfl (fun h9 => ?_) (fun h9 => ?_)
  ·
   refine sr (Xc rfl (dn (rg (mv' w0_0 rfl (fng_ A0_0 rfl rfl rfl rfl rfl rfl (fun v10 A10 => ?_))))))
   exact asg' v10 rfl (dn (Kj8 _ _ _ ⟨s7, _, v10, rfl, (ue (ue rfl rfl) rfl), Ky2, A10⟩))
  exact sk (Kj8 _ _ _ ⟨s7, _, w0_0, rfl, (ue (ue rfl rfl) rfl), Ky2, A0_0⟩)
 rintro y8 _ _ ⟨s11, _, uy8_0, rfl, rfl, Ky8, Fy8_0⟩
 refine sq (sr (mv' uy8_0 rfl (fq_ Fy8_0 (Xl rfl) rfl rfl rfl rfl rfl rfl rfl rfl (dn (cd rfl (fun h12 => ?_) (fun h12 => ?_))))))
 ·
  exact sr (Xc rfl (Xc rfl (dn (re rfl func29 rfl (r_t rfl Xg) rfl ⟨_, rfl, rfl, z.ky Ky8⟩))))
 refine sk (sq (sr (mv' uy8_0 rfl (fq_ Fy8_0 (Xl rfl) rfl rfl rfl rfl rfl rfl rfl rfl (dn (cd rfl (fun h13 => ?_) (fun h13 => ?_)))))))
 ·
  exact sr (Xc rfl (Xc rfl (Xc rfl (dn (re rfl func29 rfl (r_t rfl Xg) rfl ⟨_, rfl, rfl, z.ky Ky8⟩)))))
 refine sk (sr (Xc rfl (dn (sq (bl (lpI (fun (x14 : Nat × Int) e w => ∃ (s : St) (e0 : Env) (ux14_0 : Value), w = s.w ∧ e = upd (upd (upd e0 3 (.int .u64 y8.1)) 4 ux14_0) 5 (iI x14.2) ∧ Kp s0 s ∧ FL ux14_0 x14.1) ⟨s11, _, uy8_0, rfl, (ue (ue (ue rfl rfl) rfl) rfl), Ky8, Fy8_0⟩ (fun g14 ih14 => ?_)))))))
 rintro x14 _ _ ⟨s15, _, ux14_0, rfl, rfl, Kx14, Fx14_0⟩
 unfold spec_FloatBits.b0
 refine sq (sr (mv' ux14_0 rfl (fq_ Fx14_0 (Xl rfl) rfl rfl rfl rfl rfl rfl rfl rfl (dn (cd rfl (fun h16 => ?_) (fun h16 => ?_))))))
 ·
  refine sk (bl (sr (mv' ux14_0 rfl (fa_ Fx14_0 (Xl rfl) (by simp) rfl rfl rfl rfl rfl rfl rfl (fun v17 s17 p17 A17 => ?_)))))
  refine asg' v17 rfl (dn (rg (Xc rfl (Xc rfl (Xc rfl (dn (ib ?_)))))))
  exact lb ih14 ⟨s17, _, v17, rfl, (ue (ue (ue rfl rfl) rfl) rfl), (Kx14.st p17 rfl), A17⟩
 refine xt rfl (sgb (sq (bl (lpI (fun (x19 : Nat × Int) e w => ∃ (s : St) (e0 : Env) (ux19_0 : Value), w = s.w ∧ e = upd (upd (upd e0 3 (.int .u64 y8.1)) 4 ux19_0) 5 (iI x19.2) ∧ Kp s0 s ∧ FL ux19_0 x19.1) ⟨s15, _, ux14_0, rfl, (ue (ue (ue rfl rfl) rfl) rfl), Kx14, Fx14_0⟩ (fun g19 ih19 => ?_)))))
 rintro x19 _ _ ⟨s20, _, ux19_0, rfl, rfl, Kx19, Fx19_0⟩
 unfold spec_FloatBits.b1
 refine sq (sr (mv' ux19_0 rfl (fq_ Fx19_0 (Xl rfl) rfl rfl rfl rfl rfl rfl rfl rfl (Xc rfl (jy [38, 39, 40, 41] [] 41 (.bool ((fcmp .f64 x19.1 (4607182418800017408 : Nat) == some .lt) && (decide (x19.2 > (-1022 : Int))))) rfl (fun Kg21 => ?_) (fun j21 => ?_))))))
 ·
  rcases bft (fcmp .f64 x19.1 (4607182418800017408 : Nat) == some .lt) with hb21 | hb21
  ·
   exact sbT hb21 (Xc rfl (Xc rfl (Xc rfl (Kg21 _ (Ag.put ((Ag.put ((Ag.put (Ag.base rfl) rfl)) rfl)) rfl) (by rw [hb21]; rfl)))))
  exact sbT hb21 (Xj rfl (Xj rfl (Xc rfl (Kg21 _ (Ag.put ((Ag.put ((Ag.put (Ag.base rfl) rfl)) rfl)) rfl) (by rw [hb21]; rfl)))))
 refine dn (cd rfl (fun h22 => ?_) (fun h22 => ?_))
 ·
  refine sk (bl (sr (mv' ux19_0 rfl (fa_ Fx19_0 (Xl rfl) (by simp) rfl rfl rfl rfl rfl rfl rfl (fun v23 s23 p23 A23 => ?_)))))
  refine asg' v23 rfl (dn (rg (Xc rfl (Xc rfl (Xc rfl (dn (ib ?_)))))))
  exact lb ih19 ⟨s23, _, v23, rfl, (ue (ue (ue rfl rfl) rfl) rfl), (Kx19.st p23 rfl), A23⟩
 refine xt rfl (sgb (sq (sr (mv' ux19_0 rfl (fq_ Fx19_0 (Xl rfl) rfl rfl rfl rfl rfl rfl rfl rfl (dn (cd rfl (fun h25 => ?_) (fun h25 => ?_))))))))
 ·
  refine sr (Xc rfl (mv' ux19_0 rfl (fa_ Fx19_0 (Xl rfl) (by simp) rfl rfl rfl rfl rfl rfl rfl (fun v26 s26 p26 A26 => ?_))))
  refine f2i A26 u53 u24 rfl rfl rfl rfl rfl rfl (fun r27 m27 => ?_)
  refine Xc rfl (Xc rfl (dn ?_))
  exact re rfl func29 rfl (r_t rfl Xg) rfl ⟨_, rfl, rfl, z.ky (Kx19.st p26 rfl)⟩
 refine sk (sr (Xc rfl (Xc rfl (Xc rfl (cv u53 u3 rfl rfl rfl rfl rfl rfl (shlK rfl rfl rfl rfl rfl rfl rfl rfl (Xc rfl (mv' ux19_0 rfl (fa_ Fx19_0 (Xl rfl) (by simp) rfl rfl rfl rfl rfl rfl rfl (fun v29 s29 p29 A29 => ?_))))))))))
 refine fa_ A29 (Xl rfl) (by simp) rfl rfl rfl rfl rfl rfl rfl (fun v30 s30 p30 A30 => ?_)
 refine f2i A30 u53 u24 rfl rfl rfl rfl rfl rfl (fun r31 m31 => ?_)
 refine Xc rfl (Xc rfl (dn ?_))
 exact re rfl func29 rfl (r_t rfl Xg) rfl ⟨_, rfl, rfl, z.ky (Kx19.st (Xk p29 p30) rfl)⟩
def spec_l2bits.b0 (a0 : l1Cur) (x3 : Int × Int × Int × Int) : Option ((Int × Int × Int × Int) ⊕ (Int × l1Cur)) :=
 (if (decide (x3.2.1 < (8 : Int))) = true then ((spec_l1Byte.f (l1Cur.mk a0.b x3.2.2.1 x3.2.2.2)).bind fun r8 => (some (Sum.inl ((IntKind.wrap .u64 ((IntKind.wrap .u64 (x3.1 * (256 : Int))) + (IntKind.wrap .u64 r8.1))), (IntKind.wrap .i64 (x3.2.1 + (1 : Int))), r8.2.i, r8.2.h)))) else (((spec_l1Below.f (l1Cur.mk a0.b x3.2.2.1 x3.2.2.2) (9 : Int)).bind fun r13 => (if (r13.1 == (0 : Int)) = true then ((spec_l1Below.f (l1Cur.mk a0.b r13.2.i r13.2.h) (2 : Int)).bind fun r19 => ((spec_l1Below.f (l1Cur.mk a0.b r19.2.i r19.2.h) (3 : Int)).bind fun r24 => (some ((ior .u64 (ishl .u64 (IntKind.wrap .u64 r19.1) (63 : Int)) (IntKind.wrap .u64 r24.1)), (l1Cur.mk a0.b r24.2.i r24.2.h))))) else (if (r13.1 == (1 : Int)) = true then ((spec_l1Below.f (l1Cur.mk a0.b r13.2.i r13.2.h) (2 : Int)).bind fun r31 => ((spec_l1Below.f (l1Cur.mk a0.b r31.2.i r31.2.h) (3 : Int)).bind fun r36 => (some ((ior .u64 (ishl .u64 (IntKind.wrap .u64 r31.1) (63 : Int)) (IntKind.wrap .u64 ((9218868437227405311 : Int) + (IntKind.wrap .u64 r36.1)))), (l1Cur.mk a0.b r36.2.i r36.2.h))))) else (if (r13.1 == (2 : Int)) = true then ((spec_l1Below.f (l1Cur.mk a0.b r13.2.i r13.2.h) (2 : Int)).bind fun r43 => (some ((ior .u64 (ior .u64 (ishl .u64 (IntKind.wrap .u64 r43.1) (63 : Int)) (9218868437227405312 : Int)) (ishr .u64 x3.1 (12 : Int))), (l1Cur.mk a0.b r43.2.i r43.2.h)))) else (if (r13.1 == (3 : Int)) = true then ((spec_l1Below.f (l1Cur.mk a0.b r13.2.i r13.2.h) (2 : Int)).bind fun r50 => ((spec_l1Below.f (l1Cur.mk a0.b r50.2.i r50.2.h) (3 : Int)).bind fun r55 => (some ((ior .u64 (ishl .u64 (IntKind.wrap .u64 r50.1) (63 : Int)) (IntKind.wrap .u64 ((4503599627370495 : Int) + (IntKind.wrap .u64 r55.1)))), (l1Cur.mk a0.b r55.2.i r55.2.h))))) else (if (r13.1 == (4 : Int)) = true then ((spec_l1Below.f (l1Cur.mk a0.b r13.2.i r13.2.h) (12 : Int)).bind fun r62 => ((spec_l1Below.f (l1Cur.mk a0.b r62.2.i r62.2.h) (16 : Int)).bind fun r67 => (some ((ior .u64 (ishl .u64 (IntKind.wrap .u64 (IntKind.wrap .i64 ((1023 : Int) + r62.1))) (52 : Int)) (ishl .u64 (IntKind.wrap .u64 r67.1) (48 : Int))), (l1Cur.mk a0.b r67.2.i r67.2.h))))) else (if (r13.1 == (5 : Int)) = true then ((spec_l1Below.f (l1Cur.mk a0.b r13.2.i r13.2.h) (21 : Int)).bind fun r74 => ((spec_FloatBits.f (FloatKind.f64.nearest (IntKind.wrap .i64 (r74.1 - (10 : Int))))).bind fun r78 => (some (r78, (l1Cur.mk a0.b r74.2.i r74.2.h))))) else (some (x3.1, (l1Cur.mk a0.b r13.2.i r13.2.h)))))))))).bind fun o => some (Sum.inr o)))
def spec_l2bits.f (a0 : l1Cur) : Option (Int × l1Cur) :=
 (iter (spec_l2bits.b0 a0) ((0 : Int), (0 : Int), a0.i, a0.h))
def spec_l2bits.Q (w : World) (F : Nat → Prop) (p0 : Nat) (w0_0 : Value) (r : Int × l1Cur) (v : Value) (w' : World) : Prop :=
 v = (.int .u64 r.1) ∧ BlW w' p0 80 [w0_0, (iI r.2.i), (iI r.2.h)] ∧ Ky [p0] w w'
theorem spec_l2bits.calls (a0 : l1Cur) (w : World) (F : Nat → Prop) (p0 : Nat) (w0_0 : Value) (h0_0 : Ya.rd w [w0_0] a0.b F) (hb0 : BlW w p0 80 [w0_0, (iI a0.i), (iI a0.h)]) (hF : ∀ b, F b → b ∉ [p0]) (r : Int × l1Cur) (m : spec_l2bits.f a0 = some r) :
  Calls prog 85 #[(pB p0)] w (RT (spec_l2bits.Q w F p0 w0_0) r) := by
 obtain ⟨s0, rfl, kp0, z⟩ := start1 w F [p0] hF
 have A0_0 := z.rd h0_0
 refine Xd (args := [(pB p0)]) func85 ntmps85 rfl rfl m ?_
 unfold spec_l2bits.f
 refine sr (Xc rfl (dn (sr (Xc rfl (dn (sq (sr (Xc rfl (dn (bl (lpI (fun (x3 : Int × Int × Int × Int) e w => ∃ (s : St) (e0 : Env), w = s.w ∧ e = upd (upd (upd e0 0 (pB p0)) 3 (.int .u64 x3.1)) 4 (iI x3.2.1) ∧ Kp s0 s ∧ BlF s p0 80 [w0_0, (iI x3.2.2.1), (iI x3.2.2.2)] 2) ⟨s0, _, rfl, (ue (ue (ue rfl rfl) rfl) rfl), kp0, (z.bl hb0 (by simp))⟩ (fun g3 ih3 => ?_))))))))))))
 rintro x3 _ _ ⟨s4, _, rfl, rfl, Kx3, Bx3_p0⟩
 unfold spec_l2bits.b0
 refine sq (sr (Xc rfl (Xc rfl (dn (cd rfl (fun h6 => ?_) (fun h6 => ?_))))))
 ·
  refine sk (sq (bl (rg (Xc rfl (Xc rfl (Xc rfl ?_))))))
  refine clB Bx3_p0 rfl func60 rfl (spec_l1Byte.calls (l1Cur.mk a0.b x3.2.2.1 x3.2.2.2) s4.w (mm [0] s4) p0 w0_0 (A0_0.kp Kx3) Bx3_p0.w (Bx3_p0.apart rfl)) (fun r8 s9 p9 B9 => ?_)
  refine cv u53 u3 rfl rfl rfl rfl rfl rfl (Xc rfl (Xc rfl (dn (ib (rg (Xc rfl (Xc rfl (Xc rfl (dn ?_)))))))))
  exact lb ih3 ⟨s9, _, rfl, (ue (ue (ue rfl rfl) rfl) rfl), (Kx3.st p9 rfl), B9⟩
 refine xt rfl (sgb (sq (sr (Xc rfl ?_))))
 refine clB Bx3_p0 rfl func31 rfl (spec_l1Below.calls (l1Cur.mk a0.b x3.2.2.1 x3.2.2.2) (9 : Int) s4.w (mm [0] s4) p0 w0_0 (A0_0.kp Kx3) Bx3_p0.w (Bx3_p0.apart rfl)) (fun r13 s14 p14 B14 => ?_)
 refine dn (bl (sr (Xc rfl (Xc rfl (dn (cd rfl (fun h16 => ?_) (fun h16 => ?_)))))))
 ·
  refine sr (Xc rfl ?_)
  have K17 := Kx3.st p14 rfl
  refine clB B14 rfl func31 rfl (spec_l1Below.calls (l1Cur.mk a0.b r13.2.i r13.2.h) (2 : Int) s14.w (mm [0] s14) p0 w0_0 (A0_0.kp K17) B14.w (B14.apart rfl)) (fun r19 s20 p20 B20 => ?_)
  refine cv u53 u3 rfl rfl rfl rfl rfl rfl (shlK rfl rfl rfl rfl rfl rfl rfl rfl (Xc rfl ?_))
  have K22 := K17.st p20 rfl
  refine clB B20 rfl func31 rfl (spec_l1Below.calls (l1Cur.mk a0.b r19.2.i r19.2.h) (3 : Int) s20.w (mm [0] s20) p0 w0_0 (A0_0.kp K22) B20.w (B20.apart rfl)) (fun r24 s25 p25 B25 => ?_)
  refine cv u53 u3 rfl rfl rfl rfl rfl rfl (Xc rfl (Xc rfl (dn ?_)))
  exact re rfl func85 rfl (r_t rfl Xg) rfl ⟨_, rfl, rfl, B25.w, z.ky (K22.st p25 rfl)⟩
 refine sr (Xc rfl (Xc rfl (dn (cd rfl (fun h28 => ?_) (fun h28 => ?_)))))
 ·
  refine sr (Xc rfl ?_)
  have K29 := Kx3.st p14 rfl
  refine clB B14 rfl func31 rfl (spec_l1Below.calls (l1Cur.mk a0.b r13.2.i r13.2.h) (2 : Int) s14.w (mm [0] s14) p0 w0_0 (A0_0.kp K29) B14.w (B14.apart rfl)) (fun r31 s32 p32 B32 => ?_)
  refine cv u53 u3 rfl rfl rfl rfl rfl rfl (shlK rfl rfl rfl rfl rfl rfl rfl rfl (Xc rfl ?_))
  have K34 := K29.st p32 rfl
  refine clB B32 rfl func31 rfl (spec_l1Below.calls (l1Cur.mk a0.b r31.2.i r31.2.h) (3 : Int) s32.w (mm [0] s32) p0 w0_0 (A0_0.kp K34) B32.w (B32.apart rfl)) (fun r36 s37 p37 B37 => ?_)
  refine cv u53 u3 rfl rfl rfl rfl rfl rfl (Xc rfl (Xc rfl (Xc rfl (dn ?_))))
  exact re rfl func85 rfl (r_t rfl Xg) rfl ⟨_, rfl, rfl, B37.w, z.ky (K34.st p37 rfl)⟩
 refine sr (Xc rfl (Xc rfl (dn (cd rfl (fun h40 => ?_) (fun h40 => ?_)))))
 ·
  refine sr (Xc rfl ?_)
  have K41 := Kx3.st p14 rfl
  refine clB B14 rfl func31 rfl (spec_l1Below.calls (l1Cur.mk a0.b r13.2.i r13.2.h) (2 : Int) s14.w (mm [0] s14) p0 w0_0 (A0_0.kp K41) B14.w (B14.apart rfl)) (fun r43 s44 p44 B44 => ?_)
  refine cv u53 u3 rfl rfl rfl rfl rfl rfl (shlK rfl rfl rfl rfl rfl rfl rfl rfl (Xc rfl (Xc rfl (shrK rfl rfl rfl rfl rfl rfl rfl rfl (Xc rfl (Xc rfl (dn ?_)))))))
  exact re rfl func85 rfl (r_t rfl Xg) rfl ⟨_, rfl, rfl, B44.w, z.ky (K41.st p44 rfl)⟩
 refine sr (Xc rfl (Xc rfl (dn (cd rfl (fun h47 => ?_) (fun h47 => ?_)))))
 ·
  refine sr (Xc rfl ?_)
  have K48 := Kx3.st p14 rfl
  refine clB B14 rfl func31 rfl (spec_l1Below.calls (l1Cur.mk a0.b r13.2.i r13.2.h) (2 : Int) s14.w (mm [0] s14) p0 w0_0 (A0_0.kp K48) B14.w (B14.apart rfl)) (fun r50 s51 p51 B51 => ?_)
  refine cv u53 u3 rfl rfl rfl rfl rfl rfl (shlK rfl rfl rfl rfl rfl rfl rfl rfl (Xc rfl ?_))
  have K53 := K48.st p51 rfl
  refine clB B51 rfl func31 rfl (spec_l1Below.calls (l1Cur.mk a0.b r50.2.i r50.2.h) (3 : Int) s51.w (mm [0] s51) p0 w0_0 (A0_0.kp K53) B51.w (B51.apart rfl)) (fun r55 s56 p56 B56 => ?_)
  refine cv u53 u3 rfl rfl rfl rfl rfl rfl (Xc rfl (Xc rfl (Xc rfl (dn ?_))))
  exact re rfl func85 rfl (r_t rfl Xg) rfl ⟨_, rfl, rfl, B56.w, z.ky (K53.st p56 rfl)⟩
 refine sr (Xc rfl (Xc rfl (dn (cd rfl (fun h59 => ?_) (fun h59 => ?_)))))
 ·
  refine sr (Xc rfl ?_)
  have K60 := Kx3.st p14 rfl
  refine clB B14 rfl func31 rfl (spec_l1Below.calls (l1Cur.mk a0.b r13.2.i r13.2.h) (12 : Int) s14.w (mm [0] s14) p0 w0_0 (A0_0.kp K60) B14.w (B14.apart rfl)) (fun r62 s63 p63 B63 => ?_)
  refine Xc rfl (cv u53 u3 rfl rfl rfl rfl rfl rfl (shlK rfl rfl rfl rfl rfl rfl rfl rfl (Xc rfl ?_)))
  have K65 := K60.st p63 rfl
  refine clB B63 rfl func31 rfl (spec_l1Below.calls (l1Cur.mk a0.b r62.2.i r62.2.h) (16 : Int) s63.w (mm [0] s63) p0 w0_0 (A0_0.kp K65) B63.w (B63.apart rfl)) (fun r67 s68 p68 B68 => ?_)
  refine cv u53 u3 rfl rfl rfl rfl rfl rfl (shlK rfl rfl rfl rfl rfl rfl rfl rfl (Xc rfl (Xc rfl (dn ?_))))
  exact re rfl func85 rfl (r_t rfl Xg) rfl ⟨_, rfl, rfl, B68.w, z.ky (K65.st p68 rfl)⟩
 refine sr (Xc rfl (Xc rfl (dn (cd rfl (fun h71 => ?_) (fun h71 => ?_)))))
 ·
  refine sr (Xc rfl ?_)
  have K72 := Kx3.st p14 rfl
  refine clB B14 rfl func31 rfl (spec_l1Below.calls (l1Cur.mk a0.b r13.2.i r13.2.h) (21 : Int) s14.w (mm [0] s14) p0 w0_0 (A0_0.kp K72) B14.w (B14.apart rfl)) (fun r74 s75 p75 B75 => ?_)
  refine Xc rfl (i2f u24 u3 rfl rfl rfl rfl rfl rfl (fun v77 A77 => ?_))
  refine clV 52 rfl func29 rfl (spec_FloatBits.calls (FloatKind.f64.nearest (IntKind.wrap .i64 (r74.1 - (10 : Int)))) s75.w (mm [] s75) v77 (Xh (s := s75) A77)) (fun r78 s79 p79 n79 => ?_)
  refine Xc rfl (dn ?_)
  exact re rfl func85 rfl (r_t rfl Xg) rfl ⟨_, rfl, rfl, (BlF.w (B75.st p79 rfl)), z.ky (K72.st (Xk p75 p79) rfl)⟩
 refine sk (ib (sr (Xc rfl (Xc rfl (dn ?_)))))
 exact re rfl func85 rfl (r_t rfl Xg) rfl ⟨_, rfl, rfl, B14.w, z.ky (Kx3.st p14 rfl)⟩
def spec_FloatOf.b1  (x21 : Nat × Int) : Option ((Nat × Int) ⊕ (Nat ⊕ Nat)) :=
 (if (decide (x21.2 < (0 : Int))) = true then (some (Sum.inl ((far .quo x21.1 (4611686018427387904 : Nat)), (IntKind.wrap .i64 (x21.2 + (1 : Int)))))) else ((some (Sum.inl x21.1)).bind fun o => some (Sum.inr o)))
def spec_FloatOf.b0  (x16 : Nat × Int) : Option ((Nat × Int) ⊕ (Nat ⊕ Nat)) :=
 (if (decide (x16.2 > (0 : Int))) = true then (some (Sum.inl ((far .mul x16.1 (4611686018427387904 : Nat)), (IntKind.wrap .i64 (x16.2 - (1 : Int)))))) else ((iter spec_FloatOf.b1 (x16.1, x16.2)).bind fun o => some (Sum.inr o)))
def spec_FloatOf.f (a0 : Int) : Option (Nat) :=
 ((if ((IntKind.wrap .i64 (iand .u64 (ishr .u64 a0 (52 : Int)) (2047 : Int))) == (2047 : Int)) = true then (if ((iand .u64 a0 (4503599627370495 : Int)) != (0 : Int)) = true then (some (Sum.inr (far .quo (0 : Nat) (0 : Nat)))) else (some (Sum.inl (far .quo (4607182418800017408 : Nat) (0 : Nat))))) else ((if ((IntKind.wrap .i64 (iand .u64 (ishr .u64 a0 (52 : Int)) (2047 : Int))) == (0 : Int)) = true then (some ((far .quo (FloatKind.f64.nearest (iand .u64 a0 (4503599627370495 : Int))) (4841369599423283200 : Nat)), (-1022 : Int))) else (some ((far .add (far .quo (FloatKind.f64.nearest (iand .u64 a0 (4503599627370495 : Int))) (4841369599423283200 : Nat)) (4607182418800017408 : Nat)), (IntKind.wrap .i64 ((IntKind.wrap .i64 (iand .u64 (ishr .u64 a0 (52 : Int)) (2047 : Int))) - (1023 : Int)))))).bind fun y10 => (iter spec_FloatOf.b0 (y10.1, y10.2)))).bind (sel fun y3 => (if ((ishr .u64 a0 (63 : Int)) == (1 : Int)) = true then (some (fneg y3)) else (some y3))))
def spec_FloatOf.Q (w : World) (F : Nat → Prop) (r : Nat) (v : Value) (w' : World) : Prop :=
 FL v r ∧ Ky [] w w'
theorem spec_FloatOf.calls (a0 : Int) (w : World) (F : Nat → Prop)   (r : Nat) (m : spec_FloatOf.f a0 = some r) :
  Calls prog 79 #[(.int .u64 a0)] w (RT (spec_FloatOf.Q w F) r) := by
 obtain ⟨s0, rfl, kp0, z⟩ := Xq w F
 refine Xd (args := [(.int .u64 a0)]) func79 ntmps79 rfl rfl m ?_
 unfold spec_FloatOf.f
 refine sr (asg' (.float .f64 0) rfl (dn (sr (Xc rfl (shrK rfl rfl rfl rfl rfl rfl rfl rfl (Xc rfl (cv u3 u53 rfl rfl rfl rfl rfl rfl (Xc rfl (dn (sr (Xc rfl (Xc rfl (Xc rfl (dn ?_))))))))))))))
 refine sr (asg' (.float .f64 0) rfl (dn (sr (Xc rfl (i2f u24 u53 rfl rfl rfl rfl rfl rfl (fun v1 A1 => ?_))))))
 refine fa_ A1 (Xl rfl) (by simp) rfl rfl rfl rfl rfl rfl rfl (fun v2 s2 p2 A2 => ?_)
 refine asg' v2 rfl (dn (sq (sr (Xc rfl (Xc rfl (dn (jr (fun (y3 : Nat) e w => ∃ (s : St) (e0 : Env) (uy3_0 : Value), w = s.w ∧ e = upd (upd e0 0 (.int .u64 a0)) 6 uy3_0 ∧ Kp s0 s ∧ FL uy3_0 y3) (fun Gj3 Kj3 hG3 => ?_) ?_)))))))
 ·
  refine cd rfl (fun h4 => ?_) (fun h4 => ?_)
  ·
   refine sq (sr (Xc rfl (Xc rfl (dn (cd rfl (fun h5 => ?_) (fun h5 => ?_))))))
   ·
    refine sr (mv' (.float .f64 0) rfl (mv' (.float .f64 0) rfl (fa_ (Xl rfl) (Xl rfl) (by simp) rfl rfl rfl rfl rfl rfl rfl (fun v6 s6 p6 A6 => ?_))))
    refine asg' v6 rfl (dn (jri hG3 ?_))
    exact re rfl func79 rfl (r_t rfl Xg) rfl ⟨_, rfl, A6, z.ky (kp0.st (Xk p2 p6) rfl)⟩
   refine sk (rg (mv' (.float .f64 0) rfl (fa_ (Xl rfl) (Xl rfl) (by simp) rfl rfl rfl rfl rfl rfl rfl (fun v8 s8 p8 A8 => ?_))))
   refine asg' v8 rfl (dn ?_)
   exact Kj3 _ _ _ ⟨s8, _, v8, rfl, (ue (ue rfl rfl) rfl), (kp0.st (Xk p2 p8) rfl), A8⟩
  refine sr (Xc rfl (Xc rfl (Xc rfl (dn (sq (sr (Xc rfl (Xc rfl (dn (jc (fun (y10 : Nat × Int) e w => ∃ (s : St) (e0 : Env) (uy10_0 : Value), w = s.w ∧ e = upd (upd (upd e0 0 (.int .u64 a0)) 6 uy10_0) 7 (iI y10.2) ∧ Kp s0 s ∧ FL uy10_0 y10.1) (fun Gj10 Kj10 => ?_) ?_))))))))))
  ·
   refine cd rfl (fun h11 => ?_) (fun h11 => ?_)
   ·
    refine rg (Xc rfl (dn ?_))
    exact Kj10 _ _ _ ⟨s2, _, v2, rfl, (ue (ue (ue rfl rfl) rfl) rfl), (kp0.st p2 rfl), A2⟩
   refine rg (mv' v2 rfl (fa_ A2 (Xl rfl) (by simp) rfl rfl rfl rfl rfl rfl rfl (fun v13 s13 p13 A13 => ?_)))
   refine asg' v13 rfl (dn ?_)
   exact Kj10 _ _ _ ⟨s13, _, v13, rfl, (ue (ue (ue rfl rfl) rfl) rfl), (kp0.st (Xk p2 p13) rfl), A13⟩
  rintro y10 _ _ ⟨s15, _, uy10_0, rfl, rfl, Ky10, Fy10_0⟩
  refine sq (bl (lpI (fun (x16 : Nat × Int) e w => ∃ (s : St) (e0 : Env) (ux16_0 : Value), w = s.w ∧ e = upd (upd (upd e0 0 (.int .u64 a0)) 6 ux16_0) 7 (iI x16.2) ∧ Kp s0 s ∧ FL ux16_0 x16.1) ⟨s15, _, uy10_0, rfl, (ue (ue (ue rfl rfl) rfl) rfl), Ky10, Fy10_0⟩ (fun g16 ih16 => ?_)))
  rintro x16 _ _ ⟨s17, _, ux16_0, rfl, rfl, Kx16, Fx16_0⟩
  unfold spec_FloatOf.b0
  refine sq (sr (Xc rfl (Xc rfl (dn (cd rfl (fun h18 => ?_) (fun h18 => ?_))))))
  ·
   refine sk (sq (bl (rg (mv' ux16_0 rfl (fa_ Fx16_0 (Xl rfl) (by simp) rfl rfl rfl rfl rfl rfl rfl (fun v19 s19 p19 A19 => ?_))))))
   refine asg' v19 rfl (dn (ib (rg (Xc rfl (Xc rfl (Xc rfl (dn ?_)))))))
   exact lb ih16 ⟨s19, _, v19, rfl, (ue (ue (ue rfl rfl) rfl) rfl), (Kx16.st p19 rfl), A19⟩
  refine xt rfl (sgb (bl (lpI (fun (x21 : Nat × Int) e w => ∃ (s : St) (e0 : Env) (ux21_0 : Value), w = s.w ∧ e = upd (upd (upd e0 0 (.int .u64 a0)) 6 ux21_0) 7 (iI x21.2) ∧ Kp s0 s ∧ FL ux21_0 x21.1) ⟨s17, _, ux16_0, rfl, (ue (ue (ue rfl rfl) rfl) rfl), Kx16, Fx16_0⟩ (fun g21 ih21 => ?_))))
  rintro x21 _ _ ⟨s22, _, ux21_0, rfl, rfl, Kx21, Fx21_0⟩
  unfold spec_FloatOf.b1
  refine sq (sr (Xc rfl (Xc rfl (dn (cd rfl (fun h23 => ?_) (fun h23 => ?_))))))
  ·
   refine sk (sq (bl (rg (mv' ux21_0 rfl (fa_ Fx21_0 (Xl rfl) (by simp) rfl rfl rfl rfl rfl rfl rfl (fun v24 s24 p24 A24 => ?_))))))
   refine asg' v24 rfl (dn (ib (rg (Xc rfl (Xc rfl (Xc rfl (dn ?_)))))))
   exact lb ih21 ⟨s24, _, v24, rfl, (ue (ue (ue rfl rfl) rfl) rfl), (Kx21.st p24 rfl), A24⟩
  exact xt rfl (sgb (Kj3 _ _ _ ⟨s22, _, ux21_0, rfl, (ue (ue rfl rfl) rfl), Kx21, Fx21_0⟩))
 rintro y3 _ _ ⟨s26, _, uy3_0, rfl, rfl, Ky3, Fy3_0⟩
 refine sq (sr (Xc rfl (shrK rfl rfl rfl rfl rfl rfl rfl rfl (Xc rfl (dn (cd rfl (fun h27 => ?_) (fun h27 => ?_)))))))
 ·
  refine sr (mv' uy3_0 rfl (fng_ Fy3_0 rfl rfl rfl rfl rfl rfl (fun v28 A28 => ?_)))
  exact asg' v28 rfl (dn (re rfl func79 rfl (r_t rfl Xg) rfl ⟨_, rfl, A28, z.ky Ky3⟩))
 exact sk (sr (mv' uy3_0 rfl (asg' uy3_0 rfl (dn (re rfl func79 rfl (r_t rfl Xg) rfl ⟨_, rfl, Fy3_0, z.ky Ky3⟩)))))
def spec_l2float.f (a0 : l1Cur) : Option (Nat × l1Cur) :=
 ((spec_l2bits.f a0).bind fun r3 => ((spec_FloatOf.f r3.1).bind fun r6 => (some (r6, (l1Cur.mk a0.b r3.2.i r3.2.h)))))
def spec_l2float.Q (w : World) (F : Nat → Prop) (p0 : Nat) (w0_0 : Value) (r : Nat × l1Cur) (v : Value) (w' : World) : Prop :=
 FL v r.1 ∧ BlW w' p0 80 [w0_0, (iI r.2.i), (iI r.2.h)] ∧ Ky [p0] w w'
theorem spec_l2float.calls (a0 : l1Cur) (w : World) (F : Nat → Prop) (p0 : Nat) (w0_0 : Value) (h0_0 : Ya.rd w [w0_0] a0.b F) (hb0 : BlW w p0 80 [w0_0, (iI a0.i), (iI a0.h)]) (hF : ∀ b, F b → b ∉ [p0]) (r : Nat × l1Cur) (m : spec_l2float.f a0 = some r) :
  Calls prog 58 #[(pB p0)] w (RT (spec_l2float.Q w F p0 w0_0) r) := by
 obtain ⟨s0, rfl, kp0, z⟩ := start1 w F [p0] hF
 have B0 := z.bl hb0 (by simp)
 refine Xd (args := [(pB p0)]) func58 ntmps58 rfl rfl m ?_
 unfold spec_l2float.f
 refine sr (asg' (.float .f64 0) rfl (dn (sr (Xc rfl (clB B0 rfl func85 rfl (spec_l2bits.calls a0 s0.w (mm [0] s0) p0 w0_0 (z.rd h0_0) B0.w (B0.apart rfl)) (fun r3 s4 p4 B4 => ?_))))))
 refine cl' rfl func79 rfl (spec_FloatOf.calls r3.1 s4.w (mm [] s4)) ?_
 rintro r6 v6_0 w6 m6 ⟨f6_0, ky6⟩
 obtain ⟨s7, rfl, p7, n7⟩ := nwx s4 w6 41 ky6
 refine asg' v6_0 rfl (dn ?_)
 exact re rfl func58 rfl (r_t rfl Xg) rfl ⟨_, rfl, f6_0, (BlF.w (B4.st p7 rfl)), z.ky (kp0.st (Xk p4 p7) rfl)⟩
def spec_l1Once.f (a0 : l1Cur) (a1 : Int) : Option (Bool × l1Cur) :=
 ((spec_l1Below.f a0 a1).bind fun r3 => (some ((r3.1 == (0 : Int)), (l1Cur.mk a0.b r3.2.i r3.2.h))))
def spec_l1Once.Q (w : World) (F : Nat → Prop) (p0 : Nat) (w0_0 : Value) (r : Bool × l1Cur) (v : Value) (w' : World) : Prop :=
 v = (.bool r.1) ∧ BlW w' p0 80 [w0_0, (iI r.2.i), (iI r.2.h)] ∧ Ky [p0] w w'
theorem spec_l1Once.calls (a0 : l1Cur) (a1 : Int) (w : World) (F : Nat → Prop) (p0 : Nat) (w0_0 : Value) (h0_0 : Ya.rd w [w0_0] a0.b F) (hb0 : BlW w p0 80 [w0_0, (iI a0.i), (iI a0.h)]) (hF : ∀ b, F b → b ∉ [p0]) (r : Bool × l1Cur) (m : spec_l1Once.f a0 a1 = some r) :
  Calls prog 24 #[(pB p0), (iI a1)] w (RT (spec_l1Once.Q w F p0 w0_0) r) := by
 obtain ⟨s0, rfl, kp0, z⟩ := start1 w F [p0] hF
 have B0 := z.bl hb0 (by simp)
 refine Xd (args := [(pB p0), (iI a1)]) func24 ntmps24 rfl rfl m ?_
 unfold spec_l1Once.f
 refine sr (Xc rfl (dn (sr (Xc rfl (Xc rfl (clB B0 rfl func31 rfl (spec_l1Below.calls a0 a1 s0.w (mm [0] s0) p0 w0_0 (z.rd h0_0) B0.w (B0.apart rfl)) (fun r3 s4 p4 B4 => ?_)))))))
 refine Xc rfl (Xc rfl (dn ?_))
 exact re rfl func24 rfl (r_t rfl Xg) rfl ⟨_, rfl, rfl, B4.w, z.ky (kp0.st p4 rfl)⟩
def spec_l1number.b0 (a0 : l1Cur) (x11 : Int × Int × Int × Int) : Option ((Int × Int × Int × Int) ⊕ (Int × l1Cur)) :=
 (if (decide (x11.2.1 > (0 : Int))) = true then ((spec_l1Byte.f (l1Cur.mk a0.b x11.2.2.1 x11.2.2.2)).bind fun r17 => (some (Sum.inl ((IntKind.wrap .i64 ((IntKind.wrap .i64 (x11.1 * (256 : Int))) + r17.1)), (IntKind.wrap .i64 (x11.2.1 - (1 : Int))), r17.2.i, r17.2.h)))) else (((spec_l1Below.f (l1Cur.mk a0.b x11.2.2.1 x11.2.2.2) (12 : Int)).bind fun r22 => (if (r22.1 == (0 : Int)) = true then (some ((IntKind.wrap .i64 (0 - x11.1)), (l1Cur.mk a0.b r22.2.i r22.2.h))) else (if (r22.1 == (1 : Int)) = true then ((spec_l1Below.f (l1Cur.mk a0.b r22.2.i r22.2.h) (7 : Int)).bind fun r34 => (if 0 ≤ (IntKind.wrap .i64 ((8 : Int) * (IntKind.wrap .i64 ((1 : Int) + r34.1)))) then ((spec_l1Below.f (l1Cur.mk a0.b r34.2.i r34.2.h) (2 : Int)).bind fun r46 => (some ((IntKind.wrap .i64 ((ishl .i64 (1 : Int) (IntKind.wrap .i64 ((8 : Int) * (IntKind.wrap .i64 ((1 : Int) + r34.1))))) - r46.1)), (l1Cur.mk a0.b r46.2.i r46.2.h)))) else none)) else (if (r22.1 == (2 : Int)) = true then (some ((9223372036854775807 : Int), (l1Cur.mk a0.b r22.2.i r22.2.h))) else (if (r22.1 == (3 : Int)) = true then (some ((-9223372036854775808 : Int), (l1Cur.mk a0.b r22.2.i r22.2.h))) else (some (x11.1, (l1Cur.mk a0.b r22.2.i r22.2.h)))))))).bind fun o => some (Sum.inr o)))
def spec_l1number.f (a0 : l1Cur) : Option (Int × l1Cur) :=
 ((spec_l1Below.f a0 (1000 : Int)).bind fun r3 => ((spec_l1Below.f (l1Cur.mk a0.b r3.2.i r3.2.h) (6 : Int)).bind fun r8 => (iter (spec_l1number.b0 a0) (r3.1, r8.1, r8.2.i, r8.2.h))))
def spec_l1number.Q (w : World) (F : Nat → Prop) (p0 : Nat) (w0_0 : Value) (r : Int × l1Cur) (v : Value) (w' : World) : Prop :=
 v = (iI r.1) ∧ BlW w' p0 80 [w0_0, (iI r.2.i), (iI r.2.h)] ∧ Ky [p0] w w'
theorem spec_l1number.calls (a0 : l1Cur) (w : World) (F : Nat → Prop) (p0 : Nat) (w0_0 : Value) (h0_0 : Ya.rd w [w0_0] a0.b F) (hb0 : BlW w p0 80 [w0_0, (iI a0.i), (iI a0.h)]) (hF : ∀ b, F b → b ∉ [p0]) (r : Int × l1Cur) (m : spec_l1number.f a0 = some r) :
  Calls prog 25 #[(pB p0)] w (RT (spec_l1number.Q w F p0 w0_0) r) := by
 obtain ⟨s0, rfl, kp0, z⟩ := start1 w F [p0] hF
 have A0_0 := z.rd h0_0
 have B0 := z.bl hb0 (by simp)
 refine Xd (args := [(pB p0)]) func25 ntmps25 rfl rfl m ?_
 unfold spec_l1number.f
 refine sr (Xc rfl (dn (sr (Xc rfl (clB B0 rfl func31 rfl (spec_l1Below.calls a0 (1000 : Int) s0.w (mm [0] s0) p0 w0_0 A0_0 B0.w (B0.apart rfl)) (fun r3 s4 p4 B4 => ?_))))))
 refine Xc rfl (dn (sq (sr (Xc rfl ?_))))
 have K6 := kp0.st p4 rfl
 refine clB B4 rfl func31 rfl (spec_l1Below.calls (l1Cur.mk a0.b r3.2.i r3.2.h) (6 : Int) s4.w (mm [0] s4) p0 w0_0 (A0_0.kp K6) B4.w (B4.apart rfl)) (fun r8 s9 p9 B9 => ?_)
 refine Xc rfl (dn (bl ?_))
 refine lpI (fun (x11 : Int × Int × Int × Int) e w => ∃ (s : St) (e0 : Env), w = s.w ∧ e = upd (upd (upd e0 0 (pB p0)) 3 (iI x11.1)) 4 (iI x11.2.1) ∧ Kp s0 s ∧ BlF s p0 80 [w0_0, (iI x11.2.2.1), (iI x11.2.2.2)] 2) ⟨s9, _, rfl, (ue (ue (ue rfl rfl) rfl) rfl), (K6.st p9 rfl), B9⟩ (fun g11 ih11 => ?_)
 rintro x11 _ _ ⟨s13, _, rfl, rfl, Kx11, Bx11_p0⟩
 unfold spec_l1number.b0
 refine sq (sr (Xc rfl (Xc rfl (dn (cd rfl (fun h15 => ?_) (fun h15 => ?_))))))
 ·
  refine sk (sq (bl (rg (Xc rfl (Xc rfl (Xc rfl ?_))))))
  refine clB Bx11_p0 rfl func60 rfl (spec_l1Byte.calls (l1Cur.mk a0.b x11.2.2.1 x11.2.2.2) s13.w (mm [0] s13) p0 w0_0 (A0_0.kp Kx11) Bx11_p0.w (Bx11_p0.apart rfl)) (fun r17 s18 p18 B18 => ?_)
  refine Xc rfl (Xc rfl (dn (ib (rg (Xc rfl (Xc rfl (Xc rfl (dn ?_))))))))
  exact lb ih11 ⟨s18, _, rfl, (ue (ue (ue rfl rfl) rfl) rfl), (Kx11.st p18 rfl), B18⟩
 refine xt rfl (sgb (sq (sr (Xc rfl ?_))))
 refine clB Bx11_p0 rfl func31 rfl (spec_l1Below.calls (l1Cur.mk a0.b x11.2.2.1 x11.2.2.2) (12 : Int) s13.w (mm [0] s13) p0 w0_0 (A0_0.kp Kx11) Bx11_p0.w (Bx11_p0.apart rfl)) (fun r22 s23 p23 B23 => ?_)
 refine dn (bl (sr (Xc rfl (Xc rfl (dn (cd rfl (fun h25 => ?_) (fun h25 => ?_)))))))
 ·
  refine sr (Xc rfl (Xc rfl (Xc rfl (dn ?_))))
  exact re rfl func25 rfl (r_t rfl Xg) rfl ⟨_, rfl, rfl, B23.w, z.ky (Kx11.st p23 rfl)⟩
 refine sr (Xc rfl (Xc rfl (dn (cd rfl (fun h27 => ?_) (fun h27 => ?_)))))
 ·
  refine sq (zdraw [[], [0], [1], [2], [3], [], [5, 1], [4, 6], [7, 6, 0, 1, 2, 3, 4, 5, 6, 7]] [some 26, some 27, some 28, some 29, some 30, some 31, some 32, some 33, some 2] [[0], [26], [27], [28], [29], [0], [31], [30, 32], [33]] [0, 1, 2, 3, 4, 5, 6, 7, 8] ⟨by kernel_rfl, by kernel_rfl, by kernel_rfl⟩ (by kernel_rfl) (fun s28 p28 l28 tb28 zd28 => ?_))
  refine zstep 1 [some 31] tb28 ((zd28.add 0 26 (pB p0) rfl).add 5 31 (pB p0) rfl) (Xb (Xm rfl) rfl (Xb (Xm rfl) rfl Xo)) (by kernel_rfl) rfl (fun l31 e31 zd31 => ?_)
  have K32 := Kx11.st (Xk p23 p28) rfl
  have A35 := B23.st p28 rfl
  refine clB A35 rfl func31 rfl (spec_l1Below.calls (l1Cur.mk a0.b r22.2.i r22.2.h) (7 : Int) s28.w (mm [0] s28) p0 w0_0 (A0_0.kp K32) A35.w (A35.apart rfl)) (fun r34 s36 p36 B36 => ?_)
  refine zdone (L' := [5]) (D' := [0, 1]) zd31 rfl rfl rfl (fun zd38 => ?_)
  refine mg fun hg41 => (zstep 6 [some 30, some 29, some 28] tb28 (((zd38.add 2 28 (iI (IntKind.wrap .i64 ((1 : Int) + r34.1))) rfl).add 3 29 (iI (IntKind.wrap .i64 ((8 : Int) * (IntKind.wrap .i64 ((1 : Int) + r34.1))))) rfl).add 4 30 (iI (ishl .i64 (1 : Int) (IntKind.wrap .i64 ((8 : Int) * (IntKind.wrap .i64 ((1 : Int) + r34.1)))))) rfl) (Xb (shl__q hg41 rfl rfl rfl rfl rfl rfl rfl) rfl (Xb (Xm rfl) rfl (Xb (Xm rfl) rfl (Xb (Xm rfl) rfl Xo)))) (by kernel_rfl) rfl (fun l43 e43 zd43 => ?_))
  have K44 := K32.st p36 rfl
  refine clB B36 rfl func31 rfl (spec_l1Below.calls (l1Cur.mk a0.b r34.2.i r34.2.h) (2 : Int) s36.w (mm [0] s36) p0 w0_0 (A0_0.kp K44) B36.w (B36.apart rfl)) (fun r46 s47 p47 B47 => ?_)
  refine zdone (L' := [4, 3, 2]) (D' := [5, 6, 0, 1]) zd43 rfl rfl rfl (fun zd49 => ?_)
  refine zfin [7, 8] tb28 zd49 (Xb (shl__q hg41 rfl rfl rfl rfl rfl rfl rfl) rfl (Xb (Xm rfl) rfl (Xb (Xm rfl) rfl Xo))) (by kernel_rfl) (by decide) (Xc rfl (Xc rfl (dn ?_)))
  exact re rfl func25 rfl (r_t rfl Xg) rfl ⟨_, rfl, rfl, B47.w, z.ky (K44.st p47 rfl)⟩
 refine sr (Xc rfl (Xc rfl (dn (cd rfl (fun h51 => ?_) (fun h51 => ?_)))))
 ·
  refine sr (Xc rfl (dn ?_))
  exact re rfl func25 rfl (r_t rfl Xg) rfl ⟨_, rfl, rfl, B23.w, z.ky (Kx11.st p23 rfl)⟩
 refine sr (Xc rfl (Xc rfl (dn (cd rfl (fun h53 => ?_) (fun h53 => ?_)))))
 ·
  refine sr (Xc rfl (dn ?_))
  exact re rfl func25 rfl (r_t rfl Xg) rfl ⟨_, rfl, rfl, B23.w, z.ky (Kx11.st p23 rfl)⟩
 refine sk (ib (sr (Xc rfl (Xc rfl (dn ?_)))))
 exact re rfl func25 rfl (r_t rfl Xg) rfl ⟨_, rfl, rfl, B23.w, z.ky (Kx11.st p23 rfl)⟩
def spec_l3value.f (a0 : l1Cur) : Option (Item × l1Cur) :=
 ((spec_l1Below.f a0 (5 : Int)).bind fun r7 => (if (r7.1 == (0 : Int)) = true then ((spec_l1some.f (l1Cur.mk a0.b r7.2.i r7.2.h) (8 : Int)).bind fun r14 => (some ((Item.mk (3 : Int) (0 : Int) (0 : Nat) r14.1), (l1Cur.mk a0.b r14.2.i r14.2.h)))) else (if (r7.1 == (1 : Int)) = true then ((spec_l2float.f (l1Cur.mk a0.b r7.2.i r7.2.h)).bind fun r29 => (some ((Item.mk (2 : Int) (0 : Int) r29.1 ([] : (List Int))), (l1Cur.mk a0.b r29.2.i r29.2.h)))) else (if (r7.1 == (2 : Int)) = true then ((spec_l1Below.f (l1Cur.mk a0.b r7.2.i r7.2.h) (64 : Int)).bind fun r42 => (some ((Item.mk (2 : Int) (0 : Int) (far .quo (FloatKind.f64.nearest (IntKind.wrap .i64 (r42.1 - (32 : Int)))) (4616189618054758400 : Nat)) ([] : (List Int))), (l1Cur.mk a0.b r42.2.i r42.2.h)))) else ((if (r7.1 == (3 : Int)) = true then ((spec_l1Once.f (l1Cur.mk a0.b r7.2.i r7.2.h) (5 : Int)).bind fun r58 => (if r58.1 = true then ((spec_l1some.f (l1Cur.mk a0.b r58.2.i r58.2.h) (40 : Int)).bind fun r64 => (some (Sum.inr ((Item.mk (3 : Int) (0 : Int) (0 : Nat) r64.1), (l1Cur.mk a0.b r64.2.i r64.2.h))))) else (some (Sum.inl (r58.2.i, r58.2.h))))) else (some (Sum.inl (r7.2.i, r7.2.h)))).bind (sel fun y54 => ((spec_l1number.f (l1Cur.mk a0.b y54.1 y54.2)).bind fun r84 => (some ((Item.mk (1 : Int) r84.1 (0 : Nat) ([] : (List Int))), (l1Cur.mk a0.b r84.2.i r84.2.h))))))))))
def spec_l3value.Q (w : World) (F : Nat → Prop) (p0 : Nat) (w0_0 : Value) (r : Item × l1Cur) (v : Value) (w' : World) : Prop :=
 ∃ (v0 : Value) (v1 : Value), v = (.agg #[(iI r.1.Kind), (iI r.1.N), v0, v1]) ∧ FO kd26 w w' [(iI r.1.Kind), (iI r.1.N), v0, v1] r.1 ∧ BlW w' p0 80 [w0_0, (iI r.2.i), (iI r.2.h)] ∧ Ky [p0] w w'
theorem spec_l3value.calls (a0 : l1Cur) (w : World) (F : Nat → Prop) (p0 : Nat) (w0_0 : Value) (h0_0 : Ya.rd w [w0_0] a0.b F) (hb0 : BlW w p0 80 [w0_0, (iI a0.i), (iI a0.h)]) (hF : ∀ b, F b → b ∉ [p0]) (r : Item × l1Cur) (m : spec_l3value.f a0 = some r) :
  Calls prog 56 #[(pB p0)] w (RT (spec_l3value.Q w F p0 w0_0) r) := by
 obtain ⟨s0, rfl, kp0, z⟩ := start1 w F [p0] hF
 have A0_0 := z.rd h0_0
 refine Xd (args := [(pB p0)]) func56 ntmps56 rfl rfl m ?_
 unfold spec_l3value.f
 refine sr (al (cs := [(iI 0), (iI 0), (.float .f64 0), (.slice none 0 0)]) 40 rfl rfl rfl rfl rfl o26 rfl (fun b3 s3 p3 B3 => ?_))
 refine dn (sq (sr (Xc rfl ?_)))
 have K5 := kp0.st p3 rfl
 have A8 := BlF.st (z.bl hb0 (by simp)) p3 rfl
 refine clB A8 rfl func31 rfl (spec_l1Below.calls a0 (5 : Int) s3.w (mm [0] s3) p0 w0_0 (A0_0.kp K5) A8.w (A8.apart rfl)) (fun r7 s9 p9 B9 => ?_)
 refine dn (bl (sr (Xc rfl (Xc rfl (dn (cd rfl (fun h11 => ?_) (fun h11 => ?_)))))))
 ·
  refine sr (Xc rfl ?_)
  have K12 := K5.st p9 rfl
  refine cl' rfl func59 rfl (spec_l1some.calls (l1Cur.mk a0.b r7.2.i r7.2.h) (8 : Int) s9.w (mm [0] s9) p0 w0_0 (A0_0.kp K12) B9.w (B9.apart rfl)) ?_
  rintro r14 v14_0 w14 m14 ⟨f14_0, bw14, ky14⟩
  obtain ⟨s15, rfl, p15, n15, g15⟩ := nwb 42 B9 ky14
  have A14_0 := f14_0.c n15
  refine bd (cells := [(iI 3), (iI 0), (.float .f64 0), v14_0]) pl26 o26 rfl rfl rfl rfl rfl (lfill_pc (pc_c rfl (pc_c (oc A14_0.rd.one) pc_n)) rfl) (Xx (vs := [(iI 3), (iI 0), (.float .f64 0), v14_0]) (B3.st (Xk p9 p15) rfl) z26 rfl (Xa rfl (Xa rfl (Xa (FL.one (Xl rfl)) (Xa A14_0.rd.one Xi)))) rfl (fun s19 p19 B19 => ?_))
  refine dn ?_
  have A21 : OwF kd26 s19 [(iI 3), (iI 0), (.float .f64 0), v14_0] (Item.mk (3 : Int) (0 : Int) (0 : Nat) r14.1) 42 := (Xs (fun x : Item => (x.Kind, x.N, x.F, x.T)) (Item.mk (3 : Int) (0 : Int) (0 : Nat) r14.1) (Xn (Xe .i64 (3 : Int)) (Xn (Xe .i64 (0 : Int)) (Xn (Xp (Xl rfl)) (A14_0.st p19 rfl)))))
  have K24 := K12.st (Xk p15 p19) rfl
  exact re rfl func56 rfl (r_b B19 u26 rfl z26 rfl Xg) rfl ⟨_, rfl, (.float .f64 0), v14_0, rfl, A21.fo K24 rfl z.l, (BlF.w (BlF.st (Xy bw14 g15) p19 rfl)), z.ky K24⟩
 refine sr (Xc rfl (Xc rfl (dn (cd rfl (fun h26 => ?_) (fun h26 => ?_)))))
 ·
  refine sr (Xc rfl ?_)
  have K27 := K5.st p9 rfl
  refine cl' rfl func58 rfl (spec_l2float.calls (l1Cur.mk a0.b r7.2.i r7.2.h) s9.w (mm [0] s9) p0 w0_0 (A0_0.kp K27) B9.w (B9.apart rfl)) ?_
  rintro r29 v29_0 w29 m29 ⟨f29_0, bw29, ky29⟩
  obtain ⟨s30, rfl, p30, n30, g30⟩ := nwb 43 B9 ky29
  refine bd (cells := [(iI 2), (iI 0), v29_0, (.slice none 0 0)]) pl26 o26 rfl rfl rfl rfl rfl (lfill_pc (pc_c rfl (pc_c (oc (FL.one f29_0)) pc_n)) rfl) (Xx (vs := [(iI 2), (iI 0), v29_0, (.slice none 0 0)]) (B3.st (Xk p9 p30) rfl) z26 rfl (Xa rfl (Xa rfl (Xa (FL.one f29_0) (Xa rfl Xi)))) rfl (fun s33 p33 B33 => ?_))
  refine dn ?_
  have A35 : OwF kd26 s33 [(iI 2), (iI 0), v29_0, (.slice none 0 0)] (Item.mk (2 : Int) (0 : Int) r29.1 ([] : (List Int))) 44 := ow_z _ _ (fz_iso (fun x : Item => (x.Kind, x.N, x.F, x.T)) (Item.mk (2 : Int) (0 : Int) r29.1 ([] : (List Int))) (Xf (Xe .i64 (2 : Int)) (Xf (Xe .i64 (0 : Int)) (Xf (Xp f29_0) (fz_nil 5 (Kd.int .u8))))))
  have K37 := K27.st (Xk p30 p33) rfl
  exact re rfl func56 rfl (r_b B33 u26 rfl z26 rfl Xg) rfl ⟨_, rfl, v29_0, (.slice none 0 0), rfl, A35.fo K37 rfl z.l, (BlF.w (BlF.st (Xy bw29 g30) p33 rfl)), z.ky K37⟩
 refine sr (Xc rfl (Xc rfl (dn (cd rfl (fun h39 => ?_) (fun h39 => ?_)))))
 ·
  refine sr (Xc rfl ?_)
  have K40 := K5.st p9 rfl
  refine clB B9 rfl func31 rfl (spec_l1Below.calls (l1Cur.mk a0.b r7.2.i r7.2.h) (64 : Int) s9.w (mm [0] s9) p0 w0_0 (A0_0.kp K40) B9.w (B9.apart rfl)) (fun r42 s43 p43 B43 => ?_)
  refine Xc rfl (i2f u24 u3 rfl rfl rfl rfl rfl rfl (fun v45 A45 => ?_))
  refine fa_ A45 (Xl rfl) (by simp) rfl rfl rfl rfl rfl rfl rfl (fun v46 s46 p46 A46 => ?_)
  refine bd (cells := [(iI 2), (iI 0), v46, (.slice none 0 0)]) pl26 o26 rfl rfl rfl rfl rfl (lfill_pc (pc_c rfl (pc_c (oc (FL.one A46)) pc_n)) rfl) (Xx (vs := [(iI 2), (iI 0), v46, (.slice none 0 0)]) (B3.st (Xw p9 p43 p46) rfl) z26 rfl (Xa rfl (Xa rfl (Xa (FL.one A46) (Xa rfl Xi)))) rfl (fun s48 p48 B48 => ?_))
  refine dn ?_
  have A50 : OwF kd26 s48 [(iI 2), (iI 0), v46, (.slice none 0 0)] (Item.mk (2 : Int) (0 : Int) (far .quo (FloatKind.f64.nearest (IntKind.wrap .i64 (r42.1 - (32 : Int)))) (4616189618054758400 : Nat)) ([] : (List Int))) 46 := ow_z _ _ (fz_iso (fun x : Item => (x.Kind, x.N, x.F, x.T)) (Item.mk (2 : Int) (0 : Int) (far .quo (FloatKind.f64.nearest (IntKind.wrap .i64 (r42.1 - (32 : Int)))) (4616189618054758400 : Nat)) ([] : (List Int))) (Xf (Xe .i64 (2 : Int)) (Xf (Xe .i64 (0 : Int)) (Xf (Xp A46) (fz_nil 5 (Kd.int .u8))))))
  have K52 := K40.st (Xw p43 p46 p48) rfl
  exact re rfl func56 rfl (r_b B48 u26 rfl z26 rfl Xg) rfl ⟨_, rfl, v46, (.slice none 0 0), rfl, A50.fo K52 rfl z.l, (BlF.w (B43.st (Xk p46 p48) rfl)), z.ky K52⟩
 refine sr (Xc rfl (Xc rfl (dn (jr (fun (y54 : Int × Int) e w => ∃ (s : St) (e0 : Env), w = s.w ∧ e = upd (upd e0 0 (pB p0)) 2 (pB b3) ∧ Kp s0 s ∧ BlF s p0 80 [w0_0, (iI y54.1), (iI y54.2)] 2 ∧ BlF s b3 26 [(iI 0), (iI 0), (.float .f64 0), (.slice none 0 0)] 40) (fun Gj54 Kj54 hG54 => ?_) ?_))))
 ·
  refine cd rfl (fun h55 => ?_) (fun h55 => ?_)
  ·
   refine sr (Xc rfl ?_)
   have K56 := K5.st p9 rfl
   refine clB B9 rfl func24 rfl (spec_l1Once.calls (l1Cur.mk a0.b r7.2.i r7.2.h) (5 : Int) s9.w (mm [0] s9) p0 w0_0 (A0_0.kp K56) B9.w (B9.apart rfl)) (fun r58 s59 p59 B59 => ?_)
   refine dn (cd rfl (fun h61 => ?_) (fun h61 => ?_))
   ·
    refine sr (Xc rfl ?_)
    have K62 := K56.st p59 rfl
    refine cl' rfl func59 rfl (spec_l1some.calls (l1Cur.mk a0.b r58.2.i r58.2.h) (40 : Int) s59.w (mm [0] s59) p0 w0_0 (A0_0.kp K62) B59.w (B59.apart rfl)) ?_
    rintro r64 v64_0 w64 m64 ⟨f64_0, bw64, ky64⟩
    obtain ⟨s65, rfl, p65, n65, g65⟩ := nwb 48 B59 ky64
    have A64_0 := f64_0.c n65
    refine bd (cells := [(iI 3), (iI 0), (.float .f64 0), v64_0]) pl26 o26 rfl rfl rfl rfl rfl (lfill_pc (pc_c rfl (pc_c (oc A64_0.rd.one) pc_n)) rfl) (Xx (vs := [(iI 3), (iI 0), (.float .f64 0), v64_0]) (B3.st (Xw p9 p59 p65) rfl) z26 rfl (Xa rfl (Xa rfl (Xa (FL.one (Xl rfl)) (Xa A64_0.rd.one Xi)))) rfl (fun s69 p69 B69 => ?_))
    refine dn (jri hG54 ?_)
    have A71 : OwF kd26 s69 [(iI 3), (iI 0), (.float .f64 0), v64_0] (Item.mk (3 : Int) (0 : Int) (0 : Nat) r64.1) 48 := (Xs (fun x : Item => (x.Kind, x.N, x.F, x.T)) (Item.mk (3 : Int) (0 : Int) (0 : Nat) r64.1) (Xn (Xe .i64 (3 : Int)) (Xn (Xe .i64 (0 : Int)) (Xn (Xp (Xl rfl)) (A64_0.st p69 rfl)))))
    have K74 := K62.st (Xk p65 p69) rfl
    exact re rfl func56 rfl (r_b B69 u26 rfl z26 rfl Xg) rfl ⟨_, rfl, (.float .f64 0), v64_0, rfl, A71.fo K74 rfl z.l, (BlF.w (BlF.st (Xy bw64 g65) p69 rfl)), z.ky K74⟩
   exact sk (Kj54 _ _ _ ⟨s59, _, rfl, (ue (ue rfl rfl) rfl), (K56.st p59 rfl), B59, (B3.st (Xk p9 p59) rfl)⟩)
  exact sk (Kj54 _ _ _ ⟨s9, _, rfl, (ue (ue rfl rfl) rfl), (K5.st p9 rfl), B9, (B3.st p9 rfl)⟩)
 rintro y54 _ _ ⟨s80, _, rfl, rfl, Ky54, By54_p0, By54_b3⟩
 refine ib (sr (Xc rfl ?_))
 refine clB By54_p0 rfl func25 rfl (spec_l1number.calls (l1Cur.mk a0.b y54.1 y54.2) s80.w (mm [0] s80) p0 w0_0 (A0_0.kp Ky54) By54_p0.w (By54_p0.apart rfl)) (fun r84 s85 p85 B85 => ?_)
 refine bd (cells := [(iI 1), (iI r84.1), (.float .f64 0), (.slice none 0 0)]) pl26 o26 rfl rfl rfl rfl rfl rfl (Xx (vs := [(iI 1), (iI r84.1), (.float .f64 0), (.slice none 0 0)]) (By54_b3.st p85 rfl) z26 rfl (Xa rfl (Xa rfl (Xa (FL.one (Xl rfl)) (Xa rfl Xi)))) rfl (fun s88 p88 B88 => ?_))
 refine dn ?_
 have A90 : OwF kd26 s88 [(iI 1), (iI r84.1), (.float .f64 0), (.slice none 0 0)] (Item.mk (1 : Int) r84.1 (0 : Nat) ([] : (List Int))) 50 := ow_z _ _ (fz_iso (fun x : Item => (x.Kind, x.N, x.F, x.T)) (Item.mk (1 : Int) r84.1 (0 : Nat) ([] : (List Int))) (Xf (Xe .i64 (1 : Int)) (Xf (Xe .i64 r84.1) (Xf (Xp (Xl rfl)) (fz_nil 5 (Kd.int .u8))))))
 have K92 := Ky54.st (Xk p85 p88) rfl
 exact re rfl func56 rfl (r_b B88 u26 rfl z26 rfl Xg) rfl ⟨_, rfl, (.float .f64 0), (.slice none 0 0), rfl, A90.fo K92 rfl z.l, (BlF.w (B85.st p88 rfl)), z.ky K92⟩
def spec_ItemOk.f (a0 : Item) : Option (Bool) :=
 (if (((decide (a0.Kind < (0 : Int))) || (decide (a0.Kind > (3 : Int)))) || (decide ((a0.T.length : Int) > (40 : Int)))) = true then (some false) else (if ((a0.Kind != (1 : Int)) && (a0.N != (0 : Int))) = true then (some false) else ((if (a0.Kind != (2 : Int)) = true then ((spec_FloatBits.f a0.F).bind fun r14 => (some (r14 != (0 : Int)))) else (some false)).bind fun y13 => (if y13 = true then (some false) else (some ((a0.Kind == (3 : Int)) || ((a0.T.length : Int) == (0 : Int))))))))
def spec_ItemOk.Q (w : World) (F : Nat → Prop) (r : Bool) (v : Value) (w' : World) : Prop :=
 v = (.bool r) ∧ Ky [] w w'
theorem spec_ItemOk.calls (a0 : Item) (w : World) (F : Nat → Prop) (w0_0 : Value) (w0_1 : Value) (h0_0 : Kd.flt.rd w [w0_0] a0.F F) (h0_1 : Ya.rd w [w0_1] a0.T F) (r : Bool) (m : spec_ItemOk.f a0 = some r) :
  Calls prog 9 #[(.agg #[(iI a0.Kind), (iI a0.N), w0_0, w0_1])] w (RT (spec_ItemOk.Q w F) r) := by
 obtain ⟨s0, rfl, kp0, z⟩ := Xq w F
 have A0_1 := z.rd h0_1
 refine Xd (args := [(.agg #[(iI a0.Kind), (iI a0.N), w0_0, w0_1])]) func9 ntmps9 rfl rfl m ?_
 unfold spec_ItemOk.f
 refine sr (bx (cs := [(iI a0.Kind), (iI a0.N), w0_0, w0_1]) 40 rfl rfl rfl rfl rfl rfl (fun b2 s2 p2 B2 => ?_))
 refine Xc rfl (dn (sq (sr (Xt fa26_0 rfl (ld' B2 u3 rfl (Xc rfl (Xc rfl (jy [6, 7, 8, 9, 10] [8, 9, 10, 11, 12, 13] 10 (.bool ((decide (a0.Kind < (0 : Int))) || (decide (a0.Kind > (3 : Int))))) rfl (fun Kg4 => ?_) (fun j4 => ?_)))))))))
 ·
  rcases bft (decide (a0.Kind < (0 : Int))) with hb4 | hb4
  ·
   exact sbT hb4 (Xj rfl (Xj rfl (Xj rfl (Xc rfl (Kg4 _ (Ag.put ((Ag.put ((Ag.put ((Ag.put (Ag.base rfl) rfl)) rfl)) rfl)) rfl) (by rw [hb4]; rfl))))))
  exact sbT hb4 (Xt fa26_0 rfl (ld' B2 u3 rfl (Xc rfl (Xc rfl (Kg4 _ (Ag.put ((Ag.put ((Ag.put ((Ag.put (Ag.base rfl) rfl)) rfl)) rfl)) rfl) (by rw [hb4]; rfl))))))
 refine Xc rfl (jy [11, 12, 13, 14, 15, 16] [] 16 (.bool (((decide (a0.Kind < (0 : Int))) || (decide (a0.Kind > (3 : Int)))) || (decide ((a0.T.length : Int) > (40 : Int))))) rfl (fun Kg5 => ?_) (fun j5 => ?_))
 ·
  rcases bft ((decide (a0.Kind < (0 : Int))) || (decide (a0.Kind > (3 : Int)))) with hb5 | hb5
  ·
   exact sbT hb5 (Xj rfl (Xj rfl (Xj rfl (Xj rfl (Xc rfl (Kg5 _ (Ag.put ((Ag.put ((Ag.put ((Ag.put ((Ag.put (Ag.base rfl) rfl)) rfl)) rfl)) rfl)) rfl) (by rw [hb5]; rfl)))))))
  refine sbT hb5 (Xt fa26_3 rfl (ld' B2 u22 rfl ?_))
  exact ln (A0_1.kp (kp0.st p2 rfl)) u22 rfl rfl rfl rfl rfl rfl (Xc rfl (Xc rfl (Kg5 _ (Ag.put ((Ag.put ((Ag.put ((Ag.put ((Ag.put (Ag.base rfl) rfl)) rfl)) rfl)) rfl)) rfl) (by rw [hb5]; rfl))))
 refine dn (cd rfl (fun h8 => ?_) (fun h8 => ?_))
 ·
  refine sr (Xc rfl (dn ?_))
  exact re rfl func9 rfl (r_t rfl Xg) rfl ⟨_, rfl, rfl, z.ky (kp0.st p2 rfl)⟩
 refine sk (sq (sr (Xt fa26_0 rfl (ld' B2 u3 rfl (Xc rfl (Xc rfl (jy [20, 21, 22, 23, 24] [] 24 (.bool ((a0.Kind != (1 : Int)) && (a0.N != (0 : Int)))) rfl (fun Kg10 => ?_) (fun j10 => ?_))))))))
 ·
  rcases bft (a0.Kind != (1 : Int)) with hb10 | hb10
  ·
   exact sbT hb10 (Xt fa26_1 rfl (ld' B2 u3 rfl (Xc rfl (Xc rfl (Kg10 _ (Ag.put ((Ag.put ((Ag.put ((Ag.put (Ag.base rfl) rfl)) rfl)) rfl)) rfl) (by rw [hb10]; rfl))))))
  exact sbT hb10 (Xj rfl (Xj rfl (Xj rfl (Xc rfl (Kg10 _ (Ag.put ((Ag.put ((Ag.put ((Ag.put (Ag.base rfl) rfl)) rfl)) rfl)) rfl) (by rw [hb10]; rfl))))))
 refine dn (cd rfl (fun h11 => ?_) (fun h11 => ?_))
 ·
  refine sr (Xc rfl (dn ?_))
  exact re rfl func9 rfl (r_t rfl Xg) rfl ⟨_, rfl, rfl, z.ky (kp0.st p2 rfl)⟩
 refine sk (sq (sr (Xt fa26_0 rfl (ld' B2 u3 rfl (Xc rfl (Xc rfl (ji [] (fun (y13 : Bool) e w => ∃ (s : St) (e0 : Env), w = s.w ∧ e = upd (upd e0 1 (pB b2)) 33 (.bool y13) ∧ Kp s0 s ∧ BlF s b2 26 [(iI a0.Kind), (iI a0.N), w0_0, w0_1] 40) (fun Gj13 Kj13 => ?_) ?_)))))))
 ·
  rcases bft (a0.Kind != (2 : Int)) with hb13 | hb13
  ·
   refine sbT hb13 ?_
   rw [if_pos hb13]
   refine Xt fa26_2 rfl (ld' B2 u24 rfl (clV 41 rfl func29 rfl (spec_FloatBits.calls a0.F s2.w (mm [] s2) w0_0 (Xh (s := s2) (fl_of h0_0))) (fun r14 s15 p15 n15 => ?_)))
   refine Xc rfl (Xc rfl ?_)
   exact Kj13 _ _ _ ⟨s15, _, rfl, (ue (ue rfl rfl) rfl), (kp0.st (Xk p2 p15) rfl), (B2.st p15 rfl)⟩
  refine sbT hb13 ?_
  rw [if_neg (by rw [hb13]; decide)]
  refine Xj rfl (Xj rfl (Xj rfl (Xj rfl (Xc rfl ?_))))
  exact Kj13 _ _ _ ⟨s2, _, rfl, (ue (ue rfl rfl) rfl), (kp0.st p2 rfl), B2⟩
 rintro y13 _ _ ⟨s19, _, rfl, rfl, Ky13, By13_b2⟩
 refine dn (cd rfl (fun h21 => ?_) (fun h21 => ?_))
 ·
  exact sr (Xc rfl (dn (re rfl func9 rfl (r_t rfl Xg) rfl ⟨_, rfl, rfl, z.ky Ky13⟩)))
 refine sk (sr (Xt fa26_0 rfl (ld' By13_b2 u3 rfl (Xc rfl (Xc rfl (jy [37, 38, 39, 40, 41, 42] [9] 42 (.bool ((a0.Kind == (3 : Int)) || ((a0.T.length : Int) == (0 : Int)))) rfl (fun Kg22 => ?_) (fun j22 => ?_)))))))
 ·
  rcases bft (a0.Kind == (3 : Int)) with hb22 | hb22
  ·
   exact sbT hb22 (Xj rfl (Xj rfl (Xj rfl (Xj rfl (Xc rfl (Kg22 _ (Ag.put ((Ag.put ((Ag.put ((Ag.put ((Ag.put (Ag.base rfl) rfl)) rfl)) rfl)) rfl)) rfl) (by rw [hb22]; rfl)))))))
  refine sbT hb22 (Xt fa26_3 rfl (ld' By13_b2 u22 rfl ?_))
  exact ln (A0_1.kp Ky13) u22 rfl rfl rfl rfl rfl rfl (Xc rfl (Xc rfl (Kg22 _ (Ag.put ((Ag.put ((Ag.put ((Ag.put ((Ag.put (Ag.base rfl) rfl)) rfl)) rfl)) rfl)) rfl) (by rw [hb22]; rfl))))
 exact Xc rfl (dn (re rfl func9 rfl (r_t rfl Xg) rfl ⟨_, rfl, rfl, z.ky Ky13⟩))
def spec_l3copy.f (a0 : Item) : Option (Item) :=
 (if ([] : (List Int)).length + a0.T.length ≤ Lim then (some (Item.mk a0.Kind a0.N a0.F (([] : (List Int)) ++ a0.T))) else none)
def spec_l3copy.Q (w : World) (F : Nat → Prop) (r : Item) (v : Value) (w' : World) : Prop :=
 ∃ (v0 : Value) (v1 : Value), v = (.agg #[(iI r.Kind), (iI r.N), v0, v1]) ∧ FO kd26 w w' [(iI r.Kind), (iI r.N), v0, v1] r ∧ Ky [] w w'
theorem spec_l3copy.calls (a0 : Item) (w : World) (F : Nat → Prop) (w0_0 : Value) (w0_1 : Value) (h0_0 : Kd.flt.rd w [w0_0] a0.F F) (h0_1 : Ya.rd w [w0_1] a0.T F) (r : Item) (m : spec_l3copy.f a0 = some r) :
  Calls prog 76 #[(.agg #[(iI a0.Kind), (iI a0.N), w0_0, w0_1])] w (RT (spec_l3copy.Q w F) r) := by
 obtain ⟨s0, rfl, kp0, z⟩ := Xq w F
 have A0_0 := fl_of h0_0
 refine Xd (args := [(.agg #[(iI a0.Kind), (iI a0.N), w0_0, w0_1])]) func76 ntmps76 rfl rfl m ?_
 unfold spec_l3copy.f
 refine sr (bx (cs := [(iI a0.Kind), (iI a0.N), w0_0, w0_1]) 40 rfl rfl rfl rfl rfl rfl (fun b2 s2 p2 B2 => ?_))
 refine al (cs := [(iI 0), (iI 0), (.float .f64 0), (.slice none 0 0)]) 41 rfl rfl rfl rfl rfl o26 rfl (fun b4 s4 p4 B4 => ?_)
 refine dn (sr (lt0 (K := (Kd.int .u8)) 42 u22 z5 rfl rfl rfl rfl rfl (fun v6 s6 p6 A6 => ?_)))
 refine Xt fa26_3 rfl ?_
 have A8 := B2.st (Xk p4 p6) rfl
 refine ld' A8 u22 rfl ?_
 have K9 := kp0.st (Xw p2 p4 p6) rfl
 refine apF fl_int sl22 A6 ((z.rd h0_1).kp K9) rfl rfl rfl rfl rfl rfl rfl (fun v11 s11 p11 A11 => ?_)
 refine Xt fa26_3 rfl (sv' (A8.st p11 rfl) z22 rfl A11.rd.one rfl (fun s14 p14 B14 => ?_))
 refine dn (sr (lda' (es := [(iI a0.Kind), (iI a0.N), w0_0, v11]) B14 u26 z26 rfl ?_))
 have A17 := A11.st p14 rfl
 refine Xx (vs := [(iI a0.Kind), (iI a0.N), w0_0, v11]) (B4.st (Xw p6 p11 p14) rfl) z26 rfl (Xa rfl (Xa rfl (Xa (FL.one A0_0) (Xa A17.rd.one Xi)))) rfl (fun s18 p18 B18 => ?_)
 refine dn ?_
 have A20 : OwF kd26 s18 [(iI a0.Kind), (iI a0.N), w0_0, v11] (Item.mk a0.Kind a0.N a0.F (([] : (List Int)) ++ a0.T)) 42 := (Xs (fun x : Item => (x.Kind, x.N, x.F, x.T)) (Item.mk a0.Kind a0.N a0.F (([] : (List Int)) ++ a0.T)) (Xn (Xe .i64 a0.Kind) (Xn (Xe .i64 a0.N) (Xn (Xp A0_0) (A17.st p18 rfl)))))
 have K23 := K9.st (Xw p11 p14 p18) rfl
 exact re rfl func76 rfl (r_b B18 u26 rfl z26 rfl Xg) rfl ⟨_, rfl, w0_0, v11, rfl, A20.fo K23 rfl z.l, z.ky K23⟩
def spec_ItemClean.f (a0 : Item) : Option (Item) :=
 ((spec_ItemOk.f a0).bind fun r9 => (if (!r9) = true then (some (Item.mk (0 : Int) (0 : Int) (0 : Nat) ([] : (List Int)))) else ((spec_l3copy.f a0).bind fun r21 => ((if (fcmp .f64 a0.F (0 : Nat) == some .eq) = true then (some (0 : Nat)) else (some r21.F)).bind fun y30 => (some (Item.mk r21.Kind r21.N y30 r21.T))))))
def spec_ItemClean.Q (w : World) (F : Nat → Prop) (r : Item) (v : Value) (w' : World) : Prop :=
 ∃ (v0 : Value) (v1 : Value), v = (.agg #[(iI r.Kind), (iI r.N), v0, v1]) ∧ FO kd26 w w' [(iI r.Kind), (iI r.N), v0, v1] r ∧ Ky [] w w'
theorem spec_ItemClean.calls (a0 : Item) (w : World) (F : Nat → Prop) (w0_0 : Value) (w0_1 : Value) (h0_0 : Kd.flt.rd w [w0_0] a0.F F) (h0_1 : Ya.rd w [w0_1] a0.T F) (r : Item) (m : spec_ItemClean.f a0 = some r) :
  Calls prog 44 #[(.agg #[(iI a0.Kind), (iI a0.N), w0_0, w0_1])] w (RT (spec_ItemClean.Q w F) r) := by
 obtain ⟨s0, rfl, kp0, z⟩ := Xq w F
 have A0_0 := fl_of h0_0
 have A0_1 := z.rd h0_1
 refine Xd (args := [(.agg #[(iI a0.Kind), (iI a0.N), w0_0, w0_1])]) func44 ntmps44 rfl rfl m ?_
 unfold spec_ItemClean.f
 refine sr (bx (cs := [(iI a0.Kind), (iI a0.N), w0_0, w0_1]) 40 rfl rfl rfl rfl rfl rfl (fun b2 s2 p2 B2 => ?_))
 refine al (cs := [(iI 0), (iI 0), (.float .f64 0), (.slice none 0 0)]) 41 rfl rfl rfl rfl rfl o26 rfl (fun b4 s4 p4 B4 => ?_)
 refine dn (sq (sr ?_))
 have A6 := B2.st p4 rfl
 refine lda' (es := [(iI a0.Kind), (iI a0.N), w0_0, w0_1]) A6 u26 z26 rfl ?_
 have K7 := kp0.st (Xk p2 p4) rfl
 refine clV 42 rfl func9 rfl (spec_ItemOk.calls a0 s4.w (mm [0] s4) w0_0 w0_1 ((Xh (s := s4) A0_0).sub (D := [0]) rfl) (A0_1.kp K7)) (fun r9 s10 p10 n10 => ?_)
 refine Xc rfl (dn (cd rfl (fun h11 => ?_) (fun h11 => ?_)))
 ·
  refine sr (bd (cells := [(iI 0), (iI 0), (.float .f64 0), (.slice none 0 0)]) pl26 o26 rfl rfl rfl rfl rfl rfl ?_)
  refine Xx (vs := [(iI 0), (iI 0), (.float .f64 0), (.slice none 0 0)]) (B4.st p10 rfl) z26 rfl (Xa rfl (Xa rfl (Xa (FL.one (Xl rfl)) (Xa rfl Xi)))) rfl (fun s13 p13 B13 => ?_)
  refine dn ?_
  have A15 : OwF kd26 s13 [(iI 0), (iI 0), (.float .f64 0), (.slice none 0 0)] (Item.mk (0 : Int) (0 : Int) (0 : Nat) ([] : (List Int))) 43 := ow_z _ _ (fz_iso (fun x : Item => (x.Kind, x.N, x.F, x.T)) (Item.mk (0 : Int) (0 : Int) (0 : Nat) ([] : (List Int))) (Xf (Xe .i64 (0 : Int)) (Xf (Xe .i64 (0 : Int)) (Xf (Xp (Xl rfl)) (fz_nil 5 (Kd.int .u8))))))
  have K17 := K7.st (Xk p10 p13) rfl
  exact re rfl func44 rfl (r_b B13 u26 rfl z26 rfl Xg) rfl ⟨_, rfl, (.float .f64 0), (.slice none 0 0), rfl, A15.fo K17 rfl z.l, z.ky K17⟩
 refine sk (sr ?_)
 have A18 := A6.st p10 rfl
 refine lda' (es := [(iI a0.Kind), (iI a0.N), w0_0, w0_1]) A18 u26 z26 rfl ?_
 have K19 := K7.st p10 rfl
 refine cl' rfl func76 rfl (spec_l3copy.calls a0 s10.w (mm [0] s10) w0_0 w0_1 ((Xh (s := s10) A0_0).sub (D := [0]) rfl) (A0_1.kp K19)) ?_
 rintro r21 _ w21 m21 ⟨v21_0, v21_1, rfl, f21_0, ky21⟩
 obtain ⟨s22, rfl, p22, n22⟩ := nwx s10 w21 44 ky21
 obtain ⟨hu21_0_0, Au21_0_1⟩ := ap26 (f21_0.c n22)
 refine al (cs := [(iI 0), (iI 0), (.float .f64 0), (.slice none 0 0)]) 45 rfl rfl rfl rfl rfl o26 rfl (fun b24 s24 p24 B24 => ?_)
 have A26 := Au21_0_1.st p24 rfl
 refine Xx (vs := [(iI r21.Kind), (iI r21.N), v21_0, v21_1]) B24 z26 rfl (Xa rfl (Xa rfl (Xa (FL.one hu21_0_0) (Xa A26.rd.one Xi)))) rfl (fun s27 p27 B27 => ?_)
 refine dn (sq (sr (Xt fa26_2 rfl ?_)))
 refine ld' (A18.st (Xw p22 p24 p27) rfl) u24 rfl (fq_ A0_0 (Xl rfl) rfl rfl rfl rfl rfl rfl rfl rfl (dn (jc (fun (y30 : Nat) e w => ∃ (s : St) (e0 : Env) (uy30_0 : Value), w = s.w ∧ e = upd (upd e0 2 (pB b4)) 3 (pB b24) ∧ Kp s0 s ∧ FL uy30_0 y30 ∧ BlF s b24 26 [(iI r21.Kind), (iI r21.N), uy30_0, v21_1] 45 ∧ BlF s b4 26 [(iI 0), (iI 0), (.float .f64 0), (.slice none 0 0)] 41 ∧ OwF Ya s [v21_1] r21.T 44) (fun Gj30 Kj30 => ?_) ?_)))
 ·
  refine cd rfl (fun h31 => ?_) (fun h31 => ?_)
  ·
   refine rg (Xt fa26_2 rfl (sv' B27 z24 rfl (FL.one (Xl rfl)) rfl (fun s32 p32 B32 => ?_)))
   exact dn (Kj30 _ _ _ ⟨s32, _, (.float .f64 0), rfl, (ue (ue rfl rfl) rfl), (K19.st (tr4 p22 p24 p27 p32) rfl), (Xl rfl), B32, (B4.st (tr5 p10 p22 p24 p27 p32) rfl), (A26.st (Xk p27 p32) rfl)⟩)
  exact sk (Kj30 _ _ _ ⟨s27, _, v21_0, rfl, (ue (ue rfl rfl) rfl), (K19.st (Xw p22 p24 p27) rfl), hu21_0_0, B27, (B4.st (tr4 p10 p22 p24 p27) rfl), (A26.st p27 rfl)⟩)
 rintro y30 _ _ ⟨s40, _, uy30_0, rfl, rfl, Ky30, Fy30_0, By30_b24, By30_b4, Cy30_23⟩
 refine sr (lda' (es := [(iI r21.Kind), (iI r21.N), uy30_0, v21_1]) By30_b24 u26 z26 rfl (Xx (vs := [(iI r21.Kind), (iI r21.N), uy30_0, v21_1]) By30_b4 z26 rfl (Xa rfl (Xa rfl (Xa (FL.one Fy30_0) (Xa Cy30_23.rd.one Xi)))) rfl (fun s43 p43 B43 => ?_)))
 refine dn ?_
 have A45 : OwF kd26 s43 [(iI r21.Kind), (iI r21.N), uy30_0, v21_1] (Item.mk r21.Kind r21.N y30 r21.T) 44 := (Xs (fun x : Item => (x.Kind, x.N, x.F, x.T)) (Item.mk r21.Kind r21.N y30 r21.T) (Xn (Xe .i64 r21.Kind) (Xn (Xe .i64 r21.N) (Xn (Xp Fy30_0) (Cy30_23.st p43 rfl)))))
 have K48 := Ky30.st p43 rfl
 exact re rfl func44 rfl (r_b B43 u26 rfl z26 rfl Xg) rfl ⟨_, rfl, uy30_0, v21_1, rfl, A45.fo K48 rfl z.l, z.ky K48⟩
def spec_l3key.f (a0 : l1Cur) : Option (Item × l1Cur) :=
 ((spec_l1Below.f a0 (6 : Int)).bind fun r7 => (if (r7.1 == (0 : Int)) = true then ((spec_l1Below.f (l1Cur.mk a0.b r7.2.i r7.2.h) (3 : Int)).bind fun r14 => (some ((Item.mk (3 : Int) (0 : Int) (0 : Nat) ([(IntKind.wrap .u8 (IntKind.wrap .i64 ((97 : Int) + r14.1)))])), (l1Cur.mk a0.b r14.2.i r14.2.h)))) else (if (r7.1 == (1 : Int)) = true then ((spec_l1Below.f (l1Cur.mk a0.b r7.2.i r7.2.h) (5 : Int)).bind fun r30 => ((spec_ItemClean.f (Item.mk (2 : Int) (0 : Int) (far .quo (FloatKind.f64.nearest (IntKind.wrap .i64 (r30.1 - (2 : Int)))) (4611686018427387904 : Nat)) ([] : (List Int)))).bind fun r35 => (some (r35, (l1Cur.mk a0.b r30.2.i r30.2.h))))) else ((if (r7.1 == (2 : Int)) = true then ((spec_l1Once.f (l1Cur.mk a0.b r7.2.i r7.2.h) (3 : Int)).bind fun r50 => (if r50.1 = true then ((spec_l2float.f (l1Cur.mk a0.b r50.2.i r50.2.h)).bind fun r56 => ((spec_ItemClean.f (Item.mk (2 : Int) (0 : Int) r56.1 ([] : (List Int)))).bind fun r59 => (some (Sum.inr (r59, (l1Cur.mk a0.b r56.2.i r56.2.h)))))) else (some (Sum.inl (r50.2.i, r50.2.h))))) else ((if (r7.1 == (3 : Int)) = true then ((spec_l1Once.f (l1Cur.mk a0.b r7.2.i r7.2.h) (4 : Int)).bind fun r76 => (if r76.1 = true then ((spec_l1some.f (l1Cur.mk a0.b r76.2.i r76.2.h) (40 : Int)).bind fun r82 => (some (Sum.inr (Sum.inr ((Item.mk (3 : Int) (0 : Int) (0 : Nat) r82.1), (l1Cur.mk a0.b r82.2.i r82.2.h)))))) else (some (Sum.inl (r76.2.i, r76.2.h))))) else (some (Sum.inl (r7.2.i, r7.2.h)))).bind (sel fun y72 => (some (Sum.inl (y72.1, y72.2)))))).bind (sel fun y46 => ((spec_l1Below.f (l1Cur.mk a0.b y46.1 y46.2) (6 : Int)).bind fun r105 => (some ((Item.mk (1 : Int) (IntKind.wrap .i64 (r105.1 - (1 : Int))) (0 : Nat) ([] : (List Int))), (l1Cur.mk a0.b r105.2.i r105.2.h)))))))))
def spec_l3key.Q (w : World) (F : Nat → Prop) (p0 : Nat) (w0_0 : Value) (r : Item × l1Cur) (v : Value) (w' : World) : Prop :=
 ∃ (v0 : Value) (v1 : Value), v = (.agg #[(iI r.1.Kind), (iI r.1.N), v0, v1]) ∧ FO kd26 w w' [(iI r.1.Kind), (iI r.1.N), v0, v1] r.1 ∧ BlW w' p0 80 [w0_0, (iI r.2.i), (iI r.2.h)] ∧ Ky [p0] w w'
theorem spec_l3key.calls (a0 : l1Cur) (w : World) (F : Nat → Prop) (p0 : Nat) (w0_0 : Value) (h0_0 : Ya.rd w [w0_0] a0.b F) (hb0 : BlW w p0 80 [w0_0, (iI a0.i), (iI a0.h)]) (hF : ∀ b, F b → b ∉ [p0]) (r : Item × l1Cur) (m : spec_l3key.f a0 = some r) :
  Calls prog 57 #[(pB p0)] w (RT (spec_l3key.Q w F p0 w0_0) r) := by
 obtain ⟨s0, rfl, kp0, z⟩ := start1 w F [p0] hF
 have A0_0 := z.rd h0_0
 refine Xd (args := [(pB p0)]) func57 ntmps57 rfl rfl m ?_
 unfold spec_l3key.f
 refine sr (al (cs := [(iI 0), (iI 0), (.float .f64 0), (.slice none 0 0)]) 40 rfl rfl rfl rfl rfl o26 rfl (fun b3 s3 p3 B3 => ?_))
 refine dn (sq (sr (Xc rfl ?_)))
 have K5 := kp0.st p3 rfl
 have A8 := BlF.st (z.bl hb0 (by simp)) p3 rfl
 refine clB A8 rfl func31 rfl (spec_l1Below.calls a0 (6 : Int) s3.w (mm [0] s3) p0 w0_0 (A0_0.kp K5) A8.w (A8.apart rfl)) (fun r7 s9 p9 B9 => ?_)
 refine dn (bl (sr (Xc rfl (Xc rfl (dn (cd rfl (fun h11 => ?_) (fun h11 => ?_)))))))
 ·
  refine sr (Xc rfl ?_)
  have K12 := K5.st p9 rfl
  refine clB B9 rfl func31 rfl (spec_l1Below.calls (l1Cur.mk a0.b r7.2.i r7.2.h) (3 : Int) s9.w (mm [0] s9) p0 w0_0 (A0_0.kp K12) B9.w (B9.apart rfl)) (fun r14 s15 p15 B15 => ?_)
  refine Xc rfl (cv u5 u3 rfl rfl rfl rfl rfl rfl (ltF' (K := (Kd.int .u8)) (cells := [(.int .u8 (IntKind.wrap .u8 (IntKind.wrap .i64 ((97 : Int) + r14.1))))]) [(IntKind.wrap .u8 (IntKind.wrap .i64 ((97 : Int) + r14.1)))] 43 fl_int u22 z5 o5 (fun w => (Xv _ _ _)) rfl rfl (fun v17 s17 p17 A17 => ?_)))
  refine bd (cells := [(iI 3), (iI 0), (.float .f64 0), v17]) pl26 o26 rfl rfl rfl rfl rfl (lfill_pc (pc_c rfl (pc_c (oc A17.rd.one) pc_n)) rfl) (Xx (vs := [(iI 3), (iI 0), (.float .f64 0), v17]) (B3.st (Xw p9 p15 p17) rfl) z26 rfl (Xa rfl (Xa rfl (Xa (FL.one (Xl rfl)) (Xa A17.rd.one Xi)))) rfl (fun s20 p20 B20 => ?_))
  refine dn ?_
  have A22 : OwF kd26 s20 [(iI 3), (iI 0), (.float .f64 0), v17] (Item.mk (3 : Int) (0 : Int) (0 : Nat) ([(IntKind.wrap .u8 (IntKind.wrap .i64 ((97 : Int) + r14.1)))])) 43 := (Xs (fun x : Item => (x.Kind, x.N, x.F, x.T)) (Item.mk (3 : Int) (0 : Int) (0 : Nat) ([(IntKind.wrap .u8 (IntKind.wrap .i64 ((97 : Int) + r14.1)))])) (Xn (Xe .i64 (3 : Int)) (Xn (Xe .i64 (0 : Int)) (Xn (Xp (Xl rfl)) (A17.st p20 rfl)))))
  have K25 := K12.st (Xw p15 p17 p20) rfl
  exact re rfl func57 rfl (r_b B20 u26 rfl z26 rfl Xg) rfl ⟨_, rfl, (.float .f64 0), v17, rfl, A22.fo K25 rfl z.l, (BlF.w (B15.st (Xk p17 p20) rfl)), z.ky K25⟩
 refine sr (Xc rfl (Xc rfl (dn (cd rfl (fun h27 => ?_) (fun h27 => ?_)))))
 ·
  refine sr (Xc rfl ?_)
  have K28 := K5.st p9 rfl
  refine clB B9 rfl func31 rfl (spec_l1Below.calls (l1Cur.mk a0.b r7.2.i r7.2.h) (5 : Int) s9.w (mm [0] s9) p0 w0_0 (A0_0.kp K28) B9.w (B9.apart rfl)) (fun r30 s31 p31 B31 => ?_)
  refine Xc rfl (i2f u24 u3 rfl rfl rfl rfl rfl rfl (fun v33 A33 => ?_))
  refine fa_ A33 (Xl rfl) (by simp) rfl rfl rfl rfl rfl rfl rfl (fun v34 s34 p34 A34 => ?_)
  refine bd (cells := [(iI 2), (iI 0), v34, (.slice none 0 0)]) pl26 o26 rfl rfl rfl rfl rfl (lfill_pc (pc_c rfl (pc_c (oc (FL.one A34)) pc_n)) rfl) (cl' rfl func44 rfl (spec_ItemClean.calls (Item.mk (2 : Int) (0 : Int) (far .quo (FloatKind.f64.nearest (IntKind.wrap .i64 (r30.1 - (2 : Int)))) (4611686018427387904 : Nat)) ([] : (List Int))) s34.w (mm [] s34) v34 (.slice none 0 0) (Xh (s := s34) A34) (rd_nil 5 (Kd.int .u8) s34 [])) ?_)
  rintro r35 _ w35 m35 ⟨v35_0, v35_1, rfl, f35_0, ky35⟩
  obtain ⟨s36, rfl, p36, n36⟩ := nwx s34 w35 45 ky35
  obtain ⟨hu35_0_0, Au35_0_1⟩ := ap26 (f35_0.c n36)
  refine Xx (vs := [(iI r35.Kind), (iI r35.N), v35_0, v35_1]) (B3.st (tr4 p9 p31 p34 p36) rfl) z26 rfl (Xa rfl (Xa rfl (Xa (FL.one hu35_0_0) (Xa Au35_0_1.rd.one Xi)))) rfl (fun s39 p39 B39 => ?_)
  refine dn ?_
  have A41 : OwF kd26 s39 [(iI r35.Kind), (iI r35.N), v35_0, v35_1] r35 45 := (Xs (fun x : Item => (x.Kind, x.N, x.F, x.T)) r35 (Xn (Xe .i64 r35.Kind) (Xn (Xe .i64 r35.N) (Xn (Xp hu35_0_0) (Au35_0_1.st p39 rfl)))))
  have K44 := K28.st (tr4 p31 p34 p36 p39) rfl
  exact re rfl func57 rfl (r_b B39 u26 rfl z26 rfl Xg) rfl ⟨_, rfl, v35_0, v35_1, rfl, A41.fo K44 rfl z.l, (BlF.w (B31.st (Xw p34 p36 p39) rfl)), z.ky K44⟩
 refine sr (Xc rfl (Xc rfl (dn (jr (fun (y46 : Int × Int) e w => ∃ (s : St) (e0 : Env), w = s.w ∧ e = upd (upd e0 0 (pB p0)) 2 (pB b3) ∧ Kp s0 s ∧ BlF s p0 80 [w0_0, (iI y46.1), (iI y46.2)] 2 ∧ BlF s b3 26 [(iI 0), (iI 0), (.float .f64 0), (.slice none 0 0)] 40) (fun Gj46 Kj46 hG46 => ?_) ?_))))
 ·
  refine cd rfl (fun h47 => ?_) (fun h47 => ?_)
  ·
   refine sr (Xc rfl ?_)
   have K48 := K5.st p9 rfl
   refine clB B9 rfl func24 rfl (spec_l1Once.calls (l1Cur.mk a0.b r7.2.i r7.2.h) (3 : Int) s9.w (mm [0] s9) p0 w0_0 (A0_0.kp K48) B9.w (B9.apart rfl)) (fun r50 s51 p51 B51 => ?_)
   refine dn (cd rfl (fun h53 => ?_) (fun h53 => ?_))
   ·
    refine sr (Xc rfl ?_)
    have K54 := K48.st p51 rfl
    refine cl' rfl func58 rfl (spec_l2float.calls (l1Cur.mk a0.b r50.2.i r50.2.h) s51.w (mm [0] s51) p0 w0_0 (A0_0.kp K54) B51.w (B51.apart rfl)) ?_
    rintro r56 v56_0 w56 m56 ⟨f56_0, bw56, ky56⟩
    obtain ⟨s57, rfl, p57, n57, g57⟩ := nwb 47 B51 ky56
    refine bd (cells := [(iI 2), (iI 0), v56_0, (.slice none 0 0)]) pl26 o26 rfl rfl rfl rfl rfl (lfill_pc (pc_c rfl (pc_c (oc (FL.one f56_0)) pc_n)) rfl) (cl' rfl func44 rfl (spec_ItemClean.calls (Item.mk (2 : Int) (0 : Int) r56.1 ([] : (List Int))) s57.w (mm [] s57) v56_0 (.slice none 0 0) (Xh (s := s57) f56_0) (rd_nil 5 (Kd.int .u8) s57 [])) ?_)
    rintro r59 _ w59 m59 ⟨v59_0, v59_1, rfl, f59_0, ky59⟩
    obtain ⟨s60, rfl, p60, n60⟩ := nwx s57 w59 48 ky59
    obtain ⟨hu59_0_0, Au59_0_1⟩ := ap26 (f59_0.c n60)
    refine Xx (vs := [(iI r59.Kind), (iI r59.N), v59_0, v59_1]) (B3.st (tr4 p9 p51 p57 p60) rfl) z26 rfl (Xa rfl (Xa rfl (Xa (FL.one hu59_0_0) (Xa Au59_0_1.rd.one Xi)))) rfl (fun s63 p63 B63 => ?_)
    refine dn (jri hG46 ?_)
    have A65 : OwF kd26 s63 [(iI r59.Kind), (iI r59.N), v59_0, v59_1] r59 48 := (Xs (fun x : Item => (x.Kind, x.N, x.F, x.T)) r59 (Xn (Xe .i64 r59.Kind) (Xn (Xe .i64 r59.N) (Xn (Xp hu59_0_0) (Au59_0_1.st p63 rfl)))))
    have K68 := K54.st (Xw p57 p60 p63) rfl
    exact re rfl func57 rfl (r_b B63 u26 rfl z26 rfl Xg) rfl ⟨_, rfl, v59_0, v59_1, rfl, A65.fo K68 rfl z.l, (BlF.w (BlF.st (Xy bw56 g57) (Xk p60 p63) rfl)), z.ky K68⟩
   exact sk (Kj46 _ _ _ ⟨s51, _, rfl, (ue (ue rfl rfl) rfl), (K48.st p51 rfl), B51, (B3.st (Xk p9 p51) rfl)⟩)
  refine sr (Xc rfl (Xc rfl (dn (jr (fun (y72 : Int × Int) e w => ∃ (s : St) (e0 : Env), w = s.w ∧ e = upd (upd e0 0 (pB p0)) 2 (pB b3) ∧ Kp s0 s ∧ BlF s p0 80 [w0_0, (iI y72.1), (iI y72.2)] 2 ∧ BlF s b3 26 [(iI 0), (iI 0), (.float .f64 0), (.slice none 0 0)] 40) (fun Gj72 Kj72 hG72 => ?_) ?_))))
  ·
   refine cd rfl (fun h73 => ?_) (fun h73 => ?_)
   ·
    refine sr (Xc rfl ?_)
    have K74 := K5.st p9 rfl
    refine clB B9 rfl func24 rfl (spec_l1Once.calls (l1Cur.mk a0.b r7.2.i r7.2.h) (4 : Int) s9.w (mm [0] s9) p0 w0_0 (A0_0.kp K74) B9.w (B9.apart rfl)) (fun r76 s77 p77 B77 => ?_)
    refine dn (cd rfl (fun h79 => ?_) (fun h79 => ?_))
    ·
     refine sr (Xc rfl ?_)
     have K80 := K74.st p77 rfl
     refine cl' rfl func59 rfl (spec_l1some.calls (l1Cur.mk a0.b r76.2.i r76.2.h) (40 : Int) s77.w (mm [0] s77) p0 w0_0 (A0_0.kp K80) B77.w (B77.apart rfl)) ?_
     rintro r82 v82_0 w82 m82 ⟨f82_0, bw82, ky82⟩
     obtain ⟨s83, rfl, p83, n83, g83⟩ := nwb 50 B77 ky82
     have A82_0 := f82_0.c n83
     refine bd (cells := [(iI 3), (iI 0), (.float .f64 0), v82_0]) pl26 o26 rfl rfl rfl rfl rfl (lfill_pc (pc_c rfl (pc_c (oc A82_0.rd.one) pc_n)) rfl) (Xx (vs := [(iI 3), (iI 0), (.float .f64 0), v82_0]) (B3.st (Xw p9 p77 p83) rfl) z26 rfl (Xa rfl (Xa rfl (Xa (FL.one (Xl rfl)) (Xa A82_0.rd.one Xi)))) rfl (fun s87 p87 B87 => ?_))
     refine dn (jri hG72 (jri hG46 ?_))
     have A89 : OwF kd26 s87 [(iI 3), (iI 0), (.float .f64 0), v82_0] (Item.mk (3 : Int) (0 : Int) (0 : Nat) r82.1) 50 := (Xs (fun x : Item => (x.Kind, x.N, x.F, x.T)) (Item.mk (3 : Int) (0 : Int) (0 : Nat) r82.1) (Xn (Xe .i64 (3 : Int)) (Xn (Xe .i64 (0 : Int)) (Xn (Xp (Xl rfl)) (A82_0.st p87 rfl)))))
     have K92 := K80.st (Xk p83 p87) rfl
     exact re rfl func57 rfl (r_b B87 u26 rfl z26 rfl Xg) rfl ⟨_, rfl, (.float .f64 0), v82_0, rfl, A89.fo K92 rfl z.l, (BlF.w (BlF.st (Xy bw82 g83) p87 rfl)), z.ky K92⟩
    exact sk (Kj72 _ _ _ ⟨s77, _, rfl, (ue (ue rfl rfl) rfl), (K74.st p77 rfl), B77, (B3.st (Xk p9 p77) rfl)⟩)
   exact sk (Kj72 _ _ _ ⟨s9, _, rfl, (ue (ue rfl rfl) rfl), (K5.st p9 rfl), B9, (B3.st p9 rfl)⟩)
  rintro y72 _ _ ⟨s98, _, rfl, rfl, Ky72, By72_p0, By72_b3⟩
  exact Kj46 _ _ _ ⟨s98, _, rfl, (ue (ue rfl rfl) rfl), Ky72, By72_p0, By72_b3⟩
 rintro y46 _ _ ⟨s101, _, rfl, rfl, Ky46, By46_p0, By46_b3⟩
 refine ib (sr (Xc rfl ?_))
 refine clB By46_p0 rfl func31 rfl (spec_l1Below.calls (l1Cur.mk a0.b y46.1 y46.2) (6 : Int) s101.w (mm [0] s101) p0 w0_0 (A0_0.kp Ky46) By46_p0.w (By46_p0.apart rfl)) (fun r105 s106 p106 B106 => ?_)
 refine Xc rfl (bd (cells := [(iI 1), (iI (IntKind.wrap .i64 (r105.1 - (1 : Int)))), (.float .f64 0), (.slice none 0 0)]) pl26 o26 rfl rfl rfl rfl rfl rfl ?_)
 refine Xx (vs := [(iI 1), (iI (IntKind.wrap .i64 (r105.1 - (1 : Int)))), (.float .f64 0), (.slice none 0 0)]) (By46_b3.st p106 rfl) z26 rfl (Xa rfl (Xa rfl (Xa (FL.one (Xl rfl)) (Xa rfl Xi)))) rfl (fun s109 p109 B109 => ?_)
 refine dn ?_
 have A111 : OwF kd26 s109 [(iI 1), (iI (IntKind.wrap .i64 (r105.1 - (1 : Int)))), (.float .f64 0), (.slice none 0 0)] (Item.mk (1 : Int) (IntKind.wrap .i64 (r105.1 - (1 : Int))) (0 : Nat) ([] : (List Int))) 52 := ow_z _ _ (fz_iso (fun x : Item => (x.Kind, x.N, x.F, x.T)) (Item.mk (1 : Int) (IntKind.wrap .i64 (r105.1 - (1 : Int))) (0 : Nat) ([] : (List Int))) (Xf (Xe .i64 (1 : Int)) (Xf (Xe .i64 (IntKind.wrap .i64 (r105.1 - (1 : Int)))) (Xf (Xp (Xl rfl)) (fz_nil 5 (Kd.int .u8))))))
 have K113 := Ky46.st (Xk p106 p109) rfl
 exact re rfl func57 rfl (r_b B109 u26 rfl z26 rfl Xg) rfl ⟨_, rfl, (.float .f64 0), (.slice none 0 0), rfl, A111.fo K113 rfl z.l, (BlF.w (B106.st p109 rfl)), z.ky K113⟩
def spec_l3any.b0 (a0 : l1Cur) (x122 : Int × Int × (List Int)) : Option ((Int × Int × (List Int)) ⊕ (Int × Int × Int × Int × Nat × (List Int))) :=
 ((spec_l1Below.f (l1Cur.mk a0.b x122.1 x122.2.1) (2 : Int)).bind fun r144 => (if (decide ((x122.2.2.length : Int) < (IntKind.wrap .i64 ((40 : Int) + r144.1)))) = true then (if x122.2.2.length + ([(120 : Int)]).length ≤ Lim then (some (Sum.inl (r144.2.i, r144.2.h, (x122.2.2 ++ [(120 : Int)])))) else none) else ((some (r144.2.i, r144.2.h, (3 : Int), (0 : Int), (0 : Nat), x122.2.2)).bind fun o => some (Sum.inr o))))
def spec_l3any.f (a0 : l1Cur) : Option (Item × l1Cur) :=
 ((spec_l3value.f a0).bind fun r7 => ((spec_l1Once.f (l1Cur.mk a0.b r7.2.i r7.2.h) (2 : Int)).bind fun r19 => ((if r19.1 = true then ((spec_l3key.f (l1Cur.mk a0.b r19.2.i r19.2.h)).bind fun r27 => (some (r27.2.i, r27.2.h, r27.1.Kind, r27.1.N, r27.1.F, r27.1.T))) else (some (r19.2.i, r19.2.h, r7.1.Kind, r7.1.N, r7.1.F, r7.1.T))).bind fun y23 => ((spec_l1Below.f (l1Cur.mk a0.b y23.1 y23.2.1) (14 : Int)).bind fun r52 => ((if (r52.1 == (0 : Int)) = true then ((spec_l1Below.f (l1Cur.mk a0.b r52.2.i r52.2.h) (7 : Int)).bind fun r59 => (some (r59.2.i, r59.2.h, (IntKind.wrap .i64 (r59.1 - (1 : Int))), y23.2.2.2.1, y23.2.2.2.2.1, y23.2.2.2.2.2))) else ((if (r52.1 == (1 : Int)) = true then (some (r52.2.i, r52.2.h, y23.2.2.1, (IntKind.wrap .i64 (y23.2.2.2.1 + (1 : Int))), y23.2.2.2.2.1, y23.2.2.2.2.2)) else ((if (r52.1 == (2 : Int)) = true then ((spec_l2float.f (l1Cur.mk a0.b r52.2.i r52.2.h)).bind fun r82 => (some (r82.2.i, r82.2.h, y23.2.2.1, y23.2.2.2.1, r82.1, y23.2.2.2.2.2))) else ((if (r52.1 == (3 : Int)) = true then ((spec_l1some.f (l1Cur.mk a0.b r52.2.i r52.2.h) (3 : Int)).bind fun r103 => (if y23.2.2.2.2.2.length + r103.1.length ≤ Lim then (some (r103.2.i, r103.2.h, y23.2.2.1, y23.2.2.2.1, y23.2.2.2.2.1, (y23.2.2.2.2.2 ++ r103.1))) else none)) else ((if (r52.1 == (4 : Int)) = true then (iter (spec_l3any.b0 a0) (r52.2.i, r52.2.h, y23.2.2.2.2.2)) else ((if (r52.1 == (5 : Int)) = true then (some ((2 : Int), (0 : Int), (fneg (0 : Nat)), ([] : (List Int)))) else (some (y23.2.2.1, y23.2.2.2.1, y23.2.2.2.2.1, y23.2.2.2.2.2))).bind fun y177 => (some (r52.2.i, r52.2.h, y177.1, y177.2.1, y177.2.2.1, y177.2.2.2)))).bind fun y120 => (some (y120.1, y120.2.1, y120.2.2.1, y120.2.2.2.1, y120.2.2.2.2.1, y120.2.2.2.2.2)))).bind fun y92 => (some (y92.1, y92.2.1, y92.2.2.1, y92.2.2.2.1, y92.2.2.2.2.1, y92.2.2.2.2.2)))).bind fun y78 => (some (y78.1, y78.2.1, y78.2.2.1, y78.2.2.2.1, y78.2.2.2.2.1, y78.2.2.2.2.2)))).bind fun y69 => (some (y69.1, y69.2.1, y69.2.2.1, y69.2.2.2.1, y69.2.2.2.2.1, y69.2.2.2.2.2)))).bind fun y55 => (some ((Item.mk y55.2.2.1 y55.2.2.2.1 y55.2.2.2.2.1 y55.2.2.2.2.2), (l1Cur.mk a0.b y55.1 y55.2.1))))))))
def spec_l3any.Q (w : World) (F : Nat → Prop) (p0 : Nat) (w0_0 : Value) (r : Item × l1Cur) (v : Value) (w' : World) : Prop :=
 ∃ (v0 : Value) (v1 : Value), v = (.agg #[(iI r.1.Kind), (iI r.1.N), v0, v1]) ∧ FO kd26 w w' [(iI r.1.Kind), (iI r.1.N), v0, v1] r.1 ∧ BlW w' p0 80 [w0_0, (iI r.2.i), (iI r.2.h)] ∧ Ky [p0] w w'
theorem spec_l3any.calls (a0 : l1Cur) (w : World) (F : Nat → Prop) (p0 : Nat) (w0_0 : Value) (h0_0 : Ya.rd w [w0_0] a0.b F) (hb0 : BlW w p0 80 [w0_0, (iI a0.i), (iI a0.h)]) (hF : ∀ b, F b → b ∉ [p0]) (r : Item × l1Cur) (m : spec_l3any.f a0 = some r) :
  Calls prog 23 #[(pB p0)] w (RT (spec_l3any.Q w F p0 w0_0) r) := by
 obtain ⟨s0, rfl, kp0, z⟩ := start1 w F [p0] hF
 have A0_0 := z.rd h0_0
 refine Xd (args := [(pB p0)]) func23 ntmps23 rfl rfl m ?_
 unfold spec_l3any.f
 refine sr (al (cs := [(iI 0), (iI 0), (.float .f64 0), (.slice none 0 0)]) 40 rfl rfl rfl rfl rfl o26 rfl (fun b3 s3 p3 B3 => ?_))
 refine dn (sr (Xc rfl ?_))
 have K5 := kp0.st p3 rfl
 have A8 := BlF.st (z.bl hb0 (by simp)) p3 rfl
 refine cl' rfl func56 rfl (spec_l3value.calls a0 s3.w (mm [0] s3) p0 w0_0 (A0_0.kp K5) A8.w (A8.apart rfl)) ?_
 rintro r7 _ w7 m7 ⟨v7_0, v7_1, rfl, f7_0, bw7, ky7⟩
 obtain ⟨s9, rfl, p9, n9, g9⟩ := nwb 41 A8 ky7
 obtain ⟨hu7_0_0, Au7_0_1⟩ := ap26 (f7_0.c n9)
 refine al (cs := [(iI 0), (iI 0), (.float .f64 0), (.slice none 0 0)]) 42 rfl rfl rfl rfl rfl o26 rfl (fun b12 s12 p12 B12 => ?_)
 have A14 := Au7_0_1.st p12 rfl
 refine Xx (vs := [(iI r7.1.Kind), (iI r7.1.N), v7_0, v7_1]) B12 z26 rfl (Xa rfl (Xa rfl (Xa (FL.one hu7_0_0) (Xa A14.rd.one Xi)))) rfl (fun s15 p15 B15 => ?_)
 refine dn (sq (sr (Xc rfl ?_)))
 have K17 := K5.st (Xw p9 p12 p15) rfl
 have A20 := BlF.st (Xy bw7 g9) (Xk p12 p15) rfl
 refine clB A20 rfl func24 rfl (spec_l1Once.calls (l1Cur.mk a0.b r7.2.i r7.2.h) (2 : Int) s15.w (mm [0] s15) p0 w0_0 (A0_0.kp K17) A20.w (A20.apart rfl)) (fun r19 s21 p21 B21 => ?_)
 refine dn (jc (fun (y23 : Int × Int × Int × Int × Nat × (List Int)) e w => ∃ (s : St) (e0 : Env) (vy23_0 uy23_0 : Value), w = s.w ∧ e = upd (upd (upd e0 0 (pB p0)) 2 (pB b3)) 3 (pB b12) ∧ Kp s0 s ∧ OwF Ya s [vy23_0] y23.2.2.2.2.2 44 ∧ FL uy23_0 y23.2.2.2.2.1 ∧ BlF s p0 80 [w0_0, (iI y23.1), (iI y23.2.1)] 2 ∧ BlF s b12 26 [(iI y23.2.2.1), (iI y23.2.2.2.1), uy23_0, vy23_0] 42 ∧ BlF s b3 26 [(iI 0), (iI 0), (.float .f64 0), (.slice none 0 0)] 40) (fun Gj23 Kj23 => ?_) ?_)
 ·
  refine cd rfl (fun h24 => ?_) (fun h24 => ?_)
  ·
   refine rg (Xc rfl ?_)
   have K25 := K17.st p21 rfl
   refine cl' rfl func57 rfl (spec_l3key.calls (l1Cur.mk a0.b r19.2.i r19.2.h) s21.w (mm [0] s21) p0 w0_0 (A0_0.kp K25) B21.w (B21.apart rfl)) ?_
   rintro r27 _ w27 m27 ⟨v27_0, v27_1, rfl, f27_0, bw27, ky27⟩
   obtain ⟨s28, rfl, p28, n28, g28⟩ := nwb 45 B21 ky27
   obtain ⟨hu27_0_0, Au27_0_1⟩ := ap26 (f27_0.c n28)
   refine Xx (vs := [(iI r27.1.Kind), (iI r27.1.N), v27_0, v27_1]) (B15.st (Xk p21 p28) rfl) z26 rfl (Xa rfl (Xa rfl (Xa (FL.one hu27_0_0) (Xa Au27_0_1.rd.one Xi)))) rfl (fun s32 p32 B32 => ?_)
   refine dn ?_
   obtain ⟨s35, hw35, p35, A35⟩ := (Au27_0_1.st p32 rfl).rc 44 rfl
   rw [hw35]
   exact Kj23 _ _ _ ⟨s35, _, v27_1, v27_0, rfl, (ue (ue (ue rfl rfl) rfl) rfl), (K25.st (Xw p28 p32 p35) rfl), A35, hu27_0_0, (BlF.st (Xy bw27 g28) (Xk p32 p35) rfl), (B32.st p35 rfl), (B3.st (tr7 p9 p12 p15 p21 p28 p32 p35) rfl)⟩
  refine sk ?_
  obtain ⟨s41, hw41, p41, A41⟩ := (A14.st (Xk p15 p21) rfl).rc 44 rfl
  rw [hw41]
  exact Kj23 _ _ _ ⟨s41, _, v7_1, v7_0, rfl, (ue (ue (ue rfl rfl) rfl) rfl), (K17.st (Xk p21 p41) rfl), A41, hu7_0_0, (B21.st p41 rfl), (B15.st (Xk p21 p41) rfl), (B3.st (tr5 p9 p12 p15 p21 p41) rfl)⟩
 rintro y23 _ _ ⟨s46, _, vy23_0, uy23_0, rfl, rfl, Ky23, Ay23_0, Fy23_0, By23_p0, By23_b12, By23_b3⟩
 refine sq (sr (Xc rfl ?_))
 refine clB By23_p0 rfl func31 rfl (spec_l1Below.calls (l1Cur.mk a0.b y23.1 y23.2.1) (14 : Int) s46.w (mm [0] s46) p0 w0_0 (A0_0.kp Ky23) By23_p0.w (By23_p0.apart rfl)) (fun r52 s53 p53 B53 => ?_)
 refine dn (bl (sr (Xc rfl (Xc rfl (dn (jc (fun (y55 : Int × Int × Int × Int × Nat × (List Int)) e w => ∃ (s : St) (e0 : Env) (vy55_0 uy55_0 : Value), w = s.w ∧ e = upd (upd e0 2 (pB b3)) 3 (pB b12) ∧ Kp s0 s ∧ OwF Ya s [vy55_0] y55.2.2.2.2.2 44 ∧ FL uy55_0 y55.2.2.2.2.1 ∧ BlF s p0 80 [w0_0, (iI y55.1), (iI y55.2.1)] 2 ∧ BlF s b12 26 [(iI y55.2.2.1), (iI y55.2.2.2.1), uy55_0, vy55_0] 42 ∧ BlF s b3 26 [(iI 0), (iI 0), (.float .f64 0), (.slice none 0 0)] 40) (fun Gj55 Kj55 => ?_) ?_))))))
 ·
  refine cd rfl (fun h56 => ?_) (fun h56 => ?_)
  ·
   refine rg (Xc rfl ?_)
   have K57 := Ky23.st p53 rfl
   refine clB B53 rfl func31 rfl (spec_l1Below.calls (l1Cur.mk a0.b r52.2.i r52.2.h) (7 : Int) s53.w (mm [0] s53) p0 w0_0 (A0_0.kp K57) B53.w (B53.apart rfl)) (fun r59 s60 p60 B60 => ?_)
   refine Xc rfl (Xt fa26_0 rfl ?_)
   refine sv' (By23_b12.st (Xk p53 p60) rfl) z3 rfl rfl rfl (fun s63 p63 B63 => ?_)
   exact dn (Kj55 _ _ _ ⟨s63, _, vy23_0, uy23_0, rfl, (ue (ue rfl rfl) rfl), (K57.st (Xk p60 p63) rfl), (Ay23_0.st (Xw p53 p60 p63) rfl), Fy23_0, (B60.st p63 rfl), B63, (By23_b3.st (Xw p53 p60 p63) rfl)⟩)
  refine sr (Xc rfl (Xc rfl (dn (jc (fun (y69 : Int × Int × Int × Int × Nat × (List Int)) e w => ∃ (s : St) (e0 : Env) (vy69_0 uy69_0 : Value), w = s.w ∧ e = upd (upd e0 2 (pB b3)) 3 (pB b12) ∧ Kp s0 s ∧ OwF Ya s [vy69_0] y69.2.2.2.2.2 44 ∧ FL uy69_0 y69.2.2.2.2.1 ∧ BlF s p0 80 [w0_0, (iI y69.1), (iI y69.2.1)] 2 ∧ BlF s b12 26 [(iI y69.2.2.1), (iI y69.2.2.2.1), uy69_0, vy69_0] 42 ∧ BlF s b3 26 [(iI 0), (iI 0), (.float .f64 0), (.slice none 0 0)] 40) (fun Gj69 Kj69 => ?_) ?_))))
  ·
   refine cd rfl (fun h70 => ?_) (fun h70 => ?_)
   ·
    refine rg (Xt fa26_1 rfl ?_)
    have A71 := By23_b12.st p53 rfl
    refine ld' A71 u3 rfl (Xc rfl (Xt fa26_1 rfl (sv' A71 z3 rfl rfl rfl (fun s72 p72 B72 => ?_))))
    exact dn (Kj69 _ _ _ ⟨s72, _, vy23_0, uy23_0, rfl, (ue (ue rfl rfl) rfl), (Ky23.st (Xk p53 p72) rfl), (Ay23_0.st (Xk p53 p72) rfl), Fy23_0, (B53.st p72 rfl), B72, (By23_b3.st (Xk p53 p72) rfl)⟩)
   refine sr (Xc rfl (Xc rfl (dn (jc (fun (y78 : Int × Int × Int × Int × Nat × (List Int)) e w => ∃ (s : St) (e0 : Env) (vy78_0 uy78_0 : Value), w = s.w ∧ e = upd (upd e0 2 (pB b3)) 3 (pB b12) ∧ Kp s0 s ∧ OwF Ya s [vy78_0] y78.2.2.2.2.2 44 ∧ FL uy78_0 y78.2.2.2.2.1 ∧ BlF s p0 80 [w0_0, (iI y78.1), (iI y78.2.1)] 2 ∧ BlF s b12 26 [(iI y78.2.2.1), (iI y78.2.2.2.1), uy78_0, vy78_0] 42 ∧ BlF s b3 26 [(iI 0), (iI 0), (.float .f64 0), (.slice none 0 0)] 40) (fun Gj78 Kj78 => ?_) ?_))))
   ·
    refine cd rfl (fun h79 => ?_) (fun h79 => ?_)
    ·
     refine rg (Xc rfl ?_)
     have K80 := Ky23.st p53 rfl
     refine cl' rfl func58 rfl (spec_l2float.calls (l1Cur.mk a0.b r52.2.i r52.2.h) s53.w (mm [0] s53) p0 w0_0 (A0_0.kp K80) B53.w (B53.apart rfl)) ?_
     rintro r82 v82_0 w82 m82 ⟨f82_0, bw82, ky82⟩
     obtain ⟨s83, rfl, p83, n83, g83⟩ := nwb 48 B53 ky82
     refine Xt fa26_2 rfl (sv' (By23_b12.st (Xk p53 p83) rfl) z24 rfl (FL.one f82_0) rfl (fun s86 p86 B86 => ?_))
     exact dn (Kj78 _ _ _ ⟨s86, _, vy23_0, v82_0, rfl, (ue (ue rfl rfl) rfl), (K80.st (Xk p83 p86) rfl), (Ay23_0.st (Xw p53 p83 p86) rfl), f82_0, (BlF.st (Xy bw82 g83) p86 rfl), B86, (By23_b3.st (Xw p53 p83 p86) rfl)⟩)
    refine sr (Xc rfl (Xc rfl (dn (jc (fun (y92 : Int × Int × Int × Int × Nat × (List Int)) e w => ∃ (s : St) (e0 : Env) (vy92_0 uy92_0 : Value), w = s.w ∧ e = upd (upd e0 2 (pB b3)) 3 (pB b12) ∧ Kp s0 s ∧ OwF Ya s [vy92_0] y92.2.2.2.2.2 44 ∧ FL uy92_0 y92.2.2.2.2.1 ∧ BlF s p0 80 [w0_0, (iI y92.1), (iI y92.2.1)] 2 ∧ BlF s b12 26 [(iI y92.2.2.1), (iI y92.2.2.2.1), uy92_0, vy92_0] 42 ∧ BlF s b3 26 [(iI 0), (iI 0), (.float .f64 0), (.slice none 0 0)] 40) (fun Gj92 Kj92 => ?_) ?_))))
    ·
     refine cd rfl (fun h93 => ?_) (fun h93 => ?_)
     ·
      refine zdraw [[], [0], [], [2], [1, 3, 3], [0, 1, 2, 3, 4], [5, 4, 4, 0, 1, 2, 3, 4]] [some 32, some 33, some 34, some 35, some 36, some 37, none] [[3], [32], [0], [34], [33, 35], [3], [37, 36]] [0, 1, 2, 3, 4, 5, 6] ⟨by kernel_rfl, by kernel_rfl, by kernel_rfl⟩ (by kernel_rfl) (fun s94 p94 l94 tb94 zd94 => ?_)
      refine zstep 3 [some 33, some 32] tb94 (((zd94.add 0 32 (pO b12 3) rfl).add 1 33 vy23_0 rfl).add 2 34 (pB p0) rfl) (Xb (Xm rfl) rfl (Xb (ld_q' (By23_b12.st (Xk p53 p94) rfl) u22 rfl) rfl (Xb (Xz fa26_3 rfl) rfl Xo))) (by kernel_rfl) rfl (fun l99 e99 zd99 => ?_)
      have K101 := Ky23.st (Xk p53 p94) rfl
      have A104 := B53.st p94 rfl
      refine cl' rfl func59 rfl (spec_l1some.calls (l1Cur.mk a0.b r52.2.i r52.2.h) (3 : Int) s94.w (mm [0] s94) p0 w0_0 (A0_0.kp K101) A104.w (A104.apart rfl)) ?_
      rintro r103 v103_0 w103 m103 ⟨f103_0, bw103, ky103⟩
      obtain ⟨s105, rfl, p105, n105, g105⟩ := nwb 49 A104 ky103
      refine zdone (L' := [1, 0]) (D' := [2, 3]) zd99 rfl rfl rfl (fun zd108 => ?_)
      refine zfin [4, 5, 6] tb94 zd108 (Xb (ld_q' (By23_b12.st (Xw p53 p94 p105) rfl) u22 rfl) rfl (Xb (Xz fa26_3 rfl) rfl Xo)) (by kernel_rfl) (by decide) (apF fl_int sl22 (Ay23_0.st (Xw p53 p94 p105) rfl) (f103_0.c n105).rd rfl rfl rfl rfl rfl rfl rfl (fun v111 s111 p111 A111 => ?_))
      refine Xt fa26_3 rfl (sv' (By23_b12.st (tr4 p53 p94 p105 p111) rfl) z22 rfl A111.rd.one rfl (fun s114 p114 B114 => ?_))
      exact dn (Kj92 _ _ _ ⟨s114, _, v111, uy23_0, rfl, (ue (ue rfl rfl) rfl), (K101.st (Xw p105 p111 p114) rfl), (A111.st p114 rfl), Fy23_0, (BlF.st (Xy bw103 g105) (Xk p111 p114) rfl), B114, (By23_b3.st (tr5 p53 p94 p105 p111 p114) rfl)⟩)
     refine sr (Xc rfl (Xc rfl (dn (jc (fun (y120 : Int × Int × Int × Int × Nat × (List Int)) e w => ∃ (s : St) (e0 : Env) (vy120_0 uy120_0 : Value), w = s.w ∧ e = upd (upd e0 2 (pB b3)) 3 (pB b12) ∧ Kp s0 s ∧ OwF Ya s [vy120_0] y120.2.2.2.2.2 44 ∧ FL uy120_0 y120.2.2.2.2.1 ∧ BlF s p0 80 [w0_0, (iI y120.1), (iI y120.2.1)] 2 ∧ BlF s b12 26 [(iI y120.2.2.1), (iI y120.2.2.2.1), uy120_0, vy120_0] 42 ∧ BlF s b3 26 [(iI 0), (iI 0), (.float .f64 0), (.slice none 0 0)] 40) (fun Gj120 Kj120 => ?_) ?_))))
     ·
      refine cd rfl (fun h121 => ?_) (fun h121 => ?_)
      ·
       refine sq (bl ?_)
       refine lpI (fun (x122 : Int × Int × (List Int)) e w => ∃ (s : St) (e0 : Env) (vx122_0 : Value), w = s.w ∧ e = upd (upd (upd e0 0 (pB p0)) 2 (pB b3)) 3 (pB b12) ∧ Kp s0 s ∧ OwF Ya s [vx122_0] x122.2.2 44 ∧ BlF s p0 80 [w0_0, (iI x122.1), (iI x122.2.1)] 2 ∧ BlF s b12 26 [(iI y23.2.2.1), (iI y23.2.2.2.1), uy23_0, vx122_0] 42 ∧ BlF s b3 26 [(iI 0), (iI 0), (.float .f64 0), (.slice none 0 0)] 40) ⟨s53, _, vy23_0, rfl, (ue (ue (ue rfl rfl) rfl) rfl), (Ky23.st p53 rfl), (Ay23_0.st p53 rfl), B53, (By23_b12.st p53 rfl), (By23_b3.st p53 rfl)⟩ (fun g122 ih122 => ?_)
       rintro x122 _ _ ⟨s127, _, vx122_0, rfl, rfl, Kx122, Ax122_0, Bx122_p0, Bx122_b12, Bx122_b3⟩
       unfold spec_l3any.b0
       refine sq (sq (zdraw [[], [0], [1], [], [3], [4], [2, 5]] [some 40, some 41, some 42, some 43, some 44, some 45, some 46] [[3], [40], [41], [0], [43], [44], [42, 45]] [0, 1, 2, 3, 4, 5, 6] ⟨by kernel_rfl, by kernel_rfl, by kernel_rfl⟩ (by kernel_rfl) (fun s132 p132 l132 tb132 zd132 => ?_)))
       refine zstep 4 [some 42, some 41, some 40] tb132 ((((zd132.add 0 40 (pO b12 3) rfl).add 1 41 vx122_0 rfl).add 2 42 (iI (x122.2.2.length : Int)) rfl).add 3 43 (pB p0) rfl) (Xb (Xm rfl) rfl (Xb (ln_q (Ax122_0.st p132 rfl).rd u22 rfl rfl rfl rfl rfl rfl) rfl (Xb (ld_q' (Bx122_b12.st p132 rfl) u22 rfl) rfl (Xb (Xz fa26_3 rfl) rfl Xo)))) (by kernel_rfl) rfl (fun l139 e139 zd139 => ?_)
       have K142 := Kx122.st p132 rfl
       have A145 := Bx122_p0.st p132 rfl
       refine clB A145 rfl func31 rfl (spec_l1Below.calls (l1Cur.mk a0.b x122.1 x122.2.1) (2 : Int) s132.w (mm [0] s132) p0 w0_0 (A0_0.kp K142) A145.w (A145.apart rfl)) (fun r144 s146 p146 B146 => ?_)
       refine zdone (L' := [2, 1, 0]) (D' := [3, 4]) zd139 rfl rfl rfl (fun zd148 => ?_)
       refine zfin [6] tb132 (zd148.add 5 45 (iI (IntKind.wrap .i64 ((40 : Int) + r144.1))) rfl) (Xb (Xm rfl) rfl (Xb (ln_q (Ax122_0.st (Xk p132 p146) rfl).rd u22 rfl rfl rfl rfl rfl rfl) rfl (Xb (ld_q' (Bx122_b12.st (Xk p132 p146) rfl) u22 rfl) rfl (Xb (Xz fa26_3 rfl) rfl Xo)))) (by kernel_rfl) (by decide) (Xc rfl (dn (cd rfl (fun h152 => ?_) (fun h152 => ?_))))
       ·
        refine sk (bl (rg (Xt fa26_3 rfl ?_)))
        have A153 := Bx122_b12.st (Xk p132 p146) rfl
        refine ld' A153 u22 rfl (ltF' (K := (Kd.int .u8)) (cells := [(.int .u8 (120 : Int))]) [(120 : Int)] 51 fl_int u22 z5 o5 (fun w => (Xv _ _ _)) rfl rfl (fun v154 s154 p154 A154 => ?_))
        refine apF fl_int sl22 (Ax122_0.st (Xw p132 p146 p154) rfl) A154.rd rfl rfl rfl rfl rfl rfl rfl (fun v157 s157 p157 A157 => ?_)
        refine Xt fa26_3 rfl (sv' (A153.st (Xk p154 p157) rfl) z22 rfl A157.rd.one rfl (fun s160 p160 B160 => ?_))
        refine dn (ib ?_)
        exact lb ih122 ⟨s160, _, v157, rfl, (ue (ue (ue rfl rfl) rfl) rfl), (K142.st (tr4 p146 p154 p157 p160) rfl), (A157.st p160 rfl), (B146.st (Xw p154 p157 p160) rfl), B160, (Bx122_b3.st (tr5 p132 p146 p154 p157 p160) rfl)⟩
       refine xt rfl (sgb (sr (Xt fa26_0 rfl ?_)))
       refine sv' (Bx122_b12.st (Xk p132 p146) rfl) z3 rfl rfl rfl (fun s167 p167 B167 => ?_)
       refine dn (sr (Xt fa26_1 rfl (sv' B167 z3 rfl rfl rfl (fun s169 p169 B169 => ?_))))
       refine dn (rg (Xt fa26_2 rfl (sv' B169 z24 rfl (FL.one (Xl rfl)) rfl (fun s171 p171 B171 => ?_))))
       exact dn (Kj120 _ _ _ ⟨s171, _, vx122_0, (.float .f64 0), rfl, (ue (ue rfl rfl) rfl), (K142.st (tr4 p146 p167 p169 p171) rfl), (Ax122_0.st (tr5 p132 p146 p167 p169 p171) rfl), (Xl rfl), (B146.st (Xw p167 p169 p171) rfl), B171, (Bx122_b3.st (tr5 p132 p146 p167 p169 p171) rfl)⟩)
      refine sr (Xc rfl (Xc rfl (dn (jc (fun (y177 : Int × Int × Nat × (List Int)) e w => ∃ (s : St) (e0 : Env) (vy177_0 uy177_0 : Value), w = s.w ∧ e = upd (upd e0 2 (pB b3)) 3 (pB b12) ∧ Kp s0 s ∧ OwF Ya s [vy177_0] y177.2.2.2 44 ∧ FL uy177_0 y177.2.2.1 ∧ BlF s p0 80 [w0_0, (iI r52.2.i), (iI r52.2.h)] 2 ∧ BlF s b12 26 [(iI y177.1), (iI y177.2.1), uy177_0, vy177_0] 42 ∧ BlF s b3 26 [(iI 0), (iI 0), (.float .f64 0), (.slice none 0 0)] 40) (fun Gj177 Kj177 => ?_) ?_))))
      ·
       refine cd rfl (fun h178 => ?_) (fun h178 => ?_)
       ·
        refine sr (asg' (.float .f64 0) rfl (dn (rg (mv' (.float .f64 0) rfl (fng_ (Xl rfl) rfl rfl rfl rfl rfl rfl (fun v179 A179 => ?_))))))
        refine bd (cells := [(iI 2), (iI 0), v179, (.slice none 0 0)]) pl26 o26 rfl rfl rfl rfl rfl (lfill_pc (pc_c rfl (pc_c (oc (FL.one A179)) pc_n)) rfl) (Xx (vs := [(iI 2), (iI 0), v179, (.slice none 0 0)]) (By23_b12.st p53 rfl) z26 rfl (Xa rfl (Xa rfl (Xa (FL.one A179) (Xa rfl Xi)))) rfl (fun s181 p181 B181 => ?_))
        exact dn (Kj177 _ _ _ ⟨s181, _, (.slice none 0 0), v179, rfl, (ue (ue rfl rfl) rfl), (Ky23.st (Xk p53 p181) rfl), (Xu 5 (Kd.int .u8) _ 44), A179, (B53.st p181 rfl), B181, (By23_b3.st (Xk p53 p181) rfl)⟩)
       exact sk (Kj177 _ _ _ ⟨s53, _, vy23_0, uy23_0, rfl, (ue (ue rfl rfl) rfl), (Ky23.st p53 rfl), (Ay23_0.st p53 rfl), Fy23_0, B53, (By23_b12.st p53 rfl), (By23_b3.st p53 rfl)⟩)
      rintro y177 _ _ ⟨s190, _, vy177_0, uy177_0, rfl, rfl, Ky177, Ay177_0, Fy177_0, By177_p0, By177_b12, By177_b3⟩
      exact Kj120 _ _ _ ⟨s190, _, vy177_0, uy177_0, rfl, (ue (ue rfl rfl) rfl), Ky177, Ay177_0, Fy177_0, By177_p0, By177_b12, By177_b3⟩
     rintro y120 _ _ ⟨s195, _, vy120_0, uy120_0, rfl, rfl, Ky120, Ay120_0, Fy120_0, By120_p0, By120_b12, By120_b3⟩
     exact Kj92 _ _ _ ⟨s195, _, vy120_0, uy120_0, rfl, (ue (ue rfl rfl) rfl), Ky120, Ay120_0, Fy120_0, By120_p0, By120_b12, By120_b3⟩
    rintro y92 _ _ ⟨s200, _, vy92_0, uy92_0, rfl, rfl, Ky92, Ay92_0, Fy92_0, By92_p0, By92_b12, By92_b3⟩
    exact Kj78 _ _ _ ⟨s200, _, vy92_0, uy92_0, rfl, (ue (ue rfl rfl) rfl), Ky92, Ay92_0, Fy92_0, By92_p0, By92_b12, By92_b3⟩
   rintro y78 _ _ ⟨s205, _, vy78_0, uy78_0, rfl, rfl, Ky78, Ay78_0, Fy78_0, By78_p0, By78_b12, By78_b3⟩
   exact Kj69 _ _ _ ⟨s205, _, vy78_0, uy78_0, rfl, (ue (ue rfl rfl) rfl), Ky78, Ay78_0, Fy78_0, By78_p0, By78_b12, By78_b3⟩
  rintro y69 _ _ ⟨s210, _, vy69_0, uy69_0, rfl, rfl, Ky69, Ay69_0, Fy69_0, By69_p0, By69_b12, By69_b3⟩
  exact Kj55 _ _ _ ⟨s210, _, vy69_0, uy69_0, rfl, (ue (ue rfl rfl) rfl), Ky69, Ay69_0, Fy69_0, By69_p0, By69_b12, By69_b3⟩
 rintro y55 _ _ ⟨s215, _, vy55_0, uy55_0, rfl, rfl, Ky55, Ay55_0, Fy55_0, By55_p0, By55_b12, By55_b3⟩
 refine ib (sr (lda' (es := [(iI y55.2.2.1), (iI y55.2.2.2.1), uy55_0, vy55_0]) By55_b12 u26 z26 rfl (Xx (vs := [(iI y55.2.2.1), (iI y55.2.2.2.1), uy55_0, vy55_0]) By55_b3 z26 rfl (Xa rfl (Xa rfl (Xa (FL.one Fy55_0) (Xa Ay55_0.rd.one Xi)))) rfl (fun s220 p220 B220 => ?_))))
 refine dn ?_
 have A222 : OwF kd26 s220 [(iI y55.2.2.1), (iI y55.2.2.2.1), uy55_0, vy55_0] (Item.mk y55.2.2.1 y55.2.2.2.1 y55.2.2.2.2.1 y55.2.2.2.2.2) 44 := (Xs (fun x : Item => (x.Kind, x.N, x.F, x.T)) (Item.mk y55.2.2.1 y55.2.2.2.1 y55.2.2.2.2.1 y55.2.2.2.2.2) (Xn (Xe .i64 y55.2.2.1) (Xn (Xe .i64 y55.2.2.2.1) (Xn (Xp Fy55_0) (Ay55_0.st p220 rfl)))))
 have K225 := Ky55.st p220 rfl
 exact re rfl func23 rfl (r_b B220 u26 rfl z26 rfl Xg) rfl ⟨_, rfl, uy55_0, vy55_0, rfl, A222.fo K225 rfl z.l, (BlF.w (By55_p0.st p220 rfl)), z.ky K225⟩
def spec_DrawItemText.f (a0 : (List Int)) : Option (Item) :=
 ((spec_l1New.f a0).bind fun r6 => ((spec_l3any.f r6).bind fun r10 => ((spec_l1Once.f (l1Cur.mk r6.b r10.2.i r10.2.h) (9 : Int)).bind fun r20 => ((if r20.1 = true then ((spec_l1number.f (l1Cur.mk r6.b r20.2.i r20.2.h)).bind fun r27 => (some ((1 : Int), r27.1, (0 : Nat), ([] : (List Int))))) else (some (r10.1.Kind, r10.1.N, r10.1.F, r10.1.T))).bind fun y24 => (some (Item.mk y24.1 y24.2.1 y24.2.2.1 y24.2.2.2))))))
def spec_DrawItemText.Q (w : World) (F : Nat → Prop) (r : Item) (v : Value) (w' : World) : Prop :=
 ∃ (v0 : Value) (v1 : Value), v = (.agg #[(iI r.Kind), (iI r.N), v0, v1]) ∧ FO kd26 w w' [(iI r.Kind), (iI r.N), v0, v1] r ∧ Ky [] w w'
theorem spec_DrawItemText.calls (a0 : (List Int)) (w : World) (F : Nat → Prop) (w0_0 : Value) (h0_0 : Ya.rd w [w0_0] a0 F) (r : Item) (m : spec_DrawItemText.f a0 = some r) :
  Calls prog 6 #[w0_0] w (RT (spec_DrawItemText.Q w F) r) := by
 obtain ⟨s0, rfl, kp0, z⟩ := Xq w F
 refine Xd (args := [w0_0]) func6 ntmps6 rfl rfl m ?_
 unfold spec_DrawItemText.f
 refine sr (al (cs := [(iI 0), (iI 0), (.float .f64 0), (.slice none 0 0)]) 40 rfl rfl rfl rfl rfl o26 rfl (fun b2 s2 p2 B2 => ?_))
 refine dn (sr (mv' w0_0 rfl ?_))
 have K4 := kp0.st p2 rfl
 refine cl' rfl func22 rfl (spec_l1New.calls a0 s2.w (mm [0] s2) w0_0 ((z.rd h0_0).kp K4)) ?_
 rintro r6 _ w6 m6 ⟨v6_0, v6_1, rfl, f6_0, f6_1, ky6⟩
 obtain ⟨s7, rfl, p7, n7⟩ := nwx s2 w6 41 ky6
 have A6_0 := f6_0.c n7
 have A6_1 := f6_1.c n7
 refine Xc rfl (dn (sr (Xc rfl (cl' rfl func23 rfl (spec_l3any.calls r6 s7.w (mm [0] s7) v6_0 v6_1 A6_1 A6_0.w (A6_0.apart rfl)) ?_))))
 rintro r10 _ w10 m10 ⟨v10_0, v10_1, rfl, f10_0, bw10, ky10⟩
 obtain ⟨s11, rfl, p11, n11, g11⟩ := nwb 42 A6_0 ky10
 obtain ⟨hu10_0_0, Au10_0_1⟩ := ap26 (f10_0.c n11)
 refine al (cs := [(iI 0), (iI 0), (.float .f64 0), (.slice none 0 0)]) 43 rfl rfl rfl rfl rfl o26 rfl (fun b14 s14 p14 B14 => ?_)
 have A16 := Au10_0_1.st p14 rfl
 refine Xx (vs := [(iI r10.1.Kind), (iI r10.1.N), v10_0, v10_1]) B14 z26 rfl (Xa rfl (Xa rfl (Xa (FL.one hu10_0_0) (Xa A16.rd.one Xi)))) rfl (fun s17 p17 B17 => ?_)
 refine dn (sq (sr (Xc rfl ?_)))
 have A19 := A6_1.st (Xw p11 p14 p17) rfl
 have A21 := BlF.st (Xy bw10 g11) (Xk p14 p17) rfl
 refine clB A21 rfl func24 rfl (spec_l1Once.calls (l1Cur.mk r6.b r10.2.i r10.2.h) (9 : Int) s17.w (mm [0] s17) v6_0 v6_1 A19 A21.w (A21.apart rfl)) (fun r20 s22 p22 B22 => ?_)
 refine dn (jc (fun (y24 : Int × Int × Nat × (List Int)) e w => ∃ (s : St) (e0 : Env) (vy24_0 uy24_0 : Value), w = s.w ∧ e = upd (upd e0 2 (pB b2)) 4 (pB b14) ∧ Kp s0 s ∧ OwF Ya s [vy24_0] y24.2.2.2 42 ∧ FL uy24_0 y24.2.2.1 ∧ BlF s b14 26 [(iI y24.1), (iI y24.2.1), uy24_0, vy24_0] 43 ∧ BlF s b2 26 [(iI 0), (iI 0), (.float .f64 0), (.slice none 0 0)] 40) (fun Gj24 Kj24 => ?_) ?_)
 ·
  refine cd rfl (fun h25 => ?_) (fun h25 => ?_)
  ·
   refine rg (Xc rfl ?_)
   refine clB B22 rfl func25 rfl (spec_l1number.calls (l1Cur.mk r6.b r20.2.i r20.2.h) s22.w (mm [0] s22) v6_0 v6_1 (A19.st p22 rfl) B22.w (B22.apart rfl)) (fun r27 s28 p28 B28 => ?_)
   refine bd (cells := [(iI 1), (iI r27.1), (.float .f64 0), (.slice none 0 0)]) pl26 o26 rfl rfl rfl rfl rfl rfl (Xx (vs := [(iI 1), (iI r27.1), (.float .f64 0), (.slice none 0 0)]) (B17.st (Xk p22 p28) rfl) z26 rfl (Xa rfl (Xa rfl (Xa (FL.one (Xl rfl)) (Xa rfl Xi)))) rfl (fun s31 p31 B31 => ?_))
   exact dn (Kj24 _ _ _ ⟨s31, _, (.slice none 0 0), (.float .f64 0), rfl, (ue (ue rfl rfl) rfl), (K4.st (tr7 p7 p11 p14 p17 p22 p28 p31) rfl), (Xu 5 (Kd.int .u8) _ 42), (Xl rfl), B31, (B2.st (tr7 p7 p11 p14 p17 p22 p28 p31) rfl)⟩)
  exact sk (Kj24 _ _ _ ⟨s22, _, v10_1, v10_0, rfl, (ue (ue rfl rfl) rfl), (K4.st (tr5 p7 p11 p14 p17 p22) rfl), (A16.st (Xk p17 p22) rfl), hu10_0_0, (B17.st p22 rfl), (B2.st (tr5 p7 p11 p14 p17 p22) rfl)⟩)
 rintro y24 _ _ ⟨s39, _, vy24_0, uy24_0, rfl, rfl, Ky24, Ay24_0, Fy24_0, By24_b14, By24_b2⟩
 refine sr (lda' (es := [(iI y24.1), (iI y24.2.1), uy24_0, vy24_0]) By24_b14 u26 z26 rfl (Xx (vs := [(iI y24.1), (iI y24.2.1), uy24_0, vy24_0]) By24_b2 z26 rfl (Xa rfl (Xa rfl (Xa (FL.one Fy24_0) (Xa Ay24_0.rd.one Xi)))) rfl (fun s43 p43 B43 => ?_)))
 refine dn ?_
 have A45 : OwF kd26 s43 [(iI y24.1), (iI y24.2.1), uy24_0, vy24_0] (Item.mk y24.1 y24.2.1 y24.2.2.1 y24.2.2.2) 42 := (Xs (fun x : Item => (x.Kind, x.N, x.F, x.T)) (Item.mk y24.1 y24.2.1 y24.2.2.1 y24.2.2.2) (Xn (Xe .i64 y24.1) (Xn (Xe .i64 y24.2.1) (Xn (Xp Fy24_0) (Ay24_0.st p43 rfl)))))
 have K48 := Ky24.st p43 rfl
 exact re rfl func6 rfl (r_b B43 u26 rfl z26 rfl Xg) rfl ⟨_, rfl, uy24_0, vy24_0, rfl, A45.fo K48 rfl z.l, z.ky K48⟩
def impl_within.f (a0 : Int) (a1 : Int) (a2 : Int) : Option (Bool) :=
 (some ((decide (a1 ≤ a0)) && (decide (a0 ≤ a2))))
def impl_within.Q (w : World) (F : Nat → Prop) (r : Bool) (v : Value) (w' : World) : Prop :=
 v = (.bool r) ∧ Ky [] w w'
theorem impl_within.calls (a0 : Int) (a1 : Int) (a2 : Int) (w : World) (F : Nat → Prop)   (r : Bool) (m : impl_within.f a0 a1 a2 = some r) :
  Calls prog 38 #[(iI a0), (iI a1), (iI a2)] w (RT (impl_within.Q w F) r) := by
 obtain ⟨s0, rfl, kp0, z⟩ := Xq w F
 refine Xd (args := [(iI a0), (iI a1), (iI a2)]) func38 ntmps38 rfl rfl m ?_
 unfold impl_within.f
 refine sr (Xc rfl (dn (sr (Xc rfl (Xc rfl (Xc rfl (Xc rfl (jy [10, 11, 12, 13, 14] [8] 14 (.bool ((decide (a1 ≤ a0)) && (decide (a0 ≤ a2)))) rfl (fun Kg1 => ?_) (fun j1 => ?_)))))))))
 ·
  rcases bft (decide (a1 ≤ a0)) with hb1 | hb1
  ·
   exact sbT hb1 (Xc rfl (Xc rfl (Xc rfl (Xc rfl (Kg1 _ (Ag.put ((Ag.put ((Ag.put ((Ag.put (Ag.base rfl) rfl)) rfl)) rfl)) rfl) (by rw [hb1]; rfl))))))
  exact sbT hb1 (Xj rfl (Xj rfl (Xj rfl (Xc rfl (Kg1 _ (Ag.put ((Ag.put ((Ag.put ((Ag.put (Ag.base rfl) rfl)) rfl)) rfl)) rfl) (by rw [hb1]; rfl))))))
 exact Xc rfl (dn (re rfl func38 rfl (r_t rfl Xg) rfl ⟨_, rfl, rfl, z.ky kp0⟩))
def impl_ItemOk.f (a0 : Item) : Option (Bool) :=
 ((impl_within.f a0.Kind (0 : Int) (3 : Int)).bind fun r4 => (some (((r4 && ((a0.N == (0 : Int)) || (a0.Kind == (1 : Int)))) && (((a0.F : Int) == 0) || (a0.Kind == (2 : Int)))) && (((a0.T.length : Int) == (0 : Int)) || ((a0.Kind == (3 : Int)) && (decide ((a0.T.length : Int) ≤ (40 : Int))))))))
def impl_ItemOk.Q (w : World) (F : Nat → Prop) (r : Bool) (v : Value) (w' : World) : Prop :=
 v = (.bool r) ∧ Ky [] w w'
theorem impl_ItemOk.calls (a0 : Item) (w : World) (F : Nat → Prop) (w0_0 : Value) (w0_1 : Value) (h0_0 : Kd.flt.rd w [w0_0] a0.F F) (h0_1 : Ya.rd w [w0_1] a0.T F) (r : Bool) (m : impl_ItemOk.f a0 = some r) :
  Calls prog 26 #[(.agg #[(iI a0.Kind), (iI a0.N), w0_0, w0_1])] w (RT (impl_ItemOk.Q w F) r) := by
 obtain ⟨s0, rfl, kp0, z⟩ := Xq w F
 refine Xd (args := [(.agg #[(iI a0.Kind), (iI a0.N), w0_0, w0_1])]) func26 ntmps26 rfl rfl m ?_
 unfold impl_ItemOk.f
 refine sr (bx (cs := [(iI a0.Kind), (iI a0.N), w0_0, w0_1]) 40 rfl rfl rfl rfl rfl rfl (fun b2 s2 p2 B2 => ?_))
 refine Xc rfl (dn (sr (Xt fa26_0 rfl (ld' B2 u3 rfl (clV 41 rfl func38 rfl (impl_within.calls a0.Kind (0 : Int) (3 : Int) s2.w (mm [] s2)) (fun r4 s5 p5 n5 => ?_))))))
 refine Xc rfl (jy [6, 7, 8, 9, 10, 11, 12, 13, 14, 15] [13, 14, 15, 16, 17, 18, 19, 20, 21, 22, 23, 24, 25, 26, 27, 28, 29, 30, 31, 32, 33, 34, 35, 36, 37, 38, 39, 40, 41] 15 (.bool (r4 && ((a0.N == (0 : Int)) || (a0.Kind == (1 : Int))))) rfl (fun Kg6 => ?_) (fun j6 => ?_))
 ·
  rcases bft r4 with hb6 | hb6
  ·
   refine sbT hb6 (Xt fa26_1 rfl ?_)
   have A7 := B2.st p5 rfl
   refine ld' A7 u3 rfl (Xc rfl (Xc rfl (jy [10, 11, 12, 13, 14] [12, 13, 14, 15, 16, 17, 18, 19, 20, 21, 22, 23, 24, 25, 26, 27, 28, 29, 30, 31, 32, 33, 34, 35, 36, 37, 38, 39, 40, 41] 14 (.bool ((a0.N == (0 : Int)) || (a0.Kind == (1 : Int)))) rfl (fun Kg8 => ?_) (fun j8 => ?_))))
   ·
    rcases bft (a0.N == (0 : Int)) with hb8 | hb8
    ·
     exact sbT hb8 (Xj rfl (Xj rfl (Xj rfl (Xc rfl (Kg8 _ (Ag.put ((Ag.put ((Ag.put ((Ag.put (Ag.base rfl) rfl)) rfl)) rfl)) rfl) (by rw [hb8]; rfl))))))
    exact sbT hb8 (Xt fa26_0 rfl (ld' A7 u3 rfl (Xc rfl (Xc rfl (Kg8 _ (Ag.put ((Ag.put ((Ag.put ((Ag.put (Ag.base rfl) rfl)) rfl)) rfl)) rfl) (by rw [hb8]; rfl))))))
   exact Xc rfl (Kg6 _ (Ag.put ((Ag.put ((Ag.ov ((Ag.put ((Ag.put ((Ag.put ((Ag.put (Ag.base rfl) rfl)) rfl)) rfl)) rfl)) rfl)) rfl)) rfl) (by rw [hb6]; rfl))
  exact sbT hb6 (Xj rfl (Xj rfl (Xj rfl (Xj rfl (Xj rfl (Xj rfl (Xj rfl (Xj rfl (Xc rfl (Kg6 _ (Ag.put ((Ag.put ((Ag.put ((Ag.put ((Ag.put ((Ag.put ((Ag.put ((Ag.put ((Ag.put (Ag.base rfl) rfl)) rfl)) rfl)) rfl)) rfl)) rfl)) rfl)) rfl)) rfl) (by rw [hb6]; rfl)))))))))))
 refine Xc rfl (jy [16, 17, 18, 19, 20, 21, 22, 23, 24, 25, 26] [24, 25, 26, 27, 28, 29, 30, 31, 32, 33, 34, 35, 36, 37, 38, 39, 40, 41] 26 (.bool ((r4 && ((a0.N == (0 : Int)) || (a0.Kind == (1 : Int)))) && (((a0.F : Int) == 0) || (a0.Kind == (2 : Int))))) rfl (fun Kg9 => ?_) (fun j9 => ?_))
 ·
  rcases bft (r4 && ((a0.N == (0 : Int)) || (a0.Kind == (1 : Int)))) with hb9 | hb9
  ·
   refine sbT hb9 (Xt fa26_2 rfl ?_)
   have A10 := B2.st p5 rfl
   refine ld' A10 u24 rfl (fbu (fl_of h0_0) rfl rfl rfl rfl rfl func61 rfl rfl xn61 xf61 rfl (fun b11 A11 => ?_))
   refine fz0 A11 rfl rfl rfl rfl rfl rfl rfl (Xc rfl (jy [21, 22, 23, 24, 25] [23, 24, 25, 26, 27, 28, 29, 30, 31, 32, 33, 34, 35, 36, 37, 38, 39, 40, 41] 25 (.bool (((a0.F : Int) == 0) || (a0.Kind == (2 : Int)))) rfl (fun Kg12 => ?_) (fun j12 => ?_)))
   ·
    rcases bft ((a0.F : Int) == 0) with hb12 | hb12
    ·
     exact sbT hb12 (Xj rfl (Xj rfl (Xj rfl (Xc rfl (Kg12 _ (Ag.put ((Ag.put ((Ag.put ((Ag.put (Ag.base rfl) rfl)) rfl)) rfl)) rfl) (by rw [hb12]; rfl))))))
    exact sbT hb12 (Xt fa26_0 rfl (ld' A10 u3 rfl (Xc rfl (Xc rfl (Kg12 _ (Ag.put ((Ag.put ((Ag.put ((Ag.put (Ag.base rfl) rfl)) rfl)) rfl)) rfl) (by rw [hb12]; rfl))))))
   exact Xc rfl (Kg9 _ (Ag.put ((Ag.put ((Ag.ov ((Ag.put ((Ag.put ((Ag.put ((Ag.put ((Ag.put (Ag.base rfl) rfl)) rfl)) rfl)) rfl)) rfl)) rfl)) rfl)) rfl) (by rw [hb9]; rfl))
  exact sbT hb9 (Xj rfl (Xj rfl (Xj rfl (Xj rfl (Xj rfl (Xj rfl (Xj rfl (Xj rfl (Xj rfl (Xc rfl (Kg9 _ (Ag.put ((Ag.put ((Ag.put ((Ag.put ((Ag.put ((Ag.put ((Ag.put ((Ag.put ((Ag.put ((Ag.put (Ag.base rfl) rfl)) rfl)) rfl)) rfl)) rfl)) rfl)) rfl)) rfl)) rfl)) rfl) (by rw [hb9]; rfl))))))))))))
 refine Xc rfl (jy [27, 28, 29, 30, 31, 32, 33, 34, 35, 36, 37, 38, 39, 40, 41, 42, 43] [41] 43 (.bool (((r4 && ((a0.N == (0 : Int)) || (a0.Kind == (1 : Int)))) && (((a0.F : Int) == 0) || (a0.Kind == (2 : Int)))) && (((a0.T.length : Int) == (0 : Int)) || ((a0.Kind == (3 : Int)) && (decide ((a0.T.length : Int) ≤ (40 : Int))))))) rfl (fun Kg13 => ?_) (fun j13 => ?_))
 ·
  rcases bft ((r4 && ((a0.N == (0 : Int)) || (a0.Kind == (1 : Int)))) && (((a0.F : Int) == 0) || (a0.Kind == (2 : Int)))) with hb13 | hb13
  ·
   refine sbT hb13 (Xt fa26_3 rfl ?_)
   have A14 := B2.st p5 rfl
   refine ld' A14 u22 rfl ?_
   have A16 := (z.rd h0_1).kp (kp0.st (Xk p2 p5) rfl)
   refine ln A16 u22 rfl rfl rfl rfl rfl rfl (Xc rfl (Xc rfl (jy [32, 33, 34, 35, 36, 37, 38, 39, 40, 41, 42] [40, 41] 42 (.bool (((a0.T.length : Int) == (0 : Int)) || ((a0.Kind == (3 : Int)) && (decide ((a0.T.length : Int) ≤ (40 : Int)))))) rfl (fun Kg17 => ?_) (fun j17 => ?_))))
   ·
    rcases bft ((a0.T.length : Int) == (0 : Int)) with hb17 | hb17
    ·
     exact sbT hb17 (Xj rfl (Xj rfl (Xj rfl (Xj rfl (Xj rfl (Xj rfl (Xj rfl (Xj rfl (Xj rfl (Xc rfl (Kg17 _ (Ag.put ((Ag.put ((Ag.put ((Ag.put ((Ag.put ((Ag.put ((Ag.put ((Ag.put ((Ag.put ((Ag.put (Ag.base rfl) rfl)) rfl)) rfl)) rfl)) rfl)) rfl)) rfl)) rfl)) rfl)) rfl) (by rw [hb17]; rfl))))))))))))
    refine sbT hb17 (Xt fa26_0 rfl (ld' A14 u3 rfl (Xc rfl (Xc rfl (jy [36, 37, 38, 39, 40, 41] [39, 40, 41] 41 (.bool ((a0.Kind == (3 : Int)) && (decide ((a0.T.length : Int) ≤ (40 : Int))))) rfl (fun Kg18 => ?_) (fun j18 => ?_))))))
    ·
     rcases bft (a0.Kind == (3 : Int)) with hb18 | hb18
     ·
      exact sbT hb18 (Xt fa26_3 rfl (ld' A14 u22 rfl (ln A16 u22 rfl rfl rfl rfl rfl rfl (Xc rfl (Xc rfl (Kg18 _ (Ag.put ((Ag.put ((Ag.put ((Ag.put ((Ag.put (Ag.base rfl) rfl)) rfl)) rfl)) rfl)) rfl) (by rw [hb18]; rfl)))))))
     exact sbT hb18 (Xj rfl (Xj rfl (Xj rfl (Xj rfl (Xc rfl (Kg18 _ (Ag.put ((Ag.put ((Ag.put ((Ag.put ((Ag.put (Ag.base rfl) rfl)) rfl)) rfl)) rfl)) rfl) (by rw [hb18]; rfl)))))))
    exact Xc rfl (Kg17 _ (Ag.put ((Ag.put ((Ag.ov ((Ag.put ((Ag.put ((Ag.put ((Ag.put (Ag.base rfl) rfl)) rfl)) rfl)) rfl)) rfl)) rfl)) rfl) (by rw [hb17]; rfl))
   exact Xc rfl (Kg13 _ (Ag.put ((Ag.put ((Ag.ov ((Ag.put ((Ag.put ((Ag.put ((Ag.put ((Ag.put (Ag.base rfl) rfl)) rfl)) rfl)) rfl)) rfl)) rfl)) rfl)) rfl) (by rw [hb13]; rfl))
  refine sbT hb13 (Xj rfl (Xj rfl (Xj rfl (Xj rfl (Xj rfl (Xj rfl (Xj rfl (Xj rfl (Xj rfl (Xj rfl (Xj rfl (Xj rfl (Xj rfl (Xj rfl ?_))))))))))))))
  exact Xj rfl (Xc rfl (Kg13 _ (Ag.put ((Ag.put ((Ag.put ((Ag.put ((Ag.put ((Ag.put ((Ag.put ((Ag.put ((Ag.put ((Ag.put ((Ag.put ((Ag.put ((Ag.put ((Ag.put ((Ag.put ((Ag.put (Ag.base rfl) rfl)) rfl)) rfl)) rfl)) rfl)) rfl)) rfl)) rfl)) rfl)) rfl)) rfl)) rfl)) rfl)) rfl)) rfl)) rfl) (by rw [hb13]; rfl)))
 refine Xc rfl (dn ?_)
 exact re rfl func26 rfl (r_t rfl Xg) rfl ⟨_, rfl, rfl, z.ky (kp0.st (Xk p2 p5) rfl)⟩
section
open Go.Shelf
shelf_lay LaysM.n171 Nm 171 at Tryz as lay_itoa
theorem grow_ky (w : World) (k : Nat) (os : Array Obj) : Ky [] w (Sort.grow (w.drewN k) os) := by
  refine ⟨rfl, ?_, rfl, ?_, fun b hb _ => ?_⟩
  · simp [Sort.grow]
  · simp [Sort.grow]
  · simp [Sort.grow, Array.getElem?_append_left hb]
def strconv_Itoa.f (a0 : Int) : Option (ByteArray) := if -9223372036854775808 ≤ a0 ∧ a0 ≤ 9223372036854775807 then some ⟨(Lib.itoa a0).toArray⟩ else none
def strconv_Itoa.Q (w : World) (F : Nat → Prop) (r : ByteArray) (v : Value) (w' : World) : Prop := v = (.string r) ∧ Ky [] w w'
theorem strconv_Itoa.calls (a0 : Int) (w : World) (F : Nat → Prop) (hG : GT.rd w [] () F) (r : ByteArray) (m : strconv_Itoa.f a0 = some r) :
    Calls Tryz.prog 62 #[.int .i64 a0] w (RT (strconv_Itoa.Q w F) r) := by
  unfold strconv_Itoa.f at m
  split at m
  · rename_i h
    cases m
    refine Calls.mono (Any.strconv_Itoa lay_itoa a0 h.1 h.2 w hG.2.1) fun e w' ⟨he, k, os, hw⟩ => ⟨_, he, rfl, ?_⟩
    rw [hw]; exact grow_ky w k os
  · cases m
end

def impl_FloatBits.f (a0 : Nat) : Option (Int) :=
 (if (fcmp .f64 a0 a0 != some .eq) = true then (some (9221120237041090560 : Int)) else (if isN a0 = false then (some (a0 : Int)) else none))
def impl_FloatBits.Q (w : World) (F : Nat → Prop) (r : Int) (v : Value) (w' : World) : Prop :=
 v = (.int .u64 r) ∧ Ky [] w w'
theorem impl_FloatBits.calls (a0 : Nat) (w : World) (F : Nat → Prop) (w0_0 : Value) (h0_0 : Kd.flt.rd w [w0_0] a0 F) (r : Int) (m : impl_FloatBits.f a0 = some r) :
  Calls prog 88 #[w0_0] w (RT (impl_FloatBits.Q w F) r) := by
 obtain ⟨s0, rfl, kp0, z⟩ := Xq w F
 have A0_0 := fl_of h0_0
 refine Xd (args := [w0_0]) func88 ntmps88 rfl rfl m ?_
 unfold impl_FloatBits.f
 refine sr (Xc rfl (dn (sq (sr (mv' w0_0 rfl (mv' w0_0 rfl (fq_ A0_0 A0_0 rfl rfl rfl rfl rfl rfl rfl rfl (dn (cd rfl (fun h1 => ?_) (fun h1 => ?_))))))))))
 ·
  exact sr (Xc rfl (dn (re rfl func88 rfl (r_t rfl Xg) rfl ⟨_, rfl, rfl, z.ky kp0⟩)))
 exact sk (sr (mv' w0_0 rfl (fb_ A0_0 rfl rfl rfl rfl rfl func61 rfl rfl xn61 xf61 rfl (Xc rfl (dn (re rfl func88 rfl (r_t rfl Xg) rfl ⟨_, rfl, rfl, z.ky kp0⟩))))))
def impl_highFirst.b0 (a0 : Int) (x1 : (List Int) × Int) : Option (((List Int) × Int) ⊕ (List Int)) :=
 (if (decide (x1.2 ≥ (0 : Int))) = true then (if 0 ≤ x1.2 then (if x1.1.length + ([(IntKind.wrap .u8 (ishr .u64 a0 x1.2))]).length ≤ Lim then (some (Sum.inl ((x1.1 ++ [(IntKind.wrap .u8 (ishr .u64 a0 x1.2))]), (IntKind.wrap .i64 (x1.2 - (8 : Int)))))) else none) else none) else ((some x1.1).bind fun o => some (Sum.inr o)))
def impl_highFirst.f (a0 : Int) : Option ((List Int)) :=
 (iter (impl_highFirst.b0 a0) (([] : (List Int)), (56 : Int)))
def impl_highFirst.Q (w : World) (F : Nat → Prop) (r : (List Int)) (v : Value) (w' : World) : Prop :=
 FO Ya w w' [v] r ∧ Ky [] w w'
theorem impl_highFirst.calls (a0 : Int) (w : World) (F : Nat → Prop)   (r : (List Int)) (m : impl_highFirst.f a0 = some r) :
  Calls prog 87 #[(.int .u64 a0)] w (RT (impl_highFirst.Q w F) r) := by
 obtain ⟨s0, rfl, kp0, z⟩ := Xq w F
 refine Xd (args := [(.int .u64 a0)]) func87 ntmps87 rfl rfl m ?_
 unfold impl_highFirst.f
 refine sr (Xc rfl (dn (sr (Xc rfl (dn (sq (sr (Xc rfl (dn (bl (lpI (fun (x1 : (List Int) × Int) e w => ∃ (s : St) (e0 : Env) (vx1_0 : Value), w = s.w ∧ e = upd (upd (upd e0 0 (.int .u64 a0)) 3 vx1_0) 4 (iI x1.2) ∧ Kp s0 s ∧ OwF Ya s [vx1_0] x1.1 40) ⟨s0, _, (.slice none 0 0), rfl, (ue (ue (ue rfl rfl) rfl) rfl), kp0, (Xu 5 (Kd.int .u8) _ 40)⟩ (fun g1 ih1 => ?_))))))))))))
 rintro x1 _ _ ⟨s2, _, vx1_0, rfl, rfl, Kx1, Ax1_0⟩
 unfold impl_highFirst.b0
 refine sq (sr (Xc rfl (Xc rfl (dn (cd rfl (fun h4 => ?_) (fun h4 => ?_))))))
 ·
  refine sk (sq (bl (rg (mv' vx1_0 rfl (Xc rfl (Xc rfl (shr_ rfl rfl rfl rfl rfl rfl rfl (cv u5 u53 rfl rfl rfl rfl rfl rfl (ltF' (K := (Kd.int .u8)) (cells := [(.int .u8 (IntKind.wrap .u8 (ishr .u64 a0 x1.2)))]) [(IntKind.wrap .u8 (ishr .u64 a0 x1.2))] 41 fl_int u22 z5 o5 (fun w => (Xv _ _ _)) rfl rfl (fun v5 s5 p5 A5 => ?_))))))))))
  refine apF fl_int sl22 (Ax1_0.st p5 rfl) A5.rd rfl rfl rfl rfl rfl rfl rfl (fun v8 s8 p8 A8 => ?_)
  refine asg' v8 rfl (dn (ib (rg (Xc rfl (Xc rfl (Xc rfl (dn ?_)))))))
  exact lb ih1 ⟨s8, _, v8, rfl, (ue (ue (ue rfl rfl) rfl) rfl), (Kx1.st (Xk p5 p8) rfl), A8⟩
 exact xt rfl (sgb (sr (mv' vx1_0 rfl (asg' vx1_0 rfl (dn (re rfl func87 rfl (r_t rfl Xg) rfl ⟨_, rfl, Ax1_0.fo Kx1 rfl z.l, z.ky Kx1⟩))))))
def impl_hexText.b0 (a0 : (List Int)) (x2 : (List Int) × Int) : Option (((List Int) × Int) ⊕ ByteArray) :=
 (if (decide (x2.2 < (a0.length : Int))) = true then (if 0 ≤ x2.2 ∧ x2.2 < (a0.length : Int) then (if 0 ≤ (ishr .u8 (at_ a0 x2.2) (4 : Int)) ∧ (ishr .u8 (at_ a0 x2.2) (4 : Int)) < ((⟨#[48, 49, 50, 51, 52, 53, 54, 55, 56, 57, 97, 98, 99, 100, 101, 102]⟩ : ByteArray).size : Int) then (if 0 ≤ (iand .u8 (at_ a0 x2.2) (15 : Int)) ∧ (iand .u8 (at_ a0 x2.2) (15 : Int)) < ((⟨#[48, 49, 50, 51, 52, 53, 54, 55, 56, 57, 97, 98, 99, 100, 101, 102]⟩ : ByteArray).size : Int) then (if x2.1.length + ([(at_ (bts (⟨#[48, 49, 50, 51, 52, 53, 54, 55, 56, 57, 97, 98, 99, 100, 101, 102]⟩ : ByteArray)) (ishr .u8 (at_ a0 x2.2) (4 : Int))), (at_ (bts (⟨#[48, 49, 50, 51, 52, 53, 54, 55, 56, 57, 97, 98, 99, 100, 101, 102]⟩ : ByteArray)) (iand .u8 (at_ a0 x2.2) (15 : Int)))]).length ≤ Lim then (some (Sum.inl ((x2.1 ++ [(at_ (bts (⟨#[48, 49, 50, 51, 52, 53, 54, 55, 56, 57, 97, 98, 99, 100, 101, 102]⟩ : ByteArray)) (ishr .u8 (at_ a0 x2.2) (4 : Int))), (at_ (bts (⟨#[48, 49, 50, 51, 52, 53, 54, 55, 56, 57, 97, 98, 99, 100, 101, 102]⟩ : ByteArray)) (iand .u8 (at_ a0 x2.2) (15 : Int)))]), (IntKind.wrap .i64 (x2.2 + (1 : Int)))))) else none) else none) else none) else none) else ((some (str x2.1)).bind fun o => some (Sum.inr o)))
def impl_hexText.f (a0 : (List Int)) : Option (ByteArray) :=
 (iter (impl_hexText.b0 a0) (([] : (List Int)), (0 : Int)))
def impl_hexText.Q (w : World) (F : Nat → Prop) (r : ByteArray) (v : Value) (w' : World) : Prop :=
 v = (.string r) ∧ Ky [] w w'
theorem impl_hexText.calls (a0 : (List Int)) (w : World) (F : Nat → Prop) (w0_0 : Value) (h0_0 : Ya.rd w [w0_0] a0 F) (r : ByteArray) (m : impl_hexText.f a0 = some r) :
  Calls prog 64 #[w0_0] w (RT (impl_hexText.Q w F) r) := by
 obtain ⟨s0, rfl, kp0, z⟩ := Xq w F
 have A0_0 := z.rd h0_0
 refine Xd (args := [w0_0]) func64 ntmps64 rfl rfl m ?_
 unfold impl_hexText.f
 refine sr (Xc rfl (dn (sr (Xc rfl (dn (sq (sr (mv' w0_0 rfl (ln A0_0 u22 rfl rfl rfl rfl rfl rfl (Xc rfl (dn (bl (lpI (fun (x2 : (List Int) × Int) e w => ∃ (s : St) (e0 : Env) (vx2_0 : Value), w = s.w ∧ e = upd (upd (upd (upd e0 3 vx2_0) 6 w0_0) 7 (iI (a0.length : Int))) 8 (iI x2.2) ∧ Kp s0 s ∧ OwF Ya s [vx2_0] x2.1 40) ⟨s0, _, (.slice none 0 0), rfl, (ue (ue (ue (ue rfl rfl) rfl) rfl) rfl), kp0, (Xu 5 (Kd.int .u8) _ 40)⟩ (fun g2 ih2 => ?_))))))))))))))
 rintro x2 _ _ ⟨s3, _, vx2_0, rfl, rfl, Kx2, Ax2_0⟩
 unfold impl_hexText.b0
 refine sr (Xc rfl (dn (sq (cd rfl (fun h5 => ?_) (fun h5 => ?_)))))
 ·
  refine sk (sq (bl (sr ?_)))
  refine ix (A0_0.kp Kx2) u22 z5 rfl rfl rfl rfl rfl rfl rfl rfl (fun ad7 es7 h0_7 h1_7 he7 ce7 ia7 => ?_)
  obtain rfl := he7
  refine lc0 ce7 u5 rfl rfl rfl rfl rfl rfl rfl rfl (Xc rfl (dn (zdraw [[], [], [1], [2], [], [4], [5], [3, 6], [0, 7], [8, 8, 0, 1, 2, 3, 4, 5, 6, 7, 8]] [some 12, some 13, some 14, some 15, some 16, some 17, some 18, some 19, some 20, some 3] [[3], [5], [13], [14], [5], [16], [17], [15, 18], [12, 19], [20]] [0, 1, 2, 3, 4, 5, 6, 7, 8, 9] ⟨by kernel_rfl, by kernel_rfl, by kernel_rfl⟩ (by kernel_rfl) (fun s9 p9 l9 tb9 zd9 => ?_))))
  refine mg fun hg13 => (mg fun hg17 => (zstep 7 [some 12] tb9 (((((((zd9.add 0 12 vx2_0 rfl).add 1 13 (.int .u8 (at_ a0 x2.2)) rfl).add 2 14 (.int .u8 (ishr .u8 (at_ a0 x2.2) (4 : Int))) rfl).add 3 15 (.int .u8 (at_ (bts (⟨#[48, 49, 50, 51, 52, 53, 54, 55, 56, 57, 97, 98, 99, 100, 101, 102]⟩ : ByteArray)) (ishr .u8 (at_ a0 x2.2) (4 : Int)))) rfl).add 4 16 (.int .u8 (at_ a0 x2.2)) rfl).add 5 17 (.int .u8 (iand .u8 (at_ a0 x2.2) (15 : Int))) rfl).add 6 18 (.int .u8 (at_ (bts (⟨#[48, 49, 50, 51, 52, 53, 54, 55, 56, 57, 97, 98, 99, 100, 101, 102]⟩ : ByteArray)) (iand .u8 (at_ a0 x2.2) (15 : Int)))) rfl) (Xb (sxi_q u9 hg17 rfl rfl rfl rfl rfl rfl rfl) rfl (Xb (Xm rfl) rfl (Xb (Xm rfl) rfl (Xb (sxi_q u9 hg13 rfl rfl rfl rfl rfl rfl rfl) rfl (Xb (shrK_q rfl rfl rfl rfl rfl rfl rfl rfl) rfl (Xb (Xm rfl) rfl (Xb (mv_q vx2_0 rfl rfl rfl rfl rfl rfl) rfl Xo))))))) (by kernel_rfl) rfl (fun l19 e19 zd19 => ?_)))
  refine ltF' (K := (Kd.int .u8)) (cells := [(.int .u8 (at_ (bts (⟨#[48, 49, 50, 51, 52, 53, 54, 55, 56, 57, 97, 98, 99, 100, 101, 102]⟩ : ByteArray)) (ishr .u8 (at_ a0 x2.2) (4 : Int)))), (.int .u8 (at_ (bts (⟨#[48, 49, 50, 51, 52, 53, 54, 55, 56, 57, 97, 98, 99, 100, 101, 102]⟩ : ByteArray)) (iand .u8 (at_ a0 x2.2) (15 : Int))))]) [(at_ (bts (⟨#[48, 49, 50, 51, 52, 53, 54, 55, 56, 57, 97, 98, 99, 100, 101, 102]⟩ : ByteArray)) (ishr .u8 (at_ a0 x2.2) (4 : Int))), (at_ (bts (⟨#[48, 49, 50, 51, 52, 53, 54, 55, 56, 57, 97, 98, 99, 100, 101, 102]⟩ : ByteArray)) (iand .u8 (at_ a0 x2.2) (15 : Int)))] 41 fl_int u22 z5 o5 (fun w => (Xv _ _ _)) rfl rfl (fun v20 s20 p20 A20 => ?_)
  refine zdone (L' := [0]) (D' := [1, 2, 4, 5, 3, 6, 7]) zd19 rfl rfl rfl (fun zd22 => ?_)
  refine zfin [8, 9] tb9 zd22 (Xb (mv_q vx2_0 rfl rfl rfl rfl rfl rfl) rfl Xo) (by kernel_rfl) (by decide) (apF fl_int sl22 (Ax2_0.st (Xk p9 p20) rfl) A20.rd rfl rfl rfl rfl rfl rfl rfl (fun v24 s24 p24 A24 => ?_))
  refine asg' v24 rfl (dn (ib (rg (Xc rfl (Xc rfl (dn ?_))))))
  exact lb ih2 ⟨s24, _, v24, rfl, (ue (ue (ue (ue rfl rfl) rfl) rfl) rfl), (Kx2.st (Xw p9 p20 p24) rfl), A24⟩
 exact xt rfl (sgb (sr (mv' vx2_0 rfl (b2s Ax2_0.rd u22 u9 u5 rfl rfl rfl rfl rfl rfl (Xc rfl (dn (re rfl func64 rfl (r_t rfl Xg) rfl ⟨_, rfl, rfl, z.ky Kx2⟩)))))))
def impl_bitsText.f (a0 : Nat) : Option (ByteArray) :=
 ((impl_FloatBits.f a0).bind fun r1 => ((impl_highFirst.f r1).bind fun r3 => ((impl_hexText.f r3).bind fun r6 => (some r6))))
def impl_bitsText.Q (w : World) (F : Nat → Prop) (r : ByteArray) (v : Value) (w' : World) : Prop :=
 v = (.string r) ∧ Ky [] w w'
theorem impl_bitsText.calls (a0 : Nat) (w : World) (F : Nat → Prop) (w0_0 : Value) (h0_0 : Kd.flt.rd w [w0_0] a0 F) (r : ByteArray) (m : impl_bitsText.f a0 = some r) :
  Calls prog 63 #[w0_0] w (RT (impl_bitsText.Q w F) r) := by
 obtain ⟨s0, rfl, kp0, z⟩ := Xq w F
 refine Xd (args := [w0_0]) func63 ntmps63 rfl rfl m ?_
 unfold impl_bitsText.f
 refine sr (Xc rfl (dn (sr (mv' w0_0 rfl (clV 40 rfl func88 rfl (impl_FloatBits.calls a0 s0.w (mm [] s0) w0_0 (Xh (s := s0) (fl_of h0_0))) (fun r1 s2 p2 n2 => ?_))))))
 refine clO 41 rfl func87 rfl (impl_highFirst.calls r1 s2.w (mm [] s2)) (fun r3 v3_0 s4 p4 A3_0 => ?_)
 refine clV 42 rfl func64 rfl (impl_hexText.calls r3 s4.w (mm [41] s4) v3_0 A3_0.rd) (fun r6 s7 p7 n7 => ?_)
 refine Xc rfl (dn ?_)
 exact re rfl func63 rfl (r_t rfl Xg) rfl ⟨_, rfl, rfl, z.ky (kp0.st (Xw p2 p4 p7) rfl)⟩
def impl_itemText.f (a0 : Item) : Option (ByteArray) :=
 (if (a0.Kind == (1 : Int)) = true then ((strconv_Itoa.f a0.N).bind fun r6 => (if (⟨#[105]⟩ : ByteArray).size + r6.size ≤ Lim then (some ((⟨#[105]⟩ : ByteArray) ++ r6)) else none)) else (if (a0.Kind == (2 : Int)) = true then ((impl_bitsText.f a0.F).bind fun r10 => (if (⟨#[102]⟩ : ByteArray).size + r10.size ≤ Lim then (some ((⟨#[102]⟩ : ByteArray) ++ r10)) else none)) else (if (a0.Kind == (3 : Int)) = true then ((impl_hexText.f a0.T).bind fun r16 => (if (⟨#[116]⟩ : ByteArray).size + r16.size ≤ Lim then (some ((⟨#[116]⟩ : ByteArray) ++ r16)) else none)) else (some (⟨#[45]⟩ : ByteArray)))))
def impl_itemText.Q (w : World) (F : Nat → Prop) (r : ByteArray) (v : Value) (w' : World) : Prop :=
 v = (.string r) ∧ Ky [] w w'
theorem impl_itemText.calls (a0 : Item) (w : World) (F : Nat → Prop) (w0_0 : Value) (w0_1 : Value) (hG : GT.rd w [] () F) (h0_0 : Kd.flt.rd w [w0_0] a0.F F) (h0_1 : Ya.rd w [w0_1] a0.T F) (r : ByteArray) (m : impl_itemText.f a0 = some r) :
  Calls prog 27 #[(.agg #[(iI a0.Kind), (iI a0.N), w0_0, w0_1])] w (RT (impl_itemText.Q w F) r) := by
 obtain ⟨s0, rfl, kp0, z⟩ := Xq w F
 refine Xd (args := [(.agg #[(iI a0.Kind), (iI a0.N), w0_0, w0_1])]) func27 ntmps27 rfl rfl m ?_
 unfold impl_itemText.f
 refine sr (bx (cs := [(iI a0.Kind), (iI a0.N), w0_0, w0_1]) 40 rfl rfl rfl rfl rfl rfl (fun b2 s2 p2 B2 => ?_))
 refine Xc rfl (dn (sq (sr (Xt fa26_0 rfl (ld' B2 u3 rfl (dn (bl (sr (Xc rfl (Xc rfl (dn (cd rfl (fun h4 => ?_) (fun h4 => ?_)))))))))))))
 ·
  refine sr (Xt fa26_1 rfl (ld' B2 u3 rfl ?_))
  have K5 := kp0.st p2 rfl
  refine clV 41 rfl func62 rfl (strconv_Itoa.calls a0.N s2.w (mm [0] s2) ((z.rd hG).kp K5)) (fun r6 s7 p7 n7 => ?_)
  refine sad rfl rfl rfl rfl rfl rfl rfl (Xc rfl (dn ?_))
  exact re rfl func27 rfl (r_t rfl Xg) rfl ⟨_, rfl, rfl, z.ky (K5.st p7 rfl)⟩
 refine sr (Xc rfl (Xc rfl (dn (cd rfl (fun h9 => ?_) (fun h9 => ?_)))))
 ·
  refine sr (Xt fa26_2 rfl (ld' B2 u24 rfl (clV 42 rfl func63 rfl (impl_bitsText.calls a0.F s2.w (mm [] s2) w0_0 (Xh (s := s2) (fl_of h0_0))) (fun r10 s11 p11 n11 => ?_))))
  refine sad rfl rfl rfl rfl rfl rfl rfl (Xc rfl (dn ?_))
  exact re rfl func27 rfl (r_t rfl Xg) rfl ⟨_, rfl, rfl, z.ky (kp0.st (Xk p2 p11) rfl)⟩
 refine sr (Xc rfl (Xc rfl (dn (cd rfl (fun h13 => ?_) (fun h13 => ?_)))))
 ·
  refine sr (Xt fa26_3 rfl (ld' B2 u22 rfl ?_))
  have K14 := kp0.st p2 rfl
  refine clV 43 rfl func64 rfl (impl_hexText.calls a0.T s2.w (mm [0] s2) w0_1 ((z.rd h0_1).kp K14)) (fun r16 s17 p17 n17 => ?_)
  refine sad rfl rfl rfl rfl rfl rfl rfl (Xc rfl (dn ?_))
  exact re rfl func27 rfl (r_t rfl Xg) rfl ⟨_, rfl, rfl, z.ky (K14.st p17 rfl)⟩
 refine sk (ib (sr (Xc rfl (dn ?_))))
 exact re rfl func27 rfl (r_t rfl Xg) rfl ⟨_, rfl, rfl, z.ky (kp0.st p2 rfl)⟩
def impl_ItemText.f (a0 : Item) : Option ((List Int)) :=
 ((impl_ItemOk.f a0).bind fun r6 => (if (!r6) = true then (some ([] : (List Int))) else ((impl_itemText.f a0).bind fun r13 => (if r13.size ≤ Lim then (some (bts r13)) else none))))
def impl_ItemText.Q (w : World) (F : Nat → Prop) (r : (List Int)) (v : Value) (w' : World) : Prop :=
 FO Ya w w' [v] r ∧ Ky [] w w'
theorem impl_ItemText.calls (a0 : Item) (w : World) (F : Nat → Prop) (w0_0 : Value) (w0_1 : Value) (hG : GT.rd w [] () F) (h0_0 : Kd.flt.rd w [w0_0] a0.F F) (h0_1 : Ya.rd w [w0_1] a0.T F) (r : (List Int)) (m : impl_ItemText.f a0 = some r) :
  Calls prog 7 #[(.agg #[(iI a0.Kind), (iI a0.N), w0_0, w0_1])] w (RT (impl_ItemText.Q w F) r) := by
 obtain ⟨s0, rfl, kp0, z⟩ := Xq w F
 have A0_0 := fl_of h0_0
 have A0_1 := z.rd h0_1
 refine Xd (args := [(.agg #[(iI a0.Kind), (iI a0.N), w0_0, w0_1])]) func7 ntmps7 rfl rfl m ?_
 unfold impl_ItemText.f
 refine sr (bx (cs := [(iI a0.Kind), (iI a0.N), w0_0, w0_1]) 40 rfl rfl rfl rfl rfl rfl (fun b2 s2 p2 B2 => ?_))
 refine Xc rfl (dn (sq (sr (lda' (es := [(iI a0.Kind), (iI a0.N), w0_0, w0_1]) B2 u26 z26 rfl ?_))))
 have K4 := kp0.st p2 rfl
 refine clV 41 rfl func26 rfl (impl_ItemOk.calls a0 s2.w (mm [0] s2) w0_0 w0_1 ((Xh (s := s2) A0_0).sub (D := [0]) rfl) (A0_1.kp K4)) (fun r6 s7 p7 n7 => ?_)
 refine Xc rfl (dn (cd rfl (fun h8 => ?_) (fun h8 => ?_)))
 ·
  refine sr (Xc rfl (dn ?_))
  have K9 := K4.st p7 rfl
  exact re rfl func7 rfl (r_t rfl Xg) rfl ⟨_, rfl, (Xu 5 (Kd.int .u8) s7 40).fo K9 rfl z.l, z.ky K9⟩
 refine sk (sr ?_)
 refine lda' (es := [(iI a0.Kind), (iI a0.N), w0_0, w0_1]) (B2.st p7 rfl) u26 z26 rfl ?_
 have K11 := K4.st p7 rfl
 refine clV 42 rfl func27 rfl (impl_itemText.calls a0 s7.w (mm [0] s7) w0_0 w0_1 ((z.rd hG).kp K11) ((Xh (s := s7) A0_0).sub (D := [0]) rfl) (A0_1.kp K11)) (fun r13 s14 p14 n14 => ?_)
 refine s2b 43 u9 u22 u5 rfl rfl rfl rfl rfl rfl (fun v15 s15 p15 A15 => ?_)
 refine asg' v15 rfl (dn ?_)
 have K17 := K11.st (Xk p14 p15) rfl
 exact re rfl func7 rfl (r_t rfl Xg) rfl ⟨_, rfl, A15.fo K17 rfl z.l, z.ky K17⟩
section
open Go.Shelf
shelf_lay LaysC.n172 Nm 172 at Tryz as lay_atoi
theorem bytes_ky (w : World) (e : TypeId) (t : ByteArray) : Ky [] w (Lib.bytesWorld w e t) := ⟨rfl, rfl, rfl, by rw [Lib.bytesWorld_size]; omega, fun b hb _ => Lib.bytesWorld_at_old w e t b hb⟩
def strconv_Atoi.f (a0 : ByteArray) : Option (Int × Bool) :=
  if a0.size ≤ Lim then some (match Lib.atoiAll a0.data.toList with
    | .ok v => (v, true)
    | .«syntax» => (0, false)
    | .range => (Lib.atoiSat a0.data.toList, false)) else none
def strconv_Atoi.Q (w : World) (F : Nat → Prop) (r : Int × Bool) (v : Value) (w' : World) : Prop := ∃ v0 : Value, v = .tuple #[.int .i64 r.1, v0] ∧ EV v0 r.2 ∧ Ky [] w w'
theorem strconv_Atoi.calls (a0 : ByteArray) (w : World) (F : Nat → Prop) (hG : GU.rd w [] () F) (r : Int × Bool) (m : strconv_Atoi.f a0 = some r) :
    Calls Tryz.prog 65 #[.string a0] w (RT (strconv_Atoi.Q w F) r) := by
  unfold strconv_Atoi.f at m
  split at m
  · rename_i hl
    unfold Lim at hl
    obtain ⟨_, ⟨_, ⟨t1, p1, hs⟩, ⟨t2, p2, hr⟩⟩, _⟩ := hG
    cases m
    cases h : Lib.atoiAll a0.data.toList with
    | ok v => exact Calls.mono (Any.strconv_Atoi_ok lay_atoi a0 (by omega) v h w) fun e w' ⟨he, hw⟩ => ⟨_, he, .nilIface, rfl, .inl ⟨rfl, rfl⟩, by
        rcases hw with hw | ⟨t, hw⟩
        · rw [hw]; exact Ky.refl w
        · rw [hw]; exact bytes_ky w _ t⟩
    | «syntax» => exact Calls.mono (Any.strconv_Atoi_syntax_var lay_atoi a0 (by omega) h t1 p1 w hs) fun e w' ⟨N, he, _, _, hb⟩ => ⟨_, he, _, rfl, .inr ⟨rfl, _, _, rfl⟩, Ky.of_below hb⟩
    | range => exact Calls.mono (Any.strconv_Atoi_range_var lay_atoi a0 (by omega) h t2 p2 w hr) fun e w' ⟨N, he, _, _, hb⟩ => ⟨_, he, _, rfl, .inr ⟨rfl, _, _, rfl⟩, Ky.of_below hb⟩
  · cases m
end

section
open Go.Shelf
shelf_lay Lays.n137 Nm 137 at Tryz as lay_indexbyte
def strings_IndexByte.f (a0 : ByteArray) (a1 : Int) : Option (Int) := some (Lib.indexByte a0.data.toList a1.toNat.toUInt8)
def strings_IndexByte.Q (w : World) (F : Nat → Prop) (r : Int) (v : Value) (w' : World) : Prop := v = (.int .i64 r) ∧ Ky [] w w'
theorem strings_IndexByte.calls (a0 : ByteArray) (a1 : Int) (w : World) (F : Nat → Prop) (r : Int) (m : strings_IndexByte.f a0 a1 = some r) :
    Calls Tryz.prog 91 #[.string a0, .int .u8 a1] w (RT (strings_IndexByte.Q w F) r) := by
  cases m
  exact Calls.mono (Any.strings_IndexByte lay_indexbyte a0 a1 w) fun e w' ⟨he, hw⟩ => ⟨_, he, rfl, by rw [hw]; exact Ky.refl w⟩
end

def impl_readHex.b0 (a0 : ByteArray) (x2 : (List Int) × Int) : Option (((List Int) × Int) ⊕ ((List Int) × Bool)) :=
 (if (decide (x2.2 < (a0.size : Int))) = true then (if 0 ≤ x2.2 ∧ x2.2 < (a0.size : Int) then (if 0 ≤ (IntKind.wrap .i64 (x2.2 + (1 : Int))) ∧ (IntKind.wrap .i64 (x2.2 + (1 : Int))) < (a0.size : Int) then ((strings_IndexByte.f (⟨#[48, 49, 50, 51, 52, 53, 54, 55, 56, 57, 97, 98, 99, 100, 101, 102]⟩ : ByteArray) (at_ (bts a0) x2.2)).bind fun r17 => ((strings_IndexByte.f (⟨#[48, 49, 50, 51, 52, 53, 54, 55, 56, 57, 97, 98, 99, 100, 101, 102]⟩ : ByteArray) (at_ (bts a0) (IntKind.wrap .i64 (x2.2 + (1 : Int))))).bind fun r20 => (if ((decide (r17 < (0 : Int))) || (decide (r20 < (0 : Int)))) = true then (some (Sum.inr (([] : (List Int)), false))) else (if x2.1.length + ([(IntKind.wrap .u8 (ior .i64 (ishl .i64 r17 (4 : Int)) r20))]).length ≤ Lim then (some (Sum.inl ((x2.1 ++ [(IntKind.wrap .u8 (ior .i64 (ishl .i64 r17 (4 : Int)) r20))]), (IntKind.wrap .i64 (x2.2 + (2 : Int)))))) else none)))) else none) else none) else ((some (x2.1, true)).bind fun o => some (Sum.inr o)))
def impl_readHex.f (a0 : ByteArray) : Option ((List Int) × Bool) :=
 (if (((a0.size : Int).tmod (2 : Int)) == (1 : Int)) = true then (some (([] : (List Int)), false)) else (iter (impl_readHex.b0 a0) (([] : (List Int)), (0 : Int))))
def impl_readHex.Q (w : World) (F : Nat → Prop) (r : (List Int) × Bool) (v : Value) (w' : World) : Prop :=
 ∃ (v0 : Value), v = .tuple #[v0, (.bool r.2)] ∧ FO Ya w w' [v0] r.1 ∧ Ky [] w w'
theorem impl_readHex.calls (a0 : ByteArray) (w : World) (F : Nat → Prop)   (r : (List Int) × Bool) (m : impl_readHex.f a0 = some r) :
  Calls prog 66 #[(.string a0)] w (RT (impl_readHex.Q w F) r) := by
 obtain ⟨s0, rfl, kp0, z⟩ := Xq w F
 refine Xd (args := [(.string a0)]) func66 ntmps66 rfl rfl m ?_
 unfold impl_readHex.f
 refine sr (Xc rfl (Xc rfl (dn (sq (sr (Xc rfl (lns u9 rfl rfl rfl rfl rfl rfl (remK rfl rfl rfl rfl rfl rfl rfl rfl (Xc rfl (dn (cd rfl (fun h1 => ?_) (fun h1 => ?_))))))))))))
 ·
  exact sr (Xc rfl (Xc rfl (dn (re rfl func66 rfl (r_t rfl (r_t rfl Xg)) rfl ⟨_, rfl, (.slice none 0 0), rfl, (Xu 5 (Kd.int .u8) s0 40).fo kp0 rfl z.l, z.ky kp0⟩))))
 refine sk (sr (Xc rfl (dn (sq (sr (Xc rfl (dn (bl (lpI (fun (x2 : (List Int) × Int) e w => ∃ (s : St) (e0 : Env) (vx2_0 : Value), w = s.w ∧ e = upd (upd (upd e0 0 (.string a0)) 4 vx2_0) 5 (iI x2.2) ∧ Kp s0 s ∧ OwF Ya s [vx2_0] x2.1 40) ⟨s0, _, (.slice none 0 0), rfl, (ue (ue (ue rfl rfl) rfl) rfl), kp0, (Xu 5 (Kd.int .u8) _ 40)⟩ (fun g2 ih2 => ?_))))))))))
 rintro x2 _ _ ⟨s3, _, vx2_0, rfl, rfl, Kx2, Ax2_0⟩
 unfold impl_readHex.b0
 refine sq (sr (Xc rfl (Xc rfl (lns u9 rfl rfl rfl rfl rfl rfl (Xc rfl (dn (cd rfl (fun h5 => ?_) (fun h5 => ?_))))))))
 ·
  refine sk (sq (bl (sq (zdraw [[], [], [0, 1], [2], [], [], [5], [4, 6], [7, 3], [3, 8, 0, 1, 2, 3], [8, 9, 0, 1, 2, 3, 4, 5, 6, 7, 8, 9]] [some 18, some 19, some 20, some 21, some 22, some 23, some 24, some 25, some 26, some 6, some 7] [[0], [5], [18, 19], [20], [0], [5], [23], [22, 24], [25], [21], [26]] [0, 1, 2, 3, 4, 5, 6, 7, 8, 9, 10] ⟨by kernel_rfl, by kernel_rfl, by kernel_rfl⟩ (by kernel_rfl) (fun s6 p6 l6 tb6 zd6 => ?_)))))
  refine mg fun hg9 => (mg fun hg14 => (zstep 3 [some 25, some 24, some 23, some 22] tb6 (((((((zd6.add 0 18 (.string a0) rfl).add 1 19 (iI x2.2) rfl).add 2 20 (.int .u8 (at_ (bts a0) x2.2)) rfl).add 4 22 (.string a0) rfl).add 5 23 (iI x2.2) rfl).add 6 24 (iI (IntKind.wrap .i64 (x2.2 + (1 : Int)))) rfl).add 7 25 (.int .u8 (at_ (bts a0) (IntKind.wrap .i64 (x2.2 + (1 : Int))))) rfl) (Xb (sxi_q u9 hg14 rfl rfl rfl rfl rfl rfl rfl) rfl (Xb (Xm rfl) rfl (Xb (Xm rfl) rfl (Xb (Xm rfl) rfl (Xb (sxi_q u9 hg9 rfl rfl rfl rfl rfl rfl rfl) rfl (Xb (Xm rfl) rfl (Xb (Xm rfl) rfl Xo))))))) (by kernel_rfl) rfl (fun l16 e16 zd16 => ?_)))
  refine clV 41 rfl func91 rfl (strings_IndexByte.calls (⟨#[48, 49, 50, 51, 52, 53, 54, 55, 56, 57, 97, 98, 99, 100, 101, 102]⟩ : ByteArray) (at_ (bts a0) x2.2) s6.w (mm [] s6)) (fun r17 s18 p18 n18 => ?_)
  refine zdone (L' := [7, 6, 5, 4]) (D' := [0, 1, 2, 3]) zd16 rfl rfl rfl (fun zd19 => ?_)
  refine zfin [8, 9, 10] tb6 zd19 (Xb (sxi_q u9 hg14 rfl rfl rfl rfl rfl rfl rfl) rfl (Xb (Xm rfl) rfl (Xb (Xm rfl) rfl (Xb (Xm rfl) rfl Xo)))) (by kernel_rfl) (by decide) (clV 42 rfl func91 rfl (strings_IndexByte.calls (⟨#[48, 49, 50, 51, 52, 53, 54, 55, 56, 57, 97, 98, 99, 100, 101, 102]⟩ : ByteArray) (at_ (bts a0) (IntKind.wrap .i64 (x2.2 + (1 : Int)))) s18.w (mm [] s18)) (fun r20 s21 p21 n21 => ?_))
  refine Xc rfl (Xc rfl (dn (sq (sr (Xc rfl (Xc rfl (Xc rfl (jy [29, 30, 31, 32] [] 32 (.bool ((decide (r17 < (0 : Int))) || (decide (r20 < (0 : Int))))) rfl (fun Kg22 => ?_) (fun j22 => ?_)))))))))
  ·
   rcases bft (decide (r17 < (0 : Int))) with hb22 | hb22
   ·
    exact sbT hb22 (Xj rfl (Xj rfl (Xc rfl (Kg22 _ (Ag.put ((Ag.put ((Ag.put (Ag.base rfl) rfl)) rfl)) rfl) (by rw [hb22]; rfl)))))
   exact sbT hb22 (Xc rfl (Xc rfl (Xc rfl (Kg22 _ (Ag.put ((Ag.put ((Ag.put (Ag.base rfl) rfl)) rfl)) rfl) (by rw [hb22]; rfl)))))
  refine dn (cd rfl (fun h23 => ?_) (fun h23 => ?_))
  ·
   refine sr (Xc rfl (Xc rfl (dn (sgi ?_))))
   have K24 := Kx2.st (Xw p6 p18 p21) rfl
   exact re rfl func66 rfl (r_t rfl (r_t rfl Xg)) rfl ⟨_, rfl, (.slice none 0 0), rfl, (Xu 5 (Kd.int .u8) s21 40).fo K24 rfl z.l, z.ky K24⟩
  refine sk (rg (mv' vx2_0 rfl (Xc rfl (shlK rfl rfl rfl rfl rfl rfl rfl rfl (Xc rfl (Xc rfl (cv u5 u3 rfl rfl rfl rfl rfl rfl (ltF' (K := (Kd.int .u8)) (cells := [(.int .u8 (IntKind.wrap .u8 (ior .i64 (ishl .i64 r17 (4 : Int)) r20)))]) [(IntKind.wrap .u8 (ior .i64 (ishl .i64 r17 (4 : Int)) r20))] 43 fl_int u22 z5 o5 (fun w => (Xv _ _ _)) rfl rfl (fun v25 s25 p25 A25 => ?_)))))))))
  refine apF fl_int sl22 (Ax2_0.st (tr4 p6 p18 p21 p25) rfl) A25.rd rfl rfl rfl rfl rfl rfl rfl (fun v28 s28 p28 A28 => ?_)
  refine asg' v28 rfl (dn (ib (rg (Xc rfl (Xc rfl (Xc rfl (dn ?_)))))))
  exact lb ih2 ⟨s28, _, v28, rfl, (ue (ue (ue rfl rfl) rfl) rfl), (Kx2.st (tr5 p6 p18 p21 p25 p28) rfl), A28⟩
 exact xt rfl (sgb (sr (mv' vx2_0 rfl (asg' vx2_0 rfl (Xc rfl (dn (re rfl func66 rfl (r_t rfl (r_t rfl Xg)) rfl ⟨_, rfl, vx2_0, rfl, Ax2_0.fo Kx2 rfl z.l, z.ky Kx2⟩)))))))
def impl_fromHigh.b0 (a0 : (List Int)) (x2 : Int × Int) : Option ((Int × Int) ⊕ Int) :=
 (if (decide (x2.2 < (a0.length : Int))) = true then (if 0 ≤ x2.2 ∧ x2.2 < (a0.length : Int) then (some (Sum.inl ((ior .u64 (ishl .u64 x2.1 (8 : Int)) (IntKind.wrap .u64 (at_ a0 x2.2))), (IntKind.wrap .i64 (x2.2 + (1 : Int)))))) else none) else ((some x2.1).bind fun o => some (Sum.inr o)))
def impl_fromHigh.f (a0 : (List Int)) : Option (Int) :=
 (iter (impl_fromHigh.b0 a0) ((0 : Int), (0 : Int)))
def impl_fromHigh.Q (w : World) (F : Nat → Prop) (r : Int) (v : Value) (w' : World) : Prop :=
 v = (.int .u64 r) ∧ Ky [] w w'
theorem impl_fromHigh.calls (a0 : (List Int)) (w : World) (F : Nat → Prop) (w0_0 : Value) (h0_0 : Ya.rd w [w0_0] a0 F) (r : Int) (m : impl_fromHigh.f a0 = some r) :
  Calls prog 68 #[w0_0] w (RT (impl_fromHigh.Q w F) r) := by
 obtain ⟨s0, rfl, kp0, z⟩ := Xq w F
 have A0_0 := z.rd h0_0
 refine Xd (args := [w0_0]) func68 ntmps68 rfl rfl m ?_
 unfold impl_fromHigh.f
 refine sr (Xc rfl (dn (sr (Xc rfl (dn (sq (sr (mv' w0_0 rfl (ln A0_0 u22 rfl rfl rfl rfl rfl rfl (Xc rfl (dn (bl (lpI (fun (x2 : Int × Int) e w => ∃ (s : St) (e0 : Env), w = s.w ∧ e = upd (upd (upd (upd e0 3 (.int .u64 x2.1)) 6 w0_0) 7 (iI (a0.length : Int))) 8 (iI x2.2) ∧ Kp s0 s) ⟨s0, _, rfl, (ue (ue (ue (ue rfl rfl) rfl) rfl) rfl), kp0⟩ (fun g2 ih2 => ?_))))))))))))))
 rintro x2 _ _ ⟨s3, _, rfl, rfl, Kx2⟩
 unfold impl_fromHigh.b0
 refine sr (Xc rfl (dn (sq (cd rfl (fun h4 => ?_) (fun h4 => ?_)))))
 ·
  refine sk (sq (bl (sr ?_)))
  refine ix (A0_0.kp Kx2) u22 z5 rfl rfl rfl rfl rfl rfl rfl rfl (fun ad6 es6 h0_6 h1_6 he6 ce6 ia6 => ?_)
  obtain rfl := he6
  refine lc0 ce6 u5 rfl rfl rfl rfl rfl rfl rfl rfl (Xc rfl (dn (rg (Xc rfl (shlK rfl rfl rfl rfl rfl rfl rfl rfl (Xc rfl (cv u53 u5 rfl rfl rfl rfl rfl rfl (Xc rfl (Xc rfl (dn (ib (rg (Xc rfl (Xc rfl ?_))))))))))))))
  exact dn (lb ih2 ⟨s3, _, rfl, (ue (ue (ue (ue rfl rfl) rfl) rfl) rfl), Kx2⟩)
 exact xt rfl (sgb (sr (Xc rfl (Xc rfl (dn (re rfl func68 rfl (r_t rfl Xg) rfl ⟨_, rfl, rfl, z.ky Kx2⟩))))))
def impl_FloatOf.f (a0 : Int) : Option (Nat) :=
 (some (cn (a0).toNat))
def impl_FloatOf.Q (w : World) (F : Nat → Prop) (r : Nat) (v : Value) (w' : World) : Prop :=
 FL v r ∧ Ky [] w w'
theorem impl_FloatOf.calls (a0 : Int) (w : World) (F : Nat → Prop)   (r : Nat) (m : impl_FloatOf.f a0 = some r) :
  Calls prog 67 #[(.int .u64 a0)] w (RT (impl_FloatOf.Q w F) r) := by
 obtain ⟨s0, rfl, kp0, z⟩ := Xq w F
 refine Xd (args := [(.int .u64 a0)]) func67 ntmps67 rfl rfl m ?_
 unfold impl_FloatOf.f
 refine sr (asg' (.float .f64 0) rfl (dn (sr (Xc rfl (ffb rfl rfl rfl rfl rfl func92 rfl rfl xn92 xf92 rfl (fun v1 A1 => ?_))))))
 exact asg' v1 rfl (dn (re rfl func67 rfl (r_t rfl Xg) rfl ⟨_, rfl, A1, z.ky kp0⟩))
def impl_readText.f (a0 : ByteArray) : Option (Item × Bool) :=
 (if (a0.toList == (⟨#[]⟩ : ByteArray).toList) = true then (some ((Item.mk (0 : Int) (0 : Int) (0 : Nat) ([] : (List Int))), false)) else (if 0 ≤ (1 : Int) ∧ (1 : Int) ≤ (a0.size : Int) ∧ (a0.size : Int) ≤ (a0.size : Int) then (if 0 ≤ (0 : Int) ∧ (0 : Int) < (a0.size : Int) then ((if ((at_ (bts a0) (0 : Int)) == (105 : Int)) = true then ((strconv_Atoi.f (ByteArray.extract a0 ((1 : Int)).toNat ((a0.size : Int)).toNat)).bind fun r15 => (if (!r15.2) = true then (some (Sum.inr ((Item.mk (0 : Int) (0 : Int) (0 : Nat) ([] : (List Int))), false))) else (some (Sum.inl ((1 : Int), r15.1, (0 : Nat), ([] : (List Int))))))) else ((if ((at_ (bts a0) (0 : Int)) == (102 : Int)) = true then (some ((at_ (bts a0) (0 : Int)) == (102 : Int))) else (some ((at_ (bts a0) (0 : Int)) == (116 : Int)))).bind fun y29 => ((if y29 = true then ((impl_readHex.f (ByteArray.extract a0 ((1 : Int)).toNat ((a0.size : Int)).toNat)).bind fun r40 => ((if (!r40.2) = true then (some true) else (if 0 ≤ (0 : Int) ∧ (0 : Int) < (a0.size : Int) then (some (((at_ (bts a0) (0 : Int)) == (102 : Int)) && ((r40.1.length : Int) != (8 : Int)))) else none)).bind fun y43 => (if y43 = true then (some (Sum.inr (Sum.inr ((Item.mk (0 : Int) (0 : Int) (0 : Nat) ([] : (List Int))), false)))) else (if 0 ≤ (0 : Int) ∧ (0 : Int) < (a0.size : Int) then ((if ((at_ (bts a0) (0 : Int)) == (102 : Int)) = true then ((impl_fromHigh.f r40.1).bind fun r65 => ((impl_FloatOf.f r65).bind fun r67 => (some ((2 : Int), r67, ([] : (List Int)))))) else (some ((3 : Int), (0 : Nat), r40.1))).bind fun y62 => (some (Sum.inl (y62.1, y62.2.1, y62.2.2)))) else none)))) else (some (Sum.inl ((0 : Int), (0 : Nat), ([] : (List Int)))))).bind (sel fun y38 => (some (Sum.inl (y38.1, (0 : Int), y38.2.1, y38.2.2))))))).bind (sel fun y12 => ((impl_ItemOk.f (Item.mk y12.1 y12.2.1 y12.2.2.1 y12.2.2.2)).bind fun r93 => ((if (!r93) = true then (some true) else ((impl_itemText.f (Item.mk y12.1 y12.2.1 y12.2.2.1 y12.2.2.2)).bind fun r103 => (some (!(r103.toList == a0.toList))))).bind fun y95 => (if y95 = true then (some ((Item.mk (0 : Int) (0 : Int) (0 : Nat) ([] : (List Int))), false)) else (some ((Item.mk y12.1 y12.2.1 y12.2.2.1 y12.2.2.2), true))))))) else none) else none))
def impl_readText.Q (w : World) (F : Nat → Prop) (r : Item × Bool) (v : Value) (w' : World) : Prop :=
 ∃ (v0 : Value) (v1 : Value), v = .tuple #[(.agg #[(iI r.1.Kind), (iI r.1.N), v0, v1]), (.bool r.2)] ∧ FO kd26 w w' [(iI r.1.Kind), (iI r.1.N), v0, v1] r.1 ∧ Ky [] w w'
theorem impl_readText.calls (a0 : ByteArray) (w : World) (F : Nat → Prop)  (hG : GU.rd w [] () F) (r : Item × Bool) (m : impl_readText.f a0 = some r) :
  Calls prog 28 #[(.string a0)] w (RT (impl_readText.Q w F) r) := by
 obtain ⟨s0, rfl, kp0, z⟩ := Xq w F
 have AG := z.rd hG
 refine Xd (args := [(.string a0)]) func28 ntmps28 rfl rfl m ?_
 unfold impl_readText.f
 refine sr (al (cs := [(iI 0), (iI 0), (.float .f64 0), (.slice none 0 0)]) 40 rfl rfl rfl rfl rfl o26 rfl (fun b1 s1 p1 B1 => ?_))
 refine Xc rfl (dn (sr (al (cs := [(iI 0), (iI 0), (.float .f64 0), (.slice none 0 0)]) 41 rfl rfl rfl rfl rfl o26 rfl (fun b3 s3 p3 B3 => ?_))))
 refine dn (sq (sr (Xc rfl (Xc rfl (dn (cd rfl (fun h5 => ?_) (fun h5 => ?_)))))))
 ·
  refine sr (bd (cells := [(iI 0), (iI 0), (.float .f64 0), (.slice none 0 0)]) pl26 o26 rfl rfl rfl rfl rfl rfl ?_)
  refine Xx (vs := [(iI 0), (iI 0), (.float .f64 0), (.slice none 0 0)]) (B1.st p3 rfl) z26 rfl (Xa rfl (Xa rfl (Xa (FL.one (Xl rfl)) (Xa rfl Xi)))) rfl (fun s7 p7 B7 => ?_)
  refine Xc rfl (dn ?_)
  have A9 : OwF kd26 s7 [(iI 0), (iI 0), (.float .f64 0), (.slice none 0 0)] (Item.mk (0 : Int) (0 : Int) (0 : Nat) ([] : (List Int))) 42 := ow_z _ _ (fz_iso (fun x : Item => (x.Kind, x.N, x.F, x.T)) (Item.mk (0 : Int) (0 : Int) (0 : Nat) ([] : (List Int))) (Xf (Xe .i64 (0 : Int)) (Xf (Xe .i64 (0 : Int)) (Xf (Xp (Xl rfl)) (fz_nil 5 (Kd.int .u8))))))
  have K11 := kp0.st (Xw p1 p3 p7) rfl
  exact re rfl func28 rfl (r_b B7 u26 rfl z26 rfl (r_t rfl Xg)) rfl ⟨_, rfl, (.float .f64 0), (.slice none 0 0), rfl, A9.fo K11 rfl z.l, z.ky K11⟩
 refine sk (sr (Xc rfl (sct (1 : Int) (a0.size : Int) u9 rfl rfl rfl rfl rfl rfl (.inr ⟨_, _, rfl, rfl⟩) (.inl ⟨rfl, rfl⟩) (Xc rfl (dn (sq (sr (Xc rfl (sxi u9 rfl rfl rfl rfl rfl rfl rfl (dn (bl (sr (Xc rfl (Xc rfl ?_))))))))))))))
 refine dn (jr (fun (y12 : Int × Int × Nat × (List Int)) e w => ∃ (s : St) (e0 : Env) (vy12_0 uy12_0 : Value), w = s.w ∧ e = upd (upd (upd e0 0 (.string a0)) 2 (pB b1)) 4 (pB b3) ∧ Kp s0 s ∧ OwF Ya s [vy12_0] y12.2.2.2 44 ∧ FL uy12_0 y12.2.2.1 ∧ BlF s b3 26 [(iI y12.1), (iI y12.2.1), uy12_0, vy12_0] 41 ∧ BlF s b1 26 [(iI 0), (iI 0), (.float .f64 0), (.slice none 0 0)] 40) (fun Gj12 Kj12 hG12 => ?_) ?_)
 ·
  refine cd rfl (fun h13 => ?_) (fun h13 => ?_)
  ·
   refine sr (Xc rfl ?_)
   have K14 := kp0.st (Xk p1 p3) rfl
   refine cl' rfl func65 rfl (strconv_Atoi.calls (ByteArray.extract a0 ((1 : Int)).toNat ((a0.size : Int)).toNat) s3.w (mm [0] s3) (AG.kp K14)) ?_
   rintro r15 _ w15 m15 ⟨v15_0, rfl, f15_0, ky15⟩
   obtain ⟨s16, rfl, p16, n16⟩ := nwx s3 w15 43 ky15
   refine Xc rfl (Xc (v := (iI r15.1)) rfl (Xc (v := v15_0) rfl (Xc rfl (asg' v15_0 rfl (dn (sq (sr (mv' v15_0 rfl (ernon f15_0 u87 rfl rfl rfl rfl rfl rfl rfl (dn (cd rfl (fun h17 => ?_) (fun h17 => ?_))))))))))))
   ·
    refine sr (bd (cells := [(iI 0), (iI 0), (.float .f64 0), (.slice none 0 0)]) pl26 o26 rfl rfl rfl rfl rfl rfl ?_)
    refine Xx (vs := [(iI 0), (iI 0), (.float .f64 0), (.slice none 0 0)]) (B1.st (Xk p3 p16) rfl) z26 rfl (Xa rfl (Xa rfl (Xa (FL.one (Xl rfl)) (Xa rfl Xi)))) rfl (fun s19 p19 B19 => ?_)
    refine Xc rfl (dn (jri hG12 ?_))
    have A21 : OwF kd26 s19 [(iI 0), (iI 0), (.float .f64 0), (.slice none 0 0)] (Item.mk (0 : Int) (0 : Int) (0 : Nat) ([] : (List Int))) 44 := ow_z _ _ (fz_iso (fun x : Item => (x.Kind, x.N, x.F, x.T)) (Item.mk (0 : Int) (0 : Int) (0 : Nat) ([] : (List Int))) (Xf (Xe .i64 (0 : Int)) (Xf (Xe .i64 (0 : Int)) (Xf (Xp (Xl rfl)) (fz_nil 5 (Kd.int .u8))))))
    have K23 := K14.st (Xk p16 p19) rfl
    exact re rfl func28 rfl (r_b B19 u26 rfl z26 rfl (r_t rfl Xg)) rfl ⟨_, rfl, (.float .f64 0), (.slice none 0 0), rfl, A21.fo K23 rfl z.l, z.ky K23⟩
   refine sk (rg (Xc rfl (bd (cells := [(iI 1), (iI r15.1), (.float .f64 0), (.slice none 0 0)]) pl26 o26 rfl rfl rfl rfl rfl rfl ?_)))
   refine Xx (vs := [(iI 1), (iI r15.1), (.float .f64 0), (.slice none 0 0)]) (B3.st p16 rfl) z26 rfl (Xa rfl (Xa rfl (Xa (FL.one (Xl rfl)) (Xa rfl Xi)))) rfl (fun s25 p25 B25 => ?_)
   exact dn (Kj12 _ _ _ ⟨s25, _, (.slice none 0 0), (.float .f64 0), rfl, (ue (ue (ue rfl rfl) rfl) rfl), (K14.st (Xk p16 p25) rfl), (Xu 5 (Kd.int .u8) _ 44), (Xl rfl), B25, (B1.st (Xw p3 p16 p25) rfl)⟩)
  refine sq (sr (Xc rfl (Xc rfl (dn (jc (fun (y29 : Bool) e w => ∃ (s : St) (e0 : Env), w = s.w ∧ e = upd (upd (upd (upd (upd e0 0 (.string a0)) 2 (pB b1)) 4 (pB b3)) 5 (.string (ByteArray.extract a0 ((1 : Int)).toNat ((a0.size : Int)).toNat))) 29 (.bool y29) ∧ Kp s0 s ∧ BlF s b3 26 [(iI 0), (iI 0), (.float .f64 0), (.slice none 0 0)] 41 ∧ BlF s b1 26 [(iI 0), (iI 0), (.float .f64 0), (.slice none 0 0)] 40) (fun Gj29 Kj29 => ?_) ?_)))))
  ·
   refine cd rfl (fun h30 => ?_) (fun h30 => ?_)
   ·
    exact sk (Kj29 _ _ _ ⟨s3, _, rfl, (ue (ue (ue (ue (ue rfl rfl) rfl) rfl) rfl) rfl), (kp0.st (Xk p1 p3) rfl), B3, (B1.st p3 rfl)⟩)
   refine rg (Xc rfl (Xc rfl (dn ?_)))
   exact Kj29 _ _ _ ⟨s3, _, rfl, (ue (ue (ue (ue (ue rfl rfl) rfl) rfl) rfl) rfl), (kp0.st (Xk p1 p3) rfl), B3, (B1.st p3 rfl)⟩
  rintro y29 _ _ ⟨s35, _, rfl, rfl, Ky29, By29_b3, By29_b1⟩
  refine jr (fun (y38 : Int × Nat × (List Int)) e w => ∃ (s : St) (e0 : Env) (vy38_0 uy38_0 : Value), w = s.w ∧ e = upd (upd (upd e0 0 (.string a0)) 2 (pB b1)) 4 (pB b3) ∧ Kp s0 s ∧ OwF Ya s [vy38_0] y38.2.2 45 ∧ FL uy38_0 y38.2.1 ∧ BlF s b3 26 [(iI y38.1), (iI 0), uy38_0, vy38_0] 41 ∧ BlF s b1 26 [(iI 0), (iI 0), (.float .f64 0), (.slice none 0 0)] 40) (fun Gj38 Kj38 hG38 => ?_) ?_
  ·
   refine cd rfl (fun h39 => ?_) (fun h39 => ?_)
   ·
    refine sr (Xc rfl (cl' rfl func66 rfl (impl_readHex.calls (ByteArray.extract a0 ((1 : Int)).toNat ((a0.size : Int)).toNat) s35.w (mm [] s35)) ?_))
    rintro r40 _ w40 m40 ⟨v40_0, rfl, f40_0, ky40⟩
    obtain ⟨s41, rfl, p41, n41⟩ := nwx s35 w40 45 ky40
    have A40_0 := f40_0.c n41
    refine Xc rfl (Xc (v := v40_0) rfl (Xc (v := (.bool r40.2)) rfl (asg' v40_0 rfl (Xc rfl (dn (sq (sr (Xc rfl (Xc rfl (Xc rfl (ji [] (fun (y43 : Bool) e w => ∃ (s : St) (e0 : Env), w = s.w ∧ e = upd (upd (upd (upd (upd e0 0 (.string a0)) 2 (pB b1)) 4 (pB b3)) 8 v40_0) 48 (.bool y43) ∧ Kp s0 s ∧ BlF s b3 26 [(iI 0), (iI 0), (.float .f64 0), (.slice none 0 0)] 41 ∧ BlF s b1 26 [(iI 0), (iI 0), (.float .f64 0), (.slice none 0 0)] 40 ∧ OwF Ya s [v40_0] r40.1 45) (fun Gj43 Kj43 => ?_) ?_)))))))))))
    ·
     rcases bft (!r40.2) with hb43 | hb43
     ·
      refine sbT hb43 ?_
      rw [if_pos hb43]
      refine Xj rfl (Xj rfl (Xj rfl (Xj rfl (Xj rfl (Xj rfl (Xj rfl (Xj rfl (Xc rfl ?_))))))))
      exact Kj43 _ _ _ ⟨s41, _, rfl, (ue (ue (ue (ue (ue rfl rfl) rfl) rfl) rfl) rfl), (Ky29.st p41 rfl), (By29_b3.st p41 rfl), (By29_b1.st p41 rfl), A40_0⟩
     refine sbT hb43 ?_
     rw [if_neg (by rw [hb43]; decide)]
     refine Xc rfl (sxi u9 rfl rfl rfl rfl rfl rfl rfl (Xc rfl (Xc rfl (jy [43, 44, 45, 46, 47] [11] 47 (.bool (((at_ (bts a0) (0 : Int)) == (102 : Int)) && ((r40.1.length : Int) != (8 : Int)))) rfl (fun Kg47 => ?_) (fun j47 => ?_)))))
     ·
      rcases bft ((at_ (bts a0) (0 : Int)) == (102 : Int)) with hb47 | hb47
      ·
       exact sbT hb47 (mv' v40_0 rfl (ln A40_0.rd u22 rfl rfl rfl rfl rfl rfl (Xc rfl (Xc rfl (Kg47 _ (Ag.put ((Ag.put ((Ag.put ((Ag.put (Ag.base rfl) rfl)) rfl)) rfl)) rfl) (by rw [hb47]; rfl))))))
      exact sbT hb47 (Xj rfl (Xj rfl (Xj rfl (Xc rfl (Kg47 _ (Ag.put ((Ag.put ((Ag.put ((Ag.put (Ag.base rfl) rfl)) rfl)) rfl)) rfl) (by rw [hb47]; rfl))))))
     exact Xc rfl (Kj43 _ _ _ ⟨s41, _, rfl, (ue (ue (ue (ue (ue rfl rfl) rfl) rfl) rfl) rfl), (Ky29.st p41 rfl), (By29_b3.st p41 rfl), (By29_b1.st p41 rfl), A40_0⟩)
    rintro y43 _ _ ⟨s51, _, rfl, rfl, Ky43, By43_b3, By43_b1, Cy43_42⟩
    refine dn (cd rfl (fun h54 => ?_) (fun h54 => ?_))
    ·
     refine sr (bd (cells := [(iI 0), (iI 0), (.float .f64 0), (.slice none 0 0)]) pl26 o26 rfl rfl rfl rfl rfl rfl (Xx (vs := [(iI 0), (iI 0), (.float .f64 0), (.slice none 0 0)]) By43_b1 z26 rfl (Xa rfl (Xa rfl (Xa (FL.one (Xl rfl)) (Xa rfl Xi)))) rfl (fun s55 p55 B55 => ?_)))
     refine Xc rfl (dn (jri hG38 (jri hG12 ?_)))
     have A57 : OwF kd26 s55 [(iI 0), (iI 0), (.float .f64 0), (.slice none 0 0)] (Item.mk (0 : Int) (0 : Int) (0 : Nat) ([] : (List Int))) 46 := ow_z _ _ (fz_iso (fun x : Item => (x.Kind, x.N, x.F, x.T)) (Item.mk (0 : Int) (0 : Int) (0 : Nat) ([] : (List Int))) (Xf (Xe .i64 (0 : Int)) (Xf (Xe .i64 (0 : Int)) (Xf (Xp (Xl rfl)) (fz_nil 5 (Kd.int .u8))))))
     have K59 := Ky43.st p55 rfl
     exact re rfl func28 rfl (r_b B55 u26 rfl z26 rfl (r_t rfl Xg)) rfl ⟨_, rfl, (.float .f64 0), (.slice none 0 0), rfl, A57.fo K59 rfl z.l, z.ky K59⟩
    refine sk (sr (mv' v40_0 rfl (bd (cells := [(iI 3), (iI 0), (.float .f64 0), v40_0]) pl26 o26 rfl rfl rfl rfl rfl (lfill_pc (pc_c rfl (pc_c (oc Cy43_42.rd.one) pc_n)) rfl) (Xx (vs := [(iI 3), (iI 0), (.float .f64 0), v40_0]) By43_b3 z26 rfl (Xa rfl (Xa rfl (Xa (FL.one (Xl rfl)) (Xa Cy43_42.rd.one Xi)))) rfl (fun s60 p60 B60 => ?_)))))
    refine dn (sr (Xc rfl (sxi u9 rfl rfl rfl rfl rfl rfl rfl (Xc rfl (dn (jc (fun (y62 : Int × Nat × (List Int)) e w => ∃ (s : St) (e0 : Env) (vy62_0 uy62_0 : Value), w = s.w ∧ e = upd (upd (upd e0 0 (.string a0)) 2 (pB b1)) 4 (pB b3) ∧ Kp s0 s ∧ OwF Ya s [vy62_0] y62.2.2 45 ∧ FL uy62_0 y62.2.1 ∧ BlF s b3 26 [(iI y62.1), (iI 0), uy62_0, vy62_0] 41 ∧ BlF s b1 26 [(iI 0), (iI 0), (.float .f64 0), (.slice none 0 0)] 40) (fun Gj62 Kj62 => ?_) ?_))))))
    ·
     refine cd rfl (fun h63 => ?_) (fun h63 => ?_)
     ·
      refine rg (mv' v40_0 rfl ?_)
      refine clV 47 rfl func68 rfl (impl_fromHigh.calls r40.1 s60.w (mm [45] s60) v40_0 (Cy43_42.st p60 rfl).rd) (fun r65 s66 p66 n66 => ?_)
      refine cl' rfl func67 rfl (impl_FloatOf.calls r65 s66.w (mm [] s66)) ?_
      rintro r67 v67_0 w67 m67 ⟨f67_0, ky67⟩
      obtain ⟨s68, rfl, p68, n68⟩ := nwx s66 w67 48 ky67
      refine bd (cells := [(iI 2), (iI 0), v67_0, (.slice none 0 0)]) pl26 o26 rfl rfl rfl rfl rfl (lfill_pc (pc_c rfl (pc_c (oc (FL.one f67_0)) pc_n)) rfl) (Xx (vs := [(iI 2), (iI 0), v67_0, (.slice none 0 0)]) (B60.st (Xk p66 p68) rfl) z26 rfl (Xa rfl (Xa rfl (Xa (FL.one f67_0) (Xa rfl Xi)))) rfl (fun s70 p70 B70 => ?_))
      exact dn (Kj62 _ _ _ ⟨s70, _, (.slice none 0 0), v67_0, rfl, (ue (ue (ue rfl rfl) rfl) rfl), (Ky43.st (tr4 p60 p66 p68 p70) rfl), (Xu 5 (Kd.int .u8) _ 45), f67_0, B70, (By43_b1.st (tr4 p60 p66 p68 p70) rfl)⟩)
     exact sk (Kj62 _ _ _ ⟨s60, _, v40_0, (.float .f64 0), rfl, (ue (ue (ue rfl rfl) rfl) rfl), (Ky43.st p60 rfl), (Cy43_42.st p60 rfl), (Xl rfl), B60, (By43_b1.st p60 rfl)⟩)
    rintro y62 _ _ ⟨s77, _, vy62_0, uy62_0, rfl, rfl, Ky62, Ay62_0, Fy62_0, By62_b3, By62_b1⟩
    exact Kj38 _ _ _ ⟨s77, _, vy62_0, uy62_0, rfl, (ue (ue (ue rfl rfl) rfl) rfl), Ky62, Ay62_0, Fy62_0, By62_b3, By62_b1⟩
   exact sk (Kj38 _ _ _ ⟨s35, _, (.slice none 0 0), (.float .f64 0), rfl, (ue (ue (ue rfl rfl) rfl) rfl), Ky29, (Xu 5 (Kd.int .u8) _ 45), (Xl rfl), By29_b3, By29_b1⟩)
  rintro y38 _ _ ⟨s81, _, vy38_0, uy38_0, rfl, rfl, Ky38, Ay38_0, Fy38_0, By38_b3, By38_b1⟩
  obtain ⟨s85, hw85, p85, A85⟩ := Ay38_0.rc 44 rfl
  rw [hw85]
  exact Kj12 _ _ _ ⟨s85, _, vy38_0, uy38_0, rfl, (ue (ue (ue rfl rfl) rfl) rfl), (Ky38.st p85 rfl), A85, Fy38_0, (By38_b3.st p85 rfl), (By38_b1.st p85 rfl)⟩
 rintro y12 _ _ ⟨s89, _, vy12_0, uy12_0, rfl, rfl, Ky12, Ay12_0, Fy12_0, By12_b3, By12_b1⟩
 refine ib (sq (sr (lda' (es := [(iI y12.1), (iI y12.2.1), uy12_0, vy12_0]) By12_b3 u26 z26 rfl (clV 49 rfl func26 rfl (impl_ItemOk.calls (Item.mk y12.1 y12.2.1 y12.2.2.1 y12.2.2.2) s89.w (mm [44] s89) uy12_0 vy12_0 ((Xh (s := s89) Fy12_0).sub (D := [44]) rfl) Ay12_0.rd) (fun r93 s94 p94 n94 => ?_)))))
 refine Xc rfl (Xc rfl (ji [] (fun (y95 : Bool) e w => ∃ (s : St) (e0 : Env), w = s.w ∧ e = upd (upd (upd e0 2 (pB b1)) 4 (pB b3)) 67 (.bool y95) ∧ Kp s0 s ∧ BlF s b3 26 [(iI y12.1), (iI y12.2.1), uy12_0, vy12_0] 41 ∧ BlF s b1 26 [(iI 0), (iI 0), (.float .f64 0), (.slice none 0 0)] 40 ∧ OwF Ya s [vy12_0] y12.2.2.2 44) (fun Gj95 Kj95 => ?_) ?_))
 ·
  rcases bft (!r93) with hb95 | hb95
  ·
   refine sbT hb95 ?_
   rw [if_pos hb95]
   refine Xj rfl (Xj rfl (Xj rfl (Xj rfl (Xc rfl ?_))))
   exact Kj95 _ _ _ ⟨s94, _, rfl, (ue (ue (ue rfl rfl) rfl) rfl), (Ky12.st p94 rfl), (By12_b3.st p94 rfl), (By12_b1.st p94 rfl), (Ay12_0.st p94 rfl)⟩
  refine sbT hb95 ?_
  rw [if_neg (by rw [hb95]; decide)]
  have A100 := By12_b3.st p94 rfl
  refine lda' (es := [(iI y12.1), (iI y12.2.1), uy12_0, vy12_0]) A100 u26 z26 rfl ?_
  have A101 := Ay12_0.st p94 rfl
  have K102 := Ky12.st p94 rfl
  refine clV 50 rfl func27 rfl (impl_itemText.calls (Item.mk y12.1 y12.2.1 y12.2.2.1 y12.2.2.2) s94.w (mm [44, 0] s94) uy12_0 vy12_0 ((gu_gt (AG.kp K102)).sub (D := [44, 0]) rfl) ((Xh (s := s94) Fy12_0).sub (D := [44, 0]) rfl) (A101.rd.sub (D := [44, 0]) rfl)) (fun r103 s104 p104 n104 => ?_)
  refine Xc rfl (Xc rfl (Xc rfl ?_))
  exact Kj95 _ _ _ ⟨s104, _, rfl, (ue (ue (ue rfl rfl) rfl) rfl), (K102.st p104 rfl), (A100.st p104 rfl), (By12_b1.st (Xk p94 p104) rfl), (A101.st p104 rfl)⟩
 rintro y95 _ _ ⟨s109, _, rfl, rfl, Ky95, By95_b3, By95_b1, Cy95_90⟩
 refine dn (cd rfl (fun h112 => ?_) (fun h112 => ?_))
 ·
  refine sr (bd (cells := [(iI 0), (iI 0), (.float .f64 0), (.slice none 0 0)]) pl26 o26 rfl rfl rfl rfl rfl rfl (Xx (vs := [(iI 0), (iI 0), (.float .f64 0), (.slice none 0 0)]) By95_b1 z26 rfl (Xa rfl (Xa rfl (Xa (FL.one (Xl rfl)) (Xa rfl Xi)))) rfl (fun s113 p113 B113 => ?_)))
  refine Xc rfl (dn ?_)
  have A115 : OwF kd26 s113 [(iI 0), (iI 0), (.float .f64 0), (.slice none 0 0)] (Item.mk (0 : Int) (0 : Int) (0 : Nat) ([] : (List Int))) 51 := ow_z _ _ (fz_iso (fun x : Item => (x.Kind, x.N, x.F, x.T)) (Item.mk (0 : Int) (0 : Int) (0 : Nat) ([] : (List Int))) (Xf (Xe .i64 (0 : Int)) (Xf (Xe .i64 (0 : Int)) (Xf (Xp (Xl rfl)) (fz_nil 5 (Kd.int .u8))))))
  have K117 := Ky95.st p113 rfl
  exact re rfl func28 rfl (r_b B113 u26 rfl z26 rfl (r_t rfl Xg)) rfl ⟨_, rfl, (.float .f64 0), (.slice none 0 0), rfl, A115.fo K117 rfl z.l, z.ky K117⟩
 refine sk (sr (lda' (es := [(iI y12.1), (iI y12.2.1), uy12_0, vy12_0]) By95_b3 u26 z26 rfl (Xx (vs := [(iI y12.1), (iI y12.2.1), uy12_0, vy12_0]) By95_b1 z26 rfl (Xa rfl (Xa rfl (Xa (FL.one Fy12_0) (Xa Cy95_90.rd.one Xi)))) rfl (fun s118 p118 B118 => ?_))))
 refine Xc rfl (dn ?_)
 have A120 : OwF kd26 s118 [(iI y12.1), (iI y12.2.1), uy12_0, vy12_0] (Item.mk y12.1 y12.2.1 y12.2.2.1 y12.2.2.2) 44 := (Xs (fun x : Item => (x.Kind, x.N, x.F, x.T)) (Item.mk y12.1 y12.2.1 y12.2.2.1 y12.2.2.2) (Xn (Xe .i64 y12.1) (Xn (Xe .i64 y12.2.1) (Xn (Xp Fy12_0) (Cy95_90.st p118 rfl)))))
 have K123 := Ky95.st p118 rfl
 exact re rfl func28 rfl (r_b B118 u26 rfl z26 rfl (r_t rfl Xg)) rfl ⟨_, rfl, uy12_0, vy12_0, rfl, A120.fo K123 rfl z.l, z.ky K123⟩
def impl_ItemRead.f (a0 : (List Int)) : Option (Item × Bool) :=
 ((impl_readText.f (str a0)).bind fun r6 => (some (r6.1, r6.2)))
def impl_ItemRead.Q (w : World) (F : Nat → Prop) (r : Item × Bool) (v : Value) (w' : World) : Prop :=
 ∃ (v0 : Value) (v1 : Value), v = .tuple #[(.agg #[(iI r.1.Kind), (iI r.1.N), v0, v1]), (.bool r.2)] ∧ FO kd26 w w' [(iI r.1.Kind), (iI r.1.N), v0, v1] r.1 ∧ Ky [] w w'
theorem impl_ItemRead.calls (a0 : (List Int)) (w : World) (F : Nat → Prop) (w0_0 : Value) (hG : GU.rd w [] () F) (h0_0 : Ya.rd w [w0_0] a0 F) (r : Item × Bool) (m : impl_ItemRead.f a0 = some r) :
  Calls prog 8 #[w0_0] w (RT (impl_ItemRead.Q w F) r) := by
 obtain ⟨s0, rfl, kp0, z⟩ := Xq w F
 refine Xd (args := [w0_0]) func8 ntmps8 rfl rfl m ?_
 unfold impl_ItemRead.f
 refine sr (al (cs := [(iI 0), (iI 0), (.float .f64 0), (.slice none 0 0)]) 40 rfl rfl rfl rfl rfl o26 rfl (fun b2 s2 p2 B2 => ?_))
 refine Xc rfl (dn (sr (mv' w0_0 rfl ?_)))
 have K4 := kp0.st p2 rfl
 refine b2s ((z.rd h0_0).kp K4) u22 u9 u5 rfl rfl rfl rfl rfl rfl (cl' rfl func28 rfl (impl_readText.calls (str a0) s2.w (mm [0] s2) ((z.rd hG).kp K4)) ?_)
 rintro r6 _ w6 m6 ⟨v6_0, v6_1, rfl, f6_0, ky6⟩
 obtain ⟨s7, rfl, p7, n7⟩ := nwx s2 w6 41 ky6
 obtain ⟨hu6_0_0, Au6_0_1⟩ := ap26 (f6_0.c n7)
 refine Xc (v := (.agg #[(iI r6.1.Kind), (iI r6.1.N), v6_0, v6_1])) rfl (Xc (v := (.bool r6.2)) rfl ?_)
 refine Xx (vs := [(iI r6.1.Kind), (iI r6.1.N), v6_0, v6_1]) (B2.st p7 rfl) z26 rfl (Xa rfl (Xa rfl (Xa (FL.one hu6_0_0) (Xa Au6_0_1.rd.one Xi)))) rfl (fun s10 p10 B10 => ?_)
 refine Xc rfl (dn ?_)
 have A12 : OwF kd26 s10 [(iI r6.1.Kind), (iI r6.1.N), v6_0, v6_1] r6.1 41 := (Xs (fun x : Item => (x.Kind, x.N, x.F, x.T)) r6.1 (Xn (Xe .i64 r6.1.Kind) (Xn (Xe .i64 r6.1.N) (Xn (Xp hu6_0_0) (Au6_0_1.st p10 rfl)))))
 have K15 := K4.st (Xk p7 p10) rfl
 exact re rfl func8 rfl (r_b B10 u26 rfl z26 rfl (r_t rfl Xg)) rfl ⟨_, rfl, v6_0, v6_1, rfl, A12.fo K15 rfl z.l, z.ky K15⟩
def laws_sameItem.f (a0 : Item) (a1 : Item) : Option (Bool) :=
 ((if (a0.Kind == a1.Kind) = true then ((if (a0.N == a1.N) = true then ((spec_FloatBits.f a0.F).bind fun r40 => ((spec_FloatBits.f a1.F).bind fun r45 => ((if (r40 == r45) = true then (some ((str a0.T).toList == (str a1.T).toList)) else (some false)).bind fun y51 => (some y51)))) else (some false)).bind fun y26 => (some y26)) else (some false)).bind fun y16 => (some y16))
def laws_sameItem.Q (w : World) (F : Nat → Prop) (r : Bool) (v : Value) (w' : World) : Prop :=
 v = (.bool r) ∧ Ky [] w w'
theorem laws_sameItem.calls (a0 : Item) (a1 : Item) (w : World) (F : Nat → Prop) (w0_0 : Value) (w0_1 : Value) (w1_0 : Value) (w1_1 : Value) (h0_0 : Kd.flt.rd w [w0_0] a0.F F) (h0_1 : Ya.rd w [w0_1] a0.T F) (h1_0 : Kd.flt.rd w [w1_0] a1.F F) (h1_1 : Ya.rd w [w1_1] a1.T F) (r : Bool) (m : laws_sameItem.f a0 a1 = some r) :
  Calls prog 10 #[(.agg #[(iI a0.Kind), (iI a0.N), w0_0, w0_1]), (.agg #[(iI a1.Kind), (iI a1.N), w1_0, w1_1])] w (RT (laws_sameItem.Q w F) r) := by
 obtain ⟨s0, rfl, kp0, z⟩ := Xq w F
 have A0_0 := fl_of h0_0
 have A0_1 := z.rd h0_1
 have A1_0 := fl_of h1_0
 have A1_1 := z.rd h1_1
 refine Xd (args := [(.agg #[(iI a0.Kind), (iI a0.N), w0_0, w0_1]), (.agg #[(iI a1.Kind), (iI a1.N), w1_0, w1_1])]) func10 ntmps10 rfl rfl m ?_
 unfold laws_sameItem.f
 refine sr (bx (cs := [(iI a0.Kind), (iI a0.N), w0_0, w0_1]) 40 rfl rfl rfl rfl rfl rfl (fun b3 s3 p3 B3 => ?_))
 refine bx (cs := [(iI a1.Kind), (iI a1.N), w1_0, w1_1]) 41 rfl rfl rfl rfl rfl rfl (fun b5 s5 p5 B5 => ?_)
 refine Xc rfl (dn (sq (zdraw [[], [0], [], [2], [1, 3], [4], [5], [6, 5], [5], [8, 5], [7, 9, 5], [5, 10], [11, 5], [12], [13, 12], [14, 12, 12], [12], [16, 12], [17, 15, 12], [15, 18, 12], [12, 19], [20, 18], [21], [22, 21], [23, 21], [21], [25, 21], [26, 21], [24, 27, 21], [21, 28], [29, 21, 0, 1, 2, 3, 4, 5, 6, 7, 8, 9, 10, 11, 12, 13, 14, 15, 16, 17, 18, 19, 20, 21, 22, 23, 24, 25, 26, 27, 28, 29]] [some 5, some 6, some 7, some 8, some 9, some 10, some 11, some 12, some 13, some 14, some 15, some 16, some 17, some 18, some 19, some 20, some 21, some 22, some 23, some 24, some 25, some 26, some 27, some 28, some 29, some 30, some 31, some 32, some 33, some 34, some 4] [[2], [5], [3], [7], [6, 8], [9], [2, 10], [11, 10], [3, 10], [13, 10], [12, 14, 10], [10, 15], [16], [2, 17], [18, 17], [19, 17], [3, 17], [21, 17], [22, 17], [20, 23, 17], [17, 24], [25], [2, 26], [27, 26], [28, 26], [3, 26], [30, 26], [31, 26], [29, 32, 26], [26, 33], [34]] [0, 1, 2, 3, 4, 5, 6, 7, 8, 9, 10, 11, 12, 13, 14, 15, 16, 17, 18, 19, 20, 21, 22, 23, 24, 25, 26, 27, 28, 29, 30] ⟨by kernel_rfl, by kernel_rfl, by kernel_rfl⟩ (by kernel_rfl) (fun s7 p7 l7 tb7 zd7 => ?_))))
 have zd15 := (((((zd7.add 0 5 (pB b3) rfl).add 1 6 (iI a0.Kind) rfl).add 2 7 (pB b5) rfl).add 3 8 (iI a1.Kind) rfl).add 4 9 (.bool (a0.Kind == a1.Kind)) rfl).add 5 10 (.bool (a0.Kind == a1.Kind)) rfl
 refine ji [30] (fun (y16 : Bool) e w => ∃ (s : St) (e0 : Env), w = s.w ∧ e = upd e0 34 (.bool y16) ∧ Kp s0 s) (fun Gj16 Kj16 => ?_) ?_
 ·
  rcases bft (a0.Kind == a1.Kind) with hb16 | hb16
  ·
   rw [if_pos hb16]
   rw [hb16] at zd15
   try rw [hb16]
   have zd25 := ((((((zd15.add 6 11 (pO b3 1) rfl).add 7 12 (iI a0.N) rfl).add 8 13 (pO b5 1) rfl).add 9 14 (iI a1.N) rfl).add 10 15 (.bool (a0.N == a1.N)) rfl).add 11 16 (.bool (a0.N == a1.N)) rfl).add 12 17 (.bool (a0.N == a1.N)) rfl
   refine ji [30] (fun (y26 : Bool) e w => ∃ (s : St) (e0 : Env), w = s.w ∧ e = upd e0 34 (.bool y26) ∧ Kp s0 s) (fun Gj26 Kj26 => ?_) ?_
   ·
    rcases bft (a0.N == a1.N) with hb26 | hb26
    ·
     rw [if_pos hb26]
     rw [hb26] at zd25
     try rw [hb26]
     refine zstep 15 [some 22, some 21] tb7 ((((zd25.add 13 18 (pO b3 2) rfl).add 14 19 w0_0 rfl).add 16 21 (pO b5 2) rfl).add 17 22 w1_0 rfl) (Xb (ld_q' (B5.st p7 rfl) u24 rfl) rfl (Xb (Xz fa26_2 rfl) rfl (Xb (ld_q' (B3.st (Xk p5 p7) rfl) u24 rfl) rfl (Xb (Xz fa26_2 rfl) rfl (Xb (Xm rfl) rfl (Xb (Xm rfl) rfl (Xb (qv_b (Xm rfl) hb26) rfl (Xb (ld_q' (B5.st p7 rfl) u3 rfl) rfl (Xb (Xz fa26_1 rfl) rfl (Xb (ld_q' (B3.st (Xk p5 p7) rfl) u3 rfl) rfl (Xb (Xz fa26_1 rfl) rfl (Xb (Xm rfl) rfl (Xb (qv_b (Xm rfl) hb16) rfl (Xb (ld_q' (B5.st p7 rfl) u3 rfl) rfl (Xb (Xz fa26_0 rfl) rfl (Xb (ld_q' (B3.st (Xk p5 p7) rfl) u3 rfl) rfl (Xb (Xz fa26_0 rfl) rfl Xo))))))))))))))))) (by kernel_rfl) rfl (fun l33 e33 zd33 => ?_)
     refine clV 42 rfl func29 rfl (spec_FloatBits.calls a0.F s7.w (mm [] s7) w0_0 (Xh (s := s7) A0_0)) (fun r40 s41 p41 n41 => ?_)
     refine zdone (L' := [17, 16]) (D' := [0, 2, 1, 3, 4, 6, 8, 7, 9, 10, 11, 5, 13, 14, 12, 12, 15]) zd33 rfl rfl rfl (fun zd42 => ?_)
     refine zstep 18 [] tb7 zd42 (Xb (ld_q' (B5.st (Xk p7 p41) rfl) u24 rfl) rfl (Xb (Xz fa26_2 rfl) rfl Xo)) (by kernel_rfl) rfl (fun l43 e43 zd43 => ?_)
     refine clV 43 rfl func29 rfl (spec_FloatBits.calls a1.F s41.w (mm [] s41) w1_0 (Xh (s := s41) A1_0)) (fun r45 s46 p46 n46 => ?_)
     refine zdone (L' := []) (D' := [16, 17, 18, 0, 2, 1, 3, 4, 6, 8, 7, 9, 10, 11, 5, 13, 14, 12, 12, 15]) zd43 rfl rfl rfl (fun zd47 => ?_)
     have zd50 := ((zd47.add 19 24 (.bool (r40 == r45)) rfl).add 20 25 (.bool (r40 == r45)) rfl).add 21 26 (.bool (r40 == r45)) rfl
     refine ji [30] (fun (y51 : Bool) e w => ∃ (s : St) (e0 : Env), w = s.w ∧ e = upd e0 34 (.bool y51) ∧ Kp s0 s) (fun Gj51 Kj51 => ?_) ?_
     ·
      rcases bft (r40 == r45) with hb51 | hb51
      ·
       rw [if_pos hb51]
       rw [hb51] at zd50
       try rw [hb51]
       refine zfin [28, 29, 30] tb7 ((((((zd50.add 22 27 (pO b3 3) rfl).add 23 28 w0_1 rfl).add 24 29 (.string (str a0.T)) rfl).add 25 30 (pO b5 3) rfl).add 26 31 w1_1 rfl).add 27 32 (.string (str a1.T)) rfl) (Xb (b2s_q (A1_1.kp (kp0.st (tr5 p3 p5 p7 p41 p46) rfl)) u22 u9 u5 rfl rfl rfl rfl rfl rfl) rfl (Xb (ld_q' (B5.st (Xw p7 p41 p46) rfl) u22 rfl) rfl (Xb (Xz fa26_3 rfl) rfl (Xb (b2s_q (A0_1.kp (kp0.st (tr5 p3 p5 p7 p41 p46) rfl)) u22 u9 u5 rfl rfl rfl rfl rfl rfl) rfl (Xb (ld_q' (B3.st (tr4 p5 p7 p41 p46) rfl) u22 rfl) rfl (Xb (Xz fa26_3 rfl) rfl (Xb (Xm rfl) rfl (Xb (Xm rfl) rfl (Xb (qv_b (Xm rfl) hb51) rfl Xo))))))))) (by kernel_rfl) (by decide) (Xc rfl (Xc rfl ?_))
       exact Kj51 _ _ _ ⟨s46, _, rfl, (ue rfl rfl), (kp0.st (tr5 p3 p5 p7 p41 p46) rfl)⟩
      rw [if_neg (by rw [hb51]; decide)]
      rw [hb51] at zd50
      try rw [hb51]
      refine zfin [28, 29, 30] tb7 ((((((zd50.add 22 27 undef rfl).add 23 28 undef rfl).add 24 29 undef rfl).add 25 30 undef rfl).add 26 31 undef rfl).add 27 32 undef rfl) (Xb (Xr rfl) rfl (Xb (Xr rfl) rfl (Xb (Xr rfl) rfl (Xb (Xr rfl) rfl (Xb (Xr rfl) rfl (Xb (Xr rfl) rfl (Xb (Xm rfl) rfl (Xb (Xm rfl) rfl (Xb (qv_b (Xm rfl) hb51) rfl Xo))))))))) (by kernel_rfl) (by decide) (Xj rfl (Xc rfl ?_))
      exact Kj51 _ _ _ ⟨s46, _, rfl, (ue rfl rfl), (kp0.st (tr5 p3 p5 p7 p41 p46) rfl)⟩
     rintro y51 _ _ ⟨s78, _, rfl, rfl, Ky51⟩
     exact Kj26 _ _ _ ⟨s78, _, rfl, (ue rfl rfl), Ky51⟩
    rw [if_neg (by rw [hb26]; decide)]
    rw [hb26] at zd25
    try rw [hb26]
    refine zfin [28, 29, 30] tb7 (((((((((((((((zd25.add 13 18 undef rfl).add 14 19 undef rfl).add 15 20 undef rfl).add 16 21 undef rfl).add 17 22 undef rfl).add 18 23 undef rfl).add 19 24 undef rfl).add 20 25 (.bool false) rfl).add 21 26 (.bool false) rfl).add 22 27 undef rfl).add 23 28 undef rfl).add 24 29 undef rfl).add 25 30 undef rfl).add 26 31 undef rfl).add 27 32 undef rfl) (Xb (Xr rfl) rfl (Xb (Xr rfl) rfl (Xb (Xr rfl) rfl (Xb (Xr rfl) rfl (Xb (Xr rfl) rfl (Xb (Xr rfl) rfl (Xb (Xm rfl) rfl (Xb (Xm rfl) rfl (Xb (Xr rfl) rfl (Xb (Xr rfl) rfl (Xb (Xr rfl) rfl (Xb (Xr rfl) rfl (Xb (Xr rfl) rfl (Xb (Xr rfl) rfl (Xb (Xr rfl) rfl (Xb (Xm rfl) rfl (Xb (Xm rfl) rfl (Xb (qv_b (Xm rfl) hb26) rfl (Xb (ld_q' (B5.st p7 rfl) u3 rfl) rfl (Xb (Xz fa26_1 rfl) rfl (Xb (ld_q' (B3.st (Xk p5 p7) rfl) u3 rfl) rfl (Xb (Xz fa26_1 rfl) rfl (Xb (Xm rfl) rfl (Xb (qv_b (Xm rfl) hb16) rfl (Xb (ld_q' (B5.st p7 rfl) u3 rfl) rfl (Xb (Xz fa26_0 rfl) rfl (Xb (ld_q' (B3.st (Xk p5 p7) rfl) u3 rfl) rfl (Xb (Xz fa26_0 rfl) rfl Xo)))))))))))))))))))))))))))) (by kernel_rfl) (by decide) (Xj rfl ?_)
    exact Xc rfl (Kj26 _ _ _ ⟨s7, _, rfl, (ue rfl rfl), (kp0.st (Xw p3 p5 p7) rfl)⟩)
   rintro y26 _ _ ⟨s99, _, rfl, rfl, Ky26⟩
   exact Kj16 _ _ _ ⟨s99, _, rfl, (ue rfl rfl), Ky26⟩
  rw [if_neg (by rw [hb16]; decide)]
  rw [hb16] at zd15
  try rw [hb16]
  refine zfin [28, 29, 30] tb7 ((((((((((((((((((((((zd15.add 6 11 undef rfl).add 7 12 undef rfl).add 8 13 undef rfl).add 9 14 undef rfl).add 10 15 undef rfl).add 11 16 (.bool false) rfl).add 12 17 (.bool false) rfl).add 13 18 undef rfl).add 14 19 undef rfl).add 15 20 undef rfl).add 16 21 undef rfl).add 17 22 undef rfl).add 18 23 undef rfl).add 19 24 undef rfl).add 20 25 (.bool false) rfl).add 21 26 (.bool false) rfl).add 22 27 undef rfl).add 23 28 undef rfl).add 24 29 undef rfl).add 25 30 undef rfl).add 26 31 undef rfl).add 27 32 undef rfl) (Xb (Xr rfl) rfl (Xb (Xr rfl) rfl (Xb (Xr rfl) rfl (Xb (Xr rfl) rfl (Xb (Xr rfl) rfl (Xb (Xr rfl) rfl (Xb (Xm rfl) rfl (Xb (Xm rfl) rfl (Xb (Xr rfl) rfl (Xb (Xr rfl) rfl (Xb (Xr rfl) rfl (Xb (Xr rfl) rfl (Xb (Xr rfl) rfl (Xb (Xr rfl) rfl (Xb (Xr rfl) rfl (Xb (Xm rfl) rfl (Xb (Xm rfl) rfl (Xb (Xr rfl) rfl (Xb (Xr rfl) rfl (Xb (Xr rfl) rfl (Xb (Xr rfl) rfl (Xb (Xr rfl) rfl (Xb (Xm rfl) rfl (Xb (qv_b (Xm rfl) hb16) rfl (Xb (ld_q' (B5.st p7 rfl) u3 rfl) rfl (Xb (Xz fa26_0 rfl) rfl (Xb (ld_q' (B3.st (Xk p5 p7) rfl) u3 rfl) rfl (Xb (Xz fa26_0 rfl) rfl Xo)))))))))))))))))))))))))))) (by kernel_rfl) (by decide) (Xj rfl (Xc rfl ?_))
  exact Kj16 _ _ _ ⟨s7, _, rfl, (ue rfl rfl), (kp0.st (Xw p3 p5 p7) rfl)⟩
 rintro y16 _ _ ⟨s125, _, rfl, rfl, Ky16⟩
 exact Xc rfl (dn (re rfl func10 rfl (r_t rfl Xg) rfl ⟨_, rfl, rfl, z.ky Ky16⟩))
def spec_l1PickInt.f (a0 : l1Cur) (a1 : (List Int)) : Option (Int × l1Cur) :=
 ((spec_l1Below.f a0 (a1.length : Int)).bind fun r4 => (if 0 ≤ r4.1 ∧ r4.1 < (a1.length : Int) then (some ((at_ a1 r4.1), (l1Cur.mk a0.b r4.2.i r4.2.h))) else none))
def spec_l1PickInt.Q (w : World) (F : Nat → Prop) (p0 : Nat) (w0_0 : Value) (r : Int × l1Cur) (v : Value) (w' : World) : Prop :=
 v = (iI r.1) ∧ BlW w' p0 80 [w0_0, (iI r.2.i), (iI r.2.h)] ∧ Ky [p0] w w'
theorem spec_l1PickInt.calls (a0 : l1Cur) (a1 : (List Int)) (w : World) (F : Nat → Prop) (p0 : Nat) (w0_0 : Value) (w1_0 : Value) (h0_0 : Ya.rd w [w0_0] a0.b F) (h1_0 : (Kd.sl 3 (Kd.int .i64)).rd w [w1_0] a1 F) (hb0 : BlW w p0 80 [w0_0, (iI a0.i), (iI a0.h)]) (hF : ∀ b, F b → b ∉ [p0]) (r : Int × l1Cur) (m : spec_l1PickInt.f a0 a1 = some r) :
  Calls prog 69 #[(pB p0), w1_0] w (RT (spec_l1PickInt.Q w F p0 w0_0) r) := by
 obtain ⟨s0, rfl, kp0, z⟩ := start1 w F [p0] hF
 have B0 := z.bl hb0 (by simp)
 have A1_0 := z.rd h1_0
 refine Xd (args := [(pB p0), w1_0]) func69 ntmps69 rfl rfl m ?_
 unfold spec_l1PickInt.f
 refine sr (Xc rfl (dn (sr (mv' w1_0 rfl (Xc rfl (mv' w1_0 rfl (ln A1_0 u96 rfl rfl rfl rfl rfl rfl (clB B0 rfl func31 rfl (spec_l1Below.calls a0 (a1.length : Int) s0.w (mm [0] s0) p0 w0_0 (z.rd h0_0) B0.w (B0.apart rfl)) (fun r4 s5 p5 B5 => ?_)))))))))
 have K7 := kp0.st p5 rfl
 refine ix (A1_0.kp K7) u96 z3 rfl rfl rfl rfl rfl rfl rfl rfl (fun ad9 es9 h0_9 h1_9 he9 ce9 ia9 => ?_)
 obtain rfl := he9
 exact lc0 ce9 u3 rfl rfl rfl rfl rfl rfl rfl rfl (Xc rfl (dn (re rfl func69 rfl (r_t rfl Xg) rfl ⟨_, rfl, rfl, B5.w, z.ky K7⟩)))
end Go.Proofs.YtdhefendaopcbaaGreatDoor
