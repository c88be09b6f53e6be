/- The functions as models, and that the calls come to what the models tell. -/
import Derived.Test.YtbkiaccollbjnaaGreatGsa
set_option linter.unusedVariables false
set_option linter.unusedSimpArgs false
set_option maxHeartbeats 4000000
set_option maxRecDepth 100000
noncomputable section
namespace Go.Proofs.YtbkiaccollbjnaaGreat
open Go V Tryz
def laws_eqIntA2.f (a0 : A2Int) (a1 : A2Int) : Option (Bool) :=
 ((some (a0.e0, a1.e0, a1.e0, a1.e1, a0.e0, a0.e1)).bind fun y8 => (if (y8.1 != y8.2.1) = true then (some false) else ((some ()).bind fun y44 => (if (y8.2.2.2.2.2 != y8.2.2.2.1) = true then (some false) else (some true)))))
def laws_eqIntA2.Q (w : World) (F : Nat → Prop) (r : Bool) (v : Value) (w' : World) : Prop :=
 v = (.bool r) ∧ Ky [] w w'
theorem laws_eqIntA2.calls (a0 : A2Int) (a1 : A2Int) (w : World) (F : Nat → Prop)   (r : Bool) (m : laws_eqIntA2.f a0 a1 = some r) :
  Calls prog 22 #[(.agg #[(iI a0.e0), (iI a0.e1)]), (.agg #[(iI a1.e0), (iI a1.e1)])] w (RT (laws_eqIntA2.Q w F) r) := by
 obtain ⟨s0, rfl, kp0, z⟩ := Xf w F
 refine Xc (args := [(.agg #[(iI a0.e0), (iI a0.e1)]), (.agg #[(iI a1.e0), (iI a1.e1)])]) func22 ntmps22 rfl rfl m ?_
 unfold laws_eqIntA2.f
 refine sr (bx' (cs := [(iI a0.e0), (iI a0.e1)]) 40 rfl rfl (fun b1 s1 p1 B1 => ?_))
 refine bx' (cs := [(iI a1.e0), (iI a1.e1)]) 41 rfl rfl (fun b3 s3 p3 B3 => ?_)
 refine Xb rfl (dn (sq (sr (Xb rfl (dn (bl (lpu (sq (sr (Xb rfl (Xb rfl (dn (cdt rfl (sk ?_))))))))))))))
 refine sq (bl (sq (zdraw [[], [0], [1], [], [3], [4], [2, 5]] [some 10, some 11, some 12, some 13, some 14, some 15, some 16] [[5], [2, 10], [11], [5], [3, 13], [14], [12, 15]] [0, 1, 2, 3, 4, 5, 6] ⟨by kernel_rfl, by kernel_rfl, by kernel_rfl⟩ (by kernel_rfl) (fun s5 p5 l5 tb5 zd5 => ?_))))
 refine ji [6] (fun (y8 : Int × Int × Int × Int × Int × Int) e w => ∃ (s : St) (e0 : Env), w = s.w ∧ e = upd (upd (upd (upd (upd e0 2 (pB b1)) 3 (pB b3)) 5 (iI 0)) 12 (iI y8.1)) 15 (iI y8.2.1) ∧ Kp s0 s ∧ BlF s b3 44 [(iI y8.2.2.1), (iI y8.2.2.2.1)] 41 ∧ BlF s b1 44 [(iI y8.2.2.2.2.1), (iI y8.2.2.2.2.2)] 40) (fun Gj8 Kj8 => ?_) ?_
 ·
  refine zstep2 1 4 [some 13] [some 10] tb5 ((zd5.add 0 10 (iI 0) rfl).add 3 13 (iI 0) rfl) (Xa (Xh rfl) rfl (Xa (Xh rfl) rfl Xo)) (by kernel_rfl) (by kernel_rfl) (fun l9 e9 zd9 => ?_) (fun l10 e10 zd10 => ?_)
  ·
   refine ixc (q := 0) u44 z3 rfl rfl rfl rfl rfl rfl rfl rfl rfl (zdone (L' := [3]) (D' := [0, 1]) zd9 rfl rfl rfl (fun zd11 => ?_))
   refine zstep 4 [some 12] tb5 (zd11.add 2 12 (iI a0.e0) rfl) (Xa (Xl (B1.st (tr2 p3 p5) rfl) u3 rfl) rfl (Xa (Xh rfl) rfl Xo)) (by kernel_rfl) rfl (fun l14 e14 zd14 => ?_)
   refine ixc (q := 0) u44 z3 rfl rfl rfl rfl rfl rfl rfl rfl rfl (zdone (L' := [2]) (D' := [3, 4, 0, 1]) zd14 rfl rfl rfl (fun zd16 => ?_))
   exact zfin [6] tb5 (zd16.add 5 15 (iI a1.e0) rfl) (Xa (Xl (B3.st p5 rfl) u3 rfl) rfl (Xa (Xl (B1.st (tr2 p3 p5) rfl) u3 rfl) rfl Xo)) (by kernel_rfl) (by decide) (Kj8 _ _ _ ⟨s5, _, rfl, (ue (ue (ue (ue (ue rfl rfl) rfl) rfl) rfl) rfl), (kp0.st (tr3 p1 p3 p5) rfl), (B3.st p5 rfl), (B1.st (tr2 p3 p5) rfl)⟩)
  refine ixc (q := 0) u44 z3 rfl rfl rfl rfl rfl rfl rfl rfl rfl (zdone (L' := [0]) (D' := [3, 4]) zd10 rfl rfl rfl (fun zd24 => ?_))
  refine zstep 1 [some 15] tb5 (zd24.add 5 15 (iI a1.e0) rfl) (Xa (Xl (B3.st p5 rfl) u3 rfl) rfl (Xa (Xh rfl) rfl Xo)) (by kernel_rfl) rfl (fun l27 e27 zd27 => ?_)
  refine ixc (q := 0) u44 z3 rfl rfl rfl rfl rfl rfl rfl rfl rfl (zdone (L' := [5]) (D' := [0, 1, 3, 4]) zd27 rfl rfl rfl (fun zd29 => ?_))
  exact zfin [6] tb5 (zd29.add 2 12 (iI a0.e0) rfl) (Xa (Xl (B1.st (tr2 p3 p5) rfl) u3 rfl) rfl (Xa (Xl (B3.st p5 rfl) u3 rfl) rfl Xo)) (by kernel_rfl) (by decide) (Kj8 _ _ _ ⟨s5, _, rfl, (ue (ue (ue (ue (ue rfl rfl) rfl) rfl) rfl) rfl), (kp0.st (tr3 p1 p3 p5) rfl), (B3.st p5 rfl), (B1.st (tr2 p3 p5) rfl)⟩)
 rintro y8 _ _ ⟨s37, _, rfl, rfl, Ky8, By8_b3, By8_b1⟩
 refine Xb rfl (dn (cd rfl (fun h40 => ?_) (fun h40 => ?_)))
 ·
  exact sr (Xb rfl (dn (re rfl func22 rfl (Xj rfl Xd) rfl ⟨_, rfl, rfl, z.ky Ky8⟩)))
 refine sk (ib (rg (Xb rfl (Xb rfl (Xb rfl (dn (inu (sq (sr (Xb rfl (Xb rfl (dn (cdt rfl (sk ?_))))))))))))))
 refine sq (bl (sq (zdraw [[], [0], [1], [], [3], [4], [2, 5]] [some 10, some 11, some 12, some 13, some 14, some 15, some 16] [[5], [2, 10], [11], [5], [3, 13], [14], [12, 15]] [0, 1, 2, 3, 4, 5, 6] ⟨by kernel_rfl, by kernel_rfl, by kernel_rfl⟩ (by kernel_rfl) (fun s41 p41 l41 tb41 zd41 => ?_))))
 refine ji [6] (fun (y44 : Unit) e w => ∃ (s : St) (e0 : Env), w = s.w ∧ e = upd (upd (upd (upd (upd e0 2 (pB b1)) 3 (pB b3)) 5 (iI 1)) 12 (iI y8.2.2.2.2.2)) 15 (iI y8.2.2.2.1) ∧ Kp s0 s ∧ BlF s b3 44 [(iI y8.2.2.1), (iI y8.2.2.2.1)] 41 ∧ BlF s b1 44 [(iI y8.2.2.2.2.1), (iI y8.2.2.2.2.2)] 40) (fun Gj44 Kj44 => ?_) ?_
 ·
  refine zstep2 1 4 [some 13] [some 10] tb41 ((zd41.add 0 10 (iI 1) rfl).add 3 13 (iI 1) rfl) (Xa (Xh rfl) rfl (Xa (Xh rfl) rfl Xo)) (by kernel_rfl) (by kernel_rfl) (fun l45 e45 zd45 => ?_) (fun l46 e46 zd46 => ?_)
  ·
   refine ixc (q := 1) u44 z3 rfl rfl rfl rfl rfl rfl rfl rfl rfl (zdone (L' := [3]) (D' := [0, 1]) zd45 rfl rfl rfl (fun zd47 => ?_))
   refine zstep 4 [some 12] tb41 (zd47.add 2 12 (iI y8.2.2.2.2.2) rfl) (Xa (Xl (By8_b1.st p41 rfl) u3 rfl) rfl (Xa (Xh rfl) rfl Xo)) (by kernel_rfl) rfl (fun l50 e50 zd50 => ?_)
   refine ixc (q := 1) u44 z3 rfl rfl rfl rfl rfl rfl rfl rfl rfl (zdone (L' := [2]) (D' := [3, 4, 0, 1]) zd50 rfl rfl rfl (fun zd52 => ?_))
   exact zfin [6] tb41 (zd52.add 5 15 (iI y8.2.2.2.1) rfl) (Xa (Xl (By8_b3.st p41 rfl) u3 rfl) rfl (Xa (Xl (By8_b1.st p41 rfl) u3 rfl) rfl Xo)) (by kernel_rfl) (by decide) (Kj44 _ _ _ ⟨s41, _, rfl, (ue (ue (ue (ue (ue rfl rfl) rfl) rfl) rfl) rfl), (Ky8.st p41 rfl), (By8_b3.st p41 rfl), (By8_b1.st p41 rfl)⟩)
  refine ixc (q := 1) u44 z3 rfl rfl rfl rfl rfl rfl rfl rfl rfl (zdone (L' := [0]) (D' := [3, 4]) zd46 rfl rfl rfl (fun zd60 => ?_))
  refine zstep 1 [some 15] tb41 (zd60.add 5 15 (iI y8.2.2.2.1) rfl) (Xa (Xl (By8_b3.st p41 rfl) u3 rfl) rfl (Xa (Xh rfl) rfl Xo)) (by kernel_rfl) rfl (fun l63 e63 zd63 => ?_)
  refine ixc (q := 1) u44 z3 rfl rfl rfl rfl rfl rfl rfl rfl rfl (zdone (L' := [5]) (D' := [0, 1, 3, 4]) zd63 rfl rfl rfl (fun zd65 => ?_))
  exact zfin [6] tb41 (zd65.add 2 12 (iI y8.2.2.2.2.2) rfl) (Xa (Xl (By8_b1.st p41 rfl) u3 rfl) rfl (Xa (Xl (By8_b3.st p41 rfl) u3 rfl) rfl Xo)) (by kernel_rfl) (by decide) (Kj44 _ _ _ ⟨s41, _, rfl, (ue (ue (ue (ue (ue rfl rfl) rfl) rfl) rfl) rfl), (Ky8.st p41 rfl), (By8_b3.st p41 rfl), (By8_b1.st p41 rfl)⟩)
 rintro y44 _ _ ⟨s73, _, rfl, rfl, Ky44, By44_b3, By44_b1⟩
 refine Xb rfl (dn (cd rfl (fun h76 => ?_) (fun h76 => ?_)))
 ·
  exact sr (Xb rfl (dn (re rfl func22 rfl (Xj rfl Xd) rfl ⟨_, rfl, rfl, z.ky Ky44⟩)))
 refine sk (ib (rg (Xb rfl (Xb rfl (Xb rfl (dn (inu (sq (sr (Xb rfl (Xb rfl (dn (cdf rfl (xt rfl ?_))))))))))))))
 exact sr (Xb rfl (dn (re rfl func22 rfl (Xj rfl Xd) rfl ⟨_, rfl, rfl, z.ky Ky44⟩)))
def laws_eqIntA2S.b0 (a0 : (List A2Int)) (a1 : (List A2Int)) (x4 : Int) : Option (Int ⊕ Bool) :=
 (if (decide (x4 < (a0.length : Int))) = true then (if 0 ≤ x4 ∧ x4 < (a0.length : Int) then (if 0 ≤ x4 ∧ x4 < (a1.length : Int) then ((laws_eqIntA2.f (at_ a0 x4) (at_ a1 x4)).bind fun r24 => (if (!r24) = true then (some (Sum.inr false)) else (some (Sum.inl (IntKind.wrap .i64 (x4 + (1 : Int))))))) else none) else none) else ((some true).bind fun o => some (Sum.inr o)))
def laws_eqIntA2S.f (a0 : (List A2Int)) (a1 : (List A2Int)) : Option (Bool) :=
 (if ((a0.length : Int) != (a1.length : Int)) = true then (some false) else (iter (laws_eqIntA2S.b0 a0 a1) (0 : Int)))
def laws_eqIntA2S.Q (w : World) (F : Nat → Prop) (r : Bool) (v : Value) (w' : World) : Prop :=
 v = (.bool r) ∧ Ky [] w w'
theorem laws_eqIntA2S.calls (a0 : (List A2Int)) (a1 : (List A2Int)) (w : World) (F : Nat → Prop) (w0_0 : Value) (w1_0 : Value) (h0_0 : Xv.rd w [w0_0] a0 F) (h1_0 : Xv.rd w [w1_0] a1 F) (r : Bool) (m : laws_eqIntA2S.f a0 a1 = some r) :
  Calls prog 8 #[w0_0, w1_0] w (RT (laws_eqIntA2S.Q w F) r) := by
 obtain ⟨s0, rfl, kp0, z⟩ := Xf w F
 have A0_0 := z.rd h0_0
 have A1_0 := z.rd h1_0
 refine Xc (args := [w0_0, w1_0]) func8 ntmps8 rfl rfl m ?_
 unfold laws_eqIntA2S.f
 refine sr (Xb rfl (dn (sq (sr (Xi w0_0 rfl (ln' A0_0 u24 rfl (Xi w1_0 rfl (ln' A1_0 u24 rfl (Xb rfl (dn (cd rfl (fun h3 => ?_) (fun h3 => ?_))))))))))))
 ·
  exact sr (Xb rfl (dn (re rfl func8 rfl (Xj rfl Xd) rfl ⟨_, rfl, rfl, z.ky kp0⟩)))
 refine sk (sq (sr (Xb rfl (dn (bl (lpI (fun (x4 : Int) e w => ∃ (s : St) (e0 : Env), w = s.w ∧ e = upd (upd (upd e0 0 w0_0) 1 w1_0) 5 (iI x4) ∧ Kp s0 s) ⟨s0, _, rfl, (ue (ue (ue rfl rfl) rfl) rfl), kp0⟩ (fun g4 ih4 => ?_)))))))
 rintro x4 _ _ ⟨s5, _, rfl, rfl, Kx4⟩
 unfold laws_eqIntA2S.b0
 refine sq (sr (Xb rfl (Xi w0_0 rfl ?_)))
 refine ln' (A0_0.kp Kx4) u24 rfl (Xb rfl (dn (cd rfl (fun h7 => ?_) (fun h7 => ?_))))
 ·
  refine sk (sq (bl (sq (zdraw [[], [], [0, 1], [2], [], [], [4, 5], [6], [3, 7], [8]] [some 17, some 18, some 19, some 20, some 21, some 22, some 23, some 24, some 25, some 26] [[0], [5], [17, 18], [19], [1], [5], [21, 22], [23], [20, 24], [25]] [0, 1, 2, 3, 4, 5, 6, 7, 8, 9] ⟨by kernel_rfl, by kernel_rfl, by kernel_rfl⟩ (by kernel_rfl) (fun s8 p8 l8 tb8 zd8 => ?_)))))
  have K11 := Kx4.st p8 rfl
  have A12 := A0_0.kp K11
  refine mg fun hg13 => ?_
  obtain ⟨ad13, es13, he13, ce13, ia13⟩ := ix_e A12 rfl hg13.1 hg13.2
  obtain ⟨rfl⟩ := op44 he13
  have A19 := A1_0.kp K11
  refine mg fun hg20 => ?_
  obtain ⟨ad20, es20, he20, ce20, ia20⟩ := ix_e A19 rfl hg20.1 hg20.2
  obtain ⟨rfl⟩ := op44 he20
  refine zfin [8, 9] tb8 ((((((((zd8.add 0 17 w0_0 rfl).add 1 18 (iI x4) rfl).add 2 19 (.pointer (some ad13)) rfl).add 3 20 (.agg #[(iI ((at_ a0 x4).e0)), (iI ((at_ a0 x4).e1))]) rfl).add 4 21 w1_0 rfl).add 5 22 (iI x4) rfl).add 6 23 (.pointer (some ad20)) rfl).add 7 24 (.agg #[(iI ((at_ a1 x4).e0)), (iI ((at_ a1 x4).e1))]) rfl) (Xa (lca_q ce20 u44 z44 rfl rfl rfl rfl rfl rfl rfl) rfl (Xa (ix_q' A19 u24 z44 hg20.1 hg20.2 ia20 rfl) rfl (Xa (Xh rfl) rfl (Xa (mv_q w1_0 rfl rfl rfl rfl rfl rfl) rfl (Xa (lca_q ce13 u44 z44 rfl rfl rfl rfl rfl rfl rfl) rfl (Xa (ix_q' A12 u24 z44 hg13.1 hg13.2 ia13 rfl) rfl (Xa (Xh rfl) rfl (Xa (mv_q w0_0 rfl rfl rfl rfl rfl rfl) rfl Xo)))))))) (by kernel_rfl) (by decide) (clV 40 rfl func22 rfl (laws_eqIntA2.calls (at_ a0 x4) (at_ a1 x4) s8.w (mm [] s8)) (fun r24 s25 p25 n25 => ?_))
  refine Xb rfl (dn (cd rfl (fun h26 => ?_) (fun h26 => ?_)))
  ·
   refine sr (Xb rfl (dn (sgi ?_)))
   exact re rfl func8 rfl (Xj rfl Xd) rfl ⟨_, rfl, rfl, z.ky (K11.st p25 rfl)⟩
  refine sk (ib (rg (Xb rfl (Xb rfl (Xb rfl (dn ?_))))))
  exact lb ih4 ⟨s25, _, rfl, (ue (ue (ue rfl rfl) rfl) rfl), (K11.st p25 rfl)⟩
 exact xt rfl (sgb (sr (Xb rfl (dn (re rfl func8 rfl (Xj rfl Xd) rfl ⟨_, rfl, rfl, z.ky Kx4⟩)))))
def laws_sameFloat.f (a0 : Nat) (a1 : Nat) : Option (Bool) :=
 (if ((fcmp .f64 a0 a0 != some .eq) || (fcmp .f64 a1 a1 != some .eq)) = true then (some ((fcmp .f64 a0 a0 != some .eq) && (fcmp .f64 a1 a1 != some .eq))) else (if ((fcmp .f64 a0 (0 : Nat) == some .eq) && (fcmp .f64 a1 (0 : Nat) == some .eq)) = true then (some ((fcmp .f64 (far .quo (4607182418800017408 : Nat) a0) (0 : Nat) == some .gt) == (fcmp .f64 (far .quo (4607182418800017408 : Nat) a1) (0 : Nat) == some .gt))) else (some (fcmp .f64 a0 a1 == some .eq))))
def laws_sameFloat.Q (w : World) (F : Nat → Prop) (r : Bool) (v : Value) (w' : World) : Prop :=
 v = (.bool r) ∧ Ky [] w w'
theorem laws_sameFloat.calls (a0 : Nat) (a1 : Nat) (w : World) (F : Nat → Prop) (w0_0 : Value) (w1_0 : Value) (h0_0 : Kd.flt.rd w [w0_0] a0 F) (h1_0 : Kd.flt.rd w [w1_0] a1 F) (r : Bool) (m : laws_sameFloat.f a0 a1 = some r) :
  Calls prog 95 #[w0_0, w1_0] w (RT (laws_sameFloat.Q w F) r) := by
 obtain ⟨s0, rfl, kp0, z⟩ := Xf w F
 have A0_0 := Xm h0_0
 have A1_0 := Xm h1_0
 refine Xc (args := [w0_0, w1_0]) func95 ntmps95 rfl rfl m ?_
 unfold laws_sameFloat.f
 refine sr (Xb rfl (dn (sq (sr (Xi w0_0 rfl (Xi w0_0 rfl (fq_' A0_0 A0_0 rfl (Xb rfl (jy [8, 9, 10, 11, 12] [] 12 (.bool ((fcmp .f64 a0 a0 != some .eq) || (fcmp .f64 a1 a1 != some .eq))) rfl (fun Kg1 => ?_) (fun j1 => ?_))))))))))
 ·
  rcases bft (fcmp .f64 a0 a0 != some .eq) with hb1 | hb1
  ·
   exact sbT hb1 (Xg rfl (Xg rfl (Xg rfl (Xb rfl (Kg1 _ (Ag.put ((Ag.put ((Ag.put ((Ag.put (Ag.base rfl) rfl)) rfl)) rfl)) rfl) (by rw [hb1]; rfl))))))
  exact sbT hb1 (Xi w1_0 rfl (Xi w1_0 rfl (fq_' A1_0 A1_0 rfl (Xb rfl (Kg1 _ (Ag.put ((Ag.put ((Ag.put ((Ag.put (Ag.base rfl) rfl)) rfl)) rfl)) rfl) (by rw [hb1]; rfl))))))
 refine dn (cd rfl (fun h2 => ?_) (fun h2 => ?_))
 ·
  refine sr (Xi w0_0 rfl (Xi w0_0 rfl (fq_' A0_0 A0_0 rfl (Xb rfl (jy [16, 17, 18, 19, 20] [8] 20 (.bool ((fcmp .f64 a0 a0 != some .eq) && (fcmp .f64 a1 a1 != some .eq))) rfl (fun Kg3 => ?_) (fun j3 => ?_))))))
  ·
   rcases bft (fcmp .f64 a0 a0 != some .eq) with hb3 | hb3
   ·
    exact sbT hb3 (Xi w1_0 rfl (Xi w1_0 rfl (fq_' A1_0 A1_0 rfl (Xb rfl (Kg3 _ (Ag.put ((Ag.put ((Ag.put ((Ag.put (Ag.base rfl) rfl)) rfl)) rfl)) rfl) (by rw [hb3]; rfl))))))
   exact sbT hb3 (Xg rfl (Xg rfl (Xg rfl (Xb rfl (Kg3 _ (Ag.put ((Ag.put ((Ag.put ((Ag.put (Ag.base rfl) rfl)) rfl)) rfl)) rfl) (by rw [hb3]; rfl))))))
  exact Xb rfl (dn (re rfl func95 rfl (Xj rfl Xd) rfl ⟨_, rfl, rfl, z.ky kp0⟩))
 refine sk (sq (sr (Xi w0_0 rfl (fq_' A0_0 (fl_c rfl) rfl (Xb rfl (jy [23, 24, 25, 26] [] 26 (.bool ((fcmp .f64 a0 (0 : Nat) == some .eq) && (fcmp .f64 a1 (0 : Nat) == some .eq))) rfl (fun Kg4 => ?_) (fun j4 => ?_)))))))
 ·
  rcases bft (fcmp .f64 a0 (0 : Nat) == some .eq) with hb4 | hb4
  ·
   exact sbT hb4 (Xi w1_0 rfl (fq_' A1_0 (fl_c rfl) rfl (Xb rfl (Kg4 _ (Ag.put ((Ag.put ((Ag.put (Ag.base rfl) rfl)) rfl)) rfl) (by rw [hb4]; rfl)))))
  exact sbT hb4 (Xg rfl (Xg rfl (Xb rfl (Kg4 _ (Ag.put ((Ag.put ((Ag.put (Ag.base rfl) rfl)) rfl)) rfl) (by rw [hb4]; rfl)))))
 refine dn (cd rfl (fun h5 => ?_) (fun h5 => ?_))
 ·
  refine sr (Xi w0_0 rfl (fa_ (fl_c rfl) A0_0 (by simp) rfl rfl rfl rfl rfl rfl rfl (fun v6 s6 p6 A6 => ?_)))
  refine fq_' A6 (fl_c rfl) rfl (Xi w1_0 rfl (fa_ (fl_c rfl) A1_0 (by simp) rfl rfl rfl rfl rfl rfl rfl (fun v7 s7 p7 A7 => ?_)))
  refine fq_' A7 (fl_c rfl) rfl (beq_ u4 rfl rfl rfl rfl rfl rfl rfl (Xb rfl (dn ?_)))
  exact re rfl func95 rfl (Xj rfl Xd) rfl ⟨_, rfl, rfl, z.ky (kp0.st (tr2 p6 p7) rfl)⟩
 exact sk (sr (Xi w0_0 rfl (Xi w1_0 rfl (fq_' A0_0 A1_0 rfl (Xb rfl (dn (re rfl func95 rfl (Xj rfl Xd) rfl ⟨_, rfl, rfl, z.ky kp0⟩)))))))
def laws_eqByteS.b0 (a0 : (List Int)) (a1 : (List Int)) (x4 : Int) : Option (Int ⊕ Bool) :=
 (if (decide (x4 < (a0.length : Int))) = true then (if 0 ≤ x4 ∧ x4 < (a0.length : Int) then (if 0 ≤ x4 ∧ x4 < (a1.length : Int) then (if ((at_ a0 x4) != (at_ a1 x4)) = true then (some (Sum.inr false)) else (some (Sum.inl (IntKind.wrap .i64 (x4 + (1 : Int)))))) else none) else none) else ((some true).bind fun o => some (Sum.inr o)))
def laws_eqByteS.f (a0 : (List Int)) (a1 : (List Int)) : Option (Bool) :=
 (if ((a0.length : Int) != (a1.length : Int)) = true then (some false) else (iter (laws_eqByteS.b0 a0 a1) (0 : Int)))
def laws_eqByteS.Q (w : World) (F : Nat → Prop) (r : Bool) (v : Value) (w' : World) : Prop :=
 v = (.bool r) ∧ Ky [] w w'
theorem laws_eqByteS.calls (a0 : (List Int)) (a1 : (List Int)) (w : World) (F : Nat → Prop) (w0_0 : Value) (w1_0 : Value) (h0_0 : Xr.rd w [w0_0] a0 F) (h1_0 : Xr.rd w [w1_0] a1 F) (r : Bool) (m : laws_eqByteS.f a0 a1 = some r) :
  Calls prog 96 #[w0_0, w1_0] w (RT (laws_eqByteS.Q w F) r) := by
 obtain ⟨s0, rfl, kp0, z⟩ := Xf w F
 have A0_0 := z.rd h0_0
 have A1_0 := z.rd h1_0
 refine Xc (args := [w0_0, w1_0]) func96 ntmps96 rfl rfl m ?_
 unfold laws_eqByteS.f
 refine sr (Xb rfl (dn (sq (sr (Xi w0_0 rfl (ln' A0_0 u59 rfl (Xi w1_0 rfl (ln' A1_0 u59 rfl (Xb rfl (dn (cd rfl (fun h3 => ?_) (fun h3 => ?_))))))))))))
 ·
  exact sr (Xb rfl (dn (re rfl func96 rfl (Xj rfl Xd) rfl ⟨_, rfl, rfl, z.ky kp0⟩)))
 refine sk (sq (sr (Xb rfl (dn (bl (lpI (fun (x4 : Int) e w => ∃ (s : St) (e0 : Env), w = s.w ∧ e = upd (upd (upd e0 0 w0_0) 1 w1_0) 5 (iI x4) ∧ Kp s0 s) ⟨s0, _, rfl, (ue (ue (ue rfl rfl) rfl) rfl), kp0⟩ (fun g4 ih4 => ?_)))))))
 rintro x4 _ _ ⟨s5, _, rfl, rfl, Kx4⟩
 unfold laws_eqByteS.b0
 refine sq (sr (Xb rfl (Xi w0_0 rfl ?_)))
 refine ln' (A0_0.kp Kx4) u59 rfl (Xb rfl (dn (cd rfl (fun h7 => ?_) (fun h7 => ?_))))
 ·
  refine sk (sq (bl (sq (zdraw [[], [], [0, 1], [2], [], [], [4, 5], [6], [3, 7]] [some 17, some 18, some 19, some 20, some 21, some 22, some 23, some 24, some 25] [[0], [5], [17, 18], [19], [1], [5], [21, 22], [23], [20, 24]] [0, 1, 2, 3, 4, 5, 6, 7, 8] ⟨by kernel_rfl, by kernel_rfl, by kernel_rfl⟩ (by kernel_rfl) (fun s8 p8 l8 tb8 zd8 => ?_)))))
  have K11 := Kx4.st p8 rfl
  have A12 := A0_0.kp K11
  refine mg fun hg13 => ?_
  obtain ⟨ad13, es13, he13, ce13, ia13⟩ := ix_e A12 rfl hg13.1 hg13.2
  obtain rfl := he13
  have A19 := A1_0.kp K11
  refine mg fun hg20 => ?_
  obtain ⟨ad20, es20, he20, ce20, ia20⟩ := ix_e A19 rfl hg20.1 hg20.2
  obtain rfl := he20
  refine zfin [8] tb8 ((((((((zd8.add 0 17 w0_0 rfl).add 1 18 (iI x4) rfl).add 2 19 (.pointer (some ad13)) rfl).add 3 20 (.int .u8 (at_ a0 x4)) rfl).add 4 21 w1_0 rfl).add 5 22 (iI x4) rfl).add 6 23 (.pointer (some ad20)) rfl).add 7 24 (.int .u8 (at_ a1 x4)) rfl) (Xa (lc0_q ce20 u5 rfl rfl rfl rfl rfl rfl rfl rfl) rfl (Xa (ix_q' A19 u59 z5 hg20.1 hg20.2 ia20 rfl) rfl (Xa (Xh rfl) rfl (Xa (mv_q w1_0 rfl rfl rfl rfl rfl rfl) rfl (Xa (lc0_q ce13 u5 rfl rfl rfl rfl rfl rfl rfl rfl) rfl (Xa (ix_q' A12 u59 z5 hg13.1 hg13.2 ia13 rfl) rfl (Xa (Xh rfl) rfl (Xa (mv_q w0_0 rfl rfl rfl rfl rfl rfl) rfl Xo)))))))) (by kernel_rfl) (by decide) (Xb rfl (dn (cd rfl (fun h24 => ?_) (fun h24 => ?_))))
  ·
   exact sr (Xb rfl (dn (sgi (re rfl func96 rfl (Xj rfl Xd) rfl ⟨_, rfl, rfl, z.ky K11⟩))))
  exact sk (ib (rg (Xb rfl (Xb rfl (Xb rfl (dn (lb ih4 ⟨s8, _, rfl, (ue (ue (ue rfl rfl) rfl) rfl), K11⟩)))))))
 exact xt rfl (sgb (sr (Xb rfl (dn (re rfl func96 rfl (Xj rfl Xd) rfl ⟨_, rfl, rfl, z.ky Kx4⟩)))))
def laws_eqItem.f (a0 : Item) (a1 : Item) : Option (Bool) :=
 (if (a0.Kind != a1.Kind) = true then (some false) else (if (a0.N != a1.N) = true then (some false) else ((laws_sameFloat.f a0.F a1.F).bind fun r12 => (if (!r12) = true then (some false) else ((laws_eqByteS.f a0.T a1.T).bind fun r21 => (if (!r21) = true then (some false) else (some true)))))))
def laws_eqItem.Q (w : World) (F : Nat → Prop) (r : Bool) (v : Value) (w' : World) : Prop :=
 v = (.bool r) ∧ Ky [] w w'
theorem laws_eqItem.calls (a0 : Item) (a1 : Item) (w : World) (F : Nat → Prop) (w0_0 : Value) (w0_1 : Value) (w1_0 : Value) (w1_1 : Value) (h0_0 : Kd.flt.rd w [w0_0] a0.F F) (h0_1 : Xr.rd w [w0_1] a0.T F) (h1_0 : Kd.flt.rd w [w1_0] a1.F F) (h1_1 : Xr.rd w [w1_1] a1.T F) (r : Bool) (m : laws_eqItem.f a0 a1 = some r) :
  Calls prog 74 #[(.agg #[(iI a0.Kind), (iI a0.N), w0_0, w0_1]), (.agg #[(iI a1.Kind), (iI a1.N), w1_0, w1_1])] w (RT (laws_eqItem.Q w F) r) := by
 obtain ⟨s0, rfl, kp0, z⟩ := Xf w F
 refine Xc (args := [(.agg #[(iI a0.Kind), (iI a0.N), w0_0, w0_1]), (.agg #[(iI a1.Kind), (iI a1.N), w1_0, w1_1])]) func74 ntmps74 rfl rfl m ?_
 unfold laws_eqItem.f
 refine sr (bx' (cs := [(iI a0.Kind), (iI a0.N), w0_0, w0_1]) 40 rfl rfl (fun b3 s3 p3 B3 => ?_))
 refine bx' (cs := [(iI a1.Kind), (iI a1.N), w1_0, w1_1]) 41 rfl rfl (fun b5 s5 p5 B5 => ?_)
 refine Xb rfl (dn (sq (sr (Xn fa61_0 rfl ?_))))
 have A7 := B3.st p5 rfl
 refine ld' A7 u3 rfl (Xn fa61_0 rfl (ld' B5 u3 rfl (Xb rfl (dn (cd rfl (fun h8 => ?_) (fun h8 => ?_))))))
 ·
  refine sr (Xb rfl (dn ?_))
  exact re rfl func74 rfl (Xj rfl Xd) rfl ⟨_, rfl, rfl, z.ky (kp0.st (tr2 p3 p5) rfl)⟩
 refine sk (sq (sr (Xn fa61_1 rfl (ld' A7 u3 rfl (Xn fa61_1 rfl (ld' B5 u3 rfl (Xb rfl (dn (cd rfl (fun h10 => ?_) (fun h10 => ?_))))))))))
 ·
  refine sr (Xb rfl (dn ?_))
  exact re rfl func74 rfl (Xj rfl Xd) rfl ⟨_, rfl, rfl, z.ky (kp0.st (tr2 p3 p5) rfl)⟩
 refine sk (sq (sr (Xn fa61_2 rfl (ld' A7 u58 rfl (Xn fa61_2 rfl (ld' B5 u58 rfl (clV 42 rfl func95 rfl (laws_sameFloat.calls a0.F a1.F s5.w (mm [] s5) w0_0 w1_0 (Xe (s := s5) (Xm h0_0)) (Xe (s := s5) (Xm h1_0))) (fun r12 s13 p13 n13 => ?_))))))))
 refine Xb rfl (dn (cd rfl (fun h14 => ?_) (fun h14 => ?_)))
 ·
  refine sr (Xb rfl (dn ?_))
  exact re rfl func74 rfl (Xj rfl Xd) rfl ⟨_, rfl, rfl, z.ky (kp0.st (tr3 p3 p5 p13) rfl)⟩
 refine sk (sq (sr (Xn fa61_3 rfl ?_)))
 refine ld' (A7.st p13 rfl) u59 rfl (Xn fa61_3 rfl ?_)
 refine ld' (B5.st p13 rfl) u59 rfl ?_
 have K18 := kp0.st (tr3 p3 p5 p13) rfl
 refine clV 43 rfl func96 rfl (laws_eqByteS.calls a0.T a1.T s13.w (mm [0] s13) w0_1 w1_1 ((z.rd h0_1).kp K18) ((z.rd h1_1).kp K18)) (fun r21 s22 p22 n22 => ?_)
 refine Xb rfl (dn (cd rfl (fun h23 => ?_) (fun h23 => ?_)))
 ·
  refine sr (Xb rfl (dn ?_))
  exact re rfl func74 rfl (Xj rfl Xd) rfl ⟨_, rfl, rfl, z.ky (K18.st p22 rfl)⟩
 refine sk (sr (Xb rfl (dn ?_)))
 exact re rfl func74 rfl (Xj rfl Xd) rfl ⟨_, rfl, rfl, z.ky (K18.st p22 rfl)⟩
def laws_eqSpan.f (a0 : Span) (a1 : Span) : Option (Bool) :=
 ((laws_eqItem.f a0.From a1.From).bind fun r13 => (if (!r13) = true then (some false) else ((laws_eqItem.f a0.To a1.To).bind fun r22 => (if (!r22) = true then (some false) else (some true)))))
def laws_eqSpan.Q (w : World) (F : Nat → Prop) (r : Bool) (v : Value) (w' : World) : Prop :=
 v = (.bool r) ∧ Ky [] w w'
theorem laws_eqSpan.calls (a0 : Span) (a1 : Span) (w : World) (F : Nat → Prop) (w0_0 : Value) (w0_1 : Value) (w0_2 : Value) (w0_3 : Value) (w1_0 : Value) (w1_1 : Value) (w1_2 : Value) (w1_3 : Value) (h0_0 : Kd.flt.rd w [w0_0] a0.From.F F) (h0_1 : Xr.rd w [w0_1] a0.From.T F) (h0_2 : Kd.flt.rd w [w0_2] a0.To.F F) (h0_3 : Xr.rd w [w0_3] a0.To.T F) (h1_0 : Kd.flt.rd w [w1_0] a1.From.F F) (h1_1 : Xr.rd w [w1_1] a1.From.T F) (h1_2 : Kd.flt.rd w [w1_2] a1.To.F F) (h1_3 : Xr.rd w [w1_3] a1.To.T F) (r : Bool) (m : laws_eqSpan.f a0 a1 = some r) :
  Calls prog 73 #[(.agg #[(iI a0.From.Kind), (iI a0.From.N), w0_0, w0_1, (iI a0.To.Kind), (iI a0.To.N), w0_2, w0_3]), (.agg #[(iI a1.From.Kind), (iI a1.From.N), w1_0, w1_1, (iI a1.To.Kind), (iI a1.To.N), w1_2, w1_3])] w (RT (laws_eqSpan.Q w F) r) := by
 obtain ⟨s0, rfl, kp0, z⟩ := Xf w F
 refine Xc (args := [(.agg #[(iI a0.From.Kind), (iI a0.From.N), w0_0, w0_1, (iI a0.To.Kind), (iI a0.To.N), w0_2, w0_3]), (.agg #[(iI a1.From.Kind), (iI a1.From.N), w1_0, w1_1, (iI a1.To.Kind), (iI a1.To.N), w1_2, w1_3])]) func73 ntmps73 rfl rfl m ?_
 unfold laws_eqSpan.f
 refine sr (bx' (cs := [(iI a0.From.Kind), (iI a0.From.N), w0_0, w0_1, (iI a0.To.Kind), (iI a0.To.N), w0_2, w0_3]) 40 rfl rfl (fun b5 s5 p5 B5 => ?_))
 refine bx' (cs := [(iI a1.From.Kind), (iI a1.From.N), w1_0, w1_1, (iI a1.To.Kind), (iI a1.To.N), w1_2, w1_3]) 41 rfl rfl (fun b7 s7 p7 B7 => ?_)
 refine Xb rfl (dn (sq (sr (Xn fa63_0 rfl ?_))))
 have A9 := B5.st p7 rfl
 refine lda' (es := [(iI a0.From.Kind), (iI a0.From.N), w0_0, w0_1]) A9 u61 z61 rfl (Xn fa63_0 rfl (lda' (es := [(iI a1.From.Kind), (iI a1.From.N), w1_0, w1_1]) B7 u61 z61 rfl ?_))
 have K10 := kp0.st (tr2 p5 p7) rfl
 refine clV 42 rfl func74 rfl (laws_eqItem.calls a0.From a1.From s7.w (mm [0] s7) w0_0 w0_1 w1_0 w1_1 ((Xe (s := s7) (Xm h0_0)).sub (D := [0]) rfl) ((z.rd h0_1).kp K10) ((Xe (s := s7) (Xm h1_0)).sub (D := [0]) rfl) ((z.rd h1_1).kp K10)) (fun r13 s14 p14 n14 => ?_)
 refine Xb rfl (dn (cd rfl (fun h15 => ?_) (fun h15 => ?_)))
 ·
  refine sr (Xb rfl (dn ?_))
  exact re rfl func73 rfl (Xj rfl Xd) rfl ⟨_, rfl, rfl, z.ky (K10.st p14 rfl)⟩
 refine sk (sq (sr (Xn fa63_1 rfl ?_)))
 refine lda' (es := [(iI a0.To.Kind), (iI a0.To.N), w0_2, w0_3]) (A9.st p14 rfl) u61 z61 rfl (Xn fa63_1 rfl ?_)
 refine lda' (es := [(iI a1.To.Kind), (iI a1.To.N), w1_2, w1_3]) (B7.st p14 rfl) u61 z61 rfl ?_
 have K19 := K10.st p14 rfl
 refine clV 43 rfl func74 rfl (laws_eqItem.calls a0.To a1.To s14.w (mm [0] s14) w0_2 w0_3 w1_2 w1_3 ((Xe (s := s14) (Xm h0_2)).sub (D := [0]) rfl) ((z.rd h0_3).kp K19) ((Xe (s := s14) (Xm h1_2)).sub (D := [0]) rfl) ((z.rd h1_3).kp K19)) (fun r22 s23 p23 n23 => ?_)
 refine Xb rfl (dn (cd rfl (fun h24 => ?_) (fun h24 => ?_)))
 ·
  refine sr (Xb rfl (dn ?_))
  exact re rfl func73 rfl (Xj rfl Xd) rfl ⟨_, rfl, rfl, z.ky (K19.st p23 rfl)⟩
 refine sk (sr (Xb rfl (dn ?_)))
 exact re rfl func73 rfl (Xj rfl Xd) rfl ⟨_, rfl, rfl, z.ky (K19.st p23 rfl)⟩
def laws_eqSpanS.b0 (a0 : (List Span)) (a1 : (List Span)) (x4 : Int) : Option (Int ⊕ Bool) :=
 (if (decide (x4 < (a0.length : Int))) = true then (if 0 ≤ x4 ∧ x4 < (a0.length : Int) then (if 0 ≤ x4 ∧ x4 < (a1.length : Int) then ((laws_eqSpan.f (Span.mk ((at_ a0 x4).From) ((at_ a0 x4).To)) (Span.mk ((at_ a1 x4).From) ((at_ a1 x4).To))).bind fun r28 => (if (!r28) = true then (some (Sum.inr false)) else (some (Sum.inl (IntKind.wrap .i64 (x4 + (1 : Int))))))) else none) else none) else ((some true).bind fun o => some (Sum.inr o)))
def laws_eqSpanS.f (a0 : (List Span)) (a1 : (List Span)) : Option (Bool) :=
 (if ((a0.length : Int) != (a1.length : Int)) = true then (some false) else (iter (laws_eqSpanS.b0 a0 a1) (0 : Int)))
def laws_eqSpanS.Q (w : World) (F : Nat → Prop) (r : Bool) (v : Value) (w' : World) : Prop :=
 v = (.bool r) ∧ Ky [] w w'
theorem laws_eqSpanS.calls (a0 : (List Span)) (a1 : (List Span)) (w : World) (F : Nat → Prop) (w0_0 : Value) (w1_0 : Value) (h0_0 : Xs.rd w [w0_0] a0 F) (h1_0 : Xs.rd w [w1_0] a1 F) (r : Bool) (m : laws_eqSpanS.f a0 a1 = some r) :
  Calls prog 42 #[w0_0, w1_0] w (RT (laws_eqSpanS.Q w F) r) := by
 obtain ⟨s0, rfl, kp0, z⟩ := Xf w F
 have A0_0 := z.rd h0_0
 have A1_0 := z.rd h1_0
 refine Xc (args := [w0_0, w1_0]) func42 ntmps42 rfl rfl m ?_
 unfold laws_eqSpanS.f
 refine sr (Xb rfl (dn (sq (sr (Xi w0_0 rfl (ln' A0_0 u40 rfl (Xi w1_0 rfl (ln' A1_0 u40 rfl (Xb rfl (dn (cd rfl (fun h3 => ?_) (fun h3 => ?_))))))))))))
 ·
  exact sr (Xb rfl (dn (re rfl func42 rfl (Xj rfl Xd) rfl ⟨_, rfl, rfl, z.ky kp0⟩)))
 refine sk (sq (sr (Xb rfl (dn (bl (lpI (fun (x4 : Int) e w => ∃ (s : St) (e0 : Env), w = s.w ∧ e = upd (upd (upd e0 0 w0_0) 1 w1_0) 5 (iI x4) ∧ Kp s0 s) ⟨s0, _, rfl, (ue (ue (ue rfl rfl) rfl) rfl), kp0⟩ (fun g4 ih4 => ?_)))))))
 rintro x4 _ _ ⟨s5, _, rfl, rfl, Kx4⟩
 unfold laws_eqSpanS.b0
 refine sq (sr (Xb rfl (Xi w0_0 rfl ?_)))
 refine ln' (A0_0.kp Kx4) u40 rfl (Xb rfl (dn (cd rfl (fun h7 => ?_) (fun h7 => ?_))))
 ·
  refine sk (sq (bl (sq (zdraw [[], [], [0, 1], [2], [], [], [4, 5], [6], [3, 7], [8]] [some 17, some 18, some 19, some 20, some 21, some 22, some 23, some 24, some 25, some 26] [[0], [5], [17, 18], [19], [1], [5], [21, 22], [23], [20, 24], [25]] [0, 1, 2, 3, 4, 5, 6, 7, 8, 9] ⟨by kernel_rfl, by kernel_rfl, by kernel_rfl⟩ (by kernel_rfl) (fun s8 p8 l8 tb8 zd8 => ?_)))))
  have K11 := Kx4.st p8 rfl
  have A12 := A0_0.kp K11
  refine mg fun hg13 => ?_
  obtain ⟨ad13, es13, he13, ce13, ia13⟩ := ix_e A12 rfl hg13.1 hg13.2
  obtain ⟨v13_0, v13_1, v13_2, v13_3, rfl, A13_0, A13_1, A13_2, A13_3⟩ := op63 he13
  have zd17 := ((zd8.add 0 17 w0_0 rfl).add 1 18 (iI x4) rfl).add 2 19 (.pointer (some ad13)) rfl
  have A21 := A1_0.kp K11
  refine mg fun hg22 => ?_
  obtain ⟨ad22, es22, he22, ce22, ia22⟩ := ix_e A21 rfl hg22.1 hg22.2
  obtain ⟨v22_0, v22_1, v22_2, v22_3, rfl, A22_0, A22_1, A22_2, A22_3⟩ := op63 he22
  refine zfin [8, 9] tb8 (((((zd17.add 3 20 (.agg #[(iI (((at_ a0 x4).From).Kind)), (iI (((at_ a0 x4).From).N)), v13_0, v13_1, (iI (((at_ a0 x4).To).Kind)), (iI (((at_ a0 x4).To).N)), v13_2, v13_3]) rfl).add 4 21 w1_0 rfl).add 5 22 (iI x4) rfl).add 6 23 (.pointer (some ad22)) rfl).add 7 24 (.agg #[(iI (((at_ a1 x4).From).Kind)), (iI (((at_ a1 x4).From).N)), v22_0, v22_1, (iI (((at_ a1 x4).To).Kind)), (iI (((at_ a1 x4).To).N)), v22_2, v22_3]) rfl) (Xa (lca_q ce22 u63 z63 rfl rfl rfl rfl rfl rfl rfl) rfl (Xa (ix_q' A21 u40 z63 hg22.1 hg22.2 ia22 rfl) rfl (Xa (Xh rfl) rfl (Xa (mv_q w1_0 rfl rfl rfl rfl rfl rfl) rfl (Xa (lca_q ce13 u63 z63 rfl rfl rfl rfl rfl rfl rfl) rfl (Xa (ix_q' A12 u40 z63 hg13.1 hg13.2 ia13 rfl) rfl (Xa (Xh rfl) rfl (Xa (mv_q w0_0 rfl rfl rfl rfl rfl rfl) rfl Xo)))))))) (by kernel_rfl) (by decide) (clV 40 rfl func73 rfl (laws_eqSpan.calls (Span.mk ((at_ a0 x4).From) ((at_ a0 x4).To)) (Span.mk ((at_ a1 x4).From) ((at_ a1 x4).To)) s8.w (mm [0] s8) v13_0 v13_1 v13_2 v13_3 v22_0 v22_1 v22_2 v22_3 ((Xe (s := s8) A13_0).sub (D := [0]) rfl) A13_1 ((Xe (s := s8) A13_2).sub (D := [0]) rfl) A13_3 ((Xe (s := s8) A22_0).sub (D := [0]) rfl) A22_1 ((Xe (s := s8) A22_2).sub (D := [0]) rfl) A22_3) (fun r28 s29 p29 n29 => ?_))
  refine Xb rfl (dn (cd rfl (fun h30 => ?_) (fun h30 => ?_)))
  ·
   refine sr (Xb rfl (dn (sgi ?_)))
   exact re rfl func42 rfl (Xj rfl Xd) rfl ⟨_, rfl, rfl, z.ky (K11.st p29 rfl)⟩
  refine sk (ib (rg (Xb rfl (Xb rfl (Xb rfl (dn ?_))))))
  exact lb ih4 ⟨s29, _, rfl, (ue (ue (ue rfl rfl) rfl) rfl), (K11.st p29 rfl)⟩
 exact xt rfl (sgb (sr (Xb rfl (dn (re rfl func42 rfl (Xj rfl Xd) rfl ⟨_, rfl, rfl, z.ky Kx4⟩)))))
def laws_eqItemS.b0 (a0 : (List Item)) (a1 : (List Item)) (x4 : Int) : Option (Int ⊕ Bool) :=
 (if (decide (x4 < (a0.length : Int))) = true then (if 0 ≤ x4 ∧ x4 < (a0.length : Int) then (if 0 ≤ x4 ∧ x4 < (a1.length : Int) then ((laws_eqItem.f (at_ a0 x4) (at_ a1 x4)).bind fun r26 => (if (!r26) = true then (some (Sum.inr false)) else (some (Sum.inl (IntKind.wrap .i64 (x4 + (1 : Int))))))) else none) else none) else ((some true).bind fun o => some (Sum.inr o)))
def laws_eqItemS.f (a0 : (List Item)) (a1 : (List Item)) : Option (Bool) :=
 (if ((a0.length : Int) != (a1.length : Int)) = true then (some false) else (iter (laws_eqItemS.b0 a0 a1) (0 : Int)))
def laws_eqItemS.Q (w : World) (F : Nat → Prop) (r : Bool) (v : Value) (w' : World) : Prop :=
 v = (.bool r) ∧ Ky [] w w'
theorem laws_eqItemS.calls (a0 : (List Item)) (a1 : (List Item)) (w : World) (F : Nat → Prop) (w0_0 : Value) (w1_0 : Value) (h0_0 : Xt.rd w [w0_0] a0 F) (h1_0 : Xt.rd w [w1_0] a1 F) (r : Bool) (m : laws_eqItemS.f a0 a1 = some r) :
  Calls prog 43 #[w0_0, w1_0] w (RT (laws_eqItemS.Q w F) r) := by
 obtain ⟨s0, rfl, kp0, z⟩ := Xf w F
 have A0_0 := z.rd h0_0
 have A1_0 := z.rd h1_0
 refine Xc (args := [w0_0, w1_0]) func43 ntmps43 rfl rfl m ?_
 unfold laws_eqItemS.f
 refine sr (Xb rfl (dn (sq (sr (Xi w0_0 rfl (ln' A0_0 u41 rfl (Xi w1_0 rfl (ln' A1_0 u41 rfl (Xb rfl (dn (cd rfl (fun h3 => ?_) (fun h3 => ?_))))))))))))
 ·
  exact sr (Xb rfl (dn (re rfl func43 rfl (Xj rfl Xd) rfl ⟨_, rfl, rfl, z.ky kp0⟩)))
 refine sk (sq (sr (Xb rfl (dn (bl (lpI (fun (x4 : Int) e w => ∃ (s : St) (e0 : Env), w = s.w ∧ e = upd (upd (upd e0 0 w0_0) 1 w1_0) 5 (iI x4) ∧ Kp s0 s) ⟨s0, _, rfl, (ue (ue (ue rfl rfl) rfl) rfl), kp0⟩ (fun g4 ih4 => ?_)))))))
 rintro x4 _ _ ⟨s5, _, rfl, rfl, Kx4⟩
 unfold laws_eqItemS.b0
 refine sq (sr (Xb rfl (Xi w0_0 rfl ?_)))
 refine ln' (A0_0.kp Kx4) u41 rfl (Xb rfl (dn (cd rfl (fun h7 => ?_) (fun h7 => ?_))))
 ·
  refine sk (sq (bl (sq (zdraw [[], [], [0, 1], [2], [], [], [4, 5], [6], [3, 7], [8]] [some 17, some 18, some 19, some 20, some 21, some 22, some 23, some 24, some 25, some 26] [[0], [5], [17, 18], [19], [1], [5], [21, 22], [23], [20, 24], [25]] [0, 1, 2, 3, 4, 5, 6, 7, 8, 9] ⟨by kernel_rfl, by kernel_rfl, by kernel_rfl⟩ (by kernel_rfl) (fun s8 p8 l8 tb8 zd8 => ?_)))))
  have K11 := Kx4.st p8 rfl
  have A12 := A0_0.kp K11
  refine mg fun hg13 => ?_
  obtain ⟨ad13, es13, he13, ce13, ia13⟩ := ix_e A12 rfl hg13.1 hg13.2
  obtain ⟨v13_0, v13_1, rfl, A13_0, A13_1⟩ := op61 he13
  have A20 := A1_0.kp K11
  refine mg fun hg21 => ?_
  obtain ⟨ad21, es21, he21, ce21, ia21⟩ := ix_e A20 rfl hg21.1 hg21.2
  obtain ⟨v21_0, v21_1, rfl, A21_0, A21_1⟩ := op61 he21
  refine zfin [8, 9] tb8 ((((((((zd8.add 0 17 w0_0 rfl).add 1 18 (iI x4) rfl).add 2 19 (.pointer (some ad13)) rfl).add 3 20 (.agg #[(iI ((at_ a0 x4).Kind)), (iI ((at_ a0 x4).N)), v13_0, v13_1]) rfl).add 4 21 w1_0 rfl).add 5 22 (iI x4) rfl).add 6 23 (.pointer (some ad21)) rfl).add 7 24 (.agg #[(iI ((at_ a1 x4).Kind)), (iI ((at_ a1 x4).N)), v21_0, v21_1]) rfl) (Xa (lca_q ce21 u61 z61 rfl rfl rfl rfl rfl rfl rfl) rfl (Xa (ix_q' A20 u41 z61 hg21.1 hg21.2 ia21 rfl) rfl (Xa (Xh rfl) rfl (Xa (mv_q w1_0 rfl rfl rfl rfl rfl rfl) rfl (Xa (lca_q ce13 u61 z61 rfl rfl rfl rfl rfl rfl rfl) rfl (Xa (ix_q' A12 u41 z61 hg13.1 hg13.2 ia13 rfl) rfl (Xa (Xh rfl) rfl (Xa (mv_q w0_0 rfl rfl rfl rfl rfl rfl) rfl Xo)))))))) (by kernel_rfl) (by decide) (clV 40 rfl func74 rfl (laws_eqItem.calls (at_ a0 x4) (at_ a1 x4) s8.w (mm [0] s8) v13_0 v13_1 v21_0 v21_1 ((Xe (s := s8) A13_0).sub (D := [0]) rfl) A13_1 ((Xe (s := s8) A21_0).sub (D := [0]) rfl) A21_1) (fun r26 s27 p27 n27 => ?_))
  refine Xb rfl (dn (cd rfl (fun h28 => ?_) (fun h28 => ?_)))
  ·
   refine sr (Xb rfl (dn (sgi ?_)))
   exact re rfl func43 rfl (Xj rfl Xd) rfl ⟨_, rfl, rfl, z.ky (K11.st p27 rfl)⟩
  refine sk (ib (rg (Xb rfl (Xb rfl (Xb rfl (dn ?_))))))
  exact lb ih4 ⟨s27, _, rfl, (ue (ue (ue rfl rfl) rfl) rfl), (K11.st p27 rfl)⟩
 exact xt rfl (sgb (sr (Xb rfl (dn (re rfl func43 rfl (Xj rfl Xd) rfl ⟨_, rfl, rfl, z.ky Kx4⟩)))))
def laws_eqDeed.f (a0 : Deed) (a1 : Deed) : Option (Bool) :=
 (if (a0.Xid != a1.Xid) = true then (some false) else (if (a0.Begun != a1.Begun) = true then (some false) else (if (a0.Ended != a1.Ended) = true then (some false) else ((laws_eqSpanS.f a0.Reads a1.Reads).bind fun r19 => (if (!r19) = true then (some false) else ((laws_eqItemS.f a0.Writes a1.Writes).bind fun r28 => (if (!r28) = true then (some false) else (some true))))))))
def laws_eqDeed.Q (w : World) (F : Nat → Prop) (r : Bool) (v : Value) (w' : World) : Prop :=
 v = (.bool r) ∧ Ky [] w w'
theorem laws_eqDeed.calls (a0 : Deed) (a1 : Deed) (w : World) (F : Nat → Prop) (w0_0 : Value) (w0_1 : Value) (w1_0 : Value) (w1_1 : Value) (h0_0 : Xs.rd w [w0_0] a0.Reads F) (h0_1 : Xt.rd w [w0_1] a0.Writes F) (h1_0 : Xs.rd w [w1_0] a1.Reads F) (h1_1 : Xt.rd w [w1_1] a1.Writes F) (r : Bool) (m : laws_eqDeed.f a0 a1 = some r) :
  Calls prog 23 #[(.agg #[(iI a0.Xid), (iI a0.Begun), (iI a0.Ended), w0_0, w0_1]), (.agg #[(iI a1.Xid), (iI a1.Begun), (iI a1.Ended), w1_0, w1_1])] w (RT (laws_eqDeed.Q w F) r) := by
 obtain ⟨s0, rfl, kp0, z⟩ := Xf w F
 refine Xc (args := [(.agg #[(iI a0.Xid), (iI a0.Begun), (iI a0.Ended), w0_0, w0_1]), (.agg #[(iI a1.Xid), (iI a1.Begun), (iI a1.Ended), w1_0, w1_1])]) func23 ntmps23 rfl rfl m ?_
 unfold laws_eqDeed.f
 refine sr (bx' (cs := [(iI a0.Xid), (iI a0.Begun), (iI a0.Ended), w0_0, w0_1]) 40 rfl rfl (fun b5 s5 p5 B5 => ?_))
 refine bx' (cs := [(iI a1.Xid), (iI a1.Begun), (iI a1.Ended), w1_0, w1_1]) 41 rfl rfl (fun b7 s7 p7 B7 => ?_)
 refine Xb rfl (dn (sq (sr (Xn fa43_0 rfl ?_))))
 have A9 := B5.st p7 rfl
 refine ld' A9 u3 rfl (Xn fa43_0 rfl (ld' B7 u3 rfl (Xb rfl (dn (cd rfl (fun h10 => ?_) (fun h10 => ?_))))))
 ·
  refine sr (Xb rfl (dn ?_))
  exact re rfl func23 rfl (Xj rfl Xd) rfl ⟨_, rfl, rfl, z.ky (kp0.st (tr2 p5 p7) rfl)⟩
 refine sk (sq (sr (Xn fa43_1 rfl (ld' A9 u3 rfl (Xn fa43_1 rfl (ld' B7 u3 rfl (Xb rfl (dn (cd rfl (fun h12 => ?_) (fun h12 => ?_))))))))))
 ·
  refine sr (Xb rfl (dn ?_))
  exact re rfl func23 rfl (Xj rfl Xd) rfl ⟨_, rfl, rfl, z.ky (kp0.st (tr2 p5 p7) rfl)⟩
 refine sk (sq (sr (Xn fa43_2 rfl (ld' A9 u3 rfl (Xn fa43_2 rfl (ld' B7 u3 rfl (Xb rfl (dn (cd rfl (fun h14 => ?_) (fun h14 => ?_))))))))))
 ·
  refine sr (Xb rfl (dn ?_))
  exact re rfl func23 rfl (Xj rfl Xd) rfl ⟨_, rfl, rfl, z.ky (kp0.st (tr2 p5 p7) rfl)⟩
 refine sk (sq (sr (Xn fa43_3 rfl (ld' A9 u40 rfl (Xn fa43_3 rfl (ld' B7 u40 rfl ?_))))))
 have K16 := kp0.st (tr2 p5 p7) rfl
 refine clV 42 rfl func42 rfl (laws_eqSpanS.calls a0.Reads a1.Reads s7.w (mm [0] s7) w0_0 w1_0 ((z.rd h0_0).kp K16) ((z.rd h1_0).kp K16)) (fun r19 s20 p20 n20 => ?_)
 refine Xb rfl (dn (cd rfl (fun h21 => ?_) (fun h21 => ?_)))
 ·
  refine sr (Xb rfl (dn ?_))
  exact re rfl func23 rfl (Xj rfl Xd) rfl ⟨_, rfl, rfl, z.ky (K16.st p20 rfl)⟩
 refine sk (sq (sr (Xn fa43_4 rfl ?_)))
 refine ld' (A9.st p20 rfl) u41 rfl (Xn fa43_4 rfl ?_)
 refine ld' (B7.st p20 rfl) u41 rfl ?_
 have K25 := K16.st p20 rfl
 refine clV 43 rfl func43 rfl (laws_eqItemS.calls a0.Writes a1.Writes s20.w (mm [0] s20) w0_1 w1_1 ((z.rd h0_1).kp K25) ((z.rd h1_1).kp K25)) (fun r28 s29 p29 n29 => ?_)
 refine Xb rfl (dn (cd rfl (fun h30 => ?_) (fun h30 => ?_)))
 ·
  refine sr (Xb rfl (dn ?_))
  exact re rfl func23 rfl (Xj rfl Xd) rfl ⟨_, rfl, rfl, z.ky (K25.st p29 rfl)⟩
 refine sk (sr (Xb rfl (dn ?_)))
 exact re rfl func23 rfl (Xj rfl Xd) rfl ⟨_, rfl, rfl, z.ky (K25.st p29 rfl)⟩
def laws_eqDeedS.b0 (a0 : (List Deed)) (a1 : (List Deed)) (x4 : Int) : Option (Int ⊕ Bool) :=
 (if (decide (x4 < (a0.length : Int))) = true then (if 0 ≤ x4 ∧ x4 < (a0.length : Int) then (if 0 ≤ x4 ∧ x4 < (a1.length : Int) then ((laws_eqDeed.f (at_ a0 x4) (at_ a1 x4)).bind fun r28 => (if (!r28) = true then (some (Sum.inr false)) else (some (Sum.inl (IntKind.wrap .i64 (x4 + (1 : Int))))))) else none) else none) else ((some true).bind fun o => some (Sum.inr o)))
def laws_eqDeedS.f (a0 : (List Deed)) (a1 : (List Deed)) : Option (Bool) :=
 (if ((a0.length : Int) != (a1.length : Int)) = true then (some false) else (iter (laws_eqDeedS.b0 a0 a1) (0 : Int)))
def laws_eqDeedS.Q (w : World) (F : Nat → Prop) (r : Bool) (v : Value) (w' : World) : Prop :=
 v = (.bool r) ∧ Ky [] w w'
theorem laws_eqDeedS.calls (a0 : (List Deed)) (a1 : (List Deed)) (w : World) (F : Nat → Prop) (w0_0 : Value) (w1_0 : Value) (h0_0 : Xu.rd w [w0_0] a0 F) (h1_0 : Xu.rd w [w1_0] a1 F) (r : Bool) (m : laws_eqDeedS.f a0 a1 = some r) :
  Calls prog 9 #[w0_0, w1_0] w (RT (laws_eqDeedS.Q w F) r) := by
 obtain ⟨s0, rfl, kp0, z⟩ := Xf w F
 have A0_0 := z.rd h0_0
 have A1_0 := z.rd h1_0
 refine Xc (args := [w0_0, w1_0]) func9 ntmps9 rfl rfl m ?_
 unfold laws_eqDeedS.f
 refine sr (Xb rfl (dn (sq (sr (Xi w0_0 rfl (ln' A0_0 u26 rfl (Xi w1_0 rfl (ln' A1_0 u26 rfl (Xb rfl (dn (cd rfl (fun h3 => ?_) (fun h3 => ?_))))))))))))
 ·
  exact sr (Xb rfl (dn (re rfl func9 rfl (Xj rfl Xd) rfl ⟨_, rfl, rfl, z.ky kp0⟩)))
 refine sk (sq (sr (Xb rfl (dn (bl (lpI (fun (x4 : Int) e w => ∃ (s : St) (e0 : Env), w = s.w ∧ e = upd (upd (upd e0 0 w0_0) 1 w1_0) 5 (iI x4) ∧ Kp s0 s) ⟨s0, _, rfl, (ue (ue (ue rfl rfl) rfl) rfl), kp0⟩ (fun g4 ih4 => ?_)))))))
 rintro x4 _ _ ⟨s5, _, rfl, rfl, Kx4⟩
 unfold laws_eqDeedS.b0
 refine sq (sr (Xb rfl (Xi w0_0 rfl ?_)))
 refine ln' (A0_0.kp Kx4) u26 rfl (Xb rfl (dn (cd rfl (fun h7 => ?_) (fun h7 => ?_))))
 ·
  refine sk (sq (bl (sq (zdraw [[], [], [0, 1], [2], [], [], [4, 5], [6], [3, 7], [8]] [some 17, some 18, some 19, some 20, some 21, some 22, some 23, some 24, some 25, some 26] [[0], [5], [17, 18], [19], [1], [5], [21, 22], [23], [20, 24], [25]] [0, 1, 2, 3, 4, 5, 6, 7, 8, 9] ⟨by kernel_rfl, by kernel_rfl, by kernel_rfl⟩ (by kernel_rfl) (fun s8 p8 l8 tb8 zd8 => ?_)))))
  have K11 := Kx4.st p8 rfl
  have A12 := A0_0.kp K11
  refine mg fun hg13 => ?_
  obtain ⟨ad13, es13, he13, ce13, ia13⟩ := ix_e A12 rfl hg13.1 hg13.2
  obtain ⟨v13_0, v13_1, rfl, A13_0, A13_1⟩ := op43 he13
  have A21 := A1_0.kp K11
  refine mg fun hg22 => ?_
  obtain ⟨ad22, es22, he22, ce22, ia22⟩ := ix_e A21 rfl hg22.1 hg22.2
  obtain ⟨v22_0, v22_1, rfl, A22_0, A22_1⟩ := op43 he22
  refine zfin [8, 9] tb8 ((((((((zd8.add 0 17 w0_0 rfl).add 1 18 (iI x4) rfl).add 2 19 (.pointer (some ad13)) rfl).add 3 20 (.agg #[(iI ((at_ a0 x4).Xid)), (iI ((at_ a0 x4).Begun)), (iI ((at_ a0 x4).Ended)), v13_0, v13_1]) rfl).add 4 21 w1_0 rfl).add 5 22 (iI x4) rfl).add 6 23 (.pointer (some ad22)) rfl).add 7 24 (.agg #[(iI ((at_ a1 x4).Xid)), (iI ((at_ a1 x4).Begun)), (iI ((at_ a1 x4).Ended)), v22_0, v22_1]) rfl) (Xa (lca_q ce22 u43 z43 rfl rfl rfl rfl rfl rfl rfl) rfl (Xa (ix_q' A21 u26 z43 hg22.1 hg22.2 ia22 rfl) rfl (Xa (Xh rfl) rfl (Xa (mv_q w1_0 rfl rfl rfl rfl rfl rfl) rfl (Xa (lca_q ce13 u43 z43 rfl rfl rfl rfl rfl rfl rfl) rfl (Xa (ix_q' A12 u26 z43 hg13.1 hg13.2 ia13 rfl) rfl (Xa (Xh rfl) rfl (Xa (mv_q w0_0 rfl rfl rfl rfl rfl rfl) rfl Xo)))))))) (by kernel_rfl) (by decide) (clV 40 rfl func23 rfl (laws_eqDeed.calls (at_ a0 x4) (at_ a1 x4) s8.w (mm [0] s8) v13_0 v13_1 v22_0 v22_1 A13_0 A13_1 A22_0 A22_1) (fun r28 s29 p29 n29 => ?_))
  refine Xb rfl (dn (cd rfl (fun h30 => ?_) (fun h30 => ?_)))
  ·
   refine sr (Xb rfl (dn (sgi ?_)))
   exact re rfl func9 rfl (Xj rfl Xd) rfl ⟨_, rfl, rfl, z.ky (K11.st p29 rfl)⟩
  refine sk (ib (rg (Xb rfl (Xb rfl (Xb rfl (dn ?_))))))
  exact lb ih4 ⟨s29, _, rfl, (ue (ue (ue rfl rfl) rfl) rfl), (K11.st p29 rfl)⟩
 exact xt rfl (sgb (sr (Xb rfl (dn (re rfl func9 rfl (Xj rfl Xd) rfl ⟨_, rfl, rfl, z.ky Kx4⟩)))))
def laws_markByteS.b0  (x2 : (List Int) × Int × Int) : Option (((List Int) × Int × Int) ⊕ (Int × (List Int))) :=
 (if (decide (x2.2.2 < (x2.1.length : Int))) = true then (if 0 ≤ x2.2.2 ∧ x2.2.2 < (x2.1.length : Int) then (some (Sum.inl ((x2.1.set (x2.2.2).toNat (IntKind.wrap .u8 x2.2.1)), (IntKind.wrap .i64 (x2.2.1 + (1 : Int))), (IntKind.wrap .i64 (x2.2.2 + (1 : Int)))))) else none) else ((some (x2.2.1, x2.1)).bind fun o => some (Sum.inr o)))
def laws_markByteS.f (a0 : (List Int)) (a1 : Int) : Option (Int × (List Int)) :=
 (iter laws_markByteS.b0 (a0, a1, (0 : Int)))
def laws_markByteS.Q (w : World) (F : Nat → Prop) (os : List Nat) (w0_0 : Value) (r : Int × (List Int)) (v : Value) (w' : World) : Prop :=
 v = (iI r.1) ∧ FW Xr os w w' [w0_0] r.2 ∧ Ky os w w'
theorem laws_markByteS.calls (a0 : (List Int)) (a1 : Int) (w : World) (F : Nat → Prop) (w0_0 : Value) (os : List Nat) (h0_0 : Xr.ow w [w0_0] a0 os) (hn : os.Nodup) (hF : ∀ b, F b → b ∉ os) (r : Int × (List Int)) (m : laws_markByteS.f a0 a1 = some r) :
  Calls prog 44 #[w0_0, (iI a1)] w (RT (laws_markByteS.Q w F os w0_0) r) := by
 obtain ⟨s0, rfl, kp0, z⟩ := start1 w F os hF
 refine Xc (args := [w0_0, (iI a1)]) func44 ntmps44 rfl rfl m ?_
 unfold laws_markByteS.f
 refine sr (Xb rfl (dn (sq (sr (Xb rfl (dn (bl (lpI (fun (x2 : (List Int) × Int × Int) e w => ∃ (s : St) (e0 : Env), w = s.w ∧ e = upd (upd (upd e0 0 w0_0) 1 (iI x2.2.1)) 5 (iI x2.2.2) ∧ Kp s0 s ∧ OwF Xr s [w0_0] x2.1 2) ⟨s0, _, rfl, (ue (ue (ue rfl rfl) rfl) rfl), kp0, (z.ow h0_0 hn)⟩ (fun g2 ih2 => ?_)))))))))
 rintro x2 _ _ ⟨s3, _, rfl, rfl, Kx2, Ax2_0⟩
 unfold laws_markByteS.b0
 refine sq (sr (Xb rfl (Xi w0_0 rfl (ln' Ax2_0.rd u59 rfl (Xb rfl (dn (cd rfl (fun h5 => ?_) (fun h5 => ?_))))))))
 ·
  refine sk (sq (bl (sr (Xi w0_0 rfl (Xb rfl (Xb rfl (cv u5 u3 rfl rfl rfl rfl rfl rfl (ix' Ax2_0.rd u59 z5 rfl (fun ad6 es6 h0_6 h1_6 he6 ce6 ia6 => ?_)))))))))
  obtain rfl := he6
  refine so (x' := (IntKind.wrap .u8 x2.2.1)) Ax2_0 ia6 h0_6 h1_6 cs_flat z5 rfl rfl rfl rfl rfl rfl (fun s8 p8 A8 => ?_)
  refine dn (rg (Xb rfl (Xb rfl (Xb rfl (dn (ib (rg (Xb rfl (Xb rfl (Xb rfl (dn ?_)))))))))))
  exact lb ih2 ⟨s8, _, rfl, (ue (ue (ue rfl rfl) rfl) rfl), (Kx2.st p8 rfl), A8⟩
 exact xt rfl (sgb (sr (Xb rfl (Xb rfl (dn (re rfl func44 rfl (Xj rfl Xd) rfl ⟨_, rfl, rfl, z.fw Kx2 Ax2_0, z.ky Kx2⟩))))))
def laws_markSpanS.b0  (x2 : (List Span) × Int × Int) : Option (((List Span) × Int × Int) ⊕ (Int × (List Span))) :=
 (if (decide (x2.2.2 < (x2.1.length : Int))) = true then (if 0 ≤ x2.2.2 ∧ x2.2.2 < (x2.1.length : Int) then ((some (x2.1.set (x2.2.2).toNat (Span.mk (Item.mk x2.2.1 ((at_ x2.1 x2.2.2).From).N ((at_ x2.1 x2.2.2).From).F ((at_ x2.1 x2.2.2).From).T) (at_ x2.1 x2.2.2).To))).bind fun y12 => (if 0 ≤ x2.2.2 ∧ x2.2.2 < (y12.length : Int) then ((some (y12.set (x2.2.2).toNat (Span.mk (Item.mk ((at_ y12 x2.2.2).From).Kind (IntKind.wrap .i64 (x2.2.1 + (1 : Int))) ((at_ y12 x2.2.2).From).F ((at_ y12 x2.2.2).From).T) (at_ y12 x2.2.2).To))).bind fun y19 => (if 0 ≤ x2.2.2 ∧ x2.2.2 < (y19.length : Int) then ((some (y19.set (x2.2.2).toNat (Span.mk (Item.mk ((at_ y19 x2.2.2).From).Kind ((at_ y19 x2.2.2).From).N (FloatKind.f64.nearest (IntKind.wrap .i64 ((IntKind.wrap .i64 (x2.2.1 + (1 : Int))) + (1 : Int)))) ((at_ y19 x2.2.2).From).T) (at_ y19 x2.2.2).To))).bind fun y27 => (if 0 ≤ x2.2.2 ∧ x2.2.2 < (y27.length : Int) then ((laws_markByteS.f (((at_ y27 x2.2.2).From).T) (IntKind.wrap .i64 ((IntKind.wrap .i64 ((IntKind.wrap .i64 (x2.2.1 + (1 : Int))) + (1 : Int))) + (1 : Int)))).bind fun r32 => ((some (y27.set (x2.2.2).toNat (Span.mk (Item.mk ((at_ y27 x2.2.2).From).Kind ((at_ y27 x2.2.2).From).N ((at_ y27 x2.2.2).From).F r32.2) (at_ y27 x2.2.2).To))).bind fun y35 => (if 0 ≤ x2.2.2 ∧ x2.2.2 < (y35.length : Int) then ((some (y35.set (x2.2.2).toNat (Span.mk (at_ y35 x2.2.2).From (Item.mk r32.1 ((at_ y35 x2.2.2).To).N ((at_ y35 x2.2.2).To).F ((at_ y35 x2.2.2).To).T)))).bind fun y42 => (if 0 ≤ x2.2.2 ∧ x2.2.2 < (y42.length : Int) then ((some (y42.set (x2.2.2).toNat (Span.mk (at_ y42 x2.2.2).From (Item.mk ((at_ y42 x2.2.2).To).Kind (IntKind.wrap .i64 (r32.1 + (1 : Int))) ((at_ y42 x2.2.2).To).F ((at_ y42 x2.2.2).To).T)))).bind fun y49 => (if 0 ≤ x2.2.2 ∧ x2.2.2 < (y49.length : Int) then ((some (y49.set (x2.2.2).toNat (Span.mk (at_ y49 x2.2.2).From (Item.mk ((at_ y49 x2.2.2).To).Kind ((at_ y49 x2.2.2).To).N (FloatKind.f64.nearest (IntKind.wrap .i64 ((IntKind.wrap .i64 (r32.1 + (1 : Int))) + (1 : Int)))) ((at_ y49 x2.2.2).To).T)))).bind fun y57 => (if 0 ≤ x2.2.2 ∧ x2.2.2 < (y57.length : Int) then ((laws_markByteS.f (((at_ y57 x2.2.2).To).T) (IntKind.wrap .i64 ((IntKind.wrap .i64 ((IntKind.wrap .i64 (r32.1 + (1 : Int))) + (1 : Int))) + (1 : Int)))).bind fun r62 => ((some (y57.set (x2.2.2).toNat (Span.mk (at_ y57 x2.2.2).From (Item.mk ((at_ y57 x2.2.2).To).Kind ((at_ y57 x2.2.2).To).N ((at_ y57 x2.2.2).To).F r62.2)))).bind fun y65 => (some (Sum.inl (y65, r62.1, (IntKind.wrap .i64 (x2.2.2 + (1 : Int)))))))) else none)) else none)) else none)) else none))) else none)) else none)) else none)) else none) else ((some (x2.2.1, x2.1)).bind fun o => some (Sum.inr o)))
def laws_markSpanS.f (a0 : (List Span)) (a1 : Int) : Option (Int × (List Span)) :=
 (iter laws_markSpanS.b0 (a0, a1, (0 : Int)))
def laws_markSpanS.Q (w : World) (F : Nat → Prop) (os : List Nat) (w0_0 : Value) (r : Int × (List Span)) (v : Value) (w' : World) : Prop :=
 v = (iI r.1) ∧ FW Xs os w w' [w0_0] r.2 ∧ Ky os w w'
theorem laws_markSpanS.calls (a0 : (List Span)) (a1 : Int) (w : World) (F : Nat → Prop) (w0_0 : Value) (os : List Nat) (h0_0 : Xs.ow w [w0_0] a0 os) (hn : os.Nodup) (hF : ∀ b, F b → b ∉ os) (r : Int × (List Span)) (m : laws_markSpanS.f a0 a1 = some r) :
  Calls prog 24 #[w0_0, (iI a1)] w (RT (laws_markSpanS.Q w F os w0_0) r) := by
 obtain ⟨s0, rfl, kp0, z⟩ := start1 w F os hF
 refine Xc (args := [w0_0, (iI a1)]) func24 ntmps24 rfl rfl m ?_
 unfold laws_markSpanS.f
 refine sr (Xb rfl (dn (sq (sr (Xb rfl (dn (bl (lpI (fun (x2 : (List Span) × Int × Int) e w => ∃ (s : St) (e0 : Env), w = s.w ∧ e = upd (upd (upd e0 0 w0_0) 1 (iI x2.2.1)) 5 (iI x2.2.2) ∧ Kp s0 s ∧ OwF Xs s [w0_0] x2.1 2) ⟨s0, _, rfl, (ue (ue (ue rfl rfl) rfl) rfl), kp0, (z.ow h0_0 hn)⟩ (fun g2 ih2 => ?_)))))))))
 rintro x2 _ _ ⟨s3, _, rfl, rfl, Kx2, Ax2_0⟩
 unfold laws_markSpanS.b0
 refine sq (sr (Xb rfl (Xi w0_0 rfl (ln' Ax2_0.rd u40 rfl (Xb rfl (dn (cd rfl (fun h5 => ?_) (fun h5 => ?_))))))))
 ·
  refine sk (sq (bl (sr (Xi w0_0 rfl (Xb rfl (Xb rfl (ix' Ax2_0.rd u40 z63 rfl (fun ad6 es6 h0_6 h1_6 he6 ce6 ia6 => ?_))))))))
  obtain ⟨v6_0, v6_1, v6_2, v6_3, rfl, A6_0, A6_1, A6_2, A6_3⟩ := op63 he6
  refine Xn fa63_0 rfl (Xn fa61_0 rfl (so (x' := (Span.mk (Item.mk x2.2.1 ((at_ x2.1 x2.2.2).From).N ((at_ x2.1 x2.2.2).From).F ((at_ x2.1 x2.2.2).From).T) (at_ x2.1 x2.2.2).To)) Ax2_0 ia6 h0_6 h1_6 (cs_iso (cs_left (cs_iso (cs_left cs_flat)))) z3 rfl rfl rfl rfl rfl rfl (fun s10 p10 A10 => ?_)))
  refine nb (fun y12 h12 => ?_)
  have A12 : OwF Xs s10 [w0_0] y12 2 := by rw [h12]; exact A10
  refine dn (sr (Xb rfl (Xb rfl (Xb rfl (dn (sr (Xi w0_0 rfl (Xb rfl (Xb rfl (ix' A12.rd u40 z63 rfl (fun ad13 es13 h0_13 h1_13 he13 ce13 ia13 => ?_)))))))))))
  obtain ⟨v13_0, v13_1, v13_2, v13_3, rfl, A13_0, A13_1, A13_2, A13_3⟩ := op63 he13
  refine Xn fa63_0 rfl (Xn fa61_1 rfl (so (x' := (Span.mk (Item.mk ((at_ y12 x2.2.2).From).Kind (IntKind.wrap .i64 (x2.2.1 + (1 : Int))) ((at_ y12 x2.2.2).From).F ((at_ y12 x2.2.2).From).T) (at_ y12 x2.2.2).To)) A12 ia13 h0_13 h1_13 (cs_iso (cs_left (cs_iso (cs_right (cs_left cs_flat))))) z3 rfl rfl rfl rfl rfl rfl (fun s17 p17 A17 => ?_)))
  refine nb (fun y19 h19 => ?_)
  have A19 : OwF Xs s17 [w0_0] y19 2 := by rw [h19]; exact A17
  refine dn (sr (Xb rfl (Xb rfl (Xb rfl (dn (sr (Xi w0_0 rfl (Xb rfl (Xb rfl (i2f u58 u3 rfl rfl rfl rfl rfl rfl (fun v20 A20 => ?_)))))))))))
  refine ix' A19.rd u40 z63 rfl (fun ad21 es21 h0_21 h1_21 he21 ce21 ia21 => ?_)
  obtain ⟨v21_0, v21_1, v21_2, v21_3, rfl, A21_0, A21_1, A21_2, A21_3⟩ := op63 he21
  refine Xn fa63_0 rfl (Xn fa61_2 rfl (so (x' := (Span.mk (Item.mk ((at_ y19 x2.2.2).From).Kind ((at_ y19 x2.2.2).From).N (FloatKind.f64.nearest (IntKind.wrap .i64 ((IntKind.wrap .i64 (x2.2.1 + (1 : Int))) + (1 : Int)))) ((at_ y19 x2.2.2).From).T) (at_ y19 x2.2.2).To)) A19 ia21 h0_21 h1_21 (cs_iso (cs_left (cs_iso (cs_right (cs_right (cs_left (cs_flt A20))))))) z58 rfl rfl rfl rfl rfl rfl (fun s25 p25 A25 => ?_)))
  refine nb (fun y27 h27 => ?_)
  have A27 : OwF Xs s25 [w0_0] y27 2 := by rw [h27]; exact A25
  refine dn (sr (Xb rfl (Xb rfl (Xb rfl (dn (sr (Xi w0_0 rfl (Xb rfl (ix' A27.rd u40 z63 rfl (fun ad28 es28 h0_28 h1_28 he28 ce28 ia28 => ?_))))))))))
  obtain ⟨v28_0, v28_1, v28_2, v28_3, rfl, A28_0, A28_1, A28_2, A28_3⟩ := op63 he28
  refine Xn fa63_0 rfl (Xn fa61_3 rfl (lc ce28 u59 rfl rfl rfl rfl rfl rfl rfl rfl (Xb rfl ?_)))
  obtain ⟨os32, ho32, hn32, hc32, put32⟩ := focus (ln_iso (fun x : Span => (x.From, x.To)) (fun x => x.From.T) (fun x y => (Span.mk (Item.mk x.From.Kind x.From.N x.From.F y) x.To)) (ln_left (ln_iso (fun x : Item => (x.Kind, x.N, x.F, x.T)) (fun x => x.T) (fun x y => (Item.mk x.Kind x.N x.F y)) (ln_right (ln_right (ln_right ln_sl))) (fun _ => rfl) (fun _ _ => rfl))) (fun _ => rfl) (fun _ _ => rfl)) A27 h0_28 h1_28 ia28 ce28 rfl rfl
  refine cl' rfl func44 rfl (laws_markByteS.calls (((at_ y27 x2.2.2).From).T) (IntKind.wrap .i64 ((IntKind.wrap .i64 ((IntKind.wrap .i64 (x2.2.1 + (1 : Int))) + (1 : Int))) + (1 : Int))) s25.w (mm [] s25) v28_1 os32 ho32 hn32 (apart_of hc32 rfl)) ?_
  rintro r32 _ w32 m32 ⟨rfl, w32_, ky32⟩
  obtain ⟨s33, rfl, p33, A33⟩ := put32 w32 _ 40 ky32 w32_
  refine nb (fun y35 h35 => ?_)
  have A35 : OwF Xs s33 [w0_0] y35 2 := by rw [h35]; exact A33
  refine Xb rfl (dn (sr (Xi w0_0 rfl (Xb rfl (Xb rfl (ix' A35.rd u40 z63 rfl (fun ad36 es36 h0_36 h1_36 he36 ce36 ia36 => ?_)))))))
  obtain ⟨v36_0, v36_1, v36_2, v36_3, rfl, A36_0, A36_1, A36_2, A36_3⟩ := op63 he36
  refine Xn fa63_1 rfl (faq (q := 4) (q' := 0) (n := 4) fa61_0 rfl rfl rfl rfl rfl rfl rfl (so (x' := (Span.mk (at_ y35 x2.2.2).From (Item.mk r32.1 ((at_ y35 x2.2.2).To).N ((at_ y35 x2.2.2).To).F ((at_ y35 x2.2.2).To).T))) A35 ia36 h0_36 h1_36 (cs_iso (cs_right (cs_iso (cs_left cs_flat)))) z3 rfl rfl rfl rfl rfl rfl (fun s40 p40 A40 => ?_)))
  refine nb (fun y42 h42 => ?_)
  have A42 : OwF Xs s40 [w0_0] y42 2 := by rw [h42]; exact A40
  refine dn (sr (Xb rfl (Xb rfl (Xb rfl (dn (sr (Xi w0_0 rfl (Xb rfl (Xb rfl (ix' A42.rd u40 z63 rfl (fun ad43 es43 h0_43 h1_43 he43 ce43 ia43 => ?_)))))))))))
  obtain ⟨v43_0, v43_1, v43_2, v43_3, rfl, A43_0, A43_1, A43_2, A43_3⟩ := op63 he43
  refine Xn fa63_1 rfl (faq (q := 4) (q' := 1) (n := 5) fa61_1 rfl rfl rfl rfl rfl rfl rfl (so (x' := (Span.mk (at_ y42 x2.2.2).From (Item.mk ((at_ y42 x2.2.2).To).Kind (IntKind.wrap .i64 (r32.1 + (1 : Int))) ((at_ y42 x2.2.2).To).F ((at_ y42 x2.2.2).To).T))) A42 ia43 h0_43 h1_43 (cs_iso (cs_right (cs_iso (cs_right (cs_left cs_flat))))) z3 rfl rfl rfl rfl rfl rfl (fun s47 p47 A47 => ?_)))
  refine nb (fun y49 h49 => ?_)
  have A49 : OwF Xs s47 [w0_0] y49 2 := by rw [h49]; exact A47
  refine dn (sr (Xb rfl (Xb rfl (Xb rfl (dn (sr (Xi w0_0 rfl (Xb rfl (Xb rfl (i2f u58 u3 rfl rfl rfl rfl rfl rfl (fun v50 A50 => ?_)))))))))))
  refine ix' A49.rd u40 z63 rfl (fun ad51 es51 h0_51 h1_51 he51 ce51 ia51 => ?_)
  obtain ⟨v51_0, v51_1, v51_2, v51_3, rfl, A51_0, A51_1, A51_2, A51_3⟩ := op63 he51
  refine Xn fa63_1 rfl (faq (q := 4) (q' := 2) (n := 6) fa61_2 rfl rfl rfl rfl rfl rfl rfl (so (x' := (Span.mk (at_ y49 x2.2.2).From (Item.mk ((at_ y49 x2.2.2).To).Kind ((at_ y49 x2.2.2).To).N (FloatKind.f64.nearest (IntKind.wrap .i64 ((IntKind.wrap .i64 (r32.1 + (1 : Int))) + (1 : Int)))) ((at_ y49 x2.2.2).To).T))) A49 ia51 h0_51 h1_51 (cs_iso (cs_right (cs_iso (cs_right (cs_right (cs_left (cs_flt A50))))))) z58 rfl rfl rfl rfl rfl rfl (fun s55 p55 A55 => ?_)))
  refine nb (fun y57 h57 => ?_)
  have A57 : OwF Xs s55 [w0_0] y57 2 := by rw [h57]; exact A55
  refine dn (sr (Xb rfl (Xb rfl (Xb rfl (dn (rg (Xi w0_0 rfl (Xb rfl (ix' A57.rd u40 z63 rfl (fun ad58 es58 h0_58 h1_58 he58 ce58 ia58 => ?_))))))))))
  obtain ⟨v58_0, v58_1, v58_2, v58_3, rfl, A58_0, A58_1, A58_2, A58_3⟩ := op63 he58
  refine Xn fa63_1 rfl (faq (q := 4) (q' := 3) (n := 7) fa61_3 rfl rfl rfl rfl rfl rfl rfl (lc ce58 u59 rfl rfl rfl rfl rfl rfl rfl rfl (Xb rfl ?_)))
  obtain ⟨os62, ho62, hn62, hc62, put62⟩ := focus (ln_iso (fun x : Span => (x.From, x.To)) (fun x => x.To.T) (fun x y => (Span.mk x.From (Item.mk x.To.Kind x.To.N x.To.F y))) (ln_right (ln_iso (fun x : Item => (x.Kind, x.N, x.F, x.T)) (fun x => x.T) (fun x y => (Item.mk x.Kind x.N x.F y)) (ln_right (ln_right (ln_right ln_sl))) (fun _ => rfl) (fun _ _ => rfl))) (fun _ => rfl) (fun _ _ => rfl)) A57 h0_58 h1_58 ia58 ce58 rfl rfl
  refine cl' rfl func44 rfl (laws_markByteS.calls (((at_ y57 x2.2.2).To).T) (IntKind.wrap .i64 ((IntKind.wrap .i64 ((IntKind.wrap .i64 (r32.1 + (1 : Int))) + (1 : Int))) + (1 : Int))) s55.w (mm [] s55) v58_3 os62 ho62 hn62 (apart_of hc62 rfl)) ?_
  rintro r62 _ w62 m62 ⟨rfl, w62_, ky62⟩
  obtain ⟨s63, rfl, p63, A63⟩ := put62 w62 _ 41 ky62 w62_
  refine nb (fun y65 h65 => ?_)
  have A65 : OwF Xs s63 [w0_0] y65 2 := by rw [h65]; exact A63
  refine Xb rfl (dn (ib (rg (Xb rfl (Xb rfl (Xb rfl (dn ?_)))))))
  exact lb ih2 ⟨s63, _, rfl, (ue (ue (ue rfl rfl) rfl) rfl), (Kx2.st (tr8 p10 p17 p25 p33 p40 p47 p55 p63) rfl), A65⟩
 exact xt rfl (sgb (sr (Xb rfl (Xb rfl (dn (re rfl func24 rfl (Xj rfl Xd) rfl ⟨_, rfl, rfl, z.fw Kx2 Ax2_0, z.ky Kx2⟩))))))
def laws_markItemS.b0  (x2 : (List Item) × Int × Int) : Option (((List Item) × Int × Int) ⊕ (Int × (List Item))) :=
 (if (decide (x2.2.2 < (x2.1.length : Int))) = true then (if 0 ≤ x2.2.2 ∧ x2.2.2 < (x2.1.length : Int) then (if 0 ≤ x2.2.2 ∧ x2.2.2 < ((x2.1.set (x2.2.2).toNat (Item.mk x2.2.1 (at_ x2.1 x2.2.2).N (at_ x2.1 x2.2.2).F (at_ x2.1 x2.2.2).T)).length : Int) then ((some ((x2.1.set (x2.2.2).toNat (Item.mk x2.2.1 (at_ x2.1 x2.2.2).N (at_ x2.1 x2.2.2).F (at_ x2.1 x2.2.2).T)).set (x2.2.2).toNat (Item.mk (at_ (x2.1.set (x2.2.2).toNat (Item.mk x2.2.1 (at_ x2.1 x2.2.2).N (at_ x2.1 x2.2.2).F (at_ x2.1 x2.2.2).T)) x2.2.2).Kind (IntKind.wrap .i64 (x2.2.1 + (1 : Int))) (at_ (x2.1.set (x2.2.2).toNat (Item.mk x2.2.1 (at_ x2.1 x2.2.2).N (at_ x2.1 x2.2.2).F (at_ x2.1 x2.2.2).T)) x2.2.2).F (at_ (x2.1.set (x2.2.2).toNat (Item.mk x2.2.1 (at_ x2.1 x2.2.2).N (at_ x2.1 x2.2.2).F (at_ x2.1 x2.2.2).T)) x2.2.2).T))).bind fun y16 => (if 0 ≤ x2.2.2 ∧ x2.2.2 < (y16.length : Int) then ((some (y16.set (x2.2.2).toNat (Item.mk (at_ y16 x2.2.2).Kind (at_ y16 x2.2.2).N (FloatKind.f64.nearest (IntKind.wrap .i64 ((IntKind.wrap .i64 (x2.2.1 + (1 : Int))) + (1 : Int)))) (at_ y16 x2.2.2).T))).bind fun y23 => (if 0 ≤ x2.2.2 ∧ x2.2.2 < (y23.length : Int) then ((laws_markByteS.f ((at_ y23 x2.2.2).T) (IntKind.wrap .i64 ((IntKind.wrap .i64 ((IntKind.wrap .i64 (x2.2.1 + (1 : Int))) + (1 : Int))) + (1 : Int)))).bind fun r27 => (some (Sum.inl ((y23.set (x2.2.2).toNat (Item.mk (at_ y23 x2.2.2).Kind (at_ y23 x2.2.2).N (at_ y23 x2.2.2).F r27.2)), r27.1, (IntKind.wrap .i64 (x2.2.2 + (1 : Int))))))) else none)) else none)) else none) else none) else ((some (x2.2.1, x2.1)).bind fun o => some (Sum.inr o)))
def laws_markItemS.f (a0 : (List Item)) (a1 : Int) : Option (Int × (List Item)) :=
 (iter laws_markItemS.b0 (a0, a1, (0 : Int)))
def laws_markItemS.Q (w : World) (F : Nat → Prop) (os : List Nat) (w0_0 : Value) (r : Int × (List Item)) (v : Value) (w' : World) : Prop :=
 v = (iI r.1) ∧ FW Xt os w w' [w0_0] r.2 ∧ Ky os w w'
theorem laws_markItemS.calls (a0 : (List Item)) (a1 : Int) (w : World) (F : Nat → Prop) (w0_0 : Value) (os : List Nat) (h0_0 : Xt.ow w [w0_0] a0 os) (hn : os.Nodup) (hF : ∀ b, F b → b ∉ os) (r : Int × (List Item)) (m : laws_markItemS.f a0 a1 = some r) :
  Calls prog 25 #[w0_0, (iI a1)] w (RT (laws_markItemS.Q w F os w0_0) r) := by
 obtain ⟨s0, rfl, kp0, z⟩ := start1 w F os hF
 refine Xc (args := [w0_0, (iI a1)]) func25 ntmps25 rfl rfl m ?_
 unfold laws_markItemS.f
 refine sr (Xb rfl (dn (sq (sr (Xb rfl (dn (bl (lpI (fun (x2 : (List Item) × Int × Int) e w => ∃ (s : St) (e0 : Env), w = s.w ∧ e = upd (upd (upd e0 0 w0_0) 1 (iI x2.2.1)) 5 (iI x2.2.2) ∧ Kp s0 s ∧ OwF Xt s [w0_0] x2.1 2) ⟨s0, _, rfl, (ue (ue (ue rfl rfl) rfl) rfl), kp0, (z.ow h0_0 hn)⟩ (fun g2 ih2 => ?_)))))))))
 rintro x2 _ _ ⟨s3, _, rfl, rfl, Kx2, Ax2_0⟩
 unfold laws_markItemS.b0
 refine sq (sr (Xb rfl (Xi w0_0 rfl (ln' Ax2_0.rd u41 rfl (Xb rfl (dn (cd rfl (fun h5 => ?_) (fun h5 => ?_))))))))
 ·
  refine sk (sq (bl (sr (Xi w0_0 rfl (Xb rfl (Xb rfl (ix' Ax2_0.rd u41 z61 rfl (fun ad6 es6 h0_6 h1_6 he6 ce6 ia6 => ?_))))))))
  obtain ⟨v6_0, v6_1, rfl, A6_0, A6_1⟩ := op61 he6
  refine Xn fa61_0 rfl (so (x' := (Item.mk x2.2.1 (at_ x2.1 x2.2.2).N (at_ x2.1 x2.2.2).F (at_ x2.1 x2.2.2).T)) Ax2_0 ia6 h0_6 h1_6 (cs_iso (cs_left cs_flat)) z3 rfl rfl rfl rfl rfl rfl (fun s9 p9 A9 => ?_))
  refine dn (sr (Xb rfl (Xb rfl (Xb rfl (dn (sr (Xi w0_0 rfl (Xb rfl (Xb rfl (ix' A9.rd u41 z61 rfl (fun ad11 es11 h0_11 h1_11 he11 ce11 ia11 => ?_)))))))))))
  obtain ⟨v11_0, v11_1, rfl, A11_0, A11_1⟩ := op61 he11
  refine Xn fa61_1 rfl (so (x' := (Item.mk (at_ (x2.1.set (x2.2.2).toNat (Item.mk x2.2.1 (at_ x2.1 x2.2.2).N (at_ x2.1 x2.2.2).F (at_ x2.1 x2.2.2).T)) x2.2.2).Kind (IntKind.wrap .i64 (x2.2.1 + (1 : Int))) (at_ (x2.1.set (x2.2.2).toNat (Item.mk x2.2.1 (at_ x2.1 x2.2.2).N (at_ x2.1 x2.2.2).F (at_ x2.1 x2.2.2).T)) x2.2.2).F (at_ (x2.1.set (x2.2.2).toNat (Item.mk x2.2.1 (at_ x2.1 x2.2.2).N (at_ x2.1 x2.2.2).F (at_ x2.1 x2.2.2).T)) x2.2.2).T)) A9 ia11 h0_11 h1_11 (cs_iso (cs_right (cs_left cs_flat))) z3 rfl rfl rfl rfl rfl rfl (fun s14 p14 A14 => ?_))
  refine nb (fun y16 h16 => ?_)
  have A16 : OwF Xt s14 [w0_0] y16 2 := by rw [h16]; exact A14
  refine dn (sr (Xb rfl (Xb rfl (Xb rfl (dn (sr (Xi w0_0 rfl (Xb rfl (Xb rfl (i2f u58 u3 rfl rfl rfl rfl rfl rfl (fun v17 A17 => ?_)))))))))))
  refine ix' A16.rd u41 z61 rfl (fun ad18 es18 h0_18 h1_18 he18 ce18 ia18 => ?_)
  obtain ⟨v18_0, v18_1, rfl, A18_0, A18_1⟩ := op61 he18
  refine Xn fa61_2 rfl (so (x' := (Item.mk (at_ y16 x2.2.2).Kind (at_ y16 x2.2.2).N (FloatKind.f64.nearest (IntKind.wrap .i64 ((IntKind.wrap .i64 (x2.2.1 + (1 : Int))) + (1 : Int)))) (at_ y16 x2.2.2).T)) A16 ia18 h0_18 h1_18 (cs_iso (cs_right (cs_right (cs_left (cs_flt A17))))) z58 rfl rfl rfl rfl rfl rfl (fun s21 p21 A21 => ?_))
  refine nb (fun y23 h23 => ?_)
  have A23 : OwF Xt s21 [w0_0] y23 2 := by rw [h23]; exact A21
  refine dn (sr (Xb rfl (Xb rfl (Xb rfl (dn (rg (Xi w0_0 rfl (Xb rfl (ix' A23.rd u41 z61 rfl (fun ad24 es24 h0_24 h1_24 he24 ce24 ia24 => ?_))))))))))
  obtain ⟨v24_0, v24_1, rfl, A24_0, A24_1⟩ := op61 he24
  refine Xn fa61_3 rfl (lc ce24 u59 rfl rfl rfl rfl rfl rfl rfl rfl (Xb rfl ?_))
  obtain ⟨os27, ho27, hn27, hc27, put27⟩ := focus (ln_iso (fun x : Item => (x.Kind, x.N, x.F, x.T)) (fun x => x.T) (fun x y => (Item.mk x.Kind x.N x.F y)) (ln_right (ln_right (ln_right ln_sl))) (fun _ => rfl) (fun _ _ => rfl)) A23 h0_24 h1_24 ia24 ce24 rfl rfl
  refine cl' rfl func44 rfl (laws_markByteS.calls ((at_ y23 x2.2.2).T) (IntKind.wrap .i64 ((IntKind.wrap .i64 ((IntKind.wrap .i64 (x2.2.1 + (1 : Int))) + (1 : Int))) + (1 : Int))) s21.w (mm [] s21) v24_1 os27 ho27 hn27 (apart_of hc27 rfl)) ?_
  rintro r27 _ w27 m27 ⟨rfl, w27_, ky27⟩
  obtain ⟨s28, rfl, p28, A28⟩ := put27 w27 _ 40 ky27 w27_
  refine Xb rfl (dn (ib (rg (Xb rfl (Xb rfl (Xb rfl (dn ?_)))))))
  exact lb ih2 ⟨s28, _, rfl, (ue (ue (ue rfl rfl) rfl) rfl), (Kx2.st (tr4 p9 p14 p21 p28) rfl), A28⟩
 exact xt rfl (sgb (sr (Xb rfl (Xb rfl (dn (re rfl func25 rfl (Xj rfl Xd) rfl ⟨_, rfl, rfl, z.fw Kx2 Ax2_0, z.ky Kx2⟩))))))
def laws_markDeedS.b0  (x2 : (List Deed) × Int × Int) : Option (((List Deed) × Int × Int) ⊕ (Int × (List Deed))) :=
 (if (decide (x2.2.2 < (x2.1.length : Int))) = true then (if 0 ≤ x2.2.2 ∧ x2.2.2 < (x2.1.length : Int) then ((some (x2.1.set (x2.2.2).toNat (Deed.mk x2.2.1 (at_ x2.1 x2.2.2).Begun (at_ x2.1 x2.2.2).Ended (at_ x2.1 x2.2.2).Reads (at_ x2.1 x2.2.2).Writes))).bind fun y12 => (if 0 ≤ x2.2.2 ∧ x2.2.2 < (y12.length : Int) then ((some (y12.set (x2.2.2).toNat (Deed.mk (at_ y12 x2.2.2).Xid (IntKind.wrap .i64 (x2.2.1 + (1 : Int))) (at_ y12 x2.2.2).Ended (at_ y12 x2.2.2).Reads (at_ y12 x2.2.2).Writes))).bind fun y19 => (if 0 ≤ x2.2.2 ∧ x2.2.2 < (y19.length : Int) then ((some (y19.set (x2.2.2).toNat (Deed.mk (at_ y19 x2.2.2).Xid (at_ y19 x2.2.2).Begun (IntKind.wrap .i64 ((IntKind.wrap .i64 (x2.2.1 + (1 : Int))) + (1 : Int))) (at_ y19 x2.2.2).Reads (at_ y19 x2.2.2).Writes))).bind fun y26 => (if 0 ≤ x2.2.2 ∧ x2.2.2 < (y26.length : Int) then ((laws_markSpanS.f ((at_ y26 x2.2.2).Reads) (IntKind.wrap .i64 ((IntKind.wrap .i64 ((IntKind.wrap .i64 (x2.2.1 + (1 : Int))) + (1 : Int))) + (1 : Int)))).bind fun r31 => ((some (y26.set (x2.2.2).toNat (Deed.mk (at_ y26 x2.2.2).Xid (at_ y26 x2.2.2).Begun (at_ y26 x2.2.2).Ended r31.2 (at_ y26 x2.2.2).Writes))).bind fun y34 => (if 0 ≤ x2.2.2 ∧ x2.2.2 < (y34.length : Int) then ((laws_markItemS.f ((at_ y34 x2.2.2).Writes) r31.1).bind fun r39 => ((some (y34.set (x2.2.2).toNat (Deed.mk (at_ y34 x2.2.2).Xid (at_ y34 x2.2.2).Begun (at_ y34 x2.2.2).Ended (at_ y34 x2.2.2).Reads r39.2))).bind fun y42 => (some (Sum.inl (y42, r39.1, (IntKind.wrap .i64 (x2.2.2 + (1 : Int)))))))) else none))) else none)) else none)) else none)) else none) else ((some (x2.2.1, x2.1)).bind fun o => some (Sum.inr o)))
def laws_markDeedS.f (a0 : (List Deed)) (a1 : Int) : Option (Int × (List Deed)) :=
 (iter laws_markDeedS.b0 (a0, a1, (0 : Int)))
def laws_markDeedS.Q (w : World) (F : Nat → Prop) (os : List Nat) (w0_0 : Value) (r : Int × (List Deed)) (v : Value) (w' : World) : Prop :=
 v = (iI r.1) ∧ FW Xu os w w' [w0_0] r.2 ∧ Ky os w w'
theorem laws_markDeedS.calls (a0 : (List Deed)) (a1 : Int) (w : World) (F : Nat → Prop) (w0_0 : Value) (os : List Nat) (h0_0 : Xu.ow w [w0_0] a0 os) (hn : os.Nodup) (hF : ∀ b, F b → b ∉ os) (r : Int × (List Deed)) (m : laws_markDeedS.f a0 a1 = some r) :
  Calls prog 10 #[w0_0, (iI a1)] w (RT (laws_markDeedS.Q w F os w0_0) r) := by
 obtain ⟨s0, rfl, kp0, z⟩ := start1 w F os hF
 refine Xc (args := [w0_0, (iI a1)]) func10 ntmps10 rfl rfl m ?_
 unfold laws_markDeedS.f
 refine sr (Xb rfl (dn (sq (sr (Xb rfl (dn (bl (lpI (fun (x2 : (List Deed) × Int × Int) e w => ∃ (s : St) (e0 : Env), w = s.w ∧ e = upd (upd (upd e0 0 w0_0) 1 (iI x2.2.1)) 5 (iI x2.2.2) ∧ Kp s0 s ∧ OwF Xu s [w0_0] x2.1 2) ⟨s0, _, rfl, (ue (ue (ue rfl rfl) rfl) rfl), kp0, (z.ow h0_0 hn)⟩ (fun g2 ih2 => ?_)))))))))
 rintro x2 _ _ ⟨s3, _, rfl, rfl, Kx2, Ax2_0⟩
 unfold laws_markDeedS.b0
 refine sq (sr (Xb rfl (Xi w0_0 rfl (ln' Ax2_0.rd u26 rfl (Xb rfl (dn (cd rfl (fun h5 => ?_) (fun h5 => ?_))))))))
 ·
  refine sk (sq (bl (sr (Xi w0_0 rfl (Xb rfl (Xb rfl (ix' Ax2_0.rd u26 z43 rfl (fun ad6 es6 h0_6 h1_6 he6 ce6 ia6 => ?_))))))))
  obtain ⟨v6_0, v6_1, rfl, A6_0, A6_1⟩ := op43 he6
  refine Xn fa43_0 rfl (so (x' := (Deed.mk x2.2.1 (at_ x2.1 x2.2.2).Begun (at_ x2.1 x2.2.2).Ended (at_ x2.1 x2.2.2).Reads (at_ x2.1 x2.2.2).Writes)) Ax2_0 ia6 h0_6 h1_6 (cs_iso (cs_left cs_flat)) z3 rfl rfl rfl rfl rfl rfl (fun s10 p10 A10 => ?_))
  refine nb (fun y12 h12 => ?_)
  have A12 : OwF Xu s10 [w0_0] y12 2 := by rw [h12]; exact A10
  refine dn (sr (Xb rfl (Xb rfl (Xb rfl (dn (sr (Xi w0_0 rfl (Xb rfl (Xb rfl (ix' A12.rd u26 z43 rfl (fun ad13 es13 h0_13 h1_13 he13 ce13 ia13 => ?_)))))))))))
  obtain ⟨v13_0, v13_1, rfl, A13_0, A13_1⟩ := op43 he13
  refine Xn fa43_1 rfl (so (x' := (Deed.mk (at_ y12 x2.2.2).Xid (IntKind.wrap .i64 (x2.2.1 + (1 : Int))) (at_ y12 x2.2.2).Ended (at_ y12 x2.2.2).Reads (at_ y12 x2.2.2).Writes)) A12 ia13 h0_13 h1_13 (cs_iso (cs_right (cs_left cs_flat))) z3 rfl rfl rfl rfl rfl rfl (fun s17 p17 A17 => ?_))
  refine nb (fun y19 h19 => ?_)
  have A19 : OwF Xu s17 [w0_0] y19 2 := by rw [h19]; exact A17
  refine dn (sr (Xb rfl (Xb rfl (Xb rfl (dn (sr (Xi w0_0 rfl (Xb rfl (Xb rfl (ix' A19.rd u26 z43 rfl (fun ad20 es20 h0_20 h1_20 he20 ce20 ia20 => ?_)))))))))))
  obtain ⟨v20_0, v20_1, rfl, A20_0, A20_1⟩ := op43 he20
  refine Xn fa43_2 rfl (so (x' := (Deed.mk (at_ y19 x2.2.2).Xid (at_ y19 x2.2.2).Begun (IntKind.wrap .i64 ((IntKind.wrap .i64 (x2.2.1 + (1 : Int))) + (1 : Int))) (at_ y19 x2.2.2).Reads (at_ y19 x2.2.2).Writes)) A19 ia20 h0_20 h1_20 (cs_iso (cs_right (cs_right (cs_left cs_flat)))) z3 rfl rfl rfl rfl rfl rfl (fun s24 p24 A24 => ?_))
  refine nb (fun y26 h26 => ?_)
  have A26 : OwF Xu s24 [w0_0] y26 2 := by rw [h26]; exact A24
  refine dn (sr (Xb rfl (Xb rfl (Xb rfl (dn (sr (Xi w0_0 rfl (Xb rfl (ix' A26.rd u26 z43 rfl (fun ad27 es27 h0_27 h1_27 he27 ce27 ia27 => ?_))))))))))
  obtain ⟨v27_0, v27_1, rfl, A27_0, A27_1⟩ := op43 he27
  refine Xn fa43_3 rfl (lc ce27 u40 rfl rfl rfl rfl rfl rfl rfl rfl (Xb rfl ?_))
  obtain ⟨os31, ho31, hn31, hc31, put31⟩ := focus (ln_iso (fun x : Deed => (x.Xid, x.Begun, x.Ended, x.Reads, x.Writes)) (fun x => x.Reads) (fun x y => (Deed.mk x.Xid x.Begun x.Ended y x.Writes)) (ln_right (ln_right (ln_right (ln_left ln_sl)))) (fun _ => rfl) (fun _ _ => rfl)) A26 h0_27 h1_27 ia27 ce27 rfl rfl
  refine cl' rfl func24 rfl (laws_markSpanS.calls ((at_ y26 x2.2.2).Reads) (IntKind.wrap .i64 ((IntKind.wrap .i64 ((IntKind.wrap .i64 (x2.2.1 + (1 : Int))) + (1 : Int))) + (1 : Int))) s24.w (mm [] s24) v27_0 os31 ho31 hn31 (apart_of hc31 rfl)) ?_
  rintro r31 _ w31 m31 ⟨rfl, w31_, ky31⟩
  obtain ⟨s32, rfl, p32, A32⟩ := put31 w31 _ 40 ky31 w31_
  refine nb (fun y34 h34 => ?_)
  have A34 : OwF Xu s32 [w0_0] y34 2 := by rw [h34]; exact A32
  refine Xb rfl (dn (rg (Xi w0_0 rfl (Xb rfl (ix' A34.rd u26 z43 rfl (fun ad35 es35 h0_35 h1_35 he35 ce35 ia35 => ?_))))))
  obtain ⟨v35_0, v35_1, rfl, A35_0, A35_1⟩ := op43 he35
  refine Xn fa43_4 rfl (lc ce35 u41 rfl rfl rfl rfl rfl rfl rfl rfl (Xb rfl ?_))
  obtain ⟨os39, ho39, hn39, hc39, put39⟩ := focus (ln_iso (fun x : Deed => (x.Xid, x.Begun, x.Ended, x.Reads, x.Writes)) (fun x => x.Writes) (fun x y => (Deed.mk x.Xid x.Begun x.Ended x.Reads y)) (ln_right (ln_right (ln_right (ln_right ln_sl)))) (fun _ => rfl) (fun _ _ => rfl)) A34 h0_35 h1_35 ia35 ce35 rfl rfl
  refine cl' rfl func25 rfl (laws_markItemS.calls ((at_ y34 x2.2.2).Writes) r31.1 s32.w (mm [] s32) v35_1 os39 ho39 hn39 (apart_of hc39 rfl)) ?_
  rintro r39 _ w39 m39 ⟨rfl, w39_, ky39⟩
  obtain ⟨s40, rfl, p40, A40⟩ := put39 w39 _ 41 ky39 w39_
  refine nb (fun y42 h42 => ?_)
  have A42 : OwF Xu s40 [w0_0] y42 2 := by rw [h42]; exact A40
  refine Xb rfl (dn (ib (rg (Xb rfl (Xb rfl (Xb rfl (dn ?_)))))))
  exact lb ih2 ⟨s40, _, rfl, (ue (ue (ue rfl rfl) rfl) rfl), (Kx2.st (tr5 p10 p17 p24 p32 p40) rfl), A42⟩
 exact xt rfl (sgb (sr (Xb rfl (Xb rfl (dn (re rfl func10 rfl (Xj rfl Xd) rfl ⟨_, rfl, rfl, z.fw Kx2 Ax2_0, z.ky Kx2⟩))))))
def laws_markIntA2S.b0  (x2 : (List A2Int) × Int × Int) : Option (((List A2Int) × Int × Int) ⊕ (Int × (List A2Int))) :=
 (if (decide (x2.2.2 < (x2.1.length : Int))) = true then (if 0 ≤ x2.2.2 ∧ x2.2.2 < (x2.1.length : Int) then (if 0 ≤ x2.2.2 ∧ x2.2.2 < ((x2.1.set (x2.2.2).toNat (A2Int.mk x2.2.1 (at_ x2.1 x2.2.2).e1)).length : Int) then ((some ((x2.1.set (x2.2.2).toNat (A2Int.mk x2.2.1 (at_ x2.1 x2.2.2).e1)).set (x2.2.2).toNat (A2Int.mk (at_ (x2.1.set (x2.2.2).toNat (A2Int.mk x2.2.1 (at_ x2.1 x2.2.2).e1)) x2.2.2).e0 (IntKind.wrap .i64 (x2.2.1 + (1 : Int)))))).bind fun y14 => (some (Sum.inl (y14, (IntKind.wrap .i64 ((IntKind.wrap .i64 (x2.2.1 + (1 : Int))) + (1 : Int))), (IntKind.wrap .i64 (x2.2.2 + (1 : Int))))))) else none) else none) else ((some (x2.2.1, x2.1)).bind fun o => some (Sum.inr o)))
def laws_markIntA2S.f (a0 : (List A2Int)) (a1 : Int) : Option (Int × (List A2Int)) :=
 (iter laws_markIntA2S.b0 (a0, a1, (0 : Int)))
def laws_markIntA2S.Q (w : World) (F : Nat → Prop) (os : List Nat) (w0_0 : Value) (r : Int × (List A2Int)) (v : Value) (w' : World) : Prop :=
 v = (iI r.1) ∧ FW Xv os w w' [w0_0] r.2 ∧ Ky os w w'
theorem laws_markIntA2S.calls (a0 : (List A2Int)) (a1 : Int) (w : World) (F : Nat → Prop) (w0_0 : Value) (os : List Nat) (h0_0 : Xv.ow w [w0_0] a0 os) (hn : os.Nodup) (hF : ∀ b, F b → b ∉ os) (r : Int × (List A2Int)) (m : laws_markIntA2S.f a0 a1 = some r) :
  Calls prog 11 #[w0_0, (iI a1)] w (RT (laws_markIntA2S.Q w F os w0_0) r) := by
 obtain ⟨s0, rfl, kp0, z⟩ := start1 w F os hF
 refine Xc (args := [w0_0, (iI a1)]) func11 ntmps11 rfl rfl m ?_
 unfold laws_markIntA2S.f
 refine sr (Xb rfl (dn (sq (sr (Xb rfl (dn (bl (lpI (fun (x2 : (List A2Int) × Int × Int) e w => ∃ (s : St) (e0 : Env), w = s.w ∧ e = upd (upd (upd e0 0 w0_0) 1 (iI x2.2.1)) 5 (iI x2.2.2) ∧ Kp s0 s ∧ OwF Xv s [w0_0] x2.1 2) ⟨s0, _, rfl, (ue (ue (ue rfl rfl) rfl) rfl), kp0, (z.ow h0_0 hn)⟩ (fun g2 ih2 => ?_)))))))))
 rintro x2 _ _ ⟨s3, _, rfl, rfl, Kx2, Ax2_0⟩
 unfold laws_markIntA2S.b0
 refine sq (sr (Xb rfl (Xi w0_0 rfl (ln' Ax2_0.rd u24 rfl (Xb rfl (dn (cd rfl (fun h5 => ?_) (fun h5 => ?_))))))))
 ·
  refine sk (sq (bl (sr (Xb rfl (dn (bl (lpu (sq (sr (Xb rfl (Xb rfl (dn (cdt rfl (sk ?_))))))))))))))
  refine sq (bl (sr (Xi w0_0 rfl (Xb rfl (Xb rfl (Xb rfl (ix' Ax2_0.rd u24 z44 rfl (fun ad6 es6 h0_6 h1_6 he6 ce6 ia6 => ?_))))))))
  obtain ⟨rfl⟩ := op44 he6
  refine ixc (q := 0) u44 z3 rfl rfl rfl rfl rfl rfl rfl rfl rfl (so (x' := (A2Int.mk x2.2.1 (at_ x2.1 x2.2.2).e1)) Ax2_0 ia6 h0_6 h1_6 (cs_iso (cs_left cs_flat)) z3 rfl rfl rfl rfl rfl rfl (fun s8 p8 A8 => ?_))
  refine dn (rg (Xb rfl (Xb rfl (Xb rfl (dn (ib (rg (Xb rfl (Xb rfl (Xb rfl (dn (inu (sq (sr ?_))))))))))))))
  refine Xb rfl (Xb rfl (dn (cdt rfl (sk (sq (bl (sr (Xi w0_0 rfl (Xb rfl (Xb rfl (Xb rfl (ix' A8.rd u24 z44 rfl (fun ad10 es10 h0_10 h1_10 he10 ce10 ia10 => ?_)))))))))))))
  obtain ⟨rfl⟩ := op44 he10
  refine ixc (q := 1) u44 z3 rfl rfl rfl rfl rfl rfl rfl rfl rfl (so (x' := (A2Int.mk (at_ (x2.1.set (x2.2.2).toNat (A2Int.mk x2.2.1 (at_ x2.1 x2.2.2).e1)) x2.2.2).e0 (IntKind.wrap .i64 (x2.2.1 + (1 : Int))))) A8 ia10 h0_10 h1_10 (cs_iso (cs_right cs_flat)) z3 rfl rfl rfl rfl rfl rfl (fun s12 p12 A12 => ?_))
  refine nb (fun y14 h14 => ?_)
  have A14 : OwF Xv s12 [w0_0] y14 2 := by rw [h14]; exact A12
  refine dn (rg (Xb rfl (Xb rfl (Xb rfl (dn (ib (rg (Xb rfl (Xb rfl (Xb rfl (dn (inu (sq (sr ?_))))))))))))))
  refine Xb rfl (Xb rfl (dn (cdf rfl (xt rfl (ib (rg (Xb rfl (Xb rfl (Xb rfl (dn ?_))))))))))
  exact lb ih2 ⟨s12, _, rfl, (ue (ue (ue rfl rfl) rfl) rfl), (Kx2.st (tr2 p8 p12) rfl), A14⟩
 exact xt rfl (sgb (sr (Xb rfl (Xb rfl (dn (re rfl func11 rfl (Xj rfl Xd) rfl ⟨_, rfl, rfl, z.fw Kx2 Ax2_0, z.ky Kx2⟩))))))
def laws_heldIntA2S.b0 (a0 : (List A2Int)) (x2 : Int × Int) : Option ((Int × Int) ⊕ Int) :=
 (if (decide (x2.2 < (a0.length : Int))) = true then (if 0 ≤ x2.2 ∧ x2.2 < (a0.length : Int) then (if ((at_ a0 x2.2).e0 != x2.1) = true then (some (Sum.inr (-1 : Int))) else (if 0 ≤ x2.2 ∧ x2.2 < (a0.length : Int) then (if ((at_ a0 x2.2).e1 != (IntKind.wrap .i64 (x2.1 + (1 : Int)))) = true then (some (Sum.inr (-1 : Int))) else (some (Sum.inl ((IntKind.wrap .i64 ((IntKind.wrap .i64 (x2.1 + (1 : Int))) + (1 : Int))), (IntKind.wrap .i64 (x2.2 + (1 : Int))))))) else none)) else none) else ((some x2.1).bind fun o => some (Sum.inr o)))
def laws_heldIntA2S.f (a0 : (List A2Int)) (a1 : Int) : Option (Int) :=
 (iter (laws_heldIntA2S.b0 a0) (a1, (0 : Int)))
def laws_heldIntA2S.Q (w : World) (F : Nat → Prop) (r : Int) (v : Value) (w' : World) : Prop :=
 v = (iI r) ∧ Ky [] w w'
theorem laws_heldIntA2S.calls (a0 : (List A2Int)) (a1 : Int) (w : World) (F : Nat → Prop) (w0_0 : Value) (h0_0 : Xv.rd w [w0_0] a0 F) (r : Int) (m : laws_heldIntA2S.f a0 a1 = some r) :
  Calls prog 12 #[w0_0, (iI a1)] w (RT (laws_heldIntA2S.Q w F) r) := by
 obtain ⟨s0, rfl, kp0, z⟩ := Xf w F
 refine Xc (args := [w0_0, (iI a1)]) func12 ntmps12 rfl rfl m ?_
 unfold laws_heldIntA2S.f
 refine sr (Xb rfl (dn (sq (sr (Xb rfl (dn (bl (lpI (fun (x2 : Int × Int) e w => ∃ (s : St) (e0 : Env), w = s.w ∧ e = upd (upd (upd e0 0 w0_0) 1 (iI x2.1)) 5 (iI x2.2) ∧ Kp s0 s) ⟨s0, _, rfl, (ue (ue (ue rfl rfl) rfl) rfl), kp0⟩ (fun g2 ih2 => ?_)))))))))
 rintro x2 _ _ ⟨s3, _, rfl, rfl, Kx2⟩
 unfold laws_heldIntA2S.b0
 refine sq (sr (Xb rfl (Xi w0_0 rfl ?_)))
 have A4 := (z.rd h0_0).kp Kx2
 refine ln' A4 u24 rfl (Xb rfl (dn (cd rfl (fun h5 => ?_) (fun h5 => ?_))))
 ·
  refine sk (sq (bl (sr (Xb rfl (dn (bl (lpu (sq (sr (Xb rfl (Xb rfl (dn (cdt rfl (sk ?_))))))))))))))
  refine sq (bl (sq (sr (Xi w0_0 rfl (Xb rfl (Xb rfl (ix' A4 u24 z44 rfl (fun ad6 es6 h0_6 h1_6 he6 ce6 ia6 => ?_))))))))
  obtain ⟨rfl⟩ := op44 he6
  refine ixc (q := 0) u44 z3 rfl rfl rfl rfl rfl rfl rfl rfl rfl (lc0 ce6 u3 rfl rfl rfl rfl rfl rfl rfl rfl (Xb rfl (Xb rfl (dn (cd rfl (fun h8 => ?_) (fun h8 => ?_))))))
  ·
   exact sr (Xb rfl (dn (sgi (re rfl func12 rfl (Xj rfl Xd) rfl ⟨_, rfl, rfl, z.ky Kx2⟩))))
  refine sk (rg (Xb rfl (Xb rfl (Xb rfl (dn (ib (rg (Xb rfl (Xb rfl (Xb rfl (dn (inu (sq (sr ?_))))))))))))))
  refine Xb rfl (Xb rfl (dn (cdt rfl (sk (sq (bl (sq (sr (Xi w0_0 rfl (Xb rfl (Xb rfl (ix' A4 u24 z44 rfl (fun ad9 es9 h0_9 h1_9 he9 ce9 ia9 => ?_)))))))))))))
  obtain ⟨rfl⟩ := op44 he9
  refine ixc (q := 1) u44 z3 rfl rfl rfl rfl rfl rfl rfl rfl rfl (lc ce9 u3 rfl rfl rfl rfl rfl rfl rfl rfl (Xb rfl (Xb rfl (dn (cd rfl (fun h11 => ?_) (fun h11 => ?_))))))
  ·
   exact sr (Xb rfl (dn (sgi (re rfl func12 rfl (Xj rfl Xd) rfl ⟨_, rfl, rfl, z.ky Kx2⟩))))
  refine sk (rg (Xb rfl (Xb rfl (Xb rfl (dn (ib (rg (Xb rfl (Xb rfl (Xb rfl (dn (inu (sq (sr ?_))))))))))))))
  exact Xb rfl (Xb rfl (dn (cdf rfl (xt rfl (ib (rg (Xb rfl (Xb rfl (Xb rfl (dn (lb ih2 ⟨s3, _, rfl, (ue (ue (ue rfl rfl) rfl) rfl), Kx2⟩)))))))))))
 exact xt rfl (sgb (sr (Xb rfl (Xb rfl (dn (re rfl func12 rfl (Xj rfl Xd) rfl ⟨_, rfl, rfl, z.ky Kx2⟩))))))
def laws_FnExactGraphEdges.f (a0 : (List Deed)) : Option (Bool) :=
 ((laws_szDeedS.f a0 (1048576 : Int)).bind fun r2 => (if (decide (r2 < (0 : Int))) = true then (some true) else ((laws_toDeedS.f a0).bind fun r8 => ((spec_GraphEdges.f r8).bind fun r11 => ((laws_toDeedS.f a0).bind fun r16 => ((impl_GraphEdges.f r16).bind fun r19 => ((laws_eqIntA2S.f r19 r11).bind fun r23 => (if (!r23) = true then (some false) else ((laws_toDeedS.f a0).bind fun r29 => ((laws_eqDeedS.f r16 r29).bind fun r33 => (if (!r33) = true then (some false) else ((laws_markDeedS.f r16 (1 : Int)).bind fun r37 => ((if (decide (r37.1 < (0 : Int))) = true then (some true) else ((laws_eqIntA2S.f r19 r11).bind fun r47 => (some (!r47)))).bind fun y41 => (if y41 = true then (some false) else ((laws_markIntA2S.f r19 (1 : Int)).bind fun r54 => ((laws_heldIntA2S.f r54.2 (1 : Int)).bind fun r57 => (if (decide (r57 < (0 : Int))) = true then (some false) else (if (r57 != r54.1) = true then (some false) else ((laws_toDeedS.f a0).bind fun r65 => ((impl_GraphEdges.f r65).bind fun r68 => ((laws_eqIntA2S.f r68 r11).bind fun r72 => (if (!r72) = true then (some false) else ((laws_heldIntA2S.f r54.2 (1 : Int)).bind fun r77 => (if (decide (r77 < (0 : Int))) = true then (some false) else (if (r77 != r54.1) = true then (some false) else (some true))))))))))))))))))))))))))
def laws_FnExactGraphEdges.Q (w : World) (F : Nat → Prop) (r : Bool) (v : Value) (w' : World) : Prop :=
 v = (.bool r) ∧ Ky [] w w'
theorem laws_FnExactGraphEdges.calls (a0 : (List Deed)) (w : World) (F : Nat → Prop) (w0_0 : Value) (h0_0 : (Kd.sl 37 kd37).rd w [w0_0] a0 F) (r : Bool) (m : laws_FnExactGraphEdges.f a0 = some r) :
  Calls prog 3 #[w0_0] w (RT (laws_FnExactGraphEdges.Q w F) r) := by
 obtain ⟨s0, rfl, kp0, z⟩ := Xf w F
 have A0_0 := z.rd h0_0
 refine Xc (args := [w0_0]) func3 ntmps3 rfl rfl m ?_
 unfold laws_FnExactGraphEdges.f
 refine sr (Xb rfl (dn (sr (Xb rfl (dn (sr (Xi w0_0 rfl (Xb rfl (clV 40 rfl func4 rfl (laws_szDeedS.calls a0 (1048576 : Int) s0.w (mm [0] s0) w0_0 A0_0) (fun r2 s3 p3 n3 => ?_))))))))))
 refine Xb rfl (dn (sq (sr (Xb rfl (Xb rfl (dn (cd rfl (fun h4 => ?_) (fun h4 => ?_))))))))
 ·
  refine sr (Xb rfl (dn ?_))
  exact re rfl func3 rfl (Xj rfl Xd) rfl ⟨_, rfl, rfl, z.ky (kp0.st p3 rfl)⟩
 refine sk (sr (Xi w0_0 rfl ?_))
 have K6 := kp0.st p3 rfl
 refine clO 41 rfl func6 rfl (laws_toDeedS.calls a0 s3.w (mm [0] s3) w0_0 (A0_0.kp K6)) (fun r8 v8_0 s9 p9 A8_0 => ?_)
 refine clO 42 rfl func5 rfl (spec_GraphEdges.calls r8 s9.w (mm [41] s9) v8_0 A8_0.rd) (fun r11 v11_0 s12 p12 A11_0 => ?_)
 refine asg' v11_0 rfl (dn (sr (Xi w0_0 rfl ?_)))
 have K14 := K6.st (tr2 p9 p12) rfl
 refine clO 43 rfl func6 rfl (laws_toDeedS.calls a0 s12.w (mm [0] s12) w0_0 (A0_0.kp K14)) (fun r16 v16_0 s17 p17 A16_0 => ?_)
 refine asg' v16_0 rfl (dn (sr (Xi v16_0 rfl (clO 44 rfl func7 rfl (impl_GraphEdges.calls r16 s17.w (mm [43] s17) v16_0 A16_0.rd) (fun r19 v19_0 s20 p20 A19_0 => ?_)))))
 refine asg' v19_0 rfl (dn (sq (sr (Xi v19_0 rfl (Xi v11_0 rfl ?_)))))
 have A22 := A11_0.st (tr2 p17 p20) rfl
 refine clV 45 rfl func8 rfl (laws_eqIntA2S.calls r19 r11 s20.w (mm [44, 42] s20) v19_0 v11_0 (A19_0.rd.sub (D := [44, 42]) rfl) (A22.rd.sub (D := [44, 42]) rfl)) (fun r23 s24 p24 n24 => ?_)
 refine Xb rfl (dn (cd rfl (fun h25 => ?_) (fun h25 => ?_)))
 ·
  refine sr (Xb rfl (dn ?_))
  exact re rfl func3 rfl (Xj rfl Xd) rfl ⟨_, rfl, rfl, z.ky (K14.st (tr3 p17 p20 p24) rfl)⟩
 refine sk (sq (sr (Xi v16_0 rfl (Xi w0_0 rfl ?_))))
 have K27 := K14.st (tr3 p17 p20 p24) rfl
 refine clO 46 rfl func6 rfl (laws_toDeedS.calls a0 s24.w (mm [0] s24) w0_0 (A0_0.kp K27)) (fun r29 v29_0 s30 p30 A29_0 => ?_)
 have A32 := A16_0.st (tr3 p20 p24 p30) rfl
 refine clV 47 rfl func9 rfl (laws_eqDeedS.calls r16 r29 s30.w (mm [43, 46] s30) v16_0 v29_0 (A32.rd.sub (D := [43, 46]) rfl) (A29_0.rd.sub (D := [43, 46]) rfl)) (fun r33 s34 p34 n34 => ?_)
 refine Xb rfl (dn (cd rfl (fun h35 => ?_) (fun h35 => ?_)))
 ·
  refine sr (Xb rfl (dn ?_))
  exact re rfl func3 rfl (Xj rfl Xd) rfl ⟨_, rfl, rfl, z.ky (K27.st (tr2 p30 p34) rfl)⟩
 refine sk (sr (Xb rfl (dn (sr (Xi v16_0 rfl (Xb rfl ?_))))))
 obtain ⟨os37, ho37, hn37, hc37⟩ := A32.st p34 rfl
 refine cl' rfl func10 rfl (laws_markDeedS.calls r16 (1 : Int) s34.w (mm [] s34) v16_0 os37 ho37 hn37 (apart_of hc37 rfl)) ?_
 rintro r37 _ w37 m37 ⟨rfl, w37_, ky37⟩
 obtain ⟨s39, rfl, p39, A39⟩ := nwo 48 hc37 ky37 w37_
 refine Xb rfl (dn (sq (sr (Xb rfl (Xb rfl (Xb rfl (ji [] (fun (y41 : Bool) e w => ∃ (s : St) (e0 : Env), w = s.w ∧ e = upd (upd (upd (upd e0 0 w0_0) 4 v11_0) 6 v19_0) 42 (.bool y41) ∧ Kp s0 s ∧ OwF Xv s [v11_0] r11 42 ∧ OwF Xv s [v19_0] r19 44) (fun Gj41 Kj41 => ?_) ?_)))))))
 ·
  rcases bft (decide (r37.1 < (0 : Int))) with hb41 | hb41
  ·
   refine sbT hb41 ?_
   rw [if_pos hb41]
   refine Xg rfl (Xg rfl (Xg rfl (Xg rfl (Xb rfl ?_))))
   exact Kj41 _ _ _ ⟨s39, _, rfl, (ue (ue (ue (ue rfl rfl) rfl) rfl) rfl), (K27.st (tr3 p30 p34 p39) rfl), (A22.st (tr4 p24 p30 p34 p39) rfl), (A19_0.st (tr4 p24 p30 p34 p39) rfl)⟩
  refine sbT hb41 ?_
  rw [if_neg (by rw [hb41]; decide)]
  refine Xi v19_0 rfl (Xi v11_0 rfl ?_)
  have A45 := A19_0.st (tr4 p24 p30 p34 p39) rfl
  have A46 := A22.st (tr4 p24 p30 p34 p39) rfl
  refine clV 49 rfl func8 rfl (laws_eqIntA2S.calls r19 r11 s39.w (mm [44, 42] s39) v19_0 v11_0 (A45.rd.sub (D := [44, 42]) rfl) (A46.rd.sub (D := [44, 42]) rfl)) (fun r47 s48 p48 n48 => ?_)
  refine Xb rfl (Xb rfl ?_)
  exact Kj41 _ _ _ ⟨s48, _, rfl, (ue (ue (ue (ue rfl rfl) rfl) rfl) rfl), (K27.st (tr4 p30 p34 p39 p48) rfl), (A46.st p48 rfl), (A45.st p48 rfl)⟩
 rintro y41 _ _ ⟨s52, _, rfl, rfl, Ky41, Cy41_13, Cy41_21⟩
 refine dn (cd rfl (fun h53 => ?_) (fun h53 => ?_))
 ·
  exact sr (Xb rfl (dn (re rfl func3 rfl (Xj rfl Xd) rfl ⟨_, rfl, rfl, z.ky Ky41⟩)))
 refine sk (sr (Xb rfl (dn (sr (Xi v19_0 rfl (Xb rfl ?_))))))
 obtain ⟨os54, ho54, hn54, hc54⟩ := Cy41_21
 refine cl' rfl func11 rfl (laws_markIntA2S.calls r19 (1 : Int) s52.w (mm [] s52) v19_0 os54 ho54 hn54 (apart_of hc54 rfl)) ?_
 rintro r54 _ w54 m54 ⟨rfl, w54_, ky54⟩
 obtain ⟨s55, rfl, p55, A55⟩ := nwo 50 hc54 ky54 w54_
 refine Xb rfl (dn (sr (Xb rfl (dn (sr (Xi v19_0 rfl (Xb rfl (clV 51 rfl func12 rfl (laws_heldIntA2S.calls r54.2 (1 : Int) s55.w (mm [44] s55) v19_0 A55.rd) (fun r57 s58 p58 n58 => ?_)))))))))
 refine Xb rfl (dn (sq (sr (Xb rfl (Xb rfl (dn (cd rfl (fun h59 => ?_) (fun h59 => ?_))))))))
 ·
  refine sr (Xb rfl (dn ?_))
  exact re rfl func3 rfl (Xj rfl Xd) rfl ⟨_, rfl, rfl, z.ky (Ky41.st (tr2 p55 p58) rfl)⟩
 refine sk (sq (sr (Xb rfl (Xb rfl (Xb rfl (dn (cd rfl (fun h61 => ?_) (fun h61 => ?_))))))))
 ·
  refine sr (Xb rfl (dn ?_))
  exact re rfl func3 rfl (Xj rfl Xd) rfl ⟨_, rfl, rfl, z.ky (Ky41.st (tr2 p55 p58) rfl)⟩
 refine sk (sr (Xi w0_0 rfl ?_))
 have K63 := Ky41.st (tr2 p55 p58) rfl
 refine clO 52 rfl func6 rfl (laws_toDeedS.calls a0 s58.w (mm [0] s58) w0_0 (A0_0.kp K63)) (fun r65 v65_0 s66 p66 A65_0 => ?_)
 refine clO 53 rfl func7 rfl (impl_GraphEdges.calls r65 s66.w (mm [52] s66) v65_0 A65_0.rd) (fun r68 v68_0 s69 p69 A68_0 => ?_)
 refine asg' v68_0 rfl (dn (sq (sr (Xi v68_0 rfl (Xi v11_0 rfl ?_)))))
 refine clV 54 rfl func8 rfl (laws_eqIntA2S.calls r68 r11 s69.w (mm [53, 42] s69) v68_0 v11_0 (A68_0.rd.sub (D := [53, 42]) rfl) ((Cy41_13.st (tr4 p55 p58 p66 p69) rfl).rd.sub (D := [53, 42]) rfl)) (fun r72 s73 p73 n73 => ?_)
 refine Xb rfl (dn (cd rfl (fun h74 => ?_) (fun h74 => ?_)))
 ·
  refine sr (Xb rfl (dn ?_))
  exact re rfl func3 rfl (Xj rfl Xd) rfl ⟨_, rfl, rfl, z.ky (K63.st (tr3 p66 p69 p73) rfl)⟩
 refine sk (sr (Xb rfl (dn (sr (Xi v19_0 rfl (Xb rfl ?_))))))
 refine clV 55 rfl func12 rfl (laws_heldIntA2S.calls r54.2 (1 : Int) s73.w (mm [44] s73) v19_0 (A55.st (tr4 p58 p66 p69 p73) rfl).rd) (fun r77 s78 p78 n78 => ?_)
 refine Xb rfl (dn (sq (sr (Xb rfl (Xb rfl (dn (cd rfl (fun h79 => ?_) (fun h79 => ?_))))))))
 ·
  refine sr (Xb rfl (dn ?_))
  exact re rfl func3 rfl (Xj rfl Xd) rfl ⟨_, rfl, rfl, z.ky (K63.st (tr4 p66 p69 p73 p78) rfl)⟩
 refine sk (sq (sr (Xb rfl (Xb rfl (Xb rfl (dn (cd rfl (fun h81 => ?_) (fun h81 => ?_))))))))
 ·
  refine sr (Xb rfl (dn ?_))
  exact re rfl func3 rfl (Xj rfl Xd) rfl ⟨_, rfl, rfl, z.ky (K63.st (tr4 p66 p69 p73 p78) rfl)⟩
 refine sk (sr (Xb rfl (dn ?_)))
 exact re rfl func3 rfl (Xj rfl Xd) rfl ⟨_, rfl, rfl, z.ky (K63.st (tr4 p66 p69 p73 p78) rfl)⟩
end Go.Proofs.YtbkiaccollbjnaaGreat
