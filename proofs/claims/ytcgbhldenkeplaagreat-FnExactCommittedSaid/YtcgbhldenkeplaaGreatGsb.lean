/- The functions as models, and that the calls come to what the models tell. -/
import Derived.Test.YtcgbhldenkeplaaGreatGsa
set_option linter.unusedVariables false
set_option linter.unusedSimpArgs false
set_option maxHeartbeats 4000000
set_option maxRecDepth 100000
noncomputable section
namespace Go.Proofs.YtcgbhldenkeplaaGreat
open Go V Tryz
def impl_ItemOk.f (a0 : Item) : Option (Bool) :=
 ((impl_within.f a0.Kind (0 : Int) (3 : Int)).bind fun r4 => (some (((r4 && ((a0.N == (0 : Int)) || (a0.Kind == (1 : Int)))) && (((a0.F : Int) == 0) || (a0.Kind == (2 : Int)))) && (((a0.T.length : Int) == (0 : Int)) || ((a0.Kind == (3 : Int)) && (decide ((a0.T.length : Int) ≤ (40 : Int))))))))
def impl_ItemOk.Q (w : World) (F : Nat → Prop) (r : Bool) (v : Value) (w' : World) : Prop :=
 v = (.bool r) ∧ Ky [] w w'
theorem impl_ItemOk.calls (a0 : Item) (w : World) (F : Nat → Prop) (w0_0 : Value) (w0_1 : Value) (h0_0 : Kd.flt.rd w [w0_0] a0.F F) (h0_1 : Ye.rd w [w0_1] a0.T F) (r : Bool) (m : impl_ItemOk.f a0 = some r) :
  Calls prog 113 #[(.agg #[(iI a0.Kind), (iI a0.N), w0_0, w0_1])] w (RT (impl_ItemOk.Q w F) r) := by
 obtain ⟨s0, rfl, kp0, z⟩ := Xg w F
 refine Xd (args := [(.agg #[(iI a0.Kind), (iI a0.N), w0_0, w0_1])]) func113 ntmps113 rfl rfl m ?_
 unfold impl_ItemOk.f
 refine sr (bx' (cs := [(iI a0.Kind), (iI a0.N), w0_0, w0_1]) 40 rfl rfl (fun b2 s2 p2 B2 => ?_))
 refine Xb rfl (dn (sr (Xr fa47_0 rfl (ld' B2 u3 rfl (clV 41 rfl func43 rfl (impl_within.calls a0.Kind (0 : Int) (3 : Int) s2.w (mm [] s2)) (fun r4 s5 p5 n5 => ?_))))))
 refine Xb rfl (jy [6, 7, 8, 9, 10, 11, 12, 13, 14, 15] [13, 14, 15, 16, 17, 18, 19, 20, 21, 22, 23, 24, 25, 26, 27, 28, 29, 30, 31, 32, 33, 34, 35, 36, 37, 38, 39, 40, 41] 15 (.bool (r4 && ((a0.N == (0 : Int)) || (a0.Kind == (1 : Int))))) rfl (fun Kg6 => ?_) (fun j6 => ?_))
 ·
  rcases bft r4 with hb6 | hb6
  ·
   refine Xu hb6 (Xr fa47_1 rfl ?_)
   have A7 := B2.st p5 rfl
   refine ld' A7 u3 rfl (Xb rfl (Xb rfl (jy [10, 11, 12, 13, 14] [12, 13, 14, 15, 16, 17, 18, 19, 20, 21, 22, 23, 24, 25, 26, 27, 28, 29, 30, 31, 32, 33, 34, 35, 36, 37, 38, 39, 40, 41] 14 (.bool ((a0.N == (0 : Int)) || (a0.Kind == (1 : Int)))) rfl (fun Kg8 => ?_) (fun j8 => ?_))))
   ·
    rcases bft (a0.N == (0 : Int)) with hb8 | hb8
    ·
     exact Xu hb8 (Xh rfl (Xh rfl (Xh rfl (Xb rfl (Kg8 _ (Ag.put ((Ag.put ((Ag.put ((Ag.put (Ag.base rfl) rfl)) rfl)) rfl)) rfl) (by rw [hb8]; rfl))))))
    exact Xu hb8 (Xr fa47_0 rfl (ld' A7 u3 rfl (Xb rfl (Xb rfl (Kg8 _ (Ag.put ((Ag.put ((Ag.put ((Ag.put (Ag.base rfl) rfl)) rfl)) rfl)) rfl) (by rw [hb8]; rfl))))))
   exact Xb rfl (Kg6 _ (Ag.put ((Ag.put ((Ag.ov ((Ag.put ((Ag.put ((Ag.put ((Ag.put (Ag.base rfl) rfl)) rfl)) rfl)) rfl)) rfl)) rfl)) rfl) (by rw [hb6]; rfl))
  exact Xu hb6 (Xh rfl (Xh rfl (Xh rfl (Xh rfl (Xh rfl (Xh rfl (Xh rfl (Xh rfl (Xb rfl (Kg6 _ (Ag.put ((Ag.put ((Ag.put ((Ag.put ((Ag.put ((Ag.put ((Ag.put ((Ag.put ((Ag.put (Ag.base rfl) rfl)) rfl)) rfl)) rfl)) rfl)) rfl)) rfl)) rfl)) rfl) (by rw [hb6]; rfl)))))))))))
 refine Xb rfl (jy [16, 17, 18, 19, 20, 21, 22, 23, 24, 25, 26] [24, 25, 26, 27, 28, 29, 30, 31, 32, 33, 34, 35, 36, 37, 38, 39, 40, 41] 26 (.bool ((r4 && ((a0.N == (0 : Int)) || (a0.Kind == (1 : Int)))) && (((a0.F : Int) == 0) || (a0.Kind == (2 : Int))))) rfl (fun Kg9 => ?_) (fun j9 => ?_))
 ·
  rcases bft (r4 && ((a0.N == (0 : Int)) || (a0.Kind == (1 : Int)))) with hb9 | hb9
  ·
   refine Xu hb9 (Xr fa47_2 rfl ?_)
   have A10 := B2.st p5 rfl
   refine ld' A10 u44 rfl (fbu (fl_of h0_0) rfl rfl rfl rfl rfl func101 rfl rfl xn101 xf101 rfl (fun b11 A11 => ?_))
   refine fz0 A11 rfl rfl rfl rfl rfl rfl rfl (Xb rfl (jy [21, 22, 23, 24, 25] [23, 24, 25, 26, 27, 28, 29, 30, 31, 32, 33, 34, 35, 36, 37, 38, 39, 40, 41] 25 (.bool (((a0.F : Int) == 0) || (a0.Kind == (2 : Int)))) rfl (fun Kg12 => ?_) (fun j12 => ?_)))
   ·
    rcases bft ((a0.F : Int) == 0) with hb12 | hb12
    ·
     exact Xu hb12 (Xh rfl (Xh rfl (Xh rfl (Xb rfl (Kg12 _ (Ag.put ((Ag.put ((Ag.put ((Ag.put (Ag.base rfl) rfl)) rfl)) rfl)) rfl) (by rw [hb12]; rfl))))))
    exact Xu hb12 (Xr fa47_0 rfl (ld' A10 u3 rfl (Xb rfl (Xb rfl (Kg12 _ (Ag.put ((Ag.put ((Ag.put ((Ag.put (Ag.base rfl) rfl)) rfl)) rfl)) rfl) (by rw [hb12]; rfl))))))
   exact Xb rfl (Kg9 _ (Ag.put ((Ag.put ((Ag.ov ((Ag.put ((Ag.put ((Ag.put ((Ag.put ((Ag.put (Ag.base rfl) rfl)) rfl)) rfl)) rfl)) rfl)) rfl)) rfl)) rfl) (by rw [hb9]; rfl))
  exact Xu hb9 (Xh rfl (Xh rfl (Xh rfl (Xh rfl (Xh rfl (Xh rfl (Xh rfl (Xh rfl (Xh rfl (Xb rfl (Kg9 _ (Ag.put ((Ag.put ((Ag.put ((Ag.put ((Ag.put ((Ag.put ((Ag.put ((Ag.put ((Ag.put ((Ag.put (Ag.base rfl) rfl)) rfl)) rfl)) rfl)) rfl)) rfl)) rfl)) rfl)) rfl)) rfl) (by rw [hb9]; rfl))))))))))))
 refine Xb rfl (jy [27, 28, 29, 30, 31, 32, 33, 34, 35, 36, 37, 38, 39, 40, 41, 42, 43] [41] 43 (.bool (((r4 && ((a0.N == (0 : Int)) || (a0.Kind == (1 : Int)))) && (((a0.F : Int) == 0) || (a0.Kind == (2 : Int)))) && (((a0.T.length : Int) == (0 : Int)) || ((a0.Kind == (3 : Int)) && (decide ((a0.T.length : Int) ≤ (40 : Int))))))) rfl (fun Kg13 => ?_) (fun j13 => ?_))
 ·
  rcases bft ((r4 && ((a0.N == (0 : Int)) || (a0.Kind == (1 : Int)))) && (((a0.F : Int) == 0) || (a0.Kind == (2 : Int)))) with hb13 | hb13
  ·
   refine Xu hb13 (Xr fa47_3 rfl ?_)
   have A14 := B2.st p5 rfl
   refine ld' A14 u45 rfl ?_
   have A16 := (z.rd h0_1).kp (kp0.st (Xs p2 p5) rfl)
   refine ln' A16 u45 rfl (Xb rfl (Xb rfl (jy [32, 33, 34, 35, 36, 37, 38, 39, 40, 41, 42] [40, 41] 42 (.bool (((a0.T.length : Int) == (0 : Int)) || ((a0.Kind == (3 : Int)) && (decide ((a0.T.length : Int) ≤ (40 : Int)))))) rfl (fun Kg17 => ?_) (fun j17 => ?_))))
   ·
    rcases bft ((a0.T.length : Int) == (0 : Int)) with hb17 | hb17
    ·
     exact Xu hb17 (Xh rfl (Xh rfl (Xh rfl (Xh rfl (Xh rfl (Xh rfl (Xh rfl (Xh rfl (Xh rfl (Xb rfl (Kg17 _ (Ag.put ((Ag.put ((Ag.put ((Ag.put ((Ag.put ((Ag.put ((Ag.put ((Ag.put ((Ag.put ((Ag.put (Ag.base rfl) rfl)) rfl)) rfl)) rfl)) rfl)) rfl)) rfl)) rfl)) rfl)) rfl) (by rw [hb17]; rfl))))))))))))
    refine Xu hb17 (Xr fa47_0 rfl (ld' A14 u3 rfl (Xb rfl (Xb rfl (jy [36, 37, 38, 39, 40, 41] [39, 40, 41] 41 (.bool ((a0.Kind == (3 : Int)) && (decide ((a0.T.length : Int) ≤ (40 : Int))))) rfl (fun Kg18 => ?_) (fun j18 => ?_))))))
    ·
     rcases bft (a0.Kind == (3 : Int)) with hb18 | hb18
     ·
      exact Xu hb18 (Xr fa47_3 rfl (ld' A14 u45 rfl (ln' A16 u45 rfl (Xb rfl (Xb rfl (Kg18 _ (Ag.put ((Ag.put ((Ag.put ((Ag.put ((Ag.put (Ag.base rfl) rfl)) rfl)) rfl)) rfl)) rfl) (by rw [hb18]; rfl)))))))
     exact Xu hb18 (Xh rfl (Xh rfl (Xh rfl (Xh rfl (Xb rfl (Kg18 _ (Ag.put ((Ag.put ((Ag.put ((Ag.put ((Ag.put (Ag.base rfl) rfl)) rfl)) rfl)) rfl)) rfl) (by rw [hb18]; rfl)))))))
    exact Xb rfl (Kg17 _ (Ag.put ((Ag.put ((Ag.ov ((Ag.put ((Ag.put ((Ag.put ((Ag.put (Ag.base rfl) rfl)) rfl)) rfl)) rfl)) rfl)) rfl)) rfl) (by rw [hb17]; rfl))
   exact Xb rfl (Kg13 _ (Ag.put ((Ag.put ((Ag.ov ((Ag.put ((Ag.put ((Ag.put ((Ag.put ((Ag.put (Ag.base rfl) rfl)) rfl)) rfl)) rfl)) rfl)) rfl)) rfl)) rfl) (by rw [hb13]; rfl))
  refine Xu hb13 (Xh rfl (Xh rfl (Xh rfl (Xh rfl (Xh rfl (Xh rfl (Xh rfl (Xh rfl (Xh rfl (Xh rfl (Xh rfl (Xh rfl (Xh rfl (Xh rfl ?_))))))))))))))
  exact Xh rfl (Xb rfl (Kg13 _ (Ag.put ((Ag.put ((Ag.put ((Ag.put ((Ag.put ((Ag.put ((Ag.put ((Ag.put ((Ag.put ((Ag.put ((Ag.put ((Ag.put ((Ag.put ((Ag.put ((Ag.put ((Ag.put (Ag.base rfl) rfl)) rfl)) rfl)) rfl)) rfl)) rfl)) rfl)) rfl)) rfl)) rfl)) rfl)) rfl)) rfl)) rfl)) rfl)) rfl) (by rw [hb13]; rfl)))
 refine Xb rfl (dn ?_)
 exact re rfl func113 rfl (Xo rfl Xe) rfl ⟨_, rfl, rfl, z.ky (kp0.st (Xs p2 p5) rfl)⟩
def impl_KeyOk.f (a0 : Item) : Option (Bool) :=
 ((impl_ItemOk.f a0).bind fun r6 => (some ((r6 && (a0.Kind != (0 : Int))) && ((fcmp .f64 a0.F (0 : Nat) != some .eq) || ((a0.F : Int) == 0)))))
def impl_KeyOk.Q (w : World) (F : Nat → Prop) (r : Bool) (v : Value) (w' : World) : Prop :=
 v = (.bool r) ∧ Ky [] w w'
theorem impl_KeyOk.calls (a0 : Item) (w : World) (F : Nat → Prop) (w0_0 : Value) (w0_1 : Value) (h0_0 : Kd.flt.rd w [w0_0] a0.F F) (h0_1 : Ye.rd w [w0_1] a0.T F) (r : Bool) (m : impl_KeyOk.f a0 = some r) :
  Calls prog 110 #[(.agg #[(iI a0.Kind), (iI a0.N), w0_0, w0_1])] w (RT (impl_KeyOk.Q w F) r) := by
 obtain ⟨s0, rfl, kp0, z⟩ := Xg w F
 have A0_0 := fl_of h0_0
 refine Xd (args := [(.agg #[(iI a0.Kind), (iI a0.N), w0_0, w0_1])]) func110 ntmps110 rfl rfl m ?_
 unfold impl_KeyOk.f
 refine sr (bx' (cs := [(iI a0.Kind), (iI a0.N), w0_0, w0_1]) 40 rfl rfl (fun b2 s2 p2 B2 => ?_))
 refine Xb rfl (dn (sr (Yc (es := [(iI a0.Kind), (iI a0.N), w0_0, w0_1]) B2 u47 z47 rfl ?_)))
 have K4 := kp0.st p2 rfl
 refine clV 41 rfl func113 rfl (impl_ItemOk.calls a0 s2.w (mm [0] s2) w0_0 w0_1 ((Xn (s := s2) A0_0).sub (D := [0]) rfl) ((z.rd h0_1).kp K4)) (fun r6 s7 p7 n7 => ?_)
 refine Xb rfl (jy [5, 6, 7, 8, 9] [7, 8, 9, 10, 11, 12, 13, 14, 15, 16, 17, 18] 9 (.bool (r6 && (a0.Kind != (0 : Int)))) rfl (fun Kg8 => ?_) (fun j8 => ?_))
 ·
  rcases bft r6 with hb8 | hb8
  ·
   refine Xu hb8 (Xr fa47_0 rfl ?_)
   exact ld' (B2.st p7 rfl) u3 rfl (Xb rfl (Xb rfl (Kg8 _ (Ag.put ((Ag.put ((Ag.put ((Ag.put (Ag.base rfl) rfl)) rfl)) rfl)) rfl) (by rw [hb8]; rfl))))
  exact Xu hb8 (Xh rfl (Xh rfl (Xh rfl (Xb rfl (Kg8 _ (Ag.put ((Ag.put ((Ag.put ((Ag.put (Ag.base rfl) rfl)) rfl)) rfl)) rfl) (by rw [hb8]; rfl))))))
 refine Xb rfl (jy [10, 11, 12, 13, 14, 15, 16, 17, 18, 19, 20] [18] 20 (.bool ((r6 && (a0.Kind != (0 : Int))) && ((fcmp .f64 a0.F (0 : Nat) != some .eq) || ((a0.F : Int) == 0)))) rfl (fun Kg10 => ?_) (fun j10 => ?_))
 ·
  rcases bft (r6 && (a0.Kind != (0 : Int))) with hb10 | hb10
  ·
   refine Xu hb10 (Xr fa47_2 rfl ?_)
   have A11 := B2.st p7 rfl
   refine ld' A11 u44 rfl (fq_' A0_0 (Xw rfl) rfl (Xb rfl (jy [14, 15, 16, 17, 18, 19] [17, 18] 19 (.bool ((fcmp .f64 a0.F (0 : Nat) != some .eq) || ((a0.F : Int) == 0))) rfl (fun Kg12 => ?_) (fun j12 => ?_))))
   ·
    rcases bft (fcmp .f64 a0.F (0 : Nat) != some .eq) with hb12 | hb12
    ·
     exact Xu hb12 (Xh rfl (Xh rfl (Xh rfl (Xh rfl (Xb rfl (Kg12 _ (Ag.put ((Ag.put ((Ag.put ((Ag.put ((Ag.put (Ag.base rfl) rfl)) rfl)) rfl)) rfl)) rfl) (by rw [hb12]; rfl)))))))
    refine Xu hb12 (Xr fa47_2 rfl (ld' A11 u44 rfl (fbu A0_0 rfl rfl rfl rfl rfl func101 rfl rfl xn101 xf101 rfl (fun b13 A13 => ?_))))
    exact fz0 A13 rfl rfl rfl rfl rfl rfl rfl (Xb rfl (Kg12 _ (Ag.put ((Ag.put ((Ag.put ((Ag.put ((Ag.put (Ag.base rfl) rfl)) rfl)) rfl)) rfl)) rfl) (by rw [hb12]; rfl)))
   exact Xb rfl (Kg10 _ (Ag.put ((Ag.put ((Ag.ov ((Ag.put ((Ag.put ((Ag.put ((Ag.put (Ag.base rfl) rfl)) rfl)) rfl)) rfl)) rfl)) rfl)) rfl) (by rw [hb10]; rfl))
  exact Xu hb10 (Xh rfl (Xh rfl (Xh rfl (Xh rfl (Xh rfl (Xh rfl (Xh rfl (Xh rfl (Xh rfl (Xb rfl (Kg10 _ (Ag.put ((Ag.put ((Ag.put ((Ag.put ((Ag.put ((Ag.put ((Ag.put ((Ag.put ((Ag.put ((Ag.put (Ag.base rfl) rfl)) rfl)) rfl)) rfl)) rfl)) rfl)) rfl)) rfl)) rfl)) rfl) (by rw [hb10]; rfl))))))))))))
 refine Xb rfl (dn ?_)
 exact re rfl func110 rfl (Xo rfl Xe) rfl ⟨_, rfl, rfl, z.ky (K4.st p7 rfl)⟩
def impl_highFirst.b0 (a0 : Int) (x1 : (List Int) × Int) : Option (((List Int) × Int) ⊕ (List Int)) :=
 (if (decide (x1.2 ≥ (0 : Int))) = true then (if 0 ≤ x1.2 then (if x1.1.length + ([(IntKind.wrap .u8 (ishr .u64 a0 x1.2))]).length ≤ Lim then (some (Sum.inl ((x1.1 ++ [(IntKind.wrap .u8 (ishr .u64 a0 x1.2))]), (IntKind.wrap .i64 (x1.2 - (8 : Int)))))) else none) else none) else ((some x1.1).bind fun o => some (Sum.inr o)))
def impl_highFirst.f (a0 : Int) : Option ((List Int)) :=
 (iter (impl_highFirst.b0 a0) (([] : (List Int)), (56 : Int)))
def impl_highFirst.Q (w : World) (F : Nat → Prop) (r : (List Int)) (v : Value) (w' : World) : Prop :=
 FO Ye w w' [v] r ∧ Ky [] w w'
theorem impl_highFirst.calls (a0 : Int) (w : World) (F : Nat → Prop)   (r : (List Int)) (m : impl_highFirst.f a0 = some r) :
  Calls prog 126 #[(.int .u64 a0)] w (RT (impl_highFirst.Q w F) r) := by
 obtain ⟨s0, rfl, kp0, z⟩ := Xg w F
 refine Xd (args := [(.int .u64 a0)]) func126 ntmps126 rfl rfl m ?_
 unfold impl_highFirst.f
 refine sr (Xb rfl (dn (sr (Xb rfl (dn (sq (sr (Xb rfl (dn (bl (lpI (fun (x1 : (List Int) × Int) e w => ∃ (s : St) (e0 : Env) (vx1_0 : Value), w = s.w ∧ e = upd (upd (upd e0 0 (.int .u64 a0)) 3 vx1_0) 4 (iI x1.2) ∧ Kp s0 s ∧ OwF Ye s [vx1_0] x1.1 40) ⟨s0, _, (.slice none 0 0), rfl, (ue (ue (ue rfl rfl) rfl) rfl), kp0, (ow_nil 5 (Kd.int .u8) _ 40)⟩ (fun g1 ih1 => ?_))))))))))))
 rintro x1 _ _ ⟨s2, _, vx1_0, rfl, rfl, Kx1, Ax1_0⟩
 unfold impl_highFirst.b0
 refine sq (sr (Xb rfl (Xb rfl (dn (cd rfl (fun h4 => ?_) (fun h4 => ?_))))))
 ·
  refine sk (sq (bl (rg (Xl vx1_0 rfl (Xb rfl (Xb rfl (shr_ rfl rfl rfl rfl rfl rfl rfl (cv' u5 u103 rfl (ltF' (K := (Kd.int .u8)) (cells := [(.int .u8 (IntKind.wrap .u8 (ishr .u64 a0 x1.2)))]) [(IntKind.wrap .u8 (ishr .u64 a0 x1.2))] 41 Xq u45 z5 o5 (fun w => (Xv _ _ _)) rfl (fun v5 s5 p5 A5 => ?_))))))))))
  refine apF Xq sl45 (Ax1_0.st p5 rfl) A5.rd rfl rfl rfl rfl rfl rfl rfl (fun v8 s8 p8 A8 => ?_)
  refine Xp v8 rfl (dn (ib (rg (Xb rfl (Xb rfl (Xb rfl (dn ?_)))))))
  exact lb ih1 ⟨s8, _, v8, rfl, (ue (ue (ue rfl rfl) rfl) rfl), (Kx1.st (Xs p5 p8) rfl), A8⟩
 exact xt rfl (sgb (sr (Xl vx1_0 rfl (Xp vx1_0 rfl (dn (re rfl func126 rfl (Xo rfl Xe) rfl ⟨_, rfl, Ax1_0.fo Kx1 rfl z.l, z.ky Kx1⟩))))))
def impl_itemBytes.f (a0 : Item) (a1 : Int) : Option ((List Int)) :=
 (if (a0.Kind == (1 : Int)) = true then ((impl_highFirst.f (IntKind.wrap .u64 ((IntKind.wrap .u64 a0.N) + (9223372036854775808 : Int)))).bind fun r8 => (if ([(IntKind.wrap .u8 a0.Kind)]).length + r8.length ≤ Lim then (some ([(IntKind.wrap .u8 a0.Kind)] ++ r8)) else none)) else (if (a0.Kind == (2 : Int)) = true then ((impl_highFirst.f a1).bind fun r16 => (if ([(IntKind.wrap .u8 a0.Kind)]).length + r16.length ≤ Lim then (some ([(IntKind.wrap .u8 a0.Kind)] ++ r16)) else none)) else (if ([(IntKind.wrap .u8 a0.Kind)]).length + a0.T.length ≤ Lim then (some ([(IntKind.wrap .u8 a0.Kind)] ++ a0.T)) else none)))
def impl_itemBytes.Q (w : World) (F : Nat → Prop) (r : (List Int)) (v : Value) (w' : World) : Prop :=
 FO Ye w w' [v] r ∧ Ky [] w w'
theorem impl_itemBytes.calls (a0 : Item) (a1 : Int) (w : World) (F : Nat → Prop) (w0_0 : Value) (w0_1 : Value) (h0_0 : Kd.flt.rd w [w0_0] a0.F F) (h0_1 : Ye.rd w [w0_1] a0.T F) (r : (List Int)) (m : impl_itemBytes.f a0 a1 = some r) :
  Calls prog 123 #[(.agg #[(iI a0.Kind), (iI a0.N), w0_0, w0_1]), (.int .u64 a1)] w (RT (impl_itemBytes.Q w F) r) := by
 obtain ⟨s0, rfl, kp0, z⟩ := Xg w F
 refine Xd (args := [(.agg #[(iI a0.Kind), (iI a0.N), w0_0, w0_1]), (.int .u64 a1)]) func123 ntmps123 rfl rfl m ?_
 unfold impl_itemBytes.f
 refine sr (bx' (cs := [(iI a0.Kind), (iI a0.N), w0_0, w0_1]) 40 rfl rfl (fun b2 s2 p2 B2 => ?_))
 refine Xb rfl (dn (sr (Xr fa47_0 rfl (ld' B2 u3 rfl (cv' u5 u3 rfl (ltF' (K := (Kd.int .u8)) (cells := [(.int .u8 (IntKind.wrap .u8 a0.Kind))]) [(IntKind.wrap .u8 a0.Kind)] 41 Xq u45 z5 o5 (fun w => (Xv _ _ _)) rfl (fun v4 s4 p4 A4 => ?_)))))))
 refine Xp v4 rfl (dn (sq (sr (Xr fa47_0 rfl ?_))))
 have A6 := B2.st p4 rfl
 refine ld' A6 u3 rfl (dn (bl (sr (Xb rfl (Xb rfl (dn (cd rfl (fun h7 => ?_) (fun h7 => ?_))))))))
 ·
  refine sr (Xl v4 rfl (Xr fa47_1 rfl (ld' A6 u3 rfl (cv' u103 u3 rfl (Xb rfl (clO 42 rfl func126 rfl (impl_highFirst.calls (IntKind.wrap .u64 ((IntKind.wrap .u64 a0.N) + (9223372036854775808 : Int))) s4.w (mm [] s4)) (fun r8 v8_0 s9 p9 A8_0 => ?_)))))))
  refine apF Xq sl45 (A4.st p9 rfl) A8_0.rd rfl rfl rfl rfl rfl rfl rfl (fun v12 s12 p12 A12 => ?_)
  refine Xp v12 rfl (dn ?_)
  have K14 := kp0.st (tr4 p2 p4 p9 p12) rfl
  exact re rfl func123 rfl (Xo rfl Xe) rfl ⟨_, rfl, A12.fo K14 rfl z.l, z.ky K14⟩
 refine sr (Xb rfl (Xb rfl (dn (cd rfl (fun h15 => ?_) (fun h15 => ?_)))))
 ·
  refine sr (Xl v4 rfl (Xb rfl (clO 43 rfl func126 rfl (impl_highFirst.calls a1 s4.w (mm [] s4)) (fun r16 v16_0 s17 p17 A16_0 => ?_))))
  refine apF Xq sl45 (A4.st p17 rfl) A16_0.rd rfl rfl rfl rfl rfl rfl rfl (fun v20 s20 p20 A20 => ?_)
  refine Xp v20 rfl (dn ?_)
  have K22 := kp0.st (tr4 p2 p4 p17 p20) rfl
  exact re rfl func123 rfl (Xo rfl Xe) rfl ⟨_, rfl, A20.fo K22 rfl z.l, z.ky K22⟩
 refine sk (ib (sr (Xl v4 rfl (Xr fa47_3 rfl (ld' A6 u45 rfl ?_)))))
 have K23 := kp0.st (Xs p2 p4) rfl
 refine apF Xq sl45 A4 ((z.rd h0_1).kp K23) rfl rfl rfl rfl rfl rfl rfl (fun v25 s25 p25 A25 => ?_)
 refine Xp v25 rfl (dn ?_)
 have K27 := K23.st p25 rfl
 exact re rfl func123 rfl (Xo rfl Xe) rfl ⟨_, rfl, A25.fo K27 rfl z.l, z.ky K27⟩
def impl_KeyBytes.f (a0 : Item) : Option ((List Int)) :=
 ((impl_KeyOk.f a0).bind fun r6 => (if (!r6) = true then (some ([] : (List Int))) else ((impl_FloatRank.f a0.F).bind fun r19 => ((impl_itemBytes.f a0 r19).bind fun r25 => (some r25)))))
def impl_KeyBytes.Q (w : World) (F : Nat → Prop) (r : (List Int)) (v : Value) (w' : World) : Prop :=
 FO Ye w w' [v] r ∧ Ky [] w w'
theorem impl_KeyBytes.calls (a0 : Item) (w : World) (F : Nat → Prop) (w0_0 : Value) (w0_1 : Value) (h0_0 : Kd.flt.rd w [w0_0] a0.F F) (h0_1 : Ye.rd w [w0_1] a0.T F) (r : (List Int)) (m : impl_KeyBytes.f a0 = some r) :
  Calls prog 111 #[(.agg #[(iI a0.Kind), (iI a0.N), w0_0, w0_1])] w (RT (impl_KeyBytes.Q w F) r) := by
 obtain ⟨s0, rfl, kp0, z⟩ := Xg w F
 have A0_0 := fl_of h0_0
 have A0_1 := z.rd h0_1
 refine Xd (args := [(.agg #[(iI a0.Kind), (iI a0.N), w0_0, w0_1])]) func111 ntmps111 rfl rfl m ?_
 unfold impl_KeyBytes.f
 refine sr (bx' (cs := [(iI a0.Kind), (iI a0.N), w0_0, w0_1]) 40 rfl rfl (fun b2 s2 p2 B2 => ?_))
 refine Xb rfl (dn (sq (sr (Yc (es := [(iI a0.Kind), (iI a0.N), w0_0, w0_1]) B2 u47 z47 rfl ?_))))
 have K4 := kp0.st p2 rfl
 refine clV 41 rfl func110 rfl (impl_KeyOk.calls a0 s2.w (mm [0] s2) w0_0 w0_1 ((Xn (s := s2) A0_0).sub (D := [0]) rfl) (A0_1.kp K4)) (fun r6 s7 p7 n7 => ?_)
 refine Xb rfl (dn (cd rfl (fun h8 => ?_) (fun h8 => ?_)))
 ·
  refine sr (Xb rfl (dn ?_))
  have K9 := K4.st p7 rfl
  exact re rfl func111 rfl (Xo rfl Xe) rfl ⟨_, rfl, (ow_nil 5 (Kd.int .u8) s7 40).fo K9 rfl z.l, z.ky K9⟩
 refine sk (sq (zdraw [[], [], [1], [2], [0, 3, 3], [4, 4, 0, 1, 2, 3, 4]] [some 6, some 7, some 8, some 9, some 10, some 2] [[1], [1], [7], [8], [6, 9], [10]] [0, 1, 2, 3, 4, 5] ⟨by kernel_rfl, by kernel_rfl, by kernel_rfl⟩ (by kernel_rfl) (fun s10 p10 l10 tb10 zd10 => ?_)))
 refine zstep 3 [some 6] tb10 (((zd10.add 0 6 (.agg #[(iI a0.Kind), (iI a0.N), w0_0, w0_1]) rfl).add 1 7 (pO b2 2) rfl).add 2 8 w0_0 rfl) (Xa (Xz (B2.st (Xs p7 p10) rfl) u44 rfl) rfl (Xa (Xx fa47_2 rfl) rfl (Xa (lda_q (es := [(iI a0.Kind), (iI a0.N), w0_0, w0_1]) (B2.st (Xs p7 p10) rfl) u47 z47 rfl rfl rfl rfl rfl rfl rfl rfl) rfl Xk))) (by kernel_rfl) rfl (fun l16 e16 zd16 => ?_)
 refine clV 42 rfl func73 rfl (impl_FloatRank.calls a0.F s10.w (mm [] s10) w0_0 (Xn (s := s10) A0_0)) (fun r19 s20 p20 n20 => ?_)
 refine Xy (L' := [0]) (D' := [1, 2, 3]) zd16 rfl rfl rfl (fun zd21 => ?_)
 refine zfin [4, 5] tb10 zd21 (Xa (lda_q (es := [(iI a0.Kind), (iI a0.N), w0_0, w0_1]) (B2.st (tr3 p7 p10 p20) rfl) u47 z47 rfl rfl rfl rfl rfl rfl rfl rfl) rfl Xk) (by kernel_rfl) (by decide) ?_
 have K23 := K4.st (tr3 p7 p10 p20) rfl
 refine clO 43 rfl func123 rfl (impl_itemBytes.calls a0 r19 s20.w (mm [0] s20) w0_0 w0_1 ((Xn (s := s20) A0_0).sub (D := [0]) rfl) (A0_1.kp K23)) (fun r25 v25_0 s26 p26 A25_0 => ?_)
 refine Xp v25_0 rfl (dn ?_)
 have K28 := K23.st p26 rfl
 exact re rfl func111 rfl (Xo rfl Xe) rfl ⟨_, rfl, A25_0.fo K28 rfl z.l, z.ky K28⟩
def bytes_Equal.f (a0 : (List Int)) (a1 : (List Int)) : Option (Bool) :=
 (some ((str a0).toList == (str a1).toList))
def bytes_Equal.Q (w : World) (F : Nat → Prop) (r : Bool) (v : Value) (w' : World) : Prop :=
 v = (.bool r) ∧ Ky [] w w'
theorem bytes_Equal.calls (a0 : (List Int)) (a1 : (List Int)) (w : World) (F : Nat → Prop) (w0_0 : Value) (w1_0 : Value) (h0_0 : Ye.rd w [w0_0] a0 F) (h1_0 : Ye.rd w [w1_0] a1 F) (r : Bool) (m : bytes_Equal.f a0 a1 = some r) :
  Calls prog 97 #[w0_0, w1_0] w (RT (bytes_Equal.Q w F) r) := by
 obtain ⟨s0, rfl, kp0, z⟩ := Xg w F
 refine Xd (args := [w0_0, w1_0]) func97 ntmps97 rfl rfl m ?_
 unfold bytes_Equal.f
 exact sr (Xb rfl (dn (sr (Xl w0_0 rfl (b2s (z.rd h0_0) u45 u9 u5 rfl rfl rfl rfl rfl rfl (Xl w1_0 rfl (b2s (z.rd h1_0) u45 u9 u5 rfl rfl rfl rfl rfl rfl (Xb rfl (Xb rfl (dn (re rfl func97 rfl (Xo rfl Xe) rfl ⟨_, rfl, rfl, z.ky kp0⟩)))))))))))
def impl_KeyRead.f (a0 : (List Int)) : Option (Item × Bool) :=
 ((impl_readItem.f a0 impl_KeyRead_1.f).bind fun r6 => ((impl_KeyOk.f r6).bind fun r15 => ((if (!r15) = true then (some true) else ((impl_KeyBytes.f r6).bind fun r24 => ((bytes_Equal.f r24 a0).bind fun r29 => (some (!r29))))).bind fun y17 => (if y17 = true then (some ((Item.mk (0 : Int) (0 : Int) (0 : Nat) ([] : (List Int))), false)) else (some (r6, true))))))
def impl_KeyRead.Q (w : World) (F : Nat → Prop) (r : Item × Bool) (v : Value) (w' : World) : Prop :=
 ∃ (v0 : Value) (v1 : Value), v = .tuple #[(.agg #[(iI r.1.Kind), (iI r.1.N), v0, v1]), (.bool r.2)] ∧ FO kd47 w w' [(iI r.1.Kind), (iI r.1.N), v0, v1] r.1 ∧ Ky [] w w'
theorem impl_KeyRead.calls (a0 : (List Int)) (w : World) (F : Nat → Prop) (w0_0 : Value) (h0_0 : Ye.rd w [w0_0] a0 F) (r : Item × Bool) (m : impl_KeyRead.f a0 = some r) :
  Calls prog 94 #[w0_0] w (RT (impl_KeyRead.Q w F) r) := by
 obtain ⟨s0, rfl, kp0, z⟩ := Xg w F
 have A0_0 := z.rd h0_0
 refine Xd (args := [w0_0]) func94 ntmps94 rfl rfl m ?_
 unfold impl_KeyRead.f
 refine sr (al' (cs := [(iI 0), (iI 0), (.float .f64 0), (.slice none 0 0)]) 40 rfl o47 rfl (fun b2 s2 p2 B2 => ?_))
 refine Xb rfl (dn (sr (Xl w0_0 rfl ?_)))
 have K4 := kp0.st p2 rfl
 refine cl' rfl func107 rfl (impl_readItem.calls a0 impl_KeyRead_1.f s2.w (mm [0] s2) w0_0 (.func (.func 108) #[] #[]) (A0_0.kp K4) (fun x0 w' k  r m =>  ⟨108, _, _, [], [], rfl, func108, rfl, rfl, (impl_KeyRead_1.calls x0 w' (fun _ => True)  r m).mono fun en w2 hq => by obtain ⟨v, e, q⟩ := hq; exact ⟨v, e, q⟩⟩) rfl) ?_
 rintro r6 _ w6 m6 ⟨v6_0, v6_1, rfl, f6_0, ky6⟩
 obtain ⟨s7, rfl, p7, n7⟩ := nwx s2 w6 41 ky6
 obtain ⟨hu6_0_0, Au6_0_1⟩ := ap47 (f6_0.c n7)
 refine al' (cs := [(iI 0), (iI 0), (.float .f64 0), (.slice none 0 0)]) 42 rfl o47 rfl (fun b9 s9 p9 B9 => ?_)
 have A11 := Au6_0_1.st p9 rfl
 refine sva' (vs := [(iI r6.Kind), (iI r6.N), v6_0, v6_1]) B9 z47 rfl (Xc rfl (Xc rfl (Xc (FL.one hu6_0_0) (Xc A11.rd.one Xt)))) rfl (fun s12 p12 B12 => ?_)
 refine dn (sq (sr (Yc (es := [(iI r6.Kind), (iI r6.N), v6_0, v6_1]) B12 u47 z47 rfl ?_)))
 have A14 := A11.st p12 rfl
 refine clV 43 rfl func110 rfl (impl_KeyOk.calls r6 s12.w (mm [41] s12) v6_0 v6_1 ((Xn (s := s12) hu6_0_0).sub (D := [41]) rfl) A14.rd) (fun r15 s16 p16 n16 => ?_)
 refine Xb rfl (Xb rfl (ji [] (fun (y17 : Bool) e w => ∃ (s : St) (e0 : Env), w = s.w ∧ e = upd (upd (upd e0 2 (pB b2)) 4 (pB b9)) 16 (.bool y17) ∧ Kp s0 s ∧ BlF s b9 47 [(iI r6.Kind), (iI r6.N), v6_0, v6_1] 42 ∧ BlF s b2 47 [(iI 0), (iI 0), (.float .f64 0), (.slice none 0 0)] 40 ∧ OwF Ye s [v6_1] r6.T 41) (fun Gj17 Kj17 => ?_) ?_))
 ·
  rcases bft (!r15) with hb17 | hb17
  ·
   refine Xu hb17 ?_
   rw [if_pos hb17]
   refine Xh rfl (Xh rfl (Xh rfl (Xh rfl (Xh rfl (Xb rfl ?_)))))
   exact Kj17 _ _ _ ⟨s16, _, rfl, (ue (ue (ue rfl rfl) rfl) rfl), (K4.st (tr4 p7 p9 p12 p16) rfl), (B12.st p16 rfl), (B2.st (tr4 p7 p9 p12 p16) rfl), (A14.st p16 rfl)⟩
  refine Xu hb17 ?_
  rw [if_neg (by rw [hb17]; decide)]
  have A22 := B12.st p16 rfl
  refine Yc (es := [(iI r6.Kind), (iI r6.N), v6_0, v6_1]) A22 u47 z47 rfl ?_
  have A23 := A14.st p16 rfl
  refine clO 44 rfl func111 rfl (impl_KeyBytes.calls r6 s16.w (mm [41] s16) v6_0 v6_1 ((Xn (s := s16) hu6_0_0).sub (D := [41]) rfl) A23.rd) (fun r24 v24_0 s25 p25 A24_0 => ?_)
  refine Xl w0_0 rfl ?_
  have K27 := K4.st (tr5 p7 p9 p12 p16 p25) rfl
  refine clV 45 rfl func97 rfl (bytes_Equal.calls r24 a0 s25.w (mm [44, 0] s25) v24_0 w0_0 (A24_0.rd.sub (D := [44, 0]) rfl) ((A0_0.kp K27).sub (D := [44, 0]) rfl)) (fun r29 s30 p30 n30 => ?_)
  refine Xb rfl (Xb rfl ?_)
  exact Kj17 _ _ _ ⟨s30, _, rfl, (ue (ue (ue rfl rfl) rfl) rfl), (K27.st p30 rfl), (A22.st (Xs p25 p30) rfl), (B2.st (tr6 p7 p9 p12 p16 p25 p30) rfl), (A23.st (Xs p25 p30) rfl)⟩
 rintro y17 _ _ ⟨s35, _, rfl, rfl, Ky17, By17_b9, By17_b2, Cy17_8⟩
 refine dn (cd rfl (fun h38 => ?_) (fun h38 => ?_))
 ·
  refine sr (bd (cells := [(iI 0), (iI 0), (.float .f64 0), (.slice none 0 0)]) pl47 o47 rfl rfl rfl rfl rfl rfl (sva' (vs := [(iI 0), (iI 0), (.float .f64 0), (.slice none 0 0)]) By17_b2 z47 rfl (Xc rfl (Xc rfl (Xc (FL.one (Xw rfl)) (Xc rfl Xt)))) rfl (fun s39 p39 B39 => ?_)))
  refine Xb rfl (dn ?_)
  have A41 : OwF kd47 s39 [(iI 0), (iI 0), (.float .f64 0), (.slice none 0 0)] (Item.mk (0 : Int) (0 : Int) (0 : Nat) ([] : (List Int))) 46 := ow_z _ _ (fz_iso (fun x : Item => (x.Kind, x.N, x.F, x.T)) (Item.mk (0 : Int) (0 : Int) (0 : Nat) ([] : (List Int))) (Xj (Xi .i64 (0 : Int)) (Xj (Xi .i64 (0 : Int)) (Xj (Ya (Xw rfl)) (fz_nil 5 (Kd.int .u8))))))
  have K43 := Ky17.st p39 rfl
  exact re rfl func94 rfl (r_b B39 u47 rfl z47 rfl (Xo rfl Xe)) rfl ⟨_, rfl, (.float .f64 0), (.slice none 0 0), rfl, A41.fo K43 rfl z.l, z.ky K43⟩
 refine sk (sr (Yc (es := [(iI r6.Kind), (iI r6.N), v6_0, v6_1]) By17_b9 u47 z47 rfl (sva' (vs := [(iI r6.Kind), (iI r6.N), v6_0, v6_1]) By17_b2 z47 rfl (Xc rfl (Xc rfl (Xc (FL.one hu6_0_0) (Xc Cy17_8.rd.one Xt)))) rfl (fun s44 p44 B44 => ?_))))
 refine Xb rfl (dn ?_)
 have A46 : OwF kd47 s44 [(iI r6.Kind), (iI r6.N), v6_0, v6_1] r6 41 := (Yd (fun x : Item => (x.Kind, x.N, x.F, x.T)) r6 (ow_l (Xi .i64 r6.Kind) (ow_l (Xi .i64 r6.N) (ow_l (Ya hu6_0_0) (Cy17_8.st p44 rfl)))))
 have K49 := Ky17.st p44 rfl
 exact re rfl func94 rfl (r_b B44 u47 rfl z47 rfl (Xo rfl Xe)) rfl ⟨_, rfl, v6_0, v6_1, rfl, A46.fo K49 rfl z.l, z.ky K49⟩
def impl_FloatOf.f (a0 : Int) : Option (Nat) :=
 (some (cn (a0).toNat))
def impl_FloatOf.Q (w : World) (F : Nat → Prop) (r : Nat) (v : Value) (w' : World) : Prop :=
 FL v r ∧ Ky [] w w'
theorem impl_FloatOf.calls (a0 : Int) (w : World) (F : Nat → Prop)   (r : Nat) (m : impl_FloatOf.f a0 = some r) :
  Calls prog 112 #[(.int .u64 a0)] w (RT (impl_FloatOf.Q w F) r) := by
 obtain ⟨s0, rfl, kp0, z⟩ := Xg w F
 refine Xd (args := [(.int .u64 a0)]) func112 ntmps112 rfl rfl m ?_
 unfold impl_FloatOf.f
 refine sr (Xp (.float .f64 0) rfl (dn (sr (Xb rfl (ffb rfl rfl rfl rfl rfl func121 rfl rfl xn121 xf121 rfl (fun v1 A1 => ?_))))))
 exact Xp v1 rfl (dn (re rfl func112 rfl (Xo rfl Xe) rfl ⟨_, rfl, A1, z.ky kp0⟩))
def impl_FloatBits.f (a0 : Nat) : Option (Int) :=
 (if (fcmp .f64 a0 a0 != some .eq) = true then (some (9221120237041090560 : Int)) else (if isN a0 = false then (some (a0 : Int)) else none))
def impl_FloatBits.Q (w : World) (F : Nat → Prop) (r : Int) (v : Value) (w' : World) : Prop :=
 v = (.int .u64 r) ∧ Ky [] w w'
theorem impl_FloatBits.calls (a0 : Nat) (w : World) (F : Nat → Prop) (w0_0 : Value) (h0_0 : Kd.flt.rd w [w0_0] a0 F) (r : Int) (m : impl_FloatBits.f a0 = some r) :
  Calls prog 124 #[w0_0] w (RT (impl_FloatBits.Q w F) r) := by
 obtain ⟨s0, rfl, kp0, z⟩ := Xg w F
 have A0_0 := fl_of h0_0
 refine Xd (args := [w0_0]) func124 ntmps124 rfl rfl m ?_
 unfold impl_FloatBits.f
 refine sr (Xb rfl (dn (sq (sr (Xl w0_0 rfl (Xl w0_0 rfl (fq_' A0_0 A0_0 rfl (dn (cd rfl (fun h1 => ?_) (fun h1 => ?_))))))))))
 ·
  exact sr (Xb rfl (dn (re rfl func124 rfl (Xo rfl Xe) rfl ⟨_, rfl, rfl, z.ky kp0⟩)))
 exact sk (sr (Xl w0_0 rfl (fb_ A0_0 rfl rfl rfl rfl rfl func101 rfl rfl xn101 xf101 rfl (Xb rfl (dn (re rfl func124 rfl (Xo rfl Xe) rfl ⟨_, rfl, rfl, z.ky kp0⟩))))))
def impl_ValueBytes.f (a0 : Item) : Option ((List Int)) :=
 ((impl_ItemOk.f a0).bind fun r6 => (if ((!r6) || (a0.Kind == (0 : Int))) = true then (some ([] : (List Int))) else ((impl_FloatBits.f a0.F).bind fun r21 => ((impl_itemBytes.f a0 r21).bind fun r27 => (some r27)))))
def impl_ValueBytes.Q (w : World) (F : Nat → Prop) (r : (List Int)) (v : Value) (w' : World) : Prop :=
 FO Ye w w' [v] r ∧ Ky [] w w'
theorem impl_ValueBytes.calls (a0 : Item) (w : World) (F : Nat → Prop) (w0_0 : Value) (w0_1 : Value) (h0_0 : Kd.flt.rd w [w0_0] a0.F F) (h0_1 : Ye.rd w [w0_1] a0.T F) (r : (List Int)) (m : impl_ValueBytes.f a0 = some r) :
  Calls prog 114 #[(.agg #[(iI a0.Kind), (iI a0.N), w0_0, w0_1])] w (RT (impl_ValueBytes.Q w F) r) := by
 obtain ⟨s0, rfl, kp0, z⟩ := Xg w F
 have A0_0 := fl_of h0_0
 have A0_1 := z.rd h0_1
 refine Xd (args := [(.agg #[(iI a0.Kind), (iI a0.N), w0_0, w0_1])]) func114 ntmps114 rfl rfl m ?_
 unfold impl_ValueBytes.f
 refine sr (bx' (cs := [(iI a0.Kind), (iI a0.N), w0_0, w0_1]) 40 rfl rfl (fun b2 s2 p2 B2 => ?_))
 refine Xb rfl (dn (sq (sr (Yc (es := [(iI a0.Kind), (iI a0.N), w0_0, w0_1]) B2 u47 z47 rfl ?_))))
 have K4 := kp0.st p2 rfl
 refine clV 41 rfl func113 rfl (impl_ItemOk.calls a0 s2.w (mm [0] s2) w0_0 w0_1 ((Xn (s := s2) A0_0).sub (D := [0]) rfl) (A0_1.kp K4)) (fun r6 s7 p7 n7 => ?_)
 refine Xb rfl (Xb rfl (jy [6, 7, 8, 9, 10] [] 10 (.bool ((!r6) || (a0.Kind == (0 : Int)))) rfl (fun Kg8 => ?_) (fun j8 => ?_)))
 ·
  rcases bft (!r6) with hb8 | hb8
  ·
   exact Xu hb8 (Xh rfl (Xh rfl (Xh rfl (Xb rfl (Kg8 _ (Ag.put ((Ag.put ((Ag.put ((Ag.put (Ag.base rfl) rfl)) rfl)) rfl)) rfl) (by rw [hb8]; rfl))))))
  refine Xu hb8 (Xr fa47_0 rfl ?_)
  exact ld' (B2.st p7 rfl) u3 rfl (Xb rfl (Xb rfl (Kg8 _ (Ag.put ((Ag.put ((Ag.put ((Ag.put (Ag.base rfl) rfl)) rfl)) rfl)) rfl) (by rw [hb8]; rfl))))
 refine dn (cd rfl (fun h10 => ?_) (fun h10 => ?_))
 ·
  refine sr (Xb rfl (dn ?_))
  have K11 := K4.st p7 rfl
  exact re rfl func114 rfl (Xo rfl Xe) rfl ⟨_, rfl, (ow_nil 5 (Kd.int .u8) s7 40).fo K11 rfl z.l, z.ky K11⟩
 refine sk (sq (zdraw [[], [], [1], [2], [0, 3, 3], [4, 4, 0, 1, 2, 3, 4]] [some 11, some 12, some 13, some 14, some 15, some 2] [[1], [1], [12], [13], [11, 14], [15]] [0, 1, 2, 3, 4, 5] ⟨by kernel_rfl, by kernel_rfl, by kernel_rfl⟩ (by kernel_rfl) (fun s12 p12 l12 tb12 zd12 => ?_)))
 refine zstep 3 [some 11] tb12 (((zd12.add 0 11 (.agg #[(iI a0.Kind), (iI a0.N), w0_0, w0_1]) rfl).add 1 12 (pO b2 2) rfl).add 2 13 w0_0 rfl) (Xa (Xz (B2.st (Xs p7 p12) rfl) u44 rfl) rfl (Xa (Xx fa47_2 rfl) rfl (Xa (lda_q (es := [(iI a0.Kind), (iI a0.N), w0_0, w0_1]) (B2.st (Xs p7 p12) rfl) u47 z47 rfl rfl rfl rfl rfl rfl rfl rfl) rfl Xk))) (by kernel_rfl) rfl (fun l18 e18 zd18 => ?_)
 refine clV 42 rfl func124 rfl (impl_FloatBits.calls a0.F s12.w (mm [] s12) w0_0 (Xn (s := s12) A0_0)) (fun r21 s22 p22 n22 => ?_)
 refine Xy (L' := [0]) (D' := [1, 2, 3]) zd18 rfl rfl rfl (fun zd23 => ?_)
 refine zfin [4, 5] tb12 zd23 (Xa (lda_q (es := [(iI a0.Kind), (iI a0.N), w0_0, w0_1]) (B2.st (tr3 p7 p12 p22) rfl) u47 z47 rfl rfl rfl rfl rfl rfl rfl rfl) rfl Xk) (by kernel_rfl) (by decide) ?_
 have K25 := K4.st (tr3 p7 p12 p22) rfl
 refine clO 43 rfl func123 rfl (impl_itemBytes.calls a0 r21 s22.w (mm [0] s22) w0_0 w0_1 ((Xn (s := s22) A0_0).sub (D := [0]) rfl) (A0_1.kp K25)) (fun r27 v27_0 s28 p28 A27_0 => ?_)
 refine Xp v27_0 rfl (dn ?_)
 have K30 := K25.st p28 rfl
 exact re rfl func114 rfl (Xo rfl Xe) rfl ⟨_, rfl, A27_0.fo K30 rfl z.l, z.ky K30⟩
def impl_ValueRead.f (a0 : (List Int)) : Option (Item × Bool) :=
 ((impl_readItem.f a0 impl_FloatOf.f).bind fun r6 => ((impl_ItemOk.f r6).bind fun r15 => ((if ((!r15) || (r6.Kind == (0 : Int))) = true then (some true) else ((impl_ValueBytes.f r6).bind fun r26 => ((bytes_Equal.f r26 a0).bind fun r31 => (some (!r31))))).bind fun y19 => (if y19 = true then (some ((Item.mk (0 : Int) (0 : Int) (0 : Nat) ([] : (List Int))), false)) else (some (r6, true))))))
def impl_ValueRead.Q (w : World) (F : Nat → Prop) (r : Item × Bool) (v : Value) (w' : World) : Prop :=
 ∃ (v0 : Value) (v1 : Value), v = .tuple #[(.agg #[(iI r.1.Kind), (iI r.1.N), v0, v1]), (.bool r.2)] ∧ FO kd47 w w' [(iI r.1.Kind), (iI r.1.N), v0, v1] r.1 ∧ Ky [] w w'
theorem impl_ValueRead.calls (a0 : (List Int)) (w : World) (F : Nat → Prop) (w0_0 : Value) (h0_0 : Ye.rd w [w0_0] a0 F) (r : Item × Bool) (m : impl_ValueRead.f a0 = some r) :
  Calls prog 95 #[w0_0] w (RT (impl_ValueRead.Q w F) r) := by
 obtain ⟨s0, rfl, kp0, z⟩ := Xg w F
 have A0_0 := z.rd h0_0
 refine Xd (args := [w0_0]) func95 ntmps95 rfl rfl m ?_
 unfold impl_ValueRead.f
 refine sr (al' (cs := [(iI 0), (iI 0), (.float .f64 0), (.slice none 0 0)]) 40 rfl o47 rfl (fun b2 s2 p2 B2 => ?_))
 refine Xb rfl (dn (sr (Xl w0_0 rfl ?_)))
 have K4 := kp0.st p2 rfl
 refine cl' rfl func107 rfl (impl_readItem.calls a0 impl_FloatOf.f s2.w (mm [0] s2) w0_0 (.func (.func 112) #[] #[]) (A0_0.kp K4) (fun x0 w' k  r m =>  ⟨112, _, _, [], [], rfl, func112, rfl, rfl, (impl_FloatOf.calls x0 w' (fun _ => True)  r m).mono fun en w2 hq => by obtain ⟨v, e, q⟩ := hq; exact ⟨v, e, q⟩⟩) rfl) ?_
 rintro r6 _ w6 m6 ⟨v6_0, v6_1, rfl, f6_0, ky6⟩
 obtain ⟨s7, rfl, p7, n7⟩ := nwx s2 w6 41 ky6
 obtain ⟨hu6_0_0, Au6_0_1⟩ := ap47 (f6_0.c n7)
 refine al' (cs := [(iI 0), (iI 0), (.float .f64 0), (.slice none 0 0)]) 42 rfl o47 rfl (fun b9 s9 p9 B9 => ?_)
 have A11 := Au6_0_1.st p9 rfl
 refine sva' (vs := [(iI r6.Kind), (iI r6.N), v6_0, v6_1]) B9 z47 rfl (Xc rfl (Xc rfl (Xc (FL.one hu6_0_0) (Xc A11.rd.one Xt)))) rfl (fun s12 p12 B12 => ?_)
 refine dn (sq (sr (Yc (es := [(iI r6.Kind), (iI r6.N), v6_0, v6_1]) B12 u47 z47 rfl ?_)))
 have A14 := A11.st p12 rfl
 refine clV 43 rfl func113 rfl (impl_ItemOk.calls r6 s12.w (mm [41] s12) v6_0 v6_1 ((Xn (s := s12) hu6_0_0).sub (D := [41]) rfl) A14.rd) (fun r15 s16 p16 n16 => ?_)
 refine Xb rfl (Xb rfl (jy [10, 11, 12, 13, 14] [8, 9, 10, 11, 12, 13, 14] 14 (.bool ((!r15) || (r6.Kind == (0 : Int)))) rfl (fun Kg17 => ?_) (fun j17 => ?_)))
 ·
  rcases bft (!r15) with hb17 | hb17
  ·
   exact Xu hb17 (Xh rfl (Xh rfl (Xh rfl (Xb rfl (Kg17 _ (Ag.put ((Ag.put ((Ag.put ((Ag.put (Ag.base rfl) rfl)) rfl)) rfl)) rfl) (by rw [hb17]; rfl))))))
  refine Xu hb17 (Xr fa47_0 rfl ?_)
  exact ld' (B12.st p16 rfl) u3 rfl (Xb rfl (Xb rfl (Kg17 _ (Ag.put ((Ag.put ((Ag.put ((Ag.put (Ag.base rfl) rfl)) rfl)) rfl)) rfl) (by rw [hb17]; rfl))))
 refine Xb rfl (ji [] (fun (y19 : Bool) e w => ∃ (s : St) (e0 : Env), w = s.w ∧ e = upd (upd (upd e0 2 (pB b2)) 4 (pB b9)) 21 (.bool y19) ∧ Kp s0 s ∧ BlF s b9 47 [(iI r6.Kind), (iI r6.N), v6_0, v6_1] 42 ∧ BlF s b2 47 [(iI 0), (iI 0), (.float .f64 0), (.slice none 0 0)] 40 ∧ OwF Ye s [v6_1] r6.T 41) (fun Gj19 Kj19 => ?_) ?_)
 ·
  rcases bft ((!r15) || (r6.Kind == (0 : Int))) with hb19 | hb19
  ·
   refine Xu hb19 ?_
   rw [if_pos hb19]
   refine Xh rfl (Xh rfl (Xh rfl (Xh rfl (Xh rfl (Xb rfl ?_)))))
   exact Kj19 _ _ _ ⟨s16, _, rfl, (ue (ue (ue rfl rfl) rfl) rfl), (K4.st (tr4 p7 p9 p12 p16) rfl), (B12.st p16 rfl), (B2.st (tr4 p7 p9 p12 p16) rfl), (A14.st p16 rfl)⟩
  refine Xu hb19 ?_
  rw [if_neg (by rw [hb19]; decide)]
  have A24 := B12.st p16 rfl
  refine Yc (es := [(iI r6.Kind), (iI r6.N), v6_0, v6_1]) A24 u47 z47 rfl ?_
  have A25 := A14.st p16 rfl
  refine clO 44 rfl func114 rfl (impl_ValueBytes.calls r6 s16.w (mm [41] s16) v6_0 v6_1 ((Xn (s := s16) hu6_0_0).sub (D := [41]) rfl) A25.rd) (fun r26 v26_0 s27 p27 A26_0 => ?_)
  refine Xl w0_0 rfl ?_
  have K29 := K4.st (tr5 p7 p9 p12 p16 p27) rfl
  refine clV 45 rfl func97 rfl (bytes_Equal.calls r26 a0 s27.w (mm [44, 0] s27) v26_0 w0_0 (A26_0.rd.sub (D := [44, 0]) rfl) ((A0_0.kp K29).sub (D := [44, 0]) rfl)) (fun r31 s32 p32 n32 => ?_)
  refine Xb rfl (Xb rfl ?_)
  exact Kj19 _ _ _ ⟨s32, _, rfl, (ue (ue (ue rfl rfl) rfl) rfl), (K29.st p32 rfl), (A24.st (Xs p27 p32) rfl), (B2.st (tr6 p7 p9 p12 p16 p27 p32) rfl), (A25.st (Xs p27 p32) rfl)⟩
 rintro y19 _ _ ⟨s37, _, rfl, rfl, Ky19, By19_b9, By19_b2, Cy19_8⟩
 refine dn (cd rfl (fun h40 => ?_) (fun h40 => ?_))
 ·
  refine sr (bd (cells := [(iI 0), (iI 0), (.float .f64 0), (.slice none 0 0)]) pl47 o47 rfl rfl rfl rfl rfl rfl (sva' (vs := [(iI 0), (iI 0), (.float .f64 0), (.slice none 0 0)]) By19_b2 z47 rfl (Xc rfl (Xc rfl (Xc (FL.one (Xw rfl)) (Xc rfl Xt)))) rfl (fun s41 p41 B41 => ?_)))
  refine Xb rfl (dn ?_)
  have A43 : OwF kd47 s41 [(iI 0), (iI 0), (.float .f64 0), (.slice none 0 0)] (Item.mk (0 : Int) (0 : Int) (0 : Nat) ([] : (List Int))) 46 := ow_z _ _ (fz_iso (fun x : Item => (x.Kind, x.N, x.F, x.T)) (Item.mk (0 : Int) (0 : Int) (0 : Nat) ([] : (List Int))) (Xj (Xi .i64 (0 : Int)) (Xj (Xi .i64 (0 : Int)) (Xj (Ya (Xw rfl)) (fz_nil 5 (Kd.int .u8))))))
  have K45 := Ky19.st p41 rfl
  exact re rfl func95 rfl (r_b B41 u47 rfl z47 rfl (Xo rfl Xe)) rfl ⟨_, rfl, (.float .f64 0), (.slice none 0 0), rfl, A43.fo K45 rfl z.l, z.ky K45⟩
 refine sk (sr (Yc (es := [(iI r6.Kind), (iI r6.N), v6_0, v6_1]) By19_b9 u47 z47 rfl (sva' (vs := [(iI r6.Kind), (iI r6.N), v6_0, v6_1]) By19_b2 z47 rfl (Xc rfl (Xc rfl (Xc (FL.one hu6_0_0) (Xc Cy19_8.rd.one Xt)))) rfl (fun s46 p46 B46 => ?_))))
 refine Xb rfl (dn ?_)
 have A48 : OwF kd47 s46 [(iI r6.Kind), (iI r6.N), v6_0, v6_1] r6 41 := (Yd (fun x : Item => (x.Kind, x.N, x.F, x.T)) r6 (ow_l (Xi .i64 r6.Kind) (ow_l (Xi .i64 r6.N) (ow_l (Ya hu6_0_0) (Cy19_8.st p46 rfl)))))
 have K51 := Ky19.st p46 rfl
 exact re rfl func95 rfl (r_b B46 u47 rfl z47 rfl (Xo rfl Xe)) rfl ⟨_, rfl, v6_0, v6_1, rfl, A48.fo K51 rfl z.l, z.ky K51⟩
def impl_TupleOk.f (a0 : Tuple) : Option (Bool) :=
 ((impl_isXid.f a0.Xmin).bind fun r5 => ((if r5 = true then ((impl_within.f a0.Xmax (0 : Int) (400 : Int)).bind fun r9 => (some r9)) else (some false)).bind fun y7 => ((if y7 = true then ((impl_KeyOk.f a0.Key).bind fun r19 => (some r19)) else (some false)).bind fun y17 => ((if y17 = true then ((impl_ItemOk.f a0.Value).bind fun r27 => (some r27)) else (some false)).bind fun y25 => (some (y25 && (a0.Value.Kind != (0 : Int))))))))
def impl_TupleOk.Q (w : World) (F : Nat → Prop) (r : Bool) (v : Value) (w' : World) : Prop :=
 v = (.bool r) ∧ Ky [] w w'
theorem impl_TupleOk.calls (a0 : Tuple) (w : World) (F : Nat → Prop) (w0_0 : Value) (w0_1 : Value) (w0_2 : Value) (w0_3 : Value) (h0_0 : Kd.flt.rd w [w0_0] a0.Key.F F) (h0_1 : Ye.rd w [w0_1] a0.Key.T F) (h0_2 : Kd.flt.rd w [w0_2] a0.Value.F F) (h0_3 : Ye.rd w [w0_3] a0.Value.T F) (r : Bool) (m : impl_TupleOk.f a0 = some r) :
  Calls prog 96 #[(.agg #[(iI a0.Xmin), (iI a0.Xmax), (iI a0.Key.Kind), (iI a0.Key.N), w0_0, w0_1, (iI a0.Value.Kind), (iI a0.Value.N), w0_2, w0_3])] w (RT (impl_TupleOk.Q w F) r) := by
 obtain ⟨s0, rfl, kp0, z⟩ := Xg w F
 refine Xd (args := [(.agg #[(iI a0.Xmin), (iI a0.Xmax), (iI a0.Key.Kind), (iI a0.Key.N), w0_0, w0_1, (iI a0.Value.Kind), (iI a0.Value.N), w0_2, w0_3])]) func96 ntmps96 rfl rfl m ?_
 unfold impl_TupleOk.f
 refine sr (bx' (cs := [(iI a0.Xmin), (iI a0.Xmax), (iI a0.Key.Kind), (iI a0.Key.N), w0_0, w0_1, (iI a0.Value.Kind), (iI a0.Value.N), w0_2, w0_3]) 40 rfl rfl (fun b3 s3 p3 B3 => ?_))
 refine Xb rfl (dn (sr (Xr fa49_0 rfl (ld' B3 u3 rfl (clV 41 rfl func42 rfl (impl_isXid.calls a0.Xmin s3.w (mm [] s3)) (fun r5 s6 p6 n6 => ?_))))))
 refine Xb rfl (ji [8, 9, 10, 11, 12, 13, 14, 15, 16, 17, 18, 19, 20, 21, 22, 23, 24] (fun (y7 : Bool) e w => ∃ (s : St) (e0 : Env), w = s.w ∧ e = upd (upd e0 1 (pB b3)) 10 (.bool y7) ∧ Kp s0 s ∧ BlF s b3 49 [(iI a0.Xmin), (iI a0.Xmax), (iI a0.Key.Kind), (iI a0.Key.N), w0_0, w0_1, (iI a0.Value.Kind), (iI a0.Value.N), w0_2, w0_3] 40) (fun Gj7 Kj7 => ?_) ?_)
 ·
  rcases bft r5 with hb7 | hb7
  ·
   refine Xu hb7 ?_
   rw [if_pos hb7]
   refine Xr fa49_1 rfl ?_
   have A8 := B3.st p6 rfl
   refine ld' A8 u3 rfl (clV 42 rfl func43 rfl (impl_within.calls a0.Xmax (0 : Int) (400 : Int) s6.w (mm [] s6)) (fun r9 s10 p10 n10 => ?_))
   exact Xb rfl (Kj7 _ _ _ ⟨s10, _, rfl, (ue (ue rfl rfl) rfl), (kp0.st (tr3 p3 p6 p10) rfl), (A8.st p10 rfl)⟩)
  refine Xu hb7 ?_
  rw [if_neg (by rw [hb7]; decide)]
  refine Xh rfl (Xh rfl (Xh rfl (Xb rfl ?_)))
  exact Kj7 _ _ _ ⟨s6, _, rfl, (ue (ue rfl rfl) rfl), (kp0.st (Xs p3 p6) rfl), (B3.st p6 rfl)⟩
 rintro y7 _ _ ⟨s15, _, rfl, rfl, Ky7, By7_b3⟩
 refine Xb rfl (ji [13, 14, 15, 16, 17, 18, 19, 20, 21, 22, 23, 24] (fun (y17 : Bool) e w => ∃ (s : St) (e0 : Env), w = s.w ∧ e = upd (upd e0 1 (pB b3)) 15 (.bool y17) ∧ Kp s0 s ∧ BlF s b3 49 [(iI a0.Xmin), (iI a0.Xmax), (iI a0.Key.Kind), (iI a0.Key.N), w0_0, w0_1, (iI a0.Value.Kind), (iI a0.Value.N), w0_2, w0_3] 40) (fun Gj17 Kj17 => ?_) ?_)
 ·
  rcases bft y7 with hb17 | hb17
  ·
   refine Xu hb17 ?_
   rw [if_pos hb17]
   refine Xr fa49_2 rfl (Yc (es := [(iI a0.Key.Kind), (iI a0.Key.N), w0_0, w0_1]) By7_b3 u47 z47 rfl ?_)
   refine clV 43 rfl func110 rfl (impl_KeyOk.calls a0.Key s15.w (mm [0] s15) w0_0 w0_1 ((Xn (s := s15) (fl_of h0_0)).sub (D := [0]) rfl) ((z.rd h0_1).kp Ky7)) (fun r19 s20 p20 n20 => ?_)
   exact Xb rfl (Kj17 _ _ _ ⟨s20, _, rfl, (ue (ue rfl rfl) rfl), (Ky7.st p20 rfl), (By7_b3.st p20 rfl)⟩)
  refine Xu hb17 ?_
  rw [if_neg (by rw [hb17]; decide)]
  exact Xh rfl (Xh rfl (Xh rfl (Xb rfl (Kj17 _ _ _ ⟨s15, _, rfl, (ue (ue rfl rfl) rfl), Ky7, By7_b3⟩))))
 rintro y17 _ _ ⟨s23, _, rfl, rfl, Ky17, By17_b3⟩
 refine Xb rfl (ji [18, 19, 20, 21, 22, 23, 24] (fun (y25 : Bool) e w => ∃ (s : St) (e0 : Env), w = s.w ∧ e = upd (upd e0 1 (pB b3)) 20 (.bool y25) ∧ Kp s0 s ∧ BlF s b3 49 [(iI a0.Xmin), (iI a0.Xmax), (iI a0.Key.Kind), (iI a0.Key.N), w0_0, w0_1, (iI a0.Value.Kind), (iI a0.Value.N), w0_2, w0_3] 40) (fun Gj25 Kj25 => ?_) ?_)
 ·
  rcases bft y17 with hb25 | hb25
  ·
   refine Xu hb25 ?_
   rw [if_pos hb25]
   refine Xr fa49_3 rfl (Yc (es := [(iI a0.Value.Kind), (iI a0.Value.N), w0_2, w0_3]) By17_b3 u47 z47 rfl ?_)
   refine clV 44 rfl func113 rfl (impl_ItemOk.calls a0.Value s23.w (mm [0] s23) w0_2 w0_3 ((Xn (s := s23) (fl_of h0_2)).sub (D := [0]) rfl) ((z.rd h0_3).kp Ky17)) (fun r27 s28 p28 n28 => ?_)
   exact Xb rfl (Kj25 _ _ _ ⟨s28, _, rfl, (ue (ue rfl rfl) rfl), (Ky17.st p28 rfl), (By17_b3.st p28 rfl)⟩)
  refine Xu hb25 ?_
  rw [if_neg (by rw [hb25]; decide)]
  exact Xh rfl (Xh rfl (Xh rfl (Xb rfl (Kj25 _ _ _ ⟨s23, _, rfl, (ue (ue rfl rfl) rfl), Ky17, By17_b3⟩))))
 rintro y25 _ _ ⟨s31, _, rfl, rfl, Ky25, By25_b3⟩
 refine Xb rfl (jy [21, 22, 23, 24, 25, 26] [24] 26 (.bool (y25 && (a0.Value.Kind != (0 : Int)))) rfl (fun Kg33 => ?_) (fun j33 => ?_))
 ·
  rcases bft y25 with hb33 | hb33
  ·
   exact Xu hb33 (Xr fa49_3 rfl (Xr fa47_0 rfl (ld' By25_b3 u3 rfl (Xb rfl (Xb rfl (Kg33 _ (Ag.put ((Ag.put ((Ag.put ((Ag.put ((Ag.put (Ag.base rfl) rfl)) rfl)) rfl)) rfl)) rfl) (by rw [hb33]; rfl)))))))
  exact Xu hb33 (Xh rfl (Xh rfl (Xh rfl (Xh rfl (Xb rfl (Kg33 _ (Ag.put ((Ag.put ((Ag.put ((Ag.put ((Ag.put (Ag.base rfl) rfl)) rfl)) rfl)) rfl)) rfl) (by rw [hb33]; rfl)))))))
 exact Xb rfl (dn (re rfl func96 rfl (Xo rfl Xe) rfl ⟨_, rfl, rfl, z.ky Ky25⟩))
def impl_PutNum.b0 (a1 : Int) (x12 : Int × (List Int) × Int) : Option ((Int × (List Int) × Int) ⊕ (List Int)) :=
 (if (decide (x12.2.2 < a1)) = true then (if x12.2.1.length + ([(IntKind.wrap .u8 x12.1)]).length ≤ Lim then (some (Sum.inl ((ishr .i64 x12.1 (8 : Int)), (x12.2.1 ++ [(IntKind.wrap .u8 x12.1)]), (IntKind.wrap .i64 (x12.2.2 + (1 : Int)))))) else none) else ((some x12.2.1).bind fun o => some (Sum.inr o)))
def impl_PutNum.f (a0 : Int) (a1 : Int) : Option ((List Int)) :=
 ((impl_within.f a1 (1 : Int) (8 : Int)).bind fun r1 => ((if ((!r1) || (decide (a0 < (0 : Int)))) = true then (some true) else ((if (decide (a1 < (8 : Int))) = true then (if 0 ≤ (IntKind.wrap .i64 ((8 : Int) * a1)) then (some ((ishr .i64 a0 (IntKind.wrap .i64 ((8 : Int) * a1))) != (0 : Int))) else none) else (some false)).bind fun y6 => (some y6))).bind fun y4 => (if y4 = true then (some ([] : (List Int))) else (iter (impl_PutNum.b0 a1) (a0, ([] : (List Int)), (0 : Int))))))
def impl_PutNum.Q (w : World) (F : Nat → Prop) (r : (List Int)) (v : Value) (w' : World) : Prop :=
 FO Ye w w' [v] r ∧ Ky [] w w'
theorem impl_PutNum.calls (a0 : Int) (a1 : Int) (w : World) (F : Nat → Prop)   (r : (List Int)) (m : impl_PutNum.f a0 a1 = some r) :
  Calls prog 116 #[(iI a0), (iI a1)] w (RT (impl_PutNum.Q w F) r) := by
 obtain ⟨s0, rfl, kp0, z⟩ := Xg w F
 refine Xd (args := [(iI a0), (iI a1)]) func116 ntmps116 rfl rfl m ?_
 unfold impl_PutNum.f
 refine sr (Xb rfl (dn (sq (sr (Xb rfl (clV 40 rfl func43 rfl (impl_within.calls a1 (1 : Int) (8 : Int) s0.w (mm [] s0)) (fun r1 s2 p2 n2 => ?_)))))))
 refine Xb rfl (Xb rfl (jy [9, 10, 11, 12] [7, 8, 9, 10, 11, 12, 13, 14, 15, 16, 17] 12 (.bool ((!r1) || (decide (a0 < (0 : Int))))) rfl (fun Kg3 => ?_) (fun j3 => ?_)))
 ·
  rcases bft (!r1) with hb3 | hb3
  ·
   exact Xu hb3 (Xh rfl (Xh rfl (Xb rfl (Kg3 _ (Ag.put ((Ag.put ((Ag.put (Ag.base rfl) rfl)) rfl)) rfl) (by rw [hb3]; rfl)))))
  exact Xu hb3 (Xb rfl (Xb rfl (Xb rfl (Kg3 _ (Ag.put ((Ag.put ((Ag.put (Ag.base rfl) rfl)) rfl)) rfl) (by rw [hb3]; rfl)))))
 refine Xb rfl (ji [] (fun (y4 : Bool) e w => ∃ (s : St) (e0 : Env), w = s.w ∧ e = upd (upd (upd e0 0 (iI a0)) 1 (iI a1)) 23 (.bool y4) ∧ Kp s0 s) (fun Gj4 Kj4 => ?_) ?_)
 ·
  rcases bft ((!r1) || (decide (a0 < (0 : Int)))) with hb4 | hb4
  ·
   refine Xu hb4 ?_
   rw [if_pos hb4]
   refine Xh rfl (Xh rfl (Xh rfl (Xh rfl (Xh rfl (Xh rfl (Xh rfl (Xh rfl (Xh rfl (Xb rfl ?_)))))))))
   exact Kj4 _ _ _ ⟨s2, _, rfl, (ue (ue (ue rfl rfl) rfl) rfl), (kp0.st p2 rfl)⟩
  refine Xu hb4 ?_
  rw [if_neg (by rw [hb4]; decide)]
  refine Xb rfl (Xb rfl (Xb rfl (ji [17] (fun (y6 : Bool) e w => ∃ (s : St) (e0 : Env), w = s.w ∧ e = upd (upd (upd (upd e0 0 (iI a0)) 1 (iI a1)) 13 (.bool false)) 22 (.bool y6) ∧ Kp s0 s) (fun Gj6 Kj6 => ?_) ?_)))
  ·
   rcases bft (decide (a1 < (8 : Int))) with hb6 | hb6
   ·
    refine Xu hb6 ?_
    rw [if_pos hb6]
    refine Xb rfl (Xb rfl (Xb rfl (shr_ rfl rfl rfl rfl rfl rfl rfl (Xb rfl (Xb rfl ?_)))))
    exact Kj6 _ _ _ ⟨s2, _, rfl, (ue (ue (ue (ue rfl rfl) rfl) rfl) rfl), (kp0.st p2 rfl)⟩
   refine Xu hb6 ?_
   rw [if_neg (by rw [hb6]; decide)]
   refine Xh rfl (Xh rfl (Xh rfl (Xh rfl (Xh rfl (Xb rfl ?_)))))
   exact Kj6 _ _ _ ⟨s2, _, rfl, (ue (ue (ue (ue rfl rfl) rfl) rfl) rfl), (kp0.st p2 rfl)⟩
  rintro y6 _ _ ⟨s9, _, rfl, rfl, Ky6⟩
  exact Xb rfl (Kj4 _ _ _ ⟨s9, _, rfl, (ue (ue (ue rfl rfl) rfl) rfl), Ky6⟩)
 rintro y4 _ _ ⟨s10, _, rfl, rfl, Ky4⟩
 refine dn (cd rfl (fun h11 => ?_) (fun h11 => ?_))
 ·
  exact sr (Xb rfl (dn (re rfl func116 rfl (Xo rfl Xe) rfl ⟨_, rfl, (ow_nil 5 (Kd.int .u8) s10 40).fo Ky4 rfl z.l, z.ky Ky4⟩)))
 refine sk (sr (Xb rfl (dn (sq (sr (Xb rfl (Xb rfl (dn (bl (lpI (fun (x12 : Int × (List Int) × Int) e w => ∃ (s : St) (e0 : Env) (vx12_0 : Value), w = s.w ∧ e = upd (upd (upd (upd e0 0 (iI x12.1)) 5 vx12_0) 24 (iI a1)) 25 (iI x12.2.2) ∧ Kp s0 s ∧ OwF Ye s [vx12_0] x12.2.1 41) ⟨s10, _, (.slice none 0 0), rfl, (ue (ue (ue (ue rfl rfl) rfl) rfl) rfl), Ky4, (ow_nil 5 (Kd.int .u8) _ 41)⟩ (fun g12 ih12 => ?_)))))))))))
 rintro x12 _ _ ⟨s13, _, vx12_0, rfl, rfl, Kx12, Ax12_0⟩
 unfold impl_PutNum.b0
 refine sr (Xb rfl (dn (sq (cd rfl (fun h15 => ?_) (fun h15 => ?_)))))
 ·
  refine sk (sq (bl (sr (Xl vx12_0 rfl (Xb rfl (cv' u5 u3 rfl (ltF' (K := (Kd.int .u8)) (cells := [(.int .u8 (IntKind.wrap .u8 x12.1))]) [(IntKind.wrap .u8 x12.1)] 42 Xq u45 z5 o5 (fun w => (Xv _ _ _)) rfl (fun v16 s16 p16 A16 => ?_))))))))
  refine apF Xq sl45 (Ax12_0.st p16 rfl) A16.rd rfl rfl rfl rfl rfl rfl rfl (fun v19 s19 p19 A19 => ?_)
  refine Xp v19 rfl (dn (rg (Xb rfl (shrK rfl rfl rfl rfl rfl rfl rfl rfl (Xb rfl (dn (ib (rg (Xb rfl (Xb rfl (dn ?_)))))))))))
  exact lb ih12 ⟨s19, _, v19, rfl, (ue (ue (ue (ue rfl rfl) rfl) rfl) rfl), (Kx12.st (Xs p16 p19) rfl), A19⟩
 exact xt rfl (sgb (sr (Xl vx12_0 rfl (Xp vx12_0 rfl (dn (re rfl func116 rfl (Xo rfl Xe) rfl ⟨_, rfl, Ax12_0.fo Kx12 rfl z.l, z.ky Kx12⟩))))))
def slices_Grow_byte_byte_nil.f (a1 : Int) : Option ((List Int)) :=
 (if (decide (a1 < (0 : Int))) = true then none else ((if (decide ((IntKind.wrap .i64 (a1 - (IntKind.wrap .i64 ((0 : Int) - (([] : (List Int)).length : Int))))) > (0 : Int))) = true then (if 0 ≤ (IntKind.wrap .i64 (a1 - (IntKind.wrap .i64 ((0 : Int) - (([] : (List Int)).length : Int))))) ∧ (([] : (List Int)).length : Int) + (IntKind.wrap .i64 (a1 - (IntKind.wrap .i64 ((0 : Int) - (([] : (List Int)).length : Int))))) ≤ (Lim : Int) then (if 0 ≤ (([] : (List Int)).length : Int) ∧ (([] : (List Int)).length : Int) ≤ ((([] : (List Int)) ++ List.replicate ((IntKind.wrap .i64 (a1 - (IntKind.wrap .i64 ((0 : Int) - (([] : (List Int)).length : Int)))))).toNat (0 : Int)).length : Int) then (some ((([] : (List Int)) ++ List.replicate ((IntKind.wrap .i64 (a1 - (IntKind.wrap .i64 ((0 : Int) - (([] : (List Int)).length : Int)))))).toNat (0 : Int)).take ((([] : (List Int)).length : Int)).toNat)) else none) else none) else (some ([] : (List Int)))).bind fun y2 => (some y2)))
def slices_Grow_byte_byte_nil.Q (w : World) (F : Nat → Prop) (r : (List Int)) (v : Value) (w' : World) : Prop :=
 FO Ye w w' [v] r ∧ Ky [] w w'
theorem slices_Grow_byte_byte_nil.calls (a1 : Int) (w : World) (F : Nat → Prop)   (r : (List Int)) (m : slices_Grow_byte_byte_nil.f a1 = some r) :
  Calls prog 125 #[(.slice none 0 0), (iI a1)] w (RT (slices_Grow_byte_byte_nil.Q w F) r) := by
 obtain ⟨s0, rfl, kp0, z⟩ := Xg w F
 refine Xd (args := [(.slice none 0 0), (iI a1)]) func125 ntmps125 rfl rfl m ?_
 unfold slices_Grow_byte_byte_nil.f
 refine sr (Xb rfl (dn (sq (sr (Xb rfl (Xb rfl (dn (cd rfl (fun h1 => ?_) (fun h1 => ?_)))))))))
 ·
  exact rg mn
 refine sk (sq (sr (Xb rfl (Xb rfl (cpn u45 rfl rfl rfl rfl rfl rfl (Xb rfl (ln' (rd_nil 5 (Kd.int .u8) s0 []) u45 rfl (Xb rfl (Xb rfl (Xb rfl (dn (sr (Xb rfl (Xb rfl ?_))))))))))))))
 refine dn (jc (fun (y2 : (List Int)) e w => ∃ (s : St) (e0 : Env) (vy2_0 : Value), w = s.w ∧ e = upd e0 0 vy2_0 ∧ Kp s0 s ∧ OwF Ye s [vy2_0] y2 40) (fun Gj2 Kj2 => ?_) ?_)
 ·
  refine cd rfl (fun h3 => ?_) (fun h3 => ?_)
  ·
   refine rg (Xb rfl (Xb rfl (cpn u45 rfl rfl rfl rfl rfl rfl (nlh u45 z5 rfl rfl rfl rfl rfl rfl rfl (Xb rfl (apZ (x0 := (0 : Int)) Xq sl45 o5 (fun _ => ⟨rfl, rfl⟩) u3 (ow_nil 5 (Kd.int .u8) s0 40) rfl rfl rfl rfl rfl rfl rfl (fun v4 s4 p4 A4 => ?_)))))))
   refine Xb rfl (ln' (rd_nil 5 (Kd.int .u8) s4 []) u45 rfl (slo Xq A4 u45 z5 rfl rfl rfl rfl rfl rfl rfl (fun v6 A6 => ?_)))
   refine Xp v6 rfl (dn ?_)
   exact Kj2 _ _ _ ⟨s4, _, v6, rfl, (ue rfl rfl), (kp0.st p4 rfl), A6⟩
  exact sk (Kj2 _ _ _ ⟨s0, _, (.slice none 0 0), rfl, (ue rfl rfl), kp0, (ow_nil 5 (Kd.int .u8) _ 40)⟩)
 rintro y2 _ _ ⟨s9, _, vy2_0, rfl, rfl, Ky2, Ay2_0⟩
 exact sr (Xl vy2_0 rfl (Xp vy2_0 rfl (dn (re rfl func125 rfl (Xo rfl Xe) rfl ⟨_, rfl, Ay2_0.fo Ky2 rfl z.l, z.ky Ky2⟩))))
def slices_Concat_byte_byte.b1 (a0 : (List (List Int))) (x15 : (List Int) × Int) : Option (((List Int) × Int) ⊕ (List Int)) :=
 (if (decide (x15.2 < (a0.length : Int))) = true then (if 0 ≤ x15.2 ∧ x15.2 < (a0.length : Int) then (if x15.1.length + (at_ a0 x15.2).length ≤ Lim then (some (Sum.inl ((x15.1 ++ (at_ a0 x15.2)), (IntKind.wrap .i64 (x15.2 + (1 : Int)))))) else none) else none) else ((some x15.1).bind fun o => some (Sum.inr o)))
def slices_Concat_byte_byte.b0 (a0 : (List (List Int))) (x2 : Int × Int) : Option ((Int × Int) ⊕ (List Int)) :=
 (if (decide (x2.2 < (a0.length : Int))) = true then (if 0 ≤ x2.2 ∧ x2.2 < (a0.length : Int) then (if (decide ((IntKind.wrap .i64 (x2.1 + ((at_ a0 x2.2).length : Int))) < (0 : Int))) = true then none else (some (Sum.inl ((IntKind.wrap .i64 (x2.1 + ((at_ a0 x2.2).length : Int))), (IntKind.wrap .i64 (x2.2 + (1 : Int))))))) else none) else (((slices_Grow_byte_byte_nil.f x2.1).bind fun r10 => (iter (slices_Concat_byte_byte.b1 a0) (r10, (0 : Int)))).bind fun o => some (Sum.inr o)))
def slices_Concat_byte_byte.f (a0 : (List (List Int))) : Option ((List Int)) :=
 (iter (slices_Concat_byte_byte.b0 a0) ((0 : Int), (0 : Int)))
def slices_Concat_byte_byte.Q (w : World) (F : Nat → Prop) (r : (List Int)) (v : Value) (w' : World) : Prop :=
 FO Ye w w' [v] r ∧ Ky [] w w'
theorem slices_Concat_byte_byte.calls (a0 : (List (List Int))) (w : World) (F : Nat → Prop) (w0_0 : Value) (h0_0 : (Kd.sl 45 Ye).rd w [w0_0] a0 F) (r : (List Int)) (m : slices_Concat_byte_byte.f a0 = some r) :
  Calls prog 115 #[w0_0] w (RT (slices_Concat_byte_byte.Q w F) r) := by
 obtain ⟨s0, rfl, kp0, z⟩ := Xg w F
 have A0_0 := z.rd h0_0
 refine Xd (args := [w0_0]) func115 ntmps115 rfl rfl m ?_
 unfold slices_Concat_byte_byte.f
 refine sr (Xb rfl (dn (sr (Xb rfl (dn (sq (sr (Xl w0_0 rfl (ln' A0_0 u66 rfl (Xb rfl (dn (bl (lpI (fun (x2 : Int × Int) e w => ∃ (s : St) (e0 : Env), w = s.w ∧ e = upd (upd (upd (upd (upd e0 0 w0_0) 3 (iI x2.1)) 9 w0_0) 10 (iI (a0.length : Int))) 11 (iI x2.2) ∧ Kp s0 s) ⟨s0, _, rfl, (ue (ue (ue (ue (ue rfl rfl) rfl) rfl) rfl) rfl), kp0⟩ (fun g2 ih2 => ?_))))))))))))))
 rintro x2 _ _ ⟨s3, _, rfl, rfl, Kx2⟩
 unfold slices_Concat_byte_byte.b0
 refine sr (Xb rfl (dn (sq (cd rfl (fun h4 => ?_) (fun h4 => ?_)))))
 ·
  refine sk (sq (bl (sr ?_)))
  refine ix' (A0_0.kp Kx2) u66 z45 rfl (fun ad6 es6 h0_6 h1_6 he6 ce6 ia6 => ?_)
  obtain ⟨v6, rfl, he6'⟩ := he6
  have A6 : RdF Ye s3 [v6] (at_ a0 x2.2) [0] := ⟨v6, rfl, he6'⟩
  refine lc0' ce6 u45 rfl (Xp v6 rfl (dn (sr (Xb rfl (Xl v6 rfl (ln' A6 u45 rfl (Xb rfl (Xb rfl (dn (sr (Xb rfl (Xb rfl (dn (cd rfl (fun h9 => ?_) (fun h9 => ?_)))))))))))))))
  ·
   exact rg mn
  exact sk (ib (rg (Xb rfl (Xb rfl (dn (lb ih2 ⟨s3, _, rfl, (ue (ue (ue (ue (ue rfl rfl) rfl) rfl) rfl) rfl), Kx2⟩))))))
 refine xt rfl (sgb (sr (Xb rfl (clO 40 rfl func125 rfl (slices_Grow_byte_byte_nil.calls x2.1 s3.w (mm [] s3)) (fun r10 v10_0 s11 p11 A10_0 => ?_)))))
 refine Xp v10_0 rfl (dn (sq (sr (Xl w0_0 rfl ?_))))
 have K13 := Kx2.st p11 rfl
 refine ln' (A0_0.kp K13) u66 rfl (Xb rfl (dn (bl (lpI (fun (x15 : (List Int) × Int) e w => ∃ (s : St) (e0 : Env) (vx15_0 : Value), w = s.w ∧ e = upd (upd (upd (upd e0 6 vx15_0) 25 w0_0) 26 (iI (a0.length : Int))) 27 (iI x15.2) ∧ Kp s0 s ∧ OwF Ye s [vx15_0] x15.1 40) ⟨s11, _, v10_0, rfl, (ue (ue (ue (ue rfl rfl) rfl) rfl) rfl), K13, A10_0⟩ (fun g15 ih15 => ?_)))))
 rintro x15 _ _ ⟨s16, _, vx15_0, rfl, rfl, Kx15, Ax15_0⟩
 unfold slices_Concat_byte_byte.b1
 refine sr (Xb rfl (dn (sq (cd rfl (fun h18 => ?_) (fun h18 => ?_)))))
 ·
  refine sk (sq (bl (sr ?_)))
  refine ix' (A0_0.kp Kx15) u66 z45 rfl (fun ad20 es20 h0_20 h1_20 he20 ce20 ia20 => ?_)
  obtain ⟨v20, rfl, he20'⟩ := he20
  have A20 : RdF Ye s16 [v20] (at_ a0 x15.2) [0] := ⟨v20, rfl, he20'⟩
  refine lc0' ce20 u45 rfl (Xp v20 rfl (dn (rg (Xl vx15_0 rfl (Xl v20 rfl (apF Xq sl45 Ax15_0 A20 rfl rfl rfl rfl rfl rfl rfl (fun v23 s23 p23 A23 => ?_)))))))
  refine Xp v23 rfl (dn (ib (rg (Xb rfl (Xb rfl (dn ?_))))))
  exact lb ih15 ⟨s23, _, v23, rfl, (ue (ue (ue (ue rfl rfl) rfl) rfl) rfl), (Kx15.st p23 rfl), A23⟩
 exact xt rfl (sgb (sr (Xl vx15_0 rfl (Xp vx15_0 rfl (dn (re rfl func115 rfl (Xo rfl Xe) rfl ⟨_, rfl, Ax15_0.fo Kx15 rfl z.l, z.ky Kx15⟩))))))
def impl_TupleBytes.f (a0 : Tuple) : Option ((List Int)) :=
 ((impl_TupleOk.f a0).bind fun r8 => (if (!r8) = true then (some ([] : (List Int))) else ((impl_KeyBytes.f a0.Key).bind fun r24 => ((impl_ValueBytes.f a0.Value).bind fun r31 => (((impl_PutNum.f a0.Xmin (4 : Int)).bind fun r59 => ((impl_PutNum.f a0.Xmax (4 : Int)).bind fun r69 => (some (r59, r69, [(IntKind.wrap .u8 (r24.length : Int))], [(IntKind.wrap .u8 (r31.length : Int))])))).bind fun y51 => ((slices_Concat_byte_byte.f ([y51.1, y51.2.1, y51.2.2.1, r24, y51.2.2.2, r31])).bind fun r428 => (some r428)))))))
def impl_TupleBytes.Q (w : World) (F : Nat → Prop) (r : (List Int)) (v : Value) (w' : World) : Prop :=
 FO Ye w w' [v] r ∧ Ky [] w w'
theorem impl_TupleBytes.calls (a0 : Tuple) (w : World) (F : Nat → Prop) (w0_0 : Value) (w0_1 : Value) (w0_2 : Value) (w0_3 : Value) (h0_0 : Kd.flt.rd w [w0_0] a0.Key.F F) (h0_1 : Ye.rd w [w0_1] a0.Key.T F) (h0_2 : Kd.flt.rd w [w0_2] a0.Value.F F) (h0_3 : Ye.rd w [w0_3] a0.Value.T F) (r : (List Int)) (m : impl_TupleBytes.f a0 = some r) :
  Calls prog 98 #[(.agg #[(iI a0.Xmin), (iI a0.Xmax), (iI a0.Key.Kind), (iI a0.Key.N), w0_0, w0_1, (iI a0.Value.Kind), (iI a0.Value.N), w0_2, w0_3])] w (RT (impl_TupleBytes.Q w F) r) := by
 obtain ⟨s0, rfl, kp0, z⟩ := Xg w F
 have A0_0 := fl_of h0_0
 have A0_1 := z.rd h0_1
 have A0_2 := fl_of h0_2
 have A0_3 := z.rd h0_3
 refine Xd (args := [(.agg #[(iI a0.Xmin), (iI a0.Xmax), (iI a0.Key.Kind), (iI a0.Key.N), w0_0, w0_1, (iI a0.Value.Kind), (iI a0.Value.N), w0_2, w0_3])]) func98 ntmps98 rfl rfl m ?_
 unfold impl_TupleBytes.f
 refine sr (bx' (cs := [(iI a0.Xmin), (iI a0.Xmax), (iI a0.Key.Kind), (iI a0.Key.N), w0_0, w0_1, (iI a0.Value.Kind), (iI a0.Value.N), w0_2, w0_3]) 40 rfl rfl (fun b3 s3 p3 B3 => ?_))
 refine Xb rfl (dn (sq (sr (Yc (es := [(iI a0.Xmin), (iI a0.Xmax), (iI a0.Key.Kind), (iI a0.Key.N), w0_0, w0_1, (iI a0.Value.Kind), (iI a0.Value.N), w0_2, w0_3]) B3 u49 z49 rfl ?_))))
 have K5 := kp0.st p3 rfl
 refine clV 41 rfl func96 rfl (impl_TupleOk.calls a0 s3.w (mm [0] s3) w0_0 w0_1 w0_2 w0_3 ((Xn (s := s3) A0_0).sub (D := [0]) rfl) (A0_1.kp K5) ((Xn (s := s3) A0_2).sub (D := [0]) rfl) (A0_3.kp K5)) (fun r8 s9 p9 n9 => ?_)
 refine Xb rfl (dn (cd rfl (fun h10 => ?_) (fun h10 => ?_)))
 ·
  refine sr (Xb rfl (dn ?_))
  have K11 := K5.st p9 rfl
  exact re rfl func98 rfl (Xo rfl Xe) rfl ⟨_, rfl, (ow_nil 5 (Kd.int .u8) s9 40).fo K11 rfl z.l, z.ky K11⟩
 refine sk (sq (zdraw [[], [0], [1], [], [3], [4, 2], [2, 5, 0, 1, 2], [5, 6, 0, 1, 2, 3, 4, 5, 6]] [some 8, some 9, some 10, some 11, some 12, some 13, some 3, some 4] [[1], [8], [9], [1], [11], [12], [10], [13]] [0, 1, 2, 3, 4, 5, 6, 7] ⟨by kernel_rfl, by kernel_rfl, by kernel_rfl⟩ (by kernel_rfl) (fun s12 p12 l12 tb12 zd12 => ?_)))
 refine zstep 2 [some 12, some 11] tb12 ((((zd12.add 0 8 (pO b3 2) rfl).add 1 9 (.agg #[(iI a0.Key.Kind), (iI a0.Key.N), w0_0, w0_1]) rfl).add 3 11 (pO b3 6) rfl).add 4 12 (.agg #[(iI a0.Value.Kind), (iI a0.Value.N), w0_2, w0_3]) rfl) (Xa (lda_q (es := [(iI a0.Value.Kind), (iI a0.Value.N), w0_2, w0_3]) (B3.st (Xs p9 p12) rfl) u47 z47 rfl rfl rfl rfl rfl rfl rfl rfl) rfl (Xa (Xx fa49_3 rfl) rfl (Xa (lda_q (es := [(iI a0.Key.Kind), (iI a0.Key.N), w0_0, w0_1]) (B3.st (Xs p9 p12) rfl) u47 z47 rfl rfl rfl rfl rfl rfl rfl rfl) rfl (Xa (Xx fa49_2 rfl) rfl Xk)))) (by kernel_rfl) rfl (fun l19 e19 zd19 => ?_)
 have K22 := K5.st (Xs p9 p12) rfl
 refine clO 42 rfl func111 rfl (impl_KeyBytes.calls a0.Key s12.w (mm [0] s12) w0_0 w0_1 ((Xn (s := s12) A0_0).sub (D := [0]) rfl) (A0_1.kp K22)) (fun r24 v24_0 s25 p25 A24_0 => ?_)
 refine Xy (L' := [4, 3]) (D' := [0, 1, 2]) zd19 rfl rfl rfl (fun zd27 => ?_)
 refine zfin [5, 6, 7] tb12 zd27 (Xa (lda_q (es := [(iI a0.Value.Kind), (iI a0.Value.N), w0_2, w0_3]) (B3.st (tr3 p9 p12 p25) rfl) u47 z47 rfl rfl rfl rfl rfl rfl rfl rfl) rfl (Xa (Xx fa49_3 rfl) rfl Xk)) (by kernel_rfl) (by decide) ?_
 have K29 := K22.st p25 rfl
 refine clO 43 rfl func114 rfl (impl_ValueBytes.calls a0.Value s25.w (mm [0] s25) w0_2 w0_3 ((Xn (s := s25) A0_2).sub (D := [0]) rfl) (A0_3.kp K29)) (fun r31 v31_0 s32 p32 A31_0 => ?_)
 refine Xp v24_0 rfl (Xp v31_0 rfl (dn (sq (zdraw [[], [0], [1], [], [3], [4, 2], [], [6], [7], [8], [], [], [11], [12], [13], [], [2, 5, 9, 10, 14, 15], [16, 5], [17, 17, 0, 1, 2, 3, 4, 5, 6, 7, 8, 9, 10, 11, 12, 13, 14, 15, 16, 17]] [some 14, some 15, some 16, some 17, some 18, some 19, some 20, some 21, some 22, some 23, some 24, some 25, some 26, some 27, some 28, some 29, some 30, some 31, some 2] [[1], [14], [15], [1], [17], [18], [3], [20], [21], [22], [3], [4], [25], [26], [27], [4], [16, 19, 23, 24, 28, 29], [30], [31]] [0, 1, 2, 3, 4, 5, 6, 7, 8, 9, 10, 11, 12, 13, 14, 15, 16, 17, 18] ⟨by kernel_rfl, by kernel_rfl, by kernel_rfl⟩ (by kernel_rfl) (fun s34 p34 l34 tb34 zd34 => ?_)))))
 have zd37 := (zd34.add 0 14 (pB b3) rfl).add 1 15 (iI a0.Xmin) rfl
 refine ji [16, 17, 18] (fun (y51 : (List Int) × (List Int) × (List Int) × (List Int)) e w => ∃ (s : St) (e0 : Env) (vy51_0 vy51_1 vy51_2 vy51_3 : Value), w = s.w ∧ e = upd (upd (upd (upd (upd (upd e0 16 vy51_0) 19 vy51_1) 23 vy51_2) 24 v24_0) 28 vy51_3) 29 v31_0 ∧ Kp s0 s ∧ OwF Ye s [vy51_0] y51.1 44 ∧ OwF Ye s [vy51_1] y51.2.1 45 ∧ OwF Ye s [vy51_2] y51.2.2.1 46 ∧ OwF Ye s [vy51_3] y51.2.2.2 47 ∧ OwF Ye s [v24_0] r24 42 ∧ OwF Ye s [v31_0] r31 43) (fun Gj51 Kj51 => ?_) ?_
 ·
  refine zstep3 2 9 14 [some 29, some 27, some 26, some 25, some 24, some 22, some 21, some 20, some 18, some 17] [some 29, some 27, some 26, some 25, some 24, some 18, some 17, some 15, some 14] [some 29, some 24, some 22, some 21, some 20, some 18, some 17, some 15, some 14] tb34 ((((((((((zd37.add 3 17 (pO b3 1) rfl).add 4 18 (iI a0.Xmax) rfl).add 6 20 v24_0 rfl).add 7 21 (iI (r24.length : Int)) rfl).add 8 22 (.int .u8 (IntKind.wrap .u8 (r24.length : Int))) rfl).add 10 24 v24_0 rfl).add 11 25 v31_0 rfl).add 12 26 (iI (r31.length : Int)) rfl).add 13 27 (.int .u8 (IntKind.wrap .u8 (r31.length : Int))) rfl).add 15 29 v31_0 rfl) (Xa (Xf v31_0 rfl) rfl (Xa (cv_q u5 u3 rfl rfl rfl rfl rfl rfl) rfl (Xa (ln_q (A31_0.st p34 rfl).rd u45 rfl rfl rfl rfl rfl rfl) rfl (Xa (Xf v31_0 rfl) rfl (Xa (Xf v24_0 rfl) rfl (Xa (cv_q u5 u3 rfl rfl rfl rfl rfl rfl) rfl (Xa (ln_q (A24_0.st (Xs p32 p34) rfl).rd u45 rfl rfl rfl rfl rfl rfl) rfl (Xa (Xf v24_0 rfl) rfl (Xa (Xz (B3.st (tr5 p9 p12 p25 p32 p34) rfl) u3 rfl) rfl (Xa (Xx fa49_1 rfl) rfl (Xa (Xz (B3.st (tr5 p9 p12 p25 p32 p34) rfl) u3 rfl) rfl (Xa (Xx fa49_0 rfl) rfl Xk)))))))))))) (by kernel_rfl) (by kernel_rfl) (fun l52 e52 zd52 => ?_) (fun l53 e53 zd53 => ?_) (fun l54 e54 zd54 => ?_)
  ·
   refine clO 48 rfl func116 rfl (impl_PutNum.calls a0.Xmin (4 : Int) s34.w (mm [] s34)) (fun r59 v59_0 s60 p60 A59_0 => ?_)
   refine Xy (L' := [15, 13, 12, 11, 10, 8, 7, 6, 4, 3]) (D' := [0, 1, 2]) zd52 rfl rfl rfl (fun zd62 => ?_)
   refine zstep3 5 9 14 [some 29, some 27, some 26, some 25, some 24, some 22, some 21, some 20] [some 29, some 27, some 26, some 25, some 24, some 18, some 17] [some 29, some 24, some 22, some 21, some 20, some 18, some 17] tb34 zd62 (Xa (Xf v31_0 rfl) rfl (Xa (cv_q u5 u3 rfl rfl rfl rfl rfl rfl) rfl (Xa (ln_q (A31_0.st (Xs p34 p60) rfl).rd u45 rfl rfl rfl rfl rfl rfl) rfl (Xa (Xf v31_0 rfl) rfl (Xa (Xf v24_0 rfl) rfl (Xa (cv_q u5 u3 rfl rfl rfl rfl rfl rfl) rfl (Xa (ln_q (A24_0.st (tr3 p32 p34 p60) rfl).rd u45 rfl rfl rfl rfl rfl rfl) rfl (Xa (Xf v24_0 rfl) rfl (Xa (Xz (B3.st (tr6 p9 p12 p25 p32 p34 p60) rfl) u3 rfl) rfl (Xa (Xx fa49_1 rfl) rfl Xk)))))))))) (by kernel_rfl) (by kernel_rfl) (fun l63 e63 zd63 => ?_) (fun l64 e64 zd64 => ?_) (fun l65 e65 zd65 => ?_)
   ·
    refine clO 49 rfl func116 rfl (impl_PutNum.calls a0.Xmax (4 : Int) s60.w (mm [] s60)) (fun r69 v69_0 s70 p70 A69_0 => ?_)
    refine Xy (L' := [15, 13, 12, 11, 10, 8, 7, 6]) (D' := [3, 4, 5, 0, 1, 2]) zd63 rfl rfl rfl (fun zd72 => ?_)
    refine zstep2 9 14 [some 29, some 27, some 26, some 25, some 24] [some 29, some 24, some 22, some 21, some 20] tb34 zd72 (Xa (Xf v31_0 rfl) rfl (Xa (cv_q u5 u3 rfl rfl rfl rfl rfl rfl) rfl (Xa (ln_q (A31_0.st (tr3 p34 p60 p70) rfl).rd u45 rfl rfl rfl rfl rfl rfl) rfl (Xa (Xf v31_0 rfl) rfl (Xa (Xf v24_0 rfl) rfl (Xa (cv_q u5 u3 rfl rfl rfl rfl rfl rfl) rfl (Xa (ln_q (A24_0.st (tr4 p32 p34 p60 p70) rfl).rd u45 rfl rfl rfl rfl rfl rfl) rfl (Xa (Xf v24_0 rfl) rfl Xk)))))))) (by kernel_rfl) (by kernel_rfl) (fun l73 e73 zd73 => ?_) (fun l74 e74 zd74 => ?_)
    ·
     refine ltF' (K := (Kd.int .u8)) (cells := [(.int .u8 (IntKind.wrap .u8 (r24.length : Int)))]) [(IntKind.wrap .u8 (r24.length : Int))] 50 Xq u45 z5 o5 (fun w => (Xv _ _ _)) rfl (fun v77 s77 p77 A77 => ?_)
     refine Xy (L' := [15, 13, 12, 11, 10]) (D' := [6, 7, 8, 9, 3, 4, 5, 0, 1, 2]) zd73 rfl rfl rfl (fun zd79 => ?_)
     refine zstep 14 [some 29, some 24] tb34 zd79 (Xa (Xf v31_0 rfl) rfl (Xa (cv_q u5 u3 rfl rfl rfl rfl rfl rfl) rfl (Xa (ln_q (A31_0.st (tr4 p34 p60 p70 p77) rfl).rd u45 rfl rfl rfl rfl rfl rfl) rfl (Xa (Xf v31_0 rfl) rfl (Xa (Xf v24_0 rfl) rfl Xk))))) (by kernel_rfl) rfl (fun l80 e80 zd80 => ?_)
     refine ltF' (K := (Kd.int .u8)) (cells := [(.int .u8 (IntKind.wrap .u8 (r31.length : Int)))]) [(IntKind.wrap .u8 (r31.length : Int))] 51 Xq u45 z5 o5 (fun w => (Xv _ _ _)) rfl (fun v82 s82 p82 A82 => ?_)
     refine Xy (L' := [15, 10]) (D' := [11, 12, 13, 14, 6, 7, 8, 9, 3, 4, 5, 0, 1, 2]) zd80 rfl rfl rfl (fun zd84 => ?_)
     refine zfin [16, 17, 18] tb34 zd84 (Xa (Xf v31_0 rfl) rfl (Xa (Xf v24_0 rfl) rfl Xk)) (by kernel_rfl) (by decide) ?_
     obtain ⟨s86, hw86, p86, A86⟩ := (A59_0.st (tr3 p70 p77 p82) rfl).rc 44 rfl
     rw [hw86]
     obtain ⟨s88, hw88, p88, A88⟩ := (A69_0.st (tr3 p77 p82 p86) rfl).rc 45 rfl
     rw [hw88]
     obtain ⟨s90, hw90, p90, A90⟩ := (A77.st (tr3 p82 p86 p88) rfl).rc 46 rfl
     rw [hw90]
     obtain ⟨s92, hw92, p92, A92⟩ := (A82.st (tr3 p86 p88 p90) rfl).rc 47 rfl
     rw [hw92]
     exact Kj51 _ _ _ ⟨s92, _, v59_0, v69_0, v77, v82, rfl, (ue (ue (ue (ue (ue (ue rfl rfl) rfl) rfl) rfl) rfl) rfl), (K29.st (tr10 p32 p34 p60 p70 p77 p82 p86 p88 p90 p92) rfl), (A86.st (tr3 p88 p90 p92) rfl), (A88.st (Xs p90 p92) rfl), (A90.st p92 rfl), A92, (A24_0.st (tr10 p32 p34 p60 p70 p77 p82 p86 p88 p90 p92) rfl), (A31_0.st (tr9 p34 p60 p70 p77 p82 p86 p88 p90 p92) rfl)⟩
    refine ltF' (K := (Kd.int .u8)) (cells := [(.int .u8 (IntKind.wrap .u8 (r31.length : Int)))]) [(IntKind.wrap .u8 (r31.length : Int))] 52 Xq u45 z5 o5 (fun w => (Xv _ _ _)) rfl (fun v99 s99 p99 A99 => ?_)
    refine Xy (L' := [15, 10, 8, 7, 6]) (D' := [11, 12, 13, 14, 3, 4, 5, 0, 1, 2]) zd74 rfl rfl rfl (fun zd101 => ?_)
    refine zstep 9 [some 29, some 24] tb34 zd101 (Xa (Xf v31_0 rfl) rfl (Xa (Xf v24_0 rfl) rfl (Xa (cv_q u5 u3 rfl rfl rfl rfl rfl rfl) rfl (Xa (ln_q (A24_0.st (tr5 p32 p34 p60 p70 p99) rfl).rd u45 rfl rfl rfl rfl rfl rfl) rfl (Xa (Xf v24_0 rfl) rfl Xk))))) (by kernel_rfl) rfl (fun l102 e102 zd102 => ?_)
    refine ltF' (K := (Kd.int .u8)) (cells := [(.int .u8 (IntKind.wrap .u8 (r24.length : Int)))]) [(IntKind.wrap .u8 (r24.length : Int))] 53 Xq u45 z5 o5 (fun w => (Xv _ _ _)) rfl (fun v104 s104 p104 A104 => ?_)
    refine Xy (L' := [15, 10]) (D' := [6, 7, 8, 9, 11, 12, 13, 14, 3, 4, 5, 0, 1, 2]) zd102 rfl rfl rfl (fun zd106 => ?_)
    refine zfin [16, 17, 18] tb34 zd106 (Xa (Xf v31_0 rfl) rfl (Xa (Xf v24_0 rfl) rfl Xk)) (by kernel_rfl) (by decide) ?_
    obtain ⟨s108, hw108, p108, A108⟩ := (A59_0.st (tr3 p70 p99 p104) rfl).rc 44 rfl
    rw [hw108]
    obtain ⟨s110, hw110, p110, A110⟩ := (A69_0.st (tr3 p99 p104 p108) rfl).rc 45 rfl
    rw [hw110]
    obtain ⟨s112, hw112, p112, A112⟩ := (A104.st (Xs p108 p110) rfl).rc 46 rfl
    rw [hw112]
    obtain ⟨s114, hw114, p114, A114⟩ := (A99.st (tr4 p104 p108 p110 p112) rfl).rc 47 rfl
    rw [hw114]
    exact Kj51 _ _ _ ⟨s114, _, v59_0, v69_0, v104, v99, rfl, (ue (ue (ue (ue (ue (ue rfl rfl) rfl) rfl) rfl) rfl) rfl), (K29.st (tr10 p32 p34 p60 p70 p99 p104 p108 p110 p112 p114) rfl), (A108.st (tr3 p110 p112 p114) rfl), (A110.st (Xs p112 p114) rfl), (A112.st p114 rfl), A114, (A24_0.st (tr10 p32 p34 p60 p70 p99 p104 p108 p110 p112 p114) rfl), (A31_0.st (tr9 p34 p60 p70 p99 p104 p108 p110 p112 p114) rfl)⟩
   ·
    refine ltF' (K := (Kd.int .u8)) (cells := [(.int .u8 (IntKind.wrap .u8 (r24.length : Int)))]) [(IntKind.wrap .u8 (r24.length : Int))] 54 Xq u45 z5 o5 (fun w => (Xv _ _ _)) rfl (fun v121 s121 p121 A121 => ?_)
    refine Xy (L' := [15, 13, 12, 11, 10, 4, 3]) (D' := [6, 7, 8, 9, 0, 1, 2]) zd64 rfl rfl rfl (fun zd123 => ?_)
    refine zstep2 5 14 [some 29, some 27, some 26, some 25, some 24] [some 29, some 24, some 18, some 17] tb34 zd123 (Xa (Xf v31_0 rfl) rfl (Xa (cv_q u5 u3 rfl rfl rfl rfl rfl rfl) rfl (Xa (ln_q (A31_0.st (tr3 p34 p60 p121) rfl).rd u45 rfl rfl rfl rfl rfl rfl) rfl (Xa (Xf v31_0 rfl) rfl (Xa (Xf v24_0 rfl) rfl (Xa (Xz (B3.st (tr7 p9 p12 p25 p32 p34 p60 p121) rfl) u3 rfl) rfl (Xa (Xx fa49_1 rfl) rfl Xk))))))) (by kernel_rfl) (by kernel_rfl) (fun l124 e124 zd124 => ?_) (fun l125 e125 zd125 => ?_)
    ·
     refine clO 55 rfl func116 rfl (impl_PutNum.calls a0.Xmax (4 : Int) s121.w (mm [] s121)) (fun r128 v128_0 s129 p129 A128_0 => ?_)
     refine Xy (L' := [15, 13, 12, 11, 10]) (D' := [3, 4, 5, 6, 7, 8, 9, 0, 1, 2]) zd124 rfl rfl rfl (fun zd131 => ?_)
     refine zstep 14 [some 29, some 24] tb34 zd131 (Xa (Xf v31_0 rfl) rfl (Xa (cv_q u5 u3 rfl rfl rfl rfl rfl rfl) rfl (Xa (ln_q (A31_0.st (tr4 p34 p60 p121 p129) rfl).rd u45 rfl rfl rfl rfl rfl rfl) rfl (Xa (Xf v31_0 rfl) rfl (Xa (Xf v24_0 rfl) rfl Xk))))) (by kernel_rfl) rfl (fun l132 e132 zd132 => ?_)
     refine ltF' (K := (Kd.int .u8)) (cells := [(.int .u8 (IntKind.wrap .u8 (r31.length : Int)))]) [(IntKind.wrap .u8 (r31.length : Int))] 56 Xq u45 z5 o5 (fun w => (Xv _ _ _)) rfl (fun v134 s134 p134 A134 => ?_)
     refine Xy (L' := [15, 10]) (D' := [11, 12, 13, 14, 3, 4, 5, 6, 7, 8, 9, 0, 1, 2]) zd132 rfl rfl rfl (fun zd136 => ?_)
     refine zfin [16, 17, 18] tb34 zd136 (Xa (Xf v31_0 rfl) rfl (Xa (Xf v24_0 rfl) rfl Xk)) (by kernel_rfl) (by decide) ?_
     obtain ⟨s138, hw138, p138, A138⟩ := (A59_0.st (tr3 p121 p129 p134) rfl).rc 44 rfl
     rw [hw138]
     obtain ⟨s140, hw140, p140, A140⟩ := (A128_0.st (Xs p134 p138) rfl).rc 45 rfl
     rw [hw140]
     obtain ⟨s142, hw142, p142, A142⟩ := (A121.st (tr4 p129 p134 p138 p140) rfl).rc 46 rfl
     rw [hw142]
     obtain ⟨s144, hw144, p144, A144⟩ := (A134.st (tr3 p138 p140 p142) rfl).rc 47 rfl
     rw [hw144]
     exact Kj51 _ _ _ ⟨s144, _, v59_0, v128_0, v121, v134, rfl, (ue (ue (ue (ue (ue (ue rfl rfl) rfl) rfl) rfl) rfl) rfl), (K29.st (tr10 p32 p34 p60 p121 p129 p134 p138 p140 p142 p144) rfl), (A138.st (tr3 p140 p142 p144) rfl), (A140.st (Xs p142 p144) rfl), (A142.st p144 rfl), A144, (A24_0.st (tr10 p32 p34 p60 p121 p129 p134 p138 p140 p142 p144) rfl), (A31_0.st (tr9 p34 p60 p121 p129 p134 p138 p140 p142 p144) rfl)⟩
    refine ltF' (K := (Kd.int .u8)) (cells := [(.int .u8 (IntKind.wrap .u8 (r31.length : Int)))]) [(IntKind.wrap .u8 (r31.length : Int))] 57 Xq u45 z5 o5 (fun w => (Xv _ _ _)) rfl (fun v151 s151 p151 A151 => ?_)
    refine Xy (L' := [15, 10, 4, 3]) (D' := [11, 12, 13, 14, 6, 7, 8, 9, 0, 1, 2]) zd125 rfl rfl rfl (fun zd153 => ?_)
    refine zstep 5 [some 29, some 24] tb34 zd153 (Xa (Xf v31_0 rfl) rfl (Xa (Xf v24_0 rfl) rfl (Xa (Xz (B3.st (tr8 p9 p12 p25 p32 p34 p60 p121 p151) rfl) u3 rfl) rfl (Xa (Xx fa49_1 rfl) rfl Xk)))) (by kernel_rfl) rfl (fun l154 e154 zd154 => ?_)
    refine clO 58 rfl func116 rfl (impl_PutNum.calls a0.Xmax (4 : Int) s151.w (mm [] s151)) (fun r156 v156_0 s157 p157 A156_0 => ?_)
    refine Xy (L' := [15, 10]) (D' := [3, 4, 5, 11, 12, 13, 14, 6, 7, 8, 9, 0, 1, 2]) zd154 rfl rfl rfl (fun zd159 => ?_)
    refine zfin [16, 17, 18] tb34 zd159 (Xa (Xf v31_0 rfl) rfl (Xa (Xf v24_0 rfl) rfl Xk)) (by kernel_rfl) (by decide) ?_
    obtain ⟨s161, hw161, p161, A161⟩ := (A59_0.st (tr3 p121 p151 p157) rfl).rc 44 rfl
    rw [hw161]
    obtain ⟨s163, hw163, p163, A163⟩ := (A156_0.st p161 rfl).rc 45 rfl
    rw [hw163]
    obtain ⟨s165, hw165, p165, A165⟩ := (A121.st (tr4 p151 p157 p161 p163) rfl).rc 46 rfl
    rw [hw165]
    obtain ⟨s167, hw167, p167, A167⟩ := (A151.st (tr4 p157 p161 p163 p165) rfl).rc 47 rfl
    rw [hw167]
    exact Kj51 _ _ _ ⟨s167, _, v59_0, v156_0, v121, v151, rfl, (ue (ue (ue (ue (ue (ue rfl rfl) rfl) rfl) rfl) rfl) rfl), (K29.st (tr10 p32 p34 p60 p121 p151 p157 p161 p163 p165 p167) rfl), (A161.st (tr3 p163 p165 p167) rfl), (A163.st (Xs p165 p167) rfl), (A165.st p167 rfl), A167, (A24_0.st (tr10 p32 p34 p60 p121 p151 p157 p161 p163 p165 p167) rfl), (A31_0.st (tr9 p34 p60 p121 p151 p157 p161 p163 p165 p167) rfl)⟩
   refine ltF' (K := (Kd.int .u8)) (cells := [(.int .u8 (IntKind.wrap .u8 (r31.length : Int)))]) [(IntKind.wrap .u8 (r31.length : Int))] 59 Xq u45 z5 o5 (fun w => (Xv _ _ _)) rfl (fun v174 s174 p174 A174 => ?_)
   refine Xy (L' := [15, 10, 8, 7, 6, 4, 3]) (D' := [11, 12, 13, 14, 0, 1, 2]) zd65 rfl rfl rfl (fun zd176 => ?_)
   refine zstep2 5 9 [some 29, some 24, some 22, some 21, some 20] [some 29, some 24, some 18, some 17] tb34 zd176 (Xa (Xf v31_0 rfl) rfl (Xa (Xf v24_0 rfl) rfl (Xa (cv_q u5 u3 rfl rfl rfl rfl rfl rfl) rfl (Xa (ln_q (A24_0.st (tr4 p32 p34 p60 p174) rfl).rd u45 rfl rfl rfl rfl rfl rfl) rfl (Xa (Xf v24_0 rfl) rfl (Xa (Xz (B3.st (tr7 p9 p12 p25 p32 p34 p60 p174) rfl) u3 rfl) rfl (Xa (Xx fa49_1 rfl) rfl Xk))))))) (by kernel_rfl) (by kernel_rfl) (fun l177 e177 zd177 => ?_) (fun l178 e178 zd178 => ?_)
   ·
    refine clO 60 rfl func116 rfl (impl_PutNum.calls a0.Xmax (4 : Int) s174.w (mm [] s174)) (fun r181 v181_0 s182 p182 A181_0 => ?_)
    refine Xy (L' := [15, 10, 8, 7, 6]) (D' := [3, 4, 5, 11, 12, 13, 14, 0, 1, 2]) zd177 rfl rfl rfl (fun zd184 => ?_)
    refine zstep 9 [some 29, some 24] tb34 zd184 (Xa (Xf v31_0 rfl) rfl (Xa (Xf v24_0 rfl) rfl (Xa (cv_q u5 u3 rfl rfl rfl rfl rfl rfl) rfl (Xa (ln_q (A24_0.st (tr5 p32 p34 p60 p174 p182) rfl).rd u45 rfl rfl rfl rfl rfl rfl) rfl (Xa (Xf v24_0 rfl) rfl Xk))))) (by kernel_rfl) rfl (fun l185 e185 zd185 => ?_)
    refine ltF' (K := (Kd.int .u8)) (cells := [(.int .u8 (IntKind.wrap .u8 (r24.length : Int)))]) [(IntKind.wrap .u8 (r24.length : Int))] 61 Xq u45 z5 o5 (fun w => (Xv _ _ _)) rfl (fun v187 s187 p187 A187 => ?_)
    refine Xy (L' := [15, 10]) (D' := [6, 7, 8, 9, 3, 4, 5, 11, 12, 13, 14, 0, 1, 2]) zd185 rfl rfl rfl (fun zd189 => ?_)
    refine zfin [16, 17, 18] tb34 zd189 (Xa (Xf v31_0 rfl) rfl (Xa (Xf v24_0 rfl) rfl Xk)) (by kernel_rfl) (by decide) ?_
    obtain ⟨s191, hw191, p191, A191⟩ := (A59_0.st (tr3 p174 p182 p187) rfl).rc 44 rfl
    rw [hw191]
    obtain ⟨s193, hw193, p193, A193⟩ := (A181_0.st (Xs p187 p191) rfl).rc 45 rfl
    rw [hw193]
    obtain ⟨s195, hw195, p195, A195⟩ := (A187.st (Xs p191 p193) rfl).rc 46 rfl
    rw [hw195]
    obtain ⟨s197, hw197, p197, A197⟩ := (A174.st (tr5 p182 p187 p191 p193 p195) rfl).rc 47 rfl
    rw [hw197]
    exact Kj51 _ _ _ ⟨s197, _, v59_0, v181_0, v187, v174, rfl, (ue (ue (ue (ue (ue (ue rfl rfl) rfl) rfl) rfl) rfl) rfl), (K29.st (tr10 p32 p34 p60 p174 p182 p187 p191 p193 p195 p197) rfl), (A191.st (tr3 p193 p195 p197) rfl), (A193.st (Xs p195 p197) rfl), (A195.st p197 rfl), A197, (A24_0.st (tr10 p32 p34 p60 p174 p182 p187 p191 p193 p195 p197) rfl), (A31_0.st (tr9 p34 p60 p174 p182 p187 p191 p193 p195 p197) rfl)⟩
   refine ltF' (K := (Kd.int .u8)) (cells := [(.int .u8 (IntKind.wrap .u8 (r24.length : Int)))]) [(IntKind.wrap .u8 (r24.length : Int))] 62 Xq u45 z5 o5 (fun w => (Xv _ _ _)) rfl (fun v204 s204 p204 A204 => ?_)
   refine Xy (L' := [15, 10, 4, 3]) (D' := [6, 7, 8, 9, 11, 12, 13, 14, 0, 1, 2]) zd178 rfl rfl rfl (fun zd206 => ?_)
   refine zstep 5 [some 29, some 24] tb34 zd206 (Xa (Xf v31_0 rfl) rfl (Xa (Xf v24_0 rfl) rfl (Xa (Xz (B3.st (tr8 p9 p12 p25 p32 p34 p60 p174 p204) rfl) u3 rfl) rfl (Xa (Xx fa49_1 rfl) rfl Xk)))) (by kernel_rfl) rfl (fun l207 e207 zd207 => ?_)
   refine clO 63 rfl func116 rfl (impl_PutNum.calls a0.Xmax (4 : Int) s204.w (mm [] s204)) (fun r209 v209_0 s210 p210 A209_0 => ?_)
   refine Xy (L' := [15, 10]) (D' := [3, 4, 5, 6, 7, 8, 9, 11, 12, 13, 14, 0, 1, 2]) zd207 rfl rfl rfl (fun zd212 => ?_)
   refine zfin [16, 17, 18] tb34 zd212 (Xa (Xf v31_0 rfl) rfl (Xa (Xf v24_0 rfl) rfl Xk)) (by kernel_rfl) (by decide) ?_
   obtain ⟨s214, hw214, p214, A214⟩ := (A59_0.st (tr3 p174 p204 p210) rfl).rc 44 rfl
   rw [hw214]
   obtain ⟨s216, hw216, p216, A216⟩ := (A209_0.st p214 rfl).rc 45 rfl
   rw [hw216]
   obtain ⟨s218, hw218, p218, A218⟩ := (A204.st (tr3 p210 p214 p216) rfl).rc 46 rfl
   rw [hw218]
   obtain ⟨s220, hw220, p220, A220⟩ := (A174.st (tr5 p204 p210 p214 p216 p218) rfl).rc 47 rfl
   rw [hw220]
   exact Kj51 _ _ _ ⟨s220, _, v59_0, v209_0, v204, v174, rfl, (ue (ue (ue (ue (ue (ue rfl rfl) rfl) rfl) rfl) rfl) rfl), (K29.st (tr10 p32 p34 p60 p174 p204 p210 p214 p216 p218 p220) rfl), (A214.st (tr3 p216 p218 p220) rfl), (A216.st (Xs p218 p220) rfl), (A218.st p220 rfl), A220, (A24_0.st (tr10 p32 p34 p60 p174 p204 p210 p214 p216 p218 p220) rfl), (A31_0.st (tr9 p34 p60 p174 p204 p210 p214 p216 p218 p220) rfl)⟩
  ·
   refine ltF' (K := (Kd.int .u8)) (cells := [(.int .u8 (IntKind.wrap .u8 (r24.length : Int)))]) [(IntKind.wrap .u8 (r24.length : Int))] 64 Xq u45 z5 o5 (fun w => (Xv _ _ _)) rfl (fun v227 s227 p227 A227 => ?_)
   refine Xy (L' := [15, 13, 12, 11, 10, 4, 3, 1, 0]) (D' := [6, 7, 8, 9]) zd53 rfl rfl rfl (fun zd229 => ?_)
   refine zstep2 2 14 [some 29, some 27, some 26, some 25, some 24, some 18, some 17] [some 29, some 24, some 18, some 17, some 15, some 14] tb34 zd229 (Xa (Xf v31_0 rfl) rfl (Xa (cv_q u5 u3 rfl rfl rfl rfl rfl rfl) rfl (Xa (ln_q (A31_0.st (Xs p34 p227) rfl).rd u45 rfl rfl rfl rfl rfl rfl) rfl (Xa (Xf v31_0 rfl) rfl (Xa (Xf v24_0 rfl) rfl (Xa (Xz (B3.st (tr6 p9 p12 p25 p32 p34 p227) rfl) u3 rfl) rfl (Xa (Xx fa49_1 rfl) rfl (Xa (Xz (B3.st (tr6 p9 p12 p25 p32 p34 p227) rfl) u3 rfl) rfl (Xa (Xx fa49_0 rfl) rfl Xk))))))))) (by kernel_rfl) (by kernel_rfl) (fun l230 e230 zd230 => ?_) (fun l231 e231 zd231 => ?_)
   ·
    refine clO 65 rfl func116 rfl (impl_PutNum.calls a0.Xmin (4 : Int) s227.w (mm [] s227)) (fun r235 v235_0 s236 p236 A235_0 => ?_)
    refine Xy (L' := [15, 13, 12, 11, 10, 4, 3]) (D' := [0, 1, 2, 6, 7, 8, 9]) zd230 rfl rfl rfl (fun zd238 => ?_)
    refine zstep2 5 14 [some 29, some 27, some 26, some 25, some 24] [some 29, some 24, some 18, some 17] tb34 zd238 (Xa (Xf v31_0 rfl) rfl (Xa (cv_q u5 u3 rfl rfl rfl rfl rfl rfl) rfl (Xa (ln_q (A31_0.st (tr3 p34 p227 p236) rfl).rd u45 rfl rfl rfl rfl rfl rfl) rfl (Xa (Xf v31_0 rfl) rfl (Xa (Xf v24_0 rfl) rfl (Xa (Xz (B3.st (tr7 p9 p12 p25 p32 p34 p227 p236) rfl) u3 rfl) rfl (Xa (Xx fa49_1 rfl) rfl Xk))))))) (by kernel_rfl) (by kernel_rfl) (fun l239 e239 zd239 => ?_) (fun l240 e240 zd240 => ?_)
    ·
     refine clO 66 rfl func116 rfl (impl_PutNum.calls a0.Xmax (4 : Int) s236.w (mm [] s236)) (fun r243 v243_0 s244 p244 A243_0 => ?_)
     refine Xy (L' := [15, 13, 12, 11, 10]) (D' := [3, 4, 5, 0, 1, 2, 6, 7, 8, 9]) zd239 rfl rfl rfl (fun zd246 => ?_)
     refine zstep 14 [some 29, some 24] tb34 zd246 (Xa (Xf v31_0 rfl) rfl (Xa (cv_q u5 u3 rfl rfl rfl rfl rfl rfl) rfl (Xa (ln_q (A31_0.st (tr4 p34 p227 p236 p244) rfl).rd u45 rfl rfl rfl rfl rfl rfl) rfl (Xa (Xf v31_0 rfl) rfl (Xa (Xf v24_0 rfl) rfl Xk))))) (by kernel_rfl) rfl (fun l247 e247 zd247 => ?_)
     refine ltF' (K := (Kd.int .u8)) (cells := [(.int .u8 (IntKind.wrap .u8 (r31.length : Int)))]) [(IntKind.wrap .u8 (r31.length : Int))] 67 Xq u45 z5 o5 (fun w => (Xv _ _ _)) rfl (fun v249 s249 p249 A249 => ?_)
     refine Xy (L' := [15, 10]) (D' := [11, 12, 13, 14, 3, 4, 5, 0, 1, 2, 6, 7, 8, 9]) zd247 rfl rfl rfl (fun zd251 => ?_)
     refine zfin [16, 17, 18] tb34 zd251 (Xa (Xf v31_0 rfl) rfl (Xa (Xf v24_0 rfl) rfl Xk)) (by kernel_rfl) (by decide) ?_
     obtain ⟨s253, hw253, p253, A253⟩ := (A235_0.st (Xs p244 p249) rfl).rc 44 rfl
     rw [hw253]
     obtain ⟨s255, hw255, p255, A255⟩ := (A243_0.st (Xs p249 p253) rfl).rc 45 rfl
     rw [hw255]
     obtain ⟨s257, hw257, p257, A257⟩ := (A227.st (tr5 p236 p244 p249 p253 p255) rfl).rc 46 rfl
     rw [hw257]
     obtain ⟨s259, hw259, p259, A259⟩ := (A249.st (tr3 p253 p255 p257) rfl).rc 47 rfl
     rw [hw259]
     exact Kj51 _ _ _ ⟨s259, _, v235_0, v243_0, v227, v249, rfl, (ue (ue (ue (ue (ue (ue rfl rfl) rfl) rfl) rfl) rfl) rfl), (K29.st (tr10 p32 p34 p227 p236 p244 p249 p253 p255 p257 p259) rfl), (A253.st (tr3 p255 p257 p259) rfl), (A255.st (Xs p257 p259) rfl), (A257.st p259 rfl), A259, (A24_0.st (tr10 p32 p34 p227 p236 p244 p249 p253 p255 p257 p259) rfl), (A31_0.st (tr9 p34 p227 p236 p244 p249 p253 p255 p257 p259) rfl)⟩
    refine ltF' (K := (Kd.int .u8)) (cells := [(.int .u8 (IntKind.wrap .u8 (r31.length : Int)))]) [(IntKind.wrap .u8 (r31.length : Int))] 68 Xq u45 z5 o5 (fun w => (Xv _ _ _)) rfl (fun v266 s266 p266 A266 => ?_)
    refine Xy (L' := [15, 10, 4, 3]) (D' := [11, 12, 13, 14, 0, 1, 2, 6, 7, 8, 9]) zd240 rfl rfl rfl (fun zd268 => ?_)
    refine zstep 5 [some 29, some 24] tb34 zd268 (Xa (Xf v31_0 rfl) rfl (Xa (Xf v24_0 rfl) rfl (Xa (Xz (B3.st (tr8 p9 p12 p25 p32 p34 p227 p236 p266) rfl) u3 rfl) rfl (Xa (Xx fa49_1 rfl) rfl Xk)))) (by kernel_rfl) rfl (fun l269 e269 zd269 => ?_)
    refine clO 69 rfl func116 rfl (impl_PutNum.calls a0.Xmax (4 : Int) s266.w (mm [] s266)) (fun r271 v271_0 s272 p272 A271_0 => ?_)
    refine Xy (L' := [15, 10]) (D' := [3, 4, 5, 11, 12, 13, 14, 0, 1, 2, 6, 7, 8, 9]) zd269 rfl rfl rfl (fun zd274 => ?_)
    refine zfin [16, 17, 18] tb34 zd274 (Xa (Xf v31_0 rfl) rfl (Xa (Xf v24_0 rfl) rfl Xk)) (by kernel_rfl) (by decide) ?_
    obtain ⟨s276, hw276, p276, A276⟩ := (A235_0.st (Xs p266 p272) rfl).rc 44 rfl
    rw [hw276]
    obtain ⟨s278, hw278, p278, A278⟩ := (A271_0.st p276 rfl).rc 45 rfl
    rw [hw278]
    obtain ⟨s280, hw280, p280, A280⟩ := (A227.st (tr5 p236 p266 p272 p276 p278) rfl).rc 46 rfl
    rw [hw280]
    obtain ⟨s282, hw282, p282, A282⟩ := (A266.st (tr4 p272 p276 p278 p280) rfl).rc 47 rfl
    rw [hw282]
    exact Kj51 _ _ _ ⟨s282, _, v235_0, v271_0, v227, v266, rfl, (ue (ue (ue (ue (ue (ue rfl rfl) rfl) rfl) rfl) rfl) rfl), (K29.st (tr10 p32 p34 p227 p236 p266 p272 p276 p278 p280 p282) rfl), (A276.st (tr3 p278 p280 p282) rfl), (A278.st (Xs p280 p282) rfl), (A280.st p282 rfl), A282, (A24_0.st (tr10 p32 p34 p227 p236 p266 p272 p276 p278 p280 p282) rfl), (A31_0.st (tr9 p34 p227 p236 p266 p272 p276 p278 p280 p282) rfl)⟩
   refine ltF' (K := (Kd.int .u8)) (cells := [(.int .u8 (IntKind.wrap .u8 (r31.length : Int)))]) [(IntKind.wrap .u8 (r31.length : Int))] 70 Xq u45 z5 o5 (fun w => (Xv _ _ _)) rfl (fun v289 s289 p289 A289 => ?_)
   refine Xy (L' := [15, 10, 4, 3, 1, 0]) (D' := [11, 12, 13, 14, 6, 7, 8, 9]) zd231 rfl rfl rfl (fun zd291 => ?_)
   refine zstep 2 [some 29, some 24, some 18, some 17] tb34 zd291 (Xa (Xf v31_0 rfl) rfl (Xa (Xf v24_0 rfl) rfl (Xa (Xz (B3.st (tr7 p9 p12 p25 p32 p34 p227 p289) rfl) u3 rfl) rfl (Xa (Xx fa49_1 rfl) rfl (Xa (Xz (B3.st (tr7 p9 p12 p25 p32 p34 p227 p289) rfl) u3 rfl) rfl (Xa (Xx fa49_0 rfl) rfl Xk)))))) (by kernel_rfl) rfl (fun l292 e292 zd292 => ?_)
   refine clO 71 rfl func116 rfl (impl_PutNum.calls a0.Xmin (4 : Int) s289.w (mm [] s289)) (fun r295 v295_0 s296 p296 A295_0 => ?_)
   refine Xy (L' := [15, 10, 4, 3]) (D' := [0, 1, 2, 11, 12, 13, 14, 6, 7, 8, 9]) zd292 rfl rfl rfl (fun zd298 => ?_)
   refine zstep 5 [some 29, some 24] tb34 zd298 (Xa (Xf v31_0 rfl) rfl (Xa (Xf v24_0 rfl) rfl (Xa (Xz (B3.st (tr8 p9 p12 p25 p32 p34 p227 p289 p296) rfl) u3 rfl) rfl (Xa (Xx fa49_1 rfl) rfl Xk)))) (by kernel_rfl) rfl (fun l299 e299 zd299 => ?_)
   refine clO 72 rfl func116 rfl (impl_PutNum.calls a0.Xmax (4 : Int) s296.w (mm [] s296)) (fun r301 v301_0 s302 p302 A301_0 => ?_)
   refine Xy (L' := [15, 10]) (D' := [3, 4, 5, 0, 1, 2, 11, 12, 13, 14, 6, 7, 8, 9]) zd299 rfl rfl rfl (fun zd304 => ?_)
   refine zfin [16, 17, 18] tb34 zd304 (Xa (Xf v31_0 rfl) rfl (Xa (Xf v24_0 rfl) rfl Xk)) (by kernel_rfl) (by decide) ?_
   obtain ⟨s306, hw306, p306, A306⟩ := (A295_0.st p302 rfl).rc 44 rfl
   rw [hw306]
   obtain ⟨s308, hw308, p308, A308⟩ := (A301_0.st p306 rfl).rc 45 rfl
   rw [hw308]
   obtain ⟨s310, hw310, p310, A310⟩ := (A227.st (tr5 p289 p296 p302 p306 p308) rfl).rc 46 rfl
   rw [hw310]
   obtain ⟨s312, hw312, p312, A312⟩ := (A289.st (tr5 p296 p302 p306 p308 p310) rfl).rc 47 rfl
   rw [hw312]
   exact Kj51 _ _ _ ⟨s312, _, v295_0, v301_0, v227, v289, rfl, (ue (ue (ue (ue (ue (ue rfl rfl) rfl) rfl) rfl) rfl) rfl), (K29.st (tr10 p32 p34 p227 p289 p296 p302 p306 p308 p310 p312) rfl), (A306.st (tr3 p308 p310 p312) rfl), (A308.st (Xs p310 p312) rfl), (A310.st p312 rfl), A312, (A24_0.st (tr10 p32 p34 p227 p289 p296 p302 p306 p308 p310 p312) rfl), (A31_0.st (tr9 p34 p227 p289 p296 p302 p306 p308 p310 p312) rfl)⟩
  refine ltF' (K := (Kd.int .u8)) (cells := [(.int .u8 (IntKind.wrap .u8 (r31.length : Int)))]) [(IntKind.wrap .u8 (r31.length : Int))] 73 Xq u45 z5 o5 (fun w => (Xv _ _ _)) rfl (fun v319 s319 p319 A319 => ?_)
  refine Xy (L' := [15, 10, 8, 7, 6, 4, 3, 1, 0]) (D' := [11, 12, 13, 14]) zd54 rfl rfl rfl (fun zd321 => ?_)
  refine zstep2 2 9 [some 29, some 24, some 22, some 21, some 20, some 18, some 17] [some 29, some 24, some 18, some 17, some 15, some 14] tb34 zd321 (Xa (Xf v31_0 rfl) rfl (Xa (Xf v24_0 rfl) rfl (Xa (cv_q u5 u3 rfl rfl rfl rfl rfl rfl) rfl (Xa (ln_q (A24_0.st (tr3 p32 p34 p319) rfl).rd u45 rfl rfl rfl rfl rfl rfl) rfl (Xa (Xf v24_0 rfl) rfl (Xa (Xz (B3.st (tr6 p9 p12 p25 p32 p34 p319) rfl) u3 rfl) rfl (Xa (Xx fa49_1 rfl) rfl (Xa (Xz (B3.st (tr6 p9 p12 p25 p32 p34 p319) rfl) u3 rfl) rfl (Xa (Xx fa49_0 rfl) rfl Xk))))))))) (by kernel_rfl) (by kernel_rfl) (fun l322 e322 zd322 => ?_) (fun l323 e323 zd323 => ?_)
  ·
   refine clO 74 rfl func116 rfl (impl_PutNum.calls a0.Xmin (4 : Int) s319.w (mm [] s319)) (fun r327 v327_0 s328 p328 A327_0 => ?_)
   refine Xy (L' := [15, 10, 8, 7, 6, 4, 3]) (D' := [0, 1, 2, 11, 12, 13, 14]) zd322 rfl rfl rfl (fun zd330 => ?_)
   refine zstep2 5 9 [some 29, some 24, some 22, some 21, some 20] [some 29, some 24, some 18, some 17] tb34 zd330 (Xa (Xf v31_0 rfl) rfl (Xa (Xf v24_0 rfl) rfl (Xa (cv_q u5 u3 rfl rfl rfl rfl rfl rfl) rfl (Xa (ln_q (A24_0.st (tr4 p32 p34 p319 p328) rfl).rd u45 rfl rfl rfl rfl rfl rfl) rfl (Xa (Xf v24_0 rfl) rfl (Xa (Xz (B3.st (tr7 p9 p12 p25 p32 p34 p319 p328) rfl) u3 rfl) rfl (Xa (Xx fa49_1 rfl) rfl Xk))))))) (by kernel_rfl) (by kernel_rfl) (fun l331 e331 zd331 => ?_) (fun l332 e332 zd332 => ?_)
   ·
    refine clO 75 rfl func116 rfl (impl_PutNum.calls a0.Xmax (4 : Int) s328.w (mm [] s328)) (fun r335 v335_0 s336 p336 A335_0 => ?_)
    refine Xy (L' := [15, 10, 8, 7, 6]) (D' := [3, 4, 5, 0, 1, 2, 11, 12, 13, 14]) zd331 rfl rfl rfl (fun zd338 => ?_)
    refine zstep 9 [some 29, some 24] tb34 zd338 (Xa (Xf v31_0 rfl) rfl (Xa (Xf v24_0 rfl) rfl (Xa (cv_q u5 u3 rfl rfl rfl rfl rfl rfl) rfl (Xa (ln_q (A24_0.st (tr5 p32 p34 p319 p328 p336) rfl).rd u45 rfl rfl rfl rfl rfl rfl) rfl (Xa (Xf v24_0 rfl) rfl Xk))))) (by kernel_rfl) rfl (fun l339 e339 zd339 => ?_)
    refine ltF' (K := (Kd.int .u8)) (cells := [(.int .u8 (IntKind.wrap .u8 (r24.length : Int)))]) [(IntKind.wrap .u8 (r24.length : Int))] 76 Xq u45 z5 o5 (fun w => (Xv _ _ _)) rfl (fun v341 s341 p341 A341 => ?_)
    refine Xy (L' := [15, 10]) (D' := [6, 7, 8, 9, 3, 4, 5, 0, 1, 2, 11, 12, 13, 14]) zd339 rfl rfl rfl (fun zd343 => ?_)
    refine zfin [16, 17, 18] tb34 zd343 (Xa (Xf v31_0 rfl) rfl (Xa (Xf v24_0 rfl) rfl Xk)) (by kernel_rfl) (by decide) ?_
    obtain ⟨s345, hw345, p345, A345⟩ := (A327_0.st (Xs p336 p341) rfl).rc 44 rfl
    rw [hw345]
    obtain ⟨s347, hw347, p347, A347⟩ := (A335_0.st (Xs p341 p345) rfl).rc 45 rfl
    rw [hw347]
    obtain ⟨s349, hw349, p349, A349⟩ := (A341.st (Xs p345 p347) rfl).rc 46 rfl
    rw [hw349]
    obtain ⟨s351, hw351, p351, A351⟩ := (A319.st (tr6 p328 p336 p341 p345 p347 p349) rfl).rc 47 rfl
    rw [hw351]
    exact Kj51 _ _ _ ⟨s351, _, v327_0, v335_0, v341, v319, rfl, (ue (ue (ue (ue (ue (ue rfl rfl) rfl) rfl) rfl) rfl) rfl), (K29.st (tr10 p32 p34 p319 p328 p336 p341 p345 p347 p349 p351) rfl), (A345.st (tr3 p347 p349 p351) rfl), (A347.st (Xs p349 p351) rfl), (A349.st p351 rfl), A351, (A24_0.st (tr10 p32 p34 p319 p328 p336 p341 p345 p347 p349 p351) rfl), (A31_0.st (tr9 p34 p319 p328 p336 p341 p345 p347 p349 p351) rfl)⟩
   refine ltF' (K := (Kd.int .u8)) (cells := [(.int .u8 (IntKind.wrap .u8 (r24.length : Int)))]) [(IntKind.wrap .u8 (r24.length : Int))] 77 Xq u45 z5 o5 (fun w => (Xv _ _ _)) rfl (fun v358 s358 p358 A358 => ?_)
   refine Xy (L' := [15, 10, 4, 3]) (D' := [6, 7, 8, 9, 0, 1, 2, 11, 12, 13, 14]) zd332 rfl rfl rfl (fun zd360 => ?_)
   refine zstep 5 [some 29, some 24] tb34 zd360 (Xa (Xf v31_0 rfl) rfl (Xa (Xf v24_0 rfl) rfl (Xa (Xz (B3.st (tr8 p9 p12 p25 p32 p34 p319 p328 p358) rfl) u3 rfl) rfl (Xa (Xx fa49_1 rfl) rfl Xk)))) (by kernel_rfl) rfl (fun l361 e361 zd361 => ?_)
   refine clO 78 rfl func116 rfl (impl_PutNum.calls a0.Xmax (4 : Int) s358.w (mm [] s358)) (fun r363 v363_0 s364 p364 A363_0 => ?_)
   refine Xy (L' := [15, 10]) (D' := [3, 4, 5, 6, 7, 8, 9, 0, 1, 2, 11, 12, 13, 14]) zd361 rfl rfl rfl (fun zd366 => ?_)
   refine zfin [16, 17, 18] tb34 zd366 (Xa (Xf v31_0 rfl) rfl (Xa (Xf v24_0 rfl) rfl Xk)) (by kernel_rfl) (by decide) ?_
   obtain ⟨s368, hw368, p368, A368⟩ := (A327_0.st (Xs p358 p364) rfl).rc 44 rfl
   rw [hw368]
   obtain ⟨s370, hw370, p370, A370⟩ := (A363_0.st p368 rfl).rc 45 rfl
   rw [hw370]
   obtain ⟨s372, hw372, p372, A372⟩ := (A358.st (tr3 p364 p368 p370) rfl).rc 46 rfl
   rw [hw372]
   obtain ⟨s374, hw374, p374, A374⟩ := (A319.st (tr6 p328 p358 p364 p368 p370 p372) rfl).rc 47 rfl
   rw [hw374]
   exact Kj51 _ _ _ ⟨s374, _, v327_0, v363_0, v358, v319, rfl, (ue (ue (ue (ue (ue (ue rfl rfl) rfl) rfl) rfl) rfl) rfl), (K29.st (tr10 p32 p34 p319 p328 p358 p364 p368 p370 p372 p374) rfl), (A368.st (tr3 p370 p372 p374) rfl), (A370.st (Xs p372 p374) rfl), (A372.st p374 rfl), A374, (A24_0.st (tr10 p32 p34 p319 p328 p358 p364 p368 p370 p372 p374) rfl), (A31_0.st (tr9 p34 p319 p328 p358 p364 p368 p370 p372 p374) rfl)⟩
  refine ltF' (K := (Kd.int .u8)) (cells := [(.int .u8 (IntKind.wrap .u8 (r24.length : Int)))]) [(IntKind.wrap .u8 (r24.length : Int))] 79 Xq u45 z5 o5 (fun w => (Xv _ _ _)) rfl (fun v381 s381 p381 A381 => ?_)
  refine Xy (L' := [15, 10, 4, 3, 1, 0]) (D' := [6, 7, 8, 9, 11, 12, 13, 14]) zd323 rfl rfl rfl (fun zd383 => ?_)
  refine zstep 2 [some 29, some 24, some 18, some 17] tb34 zd383 (Xa (Xf v31_0 rfl) rfl (Xa (Xf v24_0 rfl) rfl (Xa (Xz (B3.st (tr7 p9 p12 p25 p32 p34 p319 p381) rfl) u3 rfl) rfl (Xa (Xx fa49_1 rfl) rfl (Xa (Xz (B3.st (tr7 p9 p12 p25 p32 p34 p319 p381) rfl) u3 rfl) rfl (Xa (Xx fa49_0 rfl) rfl Xk)))))) (by kernel_rfl) rfl (fun l384 e384 zd384 => ?_)
  refine clO 80 rfl func116 rfl (impl_PutNum.calls a0.Xmin (4 : Int) s381.w (mm [] s381)) (fun r387 v387_0 s388 p388 A387_0 => ?_)
  refine Xy (L' := [15, 10, 4, 3]) (D' := [0, 1, 2, 6, 7, 8, 9, 11, 12, 13, 14]) zd384 rfl rfl rfl (fun zd390 => ?_)
  refine zstep 5 [some 29, some 24] tb34 zd390 (Xa (Xf v31_0 rfl) rfl (Xa (Xf v24_0 rfl) rfl (Xa (Xz (B3.st (tr8 p9 p12 p25 p32 p34 p319 p381 p388) rfl) u3 rfl) rfl (Xa (Xx fa49_1 rfl) rfl Xk)))) (by kernel_rfl) rfl (fun l391 e391 zd391 => ?_)
  refine clO 81 rfl func116 rfl (impl_PutNum.calls a0.Xmax (4 : Int) s388.w (mm [] s388)) (fun r393 v393_0 s394 p394 A393_0 => ?_)
  refine Xy (L' := [15, 10]) (D' := [3, 4, 5, 0, 1, 2, 6, 7, 8, 9, 11, 12, 13, 14]) zd391 rfl rfl rfl (fun zd396 => ?_)
  refine zfin [16, 17, 18] tb34 zd396 (Xa (Xf v31_0 rfl) rfl (Xa (Xf v24_0 rfl) rfl Xk)) (by kernel_rfl) (by decide) ?_
  obtain ⟨s398, hw398, p398, A398⟩ := (A387_0.st p394 rfl).rc 44 rfl
  rw [hw398]
  obtain ⟨s400, hw400, p400, A400⟩ := (A393_0.st p398 rfl).rc 45 rfl
  rw [hw400]
  obtain ⟨s402, hw402, p402, A402⟩ := (A381.st (tr4 p388 p394 p398 p400) rfl).rc 46 rfl
  rw [hw402]
  obtain ⟨s404, hw404, p404, A404⟩ := (A319.st (tr6 p381 p388 p394 p398 p400 p402) rfl).rc 47 rfl
  rw [hw404]
  exact Kj51 _ _ _ ⟨s404, _, v387_0, v393_0, v381, v319, rfl, (ue (ue (ue (ue (ue (ue rfl rfl) rfl) rfl) rfl) rfl) rfl), (K29.st (tr10 p32 p34 p319 p381 p388 p394 p398 p400 p402 p404) rfl), (A398.st (tr3 p400 p402 p404) rfl), (A400.st (Xs p402 p404) rfl), (A402.st p404 rfl), A404, (A24_0.st (tr10 p32 p34 p319 p381 p388 p394 p398 p400 p402 p404) rfl), (A31_0.st (tr9 p34 p319 p381 p388 p394 p398 p400 p402 p404) rfl)⟩
 rintro y51 _ _ ⟨s411, _, vy51_0, vy51_1, vy51_2, vy51_3, rfl, rfl, Ky51, Ay51_0, Ay51_1, Ay51_2, Ay51_3, Cy51_26, Cy51_33⟩
 obtain ⟨s417, hw417, p417, L417⟩ := lo_cons Ay51_3 (lo_one Cy51_33) rfl rfl
 rw [hw417]
 obtain ⟨s419, hw419, p419, L419⟩ := lo_cons (Cy51_26.st p417 rfl) L417 rfl rfl
 rw [hw419]
 obtain ⟨s421, hw421, p421, L421⟩ := lo_cons (Ay51_2.st (Xs p417 p419) rfl) L419 rfl rfl
 rw [hw421]
 obtain ⟨s423, hw423, p423, L423⟩ := lo_cons (Ay51_1.st (tr3 p417 p419 p421) rfl) L421 rfl rfl
 rw [hw423]
 obtain ⟨s425, hw425, p425, L425⟩ := lo_cons (Ay51_0.st (tr4 p417 p419 p421 p423) rfl) L423 rfl rfl
 rw [hw425]
 refine ltO (K := Ye) (cells := [vy51_0, vy51_1, vy51_2, v24_0, vy51_3, v31_0]) [y51.1, y51.2.1, y51.2.2.1, r24, y51.2.2.2, r31] 44 u66 z45 o45 L425 rfl rfl rfl rfl rfl rfl rfl rfl rfl (lfill_pc (pc_c (oc Ay51_0.rd.one) (pc_c (oc Ay51_1.rd.one) (pc_c (oc Ay51_2.rd.one) (pc_c (oc Cy51_26.rd.one) (pc_c (oc Ay51_3.rd.one) (pc_c (oc Cy51_33.rd.one) pc_n)))))) rfl) (fun v426 s426 p426 A426 => ?_)
 refine clO 83 rfl func115 rfl (slices_Concat_byte_byte.calls ([y51.1, y51.2.1, y51.2.2.1, r24, y51.2.2.2, r31]) s426.w (mm [44] s426) v426 A426.rd) (fun r428 v428_0 s429 p429 A428_0 => ?_)
 refine Xp v428_0 rfl (dn ?_)
 have K431 := Ky51.st (tr7 p417 p419 p421 p423 p425 p426 p429) rfl
 exact re rfl func98 rfl (Xo rfl Xe) rfl ⟨_, rfl, A428_0.fo K431 rfl z.l, z.ky K431⟩
def impl_TupleRead.f (a0 : (List Int)) : Option (Tuple × Bool) :=
 ((impl_GetNum.f a0 (0 : Int) (4 : Int)).bind fun r6 => ((impl_GetNum.f a0 (4 : Int) (4 : Int)).bind fun r10 => ((if (((!r6.2) || (!r10.2)) || (decide ((a0.length : Int) < (9 : Int)))) = true then (some true) else (if 0 ≤ (8 : Int) ∧ (8 : Int) < (a0.length : Int) then (some (decide ((a0.length : Int) < (IntKind.wrap .i64 ((10 : Int) + (IntKind.wrap .i64 (at_ a0 (8 : Int)))))))) else none)).bind fun y16 => (if y16 = true then (some ((Tuple.mk (0 : Int) (0 : Int) (Item.mk (0 : Int) (0 : Int) (0 : Nat) ([] : (List Int))) (Item.mk (0 : Int) (0 : Int) (0 : Nat) ([] : (List Int)))), false)) else (if 0 ≤ (8 : Int) ∧ (8 : Int) < (a0.length : Int) then (if 0 ≤ (9 : Int) ∧ (9 : Int) ≤ (IntKind.wrap .i64 ((9 : Int) + (IntKind.wrap .i64 (at_ a0 (8 : Int))))) ∧ (IntKind.wrap .i64 ((9 : Int) + (IntKind.wrap .i64 (at_ a0 (8 : Int))))) ≤ (a0.length : Int) then ((impl_KeyRead.f ((a0.take ((IntKind.wrap .i64 ((9 : Int) + (IntKind.wrap .i64 (at_ a0 (8 : Int)))))).toNat).drop ((9 : Int)).toNat)).bind fun r37 => (if 0 ≤ (IntKind.wrap .i64 ((IntKind.wrap .i64 ((9 : Int) + (IntKind.wrap .i64 (at_ a0 (8 : Int))))) + (1 : Int))) ∧ (IntKind.wrap .i64 ((IntKind.wrap .i64 ((9 : Int) + (IntKind.wrap .i64 (at_ a0 (8 : Int))))) + (1 : Int))) ≤ (a0.length : Int) then ((impl_ValueRead.f (a0.drop ((IntKind.wrap .i64 ((IntKind.wrap .i64 ((9 : Int) + (IntKind.wrap .i64 (at_ a0 (8 : Int))))) + (1 : Int)))).toNat)).bind fun r49 => ((if ((!r37.2) || (!r49.2)) = true then (some true) else ((impl_TupleOk.f (Tuple.mk r6.1 r10.1 r37.1 r49.1)).bind fun r72 => (some (!r72)))).bind fun y65 => ((if y65 = true then (some true) else ((impl_TupleBytes.f (Tuple.mk r6.1 r10.1 r37.1 r49.1)).bind fun r83 => ((bytes_Equal.f r83 a0).bind fun r88 => (some (!r88))))).bind fun y82 => (if y82 = true then (some ((Tuple.mk (0 : Int) (0 : Int) (Item.mk (0 : Int) (0 : Int) (0 : Nat) ([] : (List Int))) (Item.mk (0 : Int) (0 : Int) (0 : Nat) ([] : (List Int)))), false)) else (some ((Tuple.mk r6.1 r10.1 r37.1 r49.1), true)))))) else none)) else none) else none)))))
def impl_TupleRead.Q (w : World) (F : Nat → Prop) (r : Tuple × Bool) (v : Value) (w' : World) : Prop :=
 ∃ (v0 : Value) (v1 : Value) (v2 : Value) (v3 : Value), v = .tuple #[(.agg #[(iI r.1.Xmin), (iI r.1.Xmax), (iI r.1.Key.Kind), (iI r.1.Key.N), v0, v1, (iI r.1.Value.Kind), (iI r.1.Value.N), v2, v3]), (.bool r.2)] ∧ FO kd49 w w' [(iI r.1.Xmin), (iI r.1.Xmax), (iI r.1.Key.Kind), (iI r.1.Key.N), v0, v1, (iI r.1.Value.Kind), (iI r.1.Value.N), v2, v3] r.1 ∧ Ky [] w w'
theorem impl_TupleRead.calls (a0 : (List Int)) (w : World) (F : Nat → Prop) (w0_0 : Value) (h0_0 : Ye.rd w [w0_0] a0 F) (r : Tuple × Bool) (m : impl_TupleRead.f a0 = some r) :
  Calls prog 67 #[w0_0] w (RT (impl_TupleRead.Q w F) r) := by
 obtain ⟨s0, rfl, kp0, z⟩ := Xg w F
 have A0_0 := z.rd h0_0
 refine Xd (args := [w0_0]) func67 ntmps67 rfl rfl m ?_
 unfold impl_TupleRead.f
 refine sr (al' (cs := [(iI 0), (iI 0), (iI 0), (iI 0), (.float .f64 0), (.slice none 0 0), (iI 0), (iI 0), (.float .f64 0), (.slice none 0 0)]) 40 rfl o49 rfl (fun b2 s2 p2 B2 => ?_))
 refine Xb rfl (dn (sr (Xl w0_0 rfl ?_)))
 have K4 := kp0.st p2 rfl
 refine clV 41 rfl func93 rfl (impl_GetNum.calls a0 (0 : Int) (4 : Int) s2.w (mm [0] s2) w0_0 (A0_0.kp K4)) (fun r6 s7 p7 n7 => ?_)
 refine Xb rfl (Xb (v := (iI r6.1)) rfl (Xb (v := (.bool r6.2)) rfl (Xb rfl (Xb rfl (dn (sr (Xl w0_0 rfl ?_)))))))
 have K8 := K4.st p7 rfl
 refine clV 42 rfl func93 rfl (impl_GetNum.calls a0 (4 : Int) (4 : Int) s7.w (mm [0] s7) w0_0 (A0_0.kp K8)) (fun r10 s11 p11 n11 => ?_)
 refine Xb rfl (Xb (v := (iI r10.1)) rfl (Xb (v := (.bool r10.2)) rfl (Xb rfl (Xb rfl (dn (sq (sr (Xb rfl (Xb rfl (Xb rfl (jy [26, 27, 28, 29] [6, 7, 8, 9, 10, 11, 12, 13, 14, 15, 16, 17, 18, 19, 20] 29 (.bool ((!r6.2) || (!r10.2))) rfl (fun Kg12 => ?_) (fun j12 => ?_))))))))))))
 ·
  rcases bft (!r6.2) with hb12 | hb12
  ·
   exact Xu hb12 (Xh rfl (Xh rfl (Xb rfl (Kg12 _ (Ag.put ((Ag.put ((Ag.put (Ag.base rfl) rfl)) rfl)) rfl) (by rw [hb12]; rfl)))))
  exact Xu hb12 (Xb rfl (Xb rfl (Xb rfl (Kg12 _ (Ag.put ((Ag.put ((Ag.put (Ag.base rfl) rfl)) rfl)) rfl) (by rw [hb12]; rfl)))))
 refine Xb rfl (jy [30, 31, 32, 33, 34] [11, 12, 13, 14, 15, 16, 17, 18, 19, 20] 34 (.bool (((!r6.2) || (!r10.2)) || (decide ((a0.length : Int) < (9 : Int))))) rfl (fun Kg13 => ?_) (fun j13 => ?_))
 ·
  rcases bft ((!r6.2) || (!r10.2)) with hb13 | hb13
  ·
   exact Xu hb13 (Xh rfl (Xh rfl (Xh rfl (Xb rfl (Kg13 _ (Ag.put ((Ag.put ((Ag.put ((Ag.put (Ag.base rfl) rfl)) rfl)) rfl)) rfl) (by rw [hb13]; rfl))))))
  refine Xu hb13 (Xl w0_0 rfl ?_)
  exact ln' (A0_0.kp (K8.st p11 rfl)) u45 rfl (Xb rfl (Xb rfl (Kg13 _ (Ag.put ((Ag.put ((Ag.put ((Ag.put (Ag.base rfl) rfl)) rfl)) rfl)) rfl) (by rw [hb13]; rfl))))
 refine Xb rfl (ji [] (fun (y16 : Bool) e w => ∃ (s : St) (e0 : Env), w = s.w ∧ e = upd (upd (upd (upd (upd e0 0 w0_0) 2 (pB b2)) 4 (iI r6.1)) 6 (iI r10.1)) 44 (.bool y16) ∧ Kp s0 s ∧ BlF s b2 49 [(iI 0), (iI 0), (iI 0), (iI 0), (.float .f64 0), (.slice none 0 0), (iI 0), (iI 0), (.float .f64 0), (.slice none 0 0)] 40) (fun Gj16 Kj16 => ?_) ?_)
 ·
  rcases bft (((!r6.2) || (!r10.2)) || (decide ((a0.length : Int) < (9 : Int)))) with hb16 | hb16
  ·
   refine Xu hb16 ?_
   rw [if_pos hb16]
   refine Xh rfl (Xh rfl (Xh rfl (Xh rfl (Xh rfl (Xh rfl (Xh rfl (Xh rfl (Xb rfl ?_))))))))
   exact Kj16 _ _ _ ⟨s11, _, rfl, (ue (ue (ue (ue (ue rfl rfl) rfl) rfl) rfl) rfl), (K8.st p11 rfl), (B2.st (Xs p7 p11) rfl)⟩
  refine Xu hb16 ?_
  rw [if_neg (by rw [hb16]; decide)]
  refine Xl w0_0 rfl ?_
  have K19 := K8.st p11 rfl
  have A20 := A0_0.kp K19
  refine ln' A20 u45 rfl (Xl w0_0 rfl (ix' A20 u45 z5 rfl (fun ad21 es21 h0_21 h1_21 he21 ce21 ia21 => ?_)))
  obtain rfl := he21
  refine lc0' ce21 u5 rfl (cv' u3 u5 rfl (Xb rfl (Xb rfl (Xb rfl ?_))))
  exact Kj16 _ _ _ ⟨s11, _, rfl, (ue (ue (ue (ue (ue rfl rfl) rfl) rfl) rfl) rfl), K19, (B2.st (Xs p7 p11) rfl)⟩
 rintro y16 _ _ ⟨s24, _, rfl, rfl, Ky16, By16_b2⟩
 refine dn (cd rfl (fun h26 => ?_) (fun h26 => ?_))
 ·
  refine sr (bd (cells := [(iI 0), (iI 0), (iI 0), (iI 0), (.float .f64 0), (.slice none 0 0), (iI 0), (iI 0), (.float .f64 0), (.slice none 0 0)]) pl49 o49 rfl rfl rfl rfl rfl rfl (sva' (vs := [(iI 0), (iI 0), (iI 0), (iI 0), (.float .f64 0), (.slice none 0 0), (iI 0), (iI 0), (.float .f64 0), (.slice none 0 0)]) By16_b2 z49 rfl (Xc rfl (Xc rfl (Xc rfl (Xc rfl (Xc (FL.one (Xw rfl)) (Xc rfl (Xc rfl (Xc rfl (Xc (FL.one (Xw rfl)) (Xc rfl Xt)))))))))) rfl (fun s27 p27 B27 => ?_)))
  refine Xb rfl (dn ?_)
  have A29 : OwF kd49 s27 [(iI 0), (iI 0), (iI 0), (iI 0), (.float .f64 0), (.slice none 0 0), (iI 0), (iI 0), (.float .f64 0), (.slice none 0 0)] (Tuple.mk (0 : Int) (0 : Int) (Item.mk (0 : Int) (0 : Int) (0 : Nat) ([] : (List Int))) (Item.mk (0 : Int) (0 : Int) (0 : Nat) ([] : (List Int)))) 43 := ow_z _ _ (fz_iso (fun x : Tuple => (x.Xmin, x.Xmax, x.Key, x.Value)) (Tuple.mk (0 : Int) (0 : Int) (Item.mk (0 : Int) (0 : Int) (0 : Nat) ([] : (List Int))) (Item.mk (0 : Int) (0 : Int) (0 : Nat) ([] : (List Int)))) (Xj (Xi .i64 (0 : Int)) (Xj (Xi .i64 (0 : Int)) (Xj (fz_iso (fun x : Item => (x.Kind, x.N, x.F, x.T)) (Item.mk (0 : Int) (0 : Int) (0 : Nat) ([] : (List Int))) (Xj (Xi .i64 (0 : Int)) (Xj (Xi .i64 (0 : Int)) (Xj (Ya (Xw rfl)) (fz_nil 5 (Kd.int .u8)))))) (fz_iso (fun x : Item => (x.Kind, x.N, x.F, x.T)) (Item.mk (0 : Int) (0 : Int) (0 : Nat) ([] : (List Int))) (Xj (Xi .i64 (0 : Int)) (Xj (Xi .i64 (0 : Int)) (Xj (Ya (Xw rfl)) (fz_nil 5 (Kd.int .u8))))))))))
  have K31 := Ky16.st p27 rfl
  exact re rfl func67 rfl (r_b B27 u49 rfl z49 rfl (Xo rfl Xe)) rfl ⟨_, rfl, (.float .f64 0), (.slice none 0 0), (.float .f64 0), (.slice none 0 0), rfl, A29.fo K31 rfl z.l, z.ky K31⟩
 refine sk (sr (Xl w0_0 rfl ?_))
 have A32 := A0_0.kp Ky16
 refine ix' A32 u45 z5 rfl (fun ad33 es33 h0_33 h1_33 he33 ce33 ia33 => ?_)
 obtain rfl := he33
 refine lc0' ce33 u5 rfl (cv' u3 u5 rfl (Xb rfl (Xb rfl (dn (sr (Xl w0_0 rfl (Xb rfl (slb A32 u45 z5 rfl rfl rfl rfl rfl rfl rfl rfl (fun v35 A35 => ?_)))))))))
 refine cl' rfl func94 rfl (impl_KeyRead.calls ((a0.take ((IntKind.wrap .i64 ((9 : Int) + (IntKind.wrap .i64 (at_ a0 (8 : Int)))))).toNat).drop ((9 : Int)).toNat) s24.w (mm [0] s24) v35 A35) ?_
 rintro r37 _ w37 m37 ⟨v37_0, v37_1, rfl, f37_0, ky37⟩
 obtain ⟨s38, rfl, p38, n38⟩ := nwx s24 w37 44 ky37
 obtain ⟨hu37_0_0, Au37_0_1⟩ := ap47 (f37_0.c n38)
 refine Xb rfl (Xb (v := (.agg #[(iI r37.1.Kind), (iI r37.1.N), v37_0, v37_1])) rfl (Xb (v := (.bool r37.2)) rfl (al' (cs := [(iI 0), (iI 0), (.float .f64 0), (.slice none 0 0)]) 45 rfl o47 rfl (fun b40 s40 p40 B40 => ?_))))
 have A42 := Au37_0_1.st p40 rfl
 refine sva' (vs := [(iI r37.1.Kind), (iI r37.1.N), v37_0, v37_1]) B40 z47 rfl (Xc rfl (Xc rfl (Xc (FL.one hu37_0_0) (Xc A42.rd.one Xt)))) rfl (fun s43 p43 B43 => ?_)
 refine Xb rfl (dn (sr (Xl w0_0 rfl (Xb rfl (Xb rfl ?_)))))
 have K45 := Ky16.st (tr3 p38 p40 p43) rfl
 refine sla (A0_0.kp K45) u45 z5 rfl rfl rfl rfl rfl rfl rfl (fun v47 A47 => ?_)
 refine cl' rfl func95 rfl (impl_ValueRead.calls (a0.drop ((IntKind.wrap .i64 ((IntKind.wrap .i64 ((9 : Int) + (IntKind.wrap .i64 (at_ a0 (8 : Int))))) + (1 : Int)))).toNat) s43.w (mm [0] s43) v47 A47) ?_
 rintro r49 _ w49 m49 ⟨v49_0, v49_1, rfl, f49_0, ky49⟩
 obtain ⟨s50, rfl, p50, n50⟩ := nwx s43 w49 46 ky49
 obtain ⟨hu49_0_0, Au49_0_1⟩ := ap47 (f49_0.c n50)
 refine Xb rfl (Xb (v := (.agg #[(iI r49.1.Kind), (iI r49.1.N), v49_0, v49_1])) rfl (Xb (v := (.bool r49.2)) rfl (al' (cs := [(iI 0), (iI 0), (.float .f64 0), (.slice none 0 0)]) 47 rfl o47 rfl (fun b52 s52 p52 B52 => ?_))))
 have A54 := Au49_0_1.st p52 rfl
 refine sva' (vs := [(iI r49.1.Kind), (iI r49.1.N), v49_0, v49_1]) B52 z47 rfl (Xc rfl (Xc rfl (Xc (FL.one hu49_0_0) (Xc A54.rd.one Xt)))) rfl (fun s55 p55 B55 => ?_)
 refine Xb rfl (dn (sr (Xb rfl (Xb rfl ?_))))
 refine Yc (es := [(iI r37.1.Kind), (iI r37.1.N), v37_0, v37_1]) (B43.st (tr3 p50 p52 p55) rfl) u47 z47 rfl (Yc (es := [(iI r49.1.Kind), (iI r49.1.N), v49_0, v49_1]) B55 u47 z47 rfl (bd (cells := [(iI r6.1), (iI r10.1), (iI r37.1.Kind), (iI r37.1.N), v37_0, v37_1, (iI r49.1.Kind), (iI r49.1.N), v49_0, v49_1]) pl49 o49 rfl rfl rfl rfl rfl rfl (al' (cs := [(iI 0), (iI 0), (iI 0), (iI 0), (.float .f64 0), (.slice none 0 0), (iI 0), (iI 0), (.float .f64 0), (.slice none 0 0)]) 48 rfl o49 rfl (fun b58 s58 p58 B58 => ?_))))
 have A60 := A54.st (Xs p55 p58) rfl
 have A61 := A42.st (tr5 p43 p50 p52 p55 p58) rfl
 refine sva' (vs := [(iI r6.1), (iI r10.1), (iI r37.1.Kind), (iI r37.1.N), v37_0, v37_1, (iI r49.1.Kind), (iI r49.1.N), v49_0, v49_1]) B58 z49 rfl (Xc rfl (Xc rfl (Xc rfl (Xc rfl (Xc (FL.one hu37_0_0) (Xc A61.rd.one (Xc rfl (Xc rfl (Xc (FL.one hu49_0_0) (Xc A60.rd.one Xt)))))))))) rfl (fun s62 p62 B62 => ?_)
 refine dn (sq (sr (Xb rfl (Xb rfl (Xb rfl (jy [73, 74, 75, 76] [6, 7, 8, 9, 10, 11, 12, 13, 14, 15, 16, 17] 76 (.bool ((!r37.2) || (!r49.2))) rfl (fun Kg64 => ?_) (fun j64 => ?_)))))))
 ·
  rcases bft (!r37.2) with hb64 | hb64
  ·
   exact Xu hb64 (Xh rfl (Xh rfl (Xb rfl (Kg64 _ (Ag.put ((Ag.put ((Ag.put (Ag.base rfl) rfl)) rfl)) rfl) (by rw [hb64]; rfl)))))
  exact Xu hb64 (Xb rfl (Xb rfl (Xb rfl (Kg64 _ (Ag.put ((Ag.put ((Ag.put (Ag.base rfl) rfl)) rfl)) rfl) (by rw [hb64]; rfl)))))
 refine Xb rfl (ji [11, 12, 13, 14, 15, 16, 17] (fun (y65 : Bool) e w => ∃ (s : St) (e0 : Env), w = s.w ∧ e = upd (upd (upd (upd e0 0 w0_0) 2 (pB b2)) 13 (pB b58)) 81 (.bool y65) ∧ Kp s0 s ∧ BlF s b58 49 [(iI r6.1), (iI r10.1), (iI r37.1.Kind), (iI r37.1.N), v37_0, v37_1, (iI r49.1.Kind), (iI r49.1.N), v49_0, v49_1] 48 ∧ BlF s b2 49 [(iI 0), (iI 0), (iI 0), (iI 0), (.float .f64 0), (.slice none 0 0), (iI 0), (iI 0), (.float .f64 0), (.slice none 0 0)] 40 ∧ OwF Ye s [v37_1] r37.1.T 44 ∧ OwF Ye s [v49_1] r49.1.T 46) (fun Gj65 Kj65 => ?_) ?_)
 ·
  rcases bft ((!r37.2) || (!r49.2)) with hb65 | hb65
  ·
   refine Xu hb65 ?_
   rw [if_pos hb65]
   refine Xh rfl (Xh rfl (Xh rfl (Xb rfl ?_)))
   exact Kj65 _ _ _ ⟨s62, _, rfl, (ue (ue (ue (ue rfl rfl) rfl) rfl) rfl), (K45.st (tr5 p50 p52 p55 p58 p62) rfl), B62, (By16_b2.st (tr8 p38 p40 p43 p50 p52 p55 p58 p62) rfl), (A61.st p62 rfl), (A60.st p62 rfl)⟩
  refine Xu hb65 ?_
  rw [if_neg (by rw [hb65]; decide)]
  refine Yc (es := [(iI r6.1), (iI r10.1), (iI r37.1.Kind), (iI r37.1.N), v37_0, v37_1, (iI r49.1.Kind), (iI r49.1.N), v49_0, v49_1]) B62 u49 z49 rfl ?_
  have A70 := A61.st p62 rfl
  have A71 := A60.st p62 rfl
  refine clV 49 rfl func96 rfl (impl_TupleOk.calls (Tuple.mk r6.1 r10.1 r37.1 r49.1) s62.w (mm [44, 46] s62) v37_0 v37_1 v49_0 v49_1 ((Xn (s := s62) hu37_0_0).sub (D := [44, 46]) rfl) (A70.rd.sub (D := [44, 46]) rfl) ((Xn (s := s62) hu49_0_0).sub (D := [44, 46]) rfl) (A71.rd.sub (D := [44, 46]) rfl)) (fun r72 s73 p73 n73 => ?_)
  refine Xb rfl (Xb rfl ?_)
  exact Kj65 _ _ _ ⟨s73, _, rfl, (ue (ue (ue (ue rfl rfl) rfl) rfl) rfl), (K45.st (tr6 p50 p52 p55 p58 p62 p73) rfl), (B62.st p73 rfl), (By16_b2.st (tr9 p38 p40 p43 p50 p52 p55 p58 p62 p73) rfl), (A70.st p73 rfl), (A71.st p73 rfl)⟩
 rintro y65 _ _ ⟨s79, _, rfl, rfl, Ky65, By65_b58, By65_b2, Cy65_39, Cy65_51⟩
 refine Xb rfl (ji [] (fun (y82 : Bool) e w => ∃ (s : St) (e0 : Env), w = s.w ∧ e = upd (upd (upd e0 2 (pB b2)) 13 (pB b58)) 88 (.bool y82) ∧ Kp s0 s ∧ BlF s b58 49 [(iI r6.1), (iI r10.1), (iI r37.1.Kind), (iI r37.1.N), v37_0, v37_1, (iI r49.1.Kind), (iI r49.1.N), v49_0, v49_1] 48 ∧ BlF s b2 49 [(iI 0), (iI 0), (iI 0), (iI 0), (.float .f64 0), (.slice none 0 0), (iI 0), (iI 0), (.float .f64 0), (.slice none 0 0)] 40 ∧ OwF Ye s [v37_1] r37.1.T 44 ∧ OwF Ye s [v49_1] r49.1.T 46) (fun Gj82 Kj82 => ?_) ?_)
 ·
  rcases bft y65 with hb82 | hb82
  ·
   refine Xu hb82 ?_
   rw [if_pos hb82]
   exact Xh rfl (Xh rfl (Xh rfl (Xh rfl (Xh rfl (Xb rfl (Kj82 _ _ _ ⟨s79, _, rfl, (ue (ue (ue rfl rfl) rfl) rfl), Ky65, By65_b58, By65_b2, Cy65_39, Cy65_51⟩))))))
  refine Xu hb82 ?_
  rw [if_neg (by rw [hb82]; decide)]
  refine Yc (es := [(iI r6.1), (iI r10.1), (iI r37.1.Kind), (iI r37.1.N), v37_0, v37_1, (iI r49.1.Kind), (iI r49.1.N), v49_0, v49_1]) By65_b58 u49 z49 rfl (clO 50 rfl func98 rfl (impl_TupleBytes.calls (Tuple.mk r6.1 r10.1 r37.1 r49.1) s79.w (mm [44, 46] s79) v37_0 v37_1 v49_0 v49_1 ((Xn (s := s79) hu37_0_0).sub (D := [44, 46]) rfl) (Cy65_39.rd.sub (D := [44, 46]) rfl) ((Xn (s := s79) hu49_0_0).sub (D := [44, 46]) rfl) (Cy65_51.rd.sub (D := [44, 46]) rfl)) (fun r83 v83_0 s84 p84 A83_0 => ?_))
  refine Xl w0_0 rfl ?_
  have K86 := Ky65.st p84 rfl
  refine clV 51 rfl func97 rfl (bytes_Equal.calls r83 a0 s84.w (mm [50, 0] s84) v83_0 w0_0 (A83_0.rd.sub (D := [50, 0]) rfl) ((A0_0.kp K86).sub (D := [50, 0]) rfl)) (fun r88 s89 p89 n89 => ?_)
  refine Xb rfl (Xb rfl ?_)
  exact Kj82 _ _ _ ⟨s89, _, rfl, (ue (ue (ue rfl rfl) rfl) rfl), (K86.st p89 rfl), (By65_b58.st (Xs p84 p89) rfl), (By65_b2.st (Xs p84 p89) rfl), (Cy65_39.st (Xs p84 p89) rfl), (Cy65_51.st (Xs p84 p89) rfl)⟩
 rintro y82 _ _ ⟨s95, _, rfl, rfl, Ky82, By82_b58, By82_b2, Cy82_39, Cy82_51⟩
 refine dn (cd rfl (fun h98 => ?_) (fun h98 => ?_))
 ·
  refine sr (bd (cells := [(iI 0), (iI 0), (iI 0), (iI 0), (.float .f64 0), (.slice none 0 0), (iI 0), (iI 0), (.float .f64 0), (.slice none 0 0)]) pl49 o49 rfl rfl rfl rfl rfl rfl (sva' (vs := [(iI 0), (iI 0), (iI 0), (iI 0), (.float .f64 0), (.slice none 0 0), (iI 0), (iI 0), (.float .f64 0), (.slice none 0 0)]) By82_b2 z49 rfl (Xc rfl (Xc rfl (Xc rfl (Xc rfl (Xc (FL.one (Xw rfl)) (Xc rfl (Xc rfl (Xc rfl (Xc (FL.one (Xw rfl)) (Xc rfl Xt)))))))))) rfl (fun s99 p99 B99 => ?_)))
  refine Xb rfl (dn ?_)
  have A101 : OwF kd49 s99 [(iI 0), (iI 0), (iI 0), (iI 0), (.float .f64 0), (.slice none 0 0), (iI 0), (iI 0), (.float .f64 0), (.slice none 0 0)] (Tuple.mk (0 : Int) (0 : Int) (Item.mk (0 : Int) (0 : Int) (0 : Nat) ([] : (List Int))) (Item.mk (0 : Int) (0 : Int) (0 : Nat) ([] : (List Int)))) 52 := ow_z _ _ (fz_iso (fun x : Tuple => (x.Xmin, x.Xmax, x.Key, x.Value)) (Tuple.mk (0 : Int) (0 : Int) (Item.mk (0 : Int) (0 : Int) (0 : Nat) ([] : (List Int))) (Item.mk (0 : Int) (0 : Int) (0 : Nat) ([] : (List Int)))) (Xj (Xi .i64 (0 : Int)) (Xj (Xi .i64 (0 : Int)) (Xj (fz_iso (fun x : Item => (x.Kind, x.N, x.F, x.T)) (Item.mk (0 : Int) (0 : Int) (0 : Nat) ([] : (List Int))) (Xj (Xi .i64 (0 : Int)) (Xj (Xi .i64 (0 : Int)) (Xj (Ya (Xw rfl)) (fz_nil 5 (Kd.int .u8)))))) (fz_iso (fun x : Item => (x.Kind, x.N, x.F, x.T)) (Item.mk (0 : Int) (0 : Int) (0 : Nat) ([] : (List Int))) (Xj (Xi .i64 (0 : Int)) (Xj (Xi .i64 (0 : Int)) (Xj (Ya (Xw rfl)) (fz_nil 5 (Kd.int .u8))))))))))
  have K103 := Ky82.st p99 rfl
  exact re rfl func67 rfl (r_b B99 u49 rfl z49 rfl (Xo rfl Xe)) rfl ⟨_, rfl, (.float .f64 0), (.slice none 0 0), (.float .f64 0), (.slice none 0 0), rfl, A101.fo K103 rfl z.l, z.ky K103⟩
 refine sk (sr (Yc (es := [(iI r6.1), (iI r10.1), (iI r37.1.Kind), (iI r37.1.N), v37_0, v37_1, (iI r49.1.Kind), (iI r49.1.N), v49_0, v49_1]) By82_b58 u49 z49 rfl (sva' (vs := [(iI r6.1), (iI r10.1), (iI r37.1.Kind), (iI r37.1.N), v37_0, v37_1, (iI r49.1.Kind), (iI r49.1.N), v49_0, v49_1]) By82_b2 z49 rfl (Xc rfl (Xc rfl (Xc rfl (Xc rfl (Xc (FL.one hu37_0_0) (Xc Cy82_39.rd.one (Xc rfl (Xc rfl (Xc (FL.one hu49_0_0) (Xc Cy82_51.rd.one Xt)))))))))) rfl (fun s104 p104 B104 => ?_))))
 refine Xb rfl (dn ?_)
 obtain ⟨s108, hw108, p108, A108⟩ := ow_2 (Yd (fun x : Item => (x.Kind, x.N, x.F, x.T)) r37.1 (ow_l (Xi .i64 r37.1.Kind) (ow_l (Xi .i64 r37.1.N) (ow_l (Ya hu37_0_0) (Cy82_39.st p104 rfl))))) (Yd (fun x : Item => (x.Kind, x.N, x.F, x.T)) r49.1 (ow_l (Xi .i64 r49.1.Kind) (ow_l (Xi .i64 r49.1.N) (ow_l (Ya hu49_0_0) (Cy82_51.st p104 rfl))))) rfl rfl
 rw [hw108]
 have A110 : OwF kd49 s108 [(iI r6.1), (iI r10.1), (iI r37.1.Kind), (iI r37.1.N), v37_0, v37_1, (iI r49.1.Kind), (iI r49.1.N), v49_0, v49_1] (Tuple.mk r6.1 r10.1 r37.1 r49.1) 44 := (Yd (fun x : Tuple => (x.Xmin, x.Xmax, x.Key, x.Value)) (Tuple.mk r6.1 r10.1 r37.1 r49.1) (ow_l (Xi .i64 r6.1) (ow_l (Xi .i64 r10.1) A108)))
 have K113 := Ky82.st (Xs p104 p108) rfl
 exact re rfl func67 rfl (r_b (B104.st p108 rfl) u49 rfl z49 rfl (Xo rfl Xe)) rfl ⟨_, rfl, v37_0, v37_1, v49_0, v49_1, rfl, A110.fo K113 rfl z.l, z.ky K113⟩
def impl_HeapOk_1_1.f (a0 : (List Int)) : Option (Bool) :=
 ((impl_TupleRead.f a0).bind fun r2 => (some (r2.2 || ((a0.length : Int) == (0 : Int)))))
def impl_HeapOk_1_1.Q (w : World) (F : Nat → Prop) (r : Bool) (v : Value) (w' : World) : Prop :=
 v = (.bool r) ∧ Ky [] w w'
theorem impl_HeapOk_1_1.calls (a0 : (List Int)) (w : World) (F : Nat → Prop) (w0_0 : Value) (h0_0 : Ye.rd w [w0_0] a0 F) (r : Bool) (m : impl_HeapOk_1_1.f a0 = some r) :
  Calls prog 66 #[w0_0] w (RT (impl_HeapOk_1_1.Q w F) r) := by
 obtain ⟨s0, rfl, kp0, z⟩ := Xg w F
 have A0_0 := z.rd h0_0
 refine Xd (args := [w0_0]) func66 ntmps66 rfl rfl m ?_
 unfold impl_HeapOk_1_1.f
 refine sr (Xb rfl (dn (sr (Xl w0_0 rfl (cl' rfl func67 rfl (impl_TupleRead.calls a0 s0.w (mm [0] s0) w0_0 A0_0) ?_)))))
 rintro r2 _ w2 m2 ⟨v2_0, v2_1, v2_2, v2_3, rfl, f2_0, ky2⟩
 obtain ⟨s3, rfl, p3, n3⟩ := nwx s0 w2 40 ky2
 obtain ⟨s4, hw4, p4, hu2_0_0, Au2_0_1, hu2_0_2, Au2_0_3⟩ := ap49 41 (f2_0.c n3) rfl
 rw [hw4]
 refine Xb rfl (Xb (v := (.agg #[(iI r2.1.Xmin), (iI r2.1.Xmax), (iI r2.1.Key.Kind), (iI r2.1.Key.N), v2_0, v2_1, (iI r2.1.Value.Kind), (iI r2.1.Value.N), v2_2, v2_3])) rfl (Xb (v := (.bool r2.2)) rfl (al' (cs := [(iI 0), (iI 0), (iI 0), (iI 0), (.float .f64 0), (.slice none 0 0), (iI 0), (iI 0), (.float .f64 0), (.slice none 0 0)]) 42 rfl o49 rfl (fun b7 s7 p7 B7 => ?_))))
 refine sva' (vs := [(iI r2.1.Xmin), (iI r2.1.Xmax), (iI r2.1.Key.Kind), (iI r2.1.Key.N), v2_0, v2_1, (iI r2.1.Value.Kind), (iI r2.1.Value.N), v2_2, v2_3]) B7 z49 rfl (Xc rfl (Xc rfl (Xc rfl (Xc rfl (Xc (FL.one hu2_0_0) (Xc (Au2_0_1.st p7 rfl).rd.one (Xc rfl (Xc rfl (Xc (FL.one hu2_0_2) (Xc (Au2_0_3.st p7 rfl).rd.one Xt)))))))))) rfl (fun s11 p11 B11 => ?_)
 refine Xb rfl (dn (sr (Xb rfl (Xb rfl (jy [11, 12, 13, 14, 15] [6] 15 (.bool (r2.2 || ((a0.length : Int) == (0 : Int)))) rfl (fun Kg13 => ?_) (fun j13 => ?_))))))
 ·
  rcases bft r2.2 with hb13 | hb13
  ·
   exact Xu hb13 (Xh rfl (Xh rfl (Xh rfl (Xb rfl (Kg13 _ (Ag.put ((Ag.put ((Ag.put ((Ag.put (Ag.base rfl) rfl)) rfl)) rfl)) rfl) (by rw [hb13]; rfl))))))
  refine Xu hb13 (Xl w0_0 rfl ?_)
  exact ln' (A0_0.kp (kp0.st (tr4 p3 p4 p7 p11) rfl)) u45 rfl (Xb rfl (Xb rfl (Kg13 _ (Ag.put ((Ag.put ((Ag.put ((Ag.put (Ag.base rfl) rfl)) rfl)) rfl)) rfl) (by rw [hb13]; rfl))))
 refine Xb rfl (dn ?_)
 exact re rfl func66 rfl (Xo rfl Xe) rfl ⟨_, rfl, rfl, z.ky (kp0.st (tr4 p3 p4 p7 p11) rfl)⟩
def impl_HeapOk_1.f (a0 : Page) : Option (Bool) :=
 ((impl_PageUsed.f a0).bind fun r6 => ((if (decide (r6 ≥ (0 : Int))) = true then ((impl_areAll_byte.f a0.Slots impl_HeapOk_1_1.f).bind fun r12 => (some r12)) else (some false)).bind fun y8 => (some y8)))
def impl_HeapOk_1.Q (w : World) (F : Nat → Prop) (r : Bool) (v : Value) (w' : World) : Prop :=
 v = (.bool r) ∧ Ky [] w w'
theorem impl_HeapOk_1.calls (a0 : Page) (w : World) (F : Nat → Prop) (w0_0 : Value) (h0_0 : (Kd.sl 45 Ye).rd w [w0_0] a0.Slots F) (r : Bool) (m : impl_HeapOk_1.f a0 = some r) :
  Calls prog 63 #[(.agg #[(iI a0.Lsn), w0_0])] w (RT (impl_HeapOk_1.Q w F) r) := by
 obtain ⟨s0, rfl, kp0, z⟩ := Xg w F
 have A0_0 := z.rd h0_0
 refine Xd (args := [(.agg #[(iI a0.Lsn), w0_0])]) func63 ntmps63 rfl rfl m ?_
 unfold impl_HeapOk_1.f
 refine sr (bx' (cs := [(iI a0.Lsn), w0_0]) 40 rfl rfl (fun b2 s2 p2 B2 => ?_))
 refine Xb rfl (dn (sr (Yc (es := [(iI a0.Lsn), w0_0]) B2 u70 z70 rfl ?_)))
 have K4 := kp0.st p2 rfl
 refine clV 41 rfl func64 rfl (impl_PageUsed.calls a0 s2.w (mm [0] s2) w0_0 (A0_0.kp K4)) (fun r6 s7 p7 n7 => ?_)
 refine Xb rfl (Xb rfl (ji [8] (fun (y8 : Bool) e w => ∃ (s : St) (e0 : Env), w = s.w ∧ e = upd e0 10 (.bool y8) ∧ Kp s0 s) (fun Gj8 Kj8 => ?_) ?_))
 ·
  rcases bft (decide (r6 ≥ (0 : Int))) with hb8 | hb8
  ·
   refine Xu hb8 ?_
   rw [if_pos hb8]
   refine Xr fa70_1 rfl (ld' (B2.st p7 rfl) u66 rfl ?_)
   have K10 := K4.st p7 rfl
   refine clV 42 rfl func65 rfl (impl_areAll_byte.calls a0.Slots impl_HeapOk_1_1.f s7.w (mm [0] s7) w0_0 (.func (.func 66) #[] #[]) (A0_0.kp K10) (fun x0 u0_0 w' k h0 r m =>  ⟨66, _, _, [], [], rfl, func66, rfl, rfl, (impl_HeapOk_1_1.calls x0 w' (fun _ => True) u0_0 h0 r m).mono fun en w2 hq => by obtain ⟨v, e, q⟩ := hq; exact ⟨v, e, q⟩⟩) rfl) (fun r12 s13 p13 n13 => ?_)
   exact Xb rfl (Kj8 _ _ _ ⟨s13, _, rfl, (ue rfl rfl), (K10.st p13 rfl)⟩)
  refine Xu hb8 ?_
  rw [if_neg (by rw [hb8]; decide)]
  refine Xh rfl (Xh rfl (Xh rfl (Xb rfl ?_)))
  exact Kj8 _ _ _ ⟨s7, _, rfl, (ue rfl rfl), (K4.st p7 rfl)⟩
 rintro y8 _ _ ⟨s16, _, rfl, rfl, Ky8⟩
 exact Xb rfl (dn (re rfl func63 rfl (Xo rfl Xe) rfl ⟨_, rfl, rfl, z.ky Ky8⟩))
def impl_HeapOk.f (a0 : Heap) : Option (Bool) :=
 ((if (decide ((a0.Pages.length : Int) ≤ (16 : Int))) = true then ((impl_areAll_impl_Page.f a0.Pages impl_HeapOk_1.f).bind fun r7 => (some r7)) else (some false)).bind fun y6 => (some y6))
def impl_HeapOk.Q (w : World) (F : Nat → Prop) (r : Bool) (v : Value) (w' : World) : Prop :=
 v = (.bool r) ∧ Ky [] w w'
theorem impl_HeapOk.calls (a0 : Heap) (w : World) (F : Nat → Prop) (w0_0 : Value) (h0_0 : Yg.rd w [w0_0] a0.Pages F) (r : Bool) (m : impl_HeapOk.f a0 = some r) :
  Calls prog 38 #[(.agg #[w0_0])] w (RT (impl_HeapOk.Q w F) r) := by
 obtain ⟨s0, rfl, kp0, z⟩ := Xg w F
 refine Xd (args := [(.agg #[w0_0])]) func38 ntmps38 rfl rfl m ?_
 unfold impl_HeapOk.f
 refine sr (bx' (cs := [w0_0]) 40 rfl rfl (fun b2 s2 p2 B2 => ?_))
 refine Xb rfl (dn (sr (Xr fa31_0 rfl (ld' B2 u29 rfl ?_))))
 have K4 := kp0.st p2 rfl
 have A5 := (z.rd h0_0).kp K4
 refine ln' A5 u29 rfl (Xb rfl (Xb rfl (ji [9] (fun (y6 : Bool) e w => ∃ (s : St) (e0 : Env), w = s.w ∧ e = upd e0 11 (.bool y6) ∧ Kp s0 s) (fun Gj6 Kj6 => ?_) ?_)))
 ·
  rcases bft (decide ((a0.Pages.length : Int) ≤ (16 : Int))) with hb6 | hb6
  ·
   refine Xu hb6 ?_
   rw [if_pos hb6]
   refine Xr fa31_0 rfl (ld' B2 u29 rfl (clV 41 rfl func62 rfl (impl_areAll_impl_Page.calls a0.Pages impl_HeapOk_1.f s2.w (mm [0] s2) w0_0 (.func (.func 63) #[] #[]) A5 (fun x0 u0_0 w' k h0 r m =>  ⟨63, _, _, [], [], rfl, func63, rfl, rfl, (impl_HeapOk_1.calls x0 w' (fun _ => True) u0_0 h0 r m).mono fun en w2 hq => by obtain ⟨v, e, q⟩ := hq; exact ⟨v, e, q⟩⟩) rfl) (fun r7 s8 p8 n8 => ?_)))
   exact Xb rfl (Kj6 _ _ _ ⟨s8, _, rfl, (ue rfl rfl), (K4.st p8 rfl)⟩)
  refine Xu hb6 ?_
  rw [if_neg (by rw [hb6]; decide)]
  exact Xh rfl (Xh rfl (Xh rfl (Xb rfl (Kj6 _ _ _ ⟨s2, _, rfl, (ue rfl rfl), K4⟩))))
 rintro y6 _ _ ⟨s10, _, rfl, rfl, Ky6⟩
 exact Xb rfl (dn (re rfl func38 rfl (Xo rfl Xe) rfl ⟨_, rfl, rfl, z.ky Ky6⟩))
def impl_Heap_rows.b1 (a0 : Heap) (x6 : (List Row) × Int) (x20 : (List Row) × Int) : Option (((List Row) × Int) ⊕ ((List Row) × Int ⊕ (List Row))) :=
 (if (decide (x20.2 < (((at_ a0.Pages x6.2).Slots).length : Int))) = true then (if 0 ≤ x20.2 ∧ x20.2 < (((at_ a0.Pages x6.2).Slots).length : Int) then ((impl_TupleRead.f (at_ ((at_ a0.Pages x6.2).Slots) x20.2)).bind fun r29 => ((if r29.2 = true then (if x20.1.length + ([(Row.mk x6.2 x20.2 r29.1)]).length ≤ Lim then (some (x20.1 ++ [(Row.mk x6.2 x20.2 r29.1)])) else none) else (some x20.1)).bind fun y40 => (some (Sum.inl (y40, (IntKind.wrap .i64 (x20.2 + (1 : Int)))))))) else none) else ((some (Sum.inl (x20.1, (IntKind.wrap .i64 (x6.2 + (1 : Int)))))).bind fun o => some (Sum.inr o)))
def impl_Heap_rows.b0 (a0 : Heap) (x6 : (List Row) × Int) : Option (((List Row) × Int) ⊕ (List Row)) :=
 (if (decide (x6.2 < (a0.Pages.length : Int))) = true then (if 0 ≤ x6.2 ∧ x6.2 < (a0.Pages.length : Int) then (iter (impl_Heap_rows.b1 a0 x6) (x6.1, (0 : Int))) else none) else ((some x6.1).bind fun o => some (Sum.inr o)))
def impl_Heap_rows.f (a0 : Heap) : Option ((List Row)) :=
 (iter (impl_Heap_rows.b0 a0) (([] : (List Row)), (0 : Int)))
def impl_Heap_rows.Q (w : World) (F : Nat → Prop) (r : (List Row)) (v : Value) (w' : World) : Prop :=
 FO Yh w w' [v] r ∧ Ky [] w w'
theorem impl_Heap_rows.calls (a0 : Heap) (w : World) (F : Nat → Prop) (w0_0 : Value) (h0_0 : Yg.rd w [w0_0] a0.Pages F) (r : (List Row)) (m : impl_Heap_rows.f a0 = some r) :
  Calls prog 40 #[(.agg #[w0_0])] w (RT (impl_Heap_rows.Q w F) r) := by
 obtain ⟨s0, rfl, kp0, z⟩ := Xg w F
 have A0_0 := z.rd h0_0
 refine Xd (args := [(.agg #[w0_0])]) func40 ntmps40 rfl rfl m ?_
 unfold impl_Heap_rows.f
 refine sr (bx' (cs := [w0_0]) 40 rfl rfl (fun b2 s2 p2 B2 => ?_))
 refine Xb rfl (dn (sr (Xb rfl (dn (sq (sr (Xr fa31_0 rfl (ld' B2 u29 rfl ?_))))))))
 have K4 := kp0.st p2 rfl
 refine ln' (A0_0.kp K4) u29 rfl (Xb rfl (dn (bl (lpI (fun (x6 : (List Row) × Int) e w => ∃ (s : St) (e0 : Env) (vx6_0 : Value), w = s.w ∧ e = upd (upd (upd (upd e0 3 vx6_0) 11 w0_0) 12 (iI (a0.Pages.length : Int))) 13 (iI x6.2) ∧ Kp s0 s ∧ OwF Yh s [vx6_0] x6.1 42) ⟨s2, _, (.slice none 0 0), rfl, (ue (ue (ue (ue rfl rfl) rfl) rfl) rfl), K4, (ow_nil 51 kd51 _ 42)⟩ (fun g6 ih6 => ?_)))))
 rintro x6 _ _ ⟨s7, _, vx6_0, rfl, rfl, Kx6, Ax6_0⟩
 unfold impl_Heap_rows.b0
 refine sr (Xb rfl (dn (sq (cd rfl (fun h9 => ?_) (fun h9 => ?_)))))
 ·
  refine sk (sq (bl (sr (Xb rfl ?_))))
  refine ix' (A0_0.kp Kx6) u29 z70 rfl (fun ad11 es11 h0_11 h1_11 he11 ce11 ia11 => ?_)
  obtain ⟨v11_0, rfl, A11_0⟩ := op70 he11
  refine lca ce11 u70 z70 rfl rfl rfl rfl rfl rfl rfl (al' (cs := [(iI 0), (.slice none 0 0)]) 43 rfl o70 rfl (fun b14 s14 p14 B14 => ?_))
  refine Xb rfl ?_
  have A16 := A11_0.st p14 rfl
  refine sva' (vs := [(iI ((at_ a0.Pages x6.2).Lsn)), v11_0]) B14 z70 rfl (Xc rfl (Xc A16.one Xt)) rfl (fun s17 p17 B17 => ?_)
  refine dn (sr (Xr fa70_1 rfl (ld' B17 u66 rfl ?_)))
  have A19 := A16.st p17 rfl
  refine ln' A19 u66 rfl (Xb rfl (dn (bl ?_)))
  refine lpI (fun (x20 : (List Row) × Int) e w => ∃ (s : St) (e0 : Env) (vx20_0 : Value), w = s.w ∧ e = upd (upd (upd (upd (upd (upd (upd (upd e0 3 vx20_0) 4 (iI x6.2)) 11 w0_0) 12 (iI (a0.Pages.length : Int))) 13 (iI x6.2)) 19 v11_0) 20 (iI (((at_ a0.Pages x6.2).Slots).length : Int))) 21 (iI x20.2) ∧ Kp s0 s ∧ OwF Yh s [vx20_0] x20.1 42 ∧ RdF (Kd.sl 45 Ye) s [v11_0] ((at_ a0.Pages x6.2).Slots) [0]) ⟨s17, _, vx6_0, rfl, (ue (ue (ue (ue (ue (ue (ue (ue rfl rfl) rfl) rfl) rfl) rfl) rfl) rfl) rfl), (Kx6.st (Xs p14 p17) rfl), (Ax6_0.st (Xs p14 p17) rfl), A19⟩ (fun g20 ih20 => ?_)
  rintro x20 _ _ ⟨s23, _, vx20_0, rfl, rfl, Kx20, Ax20_0, Cx20_12⟩
  unfold impl_Heap_rows.b1
  refine sr (Xb rfl (dn (sq (cd rfl (fun h25 => ?_) (fun h25 => ?_)))))
  ·
   refine sk (sq (bl (sr (Xb rfl (ix' Cx20_12 u66 z45 rfl (fun ad26 es26 h0_26 h1_26 he26 ce26 ia26 => ?_))))))
   obtain ⟨v26, rfl, he26'⟩ := he26
   have A26 : RdF Ye s23 [v26] (at_ ((at_ a0.Pages x6.2).Slots) x20.2) [0] := ⟨v26, rfl, he26'⟩
   refine lc0' ce26 u45 rfl (Xb rfl (Xp v26 rfl (dn (sr (Xl v26 rfl (cl' rfl func67 rfl (impl_TupleRead.calls (at_ ((at_ a0.Pages x6.2).Slots) x20.2) s23.w (mm [0] s23) v26 A26) ?_))))))
   rintro r29 _ w29 m29 ⟨v29_0, v29_1, v29_2, v29_3, rfl, f29_0, ky29⟩
   obtain ⟨s30, rfl, p30, n30⟩ := nwx s23 w29 44 ky29
   obtain ⟨s31, hw31, p31, hu29_0_0, Au29_0_1, hu29_0_2, Au29_0_3⟩ := ap49 45 (f29_0.c n30) rfl
   rw [hw31]
   refine Xb rfl (Xb (v := (.agg #[(iI r29.1.Xmin), (iI r29.1.Xmax), (iI r29.1.Key.Kind), (iI r29.1.Key.N), v29_0, v29_1, (iI r29.1.Value.Kind), (iI r29.1.Value.N), v29_2, v29_3])) rfl (Xb (v := (.bool r29.2)) rfl (al' (cs := [(iI 0), (iI 0), (iI 0), (iI 0), (.float .f64 0), (.slice none 0 0), (iI 0), (iI 0), (.float .f64 0), (.slice none 0 0)]) 46 rfl o49 rfl (fun b34 s34 p34 B34 => ?_))))
   have A36 := Au29_0_3.st p34 rfl
   have A37 := Au29_0_1.st p34 rfl
   refine sva' (vs := [(iI r29.1.Xmin), (iI r29.1.Xmax), (iI r29.1.Key.Kind), (iI r29.1.Key.N), v29_0, v29_1, (iI r29.1.Value.Kind), (iI r29.1.Value.N), v29_2, v29_3]) B34 z49 rfl (Xc rfl (Xc rfl (Xc rfl (Xc rfl (Xc (FL.one hu29_0_0) (Xc A37.rd.one (Xc rfl (Xc rfl (Xc (FL.one hu29_0_2) (Xc A36.rd.one Xt)))))))))) rfl (fun s38 p38 B38 => ?_)
   refine Xb rfl (dn (sr (Xb rfl (dn (jc (fun (y40 : (List Row)) e w => ∃ (s : St) (e0 : Env) (vy40_0 : Value), w = s.w ∧ e = upd (upd (upd (upd (upd (upd (upd (upd e0 3 vy40_0) 4 (iI x6.2)) 11 w0_0) 12 (iI (a0.Pages.length : Int))) 13 (iI x6.2)) 19 v11_0) 20 (iI (((at_ a0.Pages x6.2).Slots).length : Int))) 21 (iI x20.2) ∧ Kp s0 s ∧ OwF Yh s [vy40_0] y40 42 ∧ RdF (Kd.sl 45 Ye) s [v11_0] ((at_ a0.Pages x6.2).Slots) [0]) (fun Gj40 Kj40 => ?_) ?_)))))
   ·
    refine cd rfl (fun h41 => ?_) (fun h41 => ?_)
    ·
     refine rg (Xl vx20_0 rfl (Xb rfl (Xb rfl (Yc (es := [(iI r29.1.Xmin), (iI r29.1.Xmax), (iI r29.1.Key.Kind), (iI r29.1.Key.N), v29_0, v29_1, (iI r29.1.Value.Kind), (iI r29.1.Value.N), v29_2, v29_3]) B38 u49 z49 rfl (bd (cells := [(iI x6.2), (iI x20.2), (iI r29.1.Xmin), (iI r29.1.Xmax), (iI r29.1.Key.Kind), (iI r29.1.Key.N), v29_0, v29_1, (iI r29.1.Value.Kind), (iI r29.1.Value.N), v29_2, v29_3]) pl51 o51 rfl rfl rfl rfl rfl rfl ?_)))))
     obtain ⟨s44, hw44, p44, A44⟩ := ow_2 (Yd (fun x : Item => (x.Kind, x.N, x.F, x.T)) r29.1.Key (ow_l (Xi .i64 r29.1.Key.Kind) (ow_l (Xi .i64 r29.1.Key.N) (ow_l (Ya hu29_0_0) (A37.st p38 rfl))))) (Yd (fun x : Item => (x.Kind, x.N, x.F, x.T)) r29.1.Value (ow_l (Xi .i64 r29.1.Value.Kind) (ow_l (Xi .i64 r29.1.Value.N) (ow_l (Ya hu29_0_2) (A36.st p38 rfl))))) rfl rfl
     rw [hw44]
     have A46 : OwF kd51 s44 [(iI x6.2), (iI x20.2), (iI r29.1.Xmin), (iI r29.1.Xmax), (iI r29.1.Key.Kind), (iI r29.1.Key.N), v29_0, v29_1, (iI r29.1.Value.Kind), (iI r29.1.Value.N), v29_2, v29_3] (Row.mk x6.2 x20.2 r29.1) 44 := (Yd (fun x : Row => (x.Page, x.Slot, x.Tuple)) (Row.mk x6.2 x20.2 r29.1) (ow_l (Xi .i64 x6.2) (ow_l (Xi .i64 x20.2) (Yd (fun x : Tuple => (x.Xmin, x.Xmax, x.Key, x.Value)) r29.1 (ow_l (Xi .i64 r29.1.Xmin) (ow_l (Xi .i64 r29.1.Xmax) A44))))))
     refine ltO (K := kd51) (cells := [(iI x6.2), (iI x20.2), (iI r29.1.Xmin), (iI r29.1.Xmax), (iI r29.1.Key.Kind), (iI r29.1.Key.N), v29_0, v29_1, (iI r29.1.Value.Kind), (iI r29.1.Value.N), v29_2, v29_3]) [(Row.mk x6.2 x20.2 r29.1)] 44 u42 z51 o51 (lo_one A46) rfl rfl rfl rfl rfl rfl rfl rfl rfl rfl (fun v49 s49 p49 A49 => ?_)
     refine apO sl42 (Ax20_0.st (tr6 p30 p31 p34 p38 p44 p49) rfl) A49 rfl rfl rfl rfl rfl rfl rfl rfl rfl (fun v52 s52 p52 A52 => ?_)
     refine Xp v52 rfl (dn ?_)
     exact Kj40 _ _ _ ⟨s52, _, v52, rfl, (ue (ue (ue (ue (ue (ue (ue (ue rfl rfl) rfl) rfl) rfl) rfl) rfl) rfl) rfl), (Kx20.st (tr7 p30 p31 p34 p38 p44 p49 p52) rfl), A52, (Cx20_12.st (tr7 p30 p31 p34 p38 p44 p49 p52) rfl)⟩
    exact sk (Kj40 _ _ _ ⟨s38, _, vx20_0, rfl, (ue (ue (ue (ue (ue (ue (ue (ue rfl rfl) rfl) rfl) rfl) rfl) rfl) rfl) rfl), (Kx20.st (tr4 p30 p31 p34 p38) rfl), (Ax20_0.st (tr4 p30 p31 p34 p38) rfl), (Cx20_12.st (tr4 p30 p31 p34 p38) rfl)⟩)
   rintro y40 _ _ ⟨s59, _, vy40_0, rfl, rfl, Ky40, Ay40_0, Cy40_12⟩
   exact ib (rg (Xb rfl (Xb rfl (dn (lb ih20 ⟨s59, _, vy40_0, rfl, (ue (ue (ue (ue (ue (ue (ue (ue rfl rfl) rfl) rfl) rfl) rfl) rfl) rfl) rfl), Ky40, Ay40_0, Cy40_12⟩)))))
  exact xt rfl (sgb (ib (rg (Xb rfl (Xb rfl (dn (lb ih6 ⟨s23, _, vx20_0, rfl, (ue (ue (ue (ue rfl rfl) rfl) rfl) rfl), Kx20, Ax20_0⟩)))))))
 exact xt rfl (sgb (sr (Xl vx6_0 rfl (Xp vx6_0 rfl (dn (re rfl func40 rfl (Xo rfl Xe) rfl ⟨_, rfl, Ax6_0.fo Kx6 rfl z.l, z.ky Kx6⟩))))))
def slices_IndexFunc_impl_Row_impl_Row.b0 (a0 : (List Row)) (a1 : (Row → Option Bool)) (x2 : Int) : Option (Int ⊕ Int) :=
 (if (decide (x2 < (a0.length : Int))) = true then (if 0 ≤ x2 ∧ x2 < (a0.length : Int) then ((a1 (Row.mk ((at_ a0 x2).Page) ((at_ a0 x2).Slot) (Tuple.mk (((at_ a0 x2).Tuple).Xmin) (((at_ a0 x2).Tuple).Xmax) (((at_ a0 x2).Tuple).Key) (((at_ a0 x2).Tuple).Value)))).bind fun r10 => (if r10 = true then (some (Sum.inr x2)) else (some (Sum.inl (IntKind.wrap .i64 (x2 + (1 : Int))))))) else none) else ((some (-1 : Int)).bind fun o => some (Sum.inr o)))
def slices_IndexFunc_impl_Row_impl_Row.f (a0 : (List Row)) (a1 : (Row → Option Bool)) : Option (Int) :=
 (iter (slices_IndexFunc_impl_Row_impl_Row.b0 a0 a1) (0 : Int))
def slices_IndexFunc_impl_Row_impl_Row.Q (w : World) (F : Nat → Prop) (r : Int) (v : Value) (w' : World) : Prop :=
 v = (iI r) ∧ Ky [] w w'
theorem slices_IndexFunc_impl_Row_impl_Row.calls (a0 : (List Row)) (a1 : (Row → Option Bool)) (w : World) (F : Nat → Prop) (w0_0 : Value) (f1 : Value) (h0_0 : Yh.rd w [w0_0] a0 F) (hf1 : ∀ (x0 : Row) (u0_0 u0_1 u0_2 u0_3 : Value) (w' : World), Ky [] w w' → Kd.flt.rd w' [u0_0] x0.Tuple.Key.F (fun _ => True) → Ye.rd w' [u0_1] x0.Tuple.Key.T (fun _ => True) → Kd.flt.rd w' [u0_2] x0.Tuple.Value.F (fun _ => True) → Ye.rd w' [u0_3] x0.Tuple.Value.T (fun _ => True) → ∀ r, a1 x0 = some r → CallV prog f1 [(.agg #[(iI x0.Page), (iI x0.Slot), (iI x0.Tuple.Xmin), (iI x0.Tuple.Xmax), (iI x0.Tuple.Key.Kind), (iI x0.Tuple.Key.N), u0_0, u0_1, (iI x0.Tuple.Value.Kind), (iI x0.Tuple.Value.N), u0_2, u0_3])] w' fun en w'' => ∃ v, en = .returned v ∧ v = (.bool r) ∧ Ky [] w' w'') (ho1 : f1.cells = #[f1]) (r : Int) (m : slices_IndexFunc_impl_Row_impl_Row.f a0 a1 = some r) :
  Calls prog 68 #[w0_0, f1] w (RT (slices_IndexFunc_impl_Row_impl_Row.Q w F) r) := by
 obtain ⟨s0, rfl, kp0, z⟩ := Xg w F
 have A0_0 := z.rd h0_0
 refine Xd (args := [w0_0, f1]) func68 ntmps68 rfl rfl m ?_
 unfold slices_IndexFunc_impl_Row_impl_Row.f
 refine sr (Xb rfl (dn (sq (sr (Xl w0_0 rfl (ln' A0_0 u42 rfl (Xb rfl (dn (bl (lpI (fun (x2 : Int) e w => ∃ (s : St) (e0 : Env), w = s.w ∧ e = upd (upd (upd (upd e0 0 w0_0) 1 f1) 7 (iI (a0.length : Int))) 8 (iI x2) ∧ Kp s0 s) ⟨s0, _, rfl, (ue (ue (ue (ue rfl rfl) rfl) rfl) rfl), kp0⟩ (fun g2 ih2 => ?_)))))))))))
 rintro x2 _ _ ⟨s3, _, rfl, rfl, Kx2⟩
 unfold slices_IndexFunc_impl_Row_impl_Row.b0
 refine sr (Xb rfl (dn (sq (cd rfl (fun h4 => ?_) (fun h4 => ?_)))))
 ·
  refine sk (sq (bl (sr (Xb rfl (Xb rfl (dn (sr (Xl f1 rfl (Xl w0_0 rfl (Xb rfl ?_))))))))))
  refine ix' (A0_0.kp Kx2) u42 z51 rfl (fun ad6 es6 h0_6 h1_6 he6 ce6 ia6 => ?_)
  obtain ⟨v6_0, v6_1, v6_2, v6_3, rfl, A6_0, A6_1, A6_2, A6_3⟩ := op51 he6
  refine lca ce6 u51 z51 rfl rfl rfl rfl rfl rfl rfl (clv rfl rfl rfl rfl rfl rfl rfl (fun r10 m10 => hf1 (Row.mk ((at_ a0 x2).Page) ((at_ a0 x2).Slot) (Tuple.mk (((at_ a0 x2).Tuple).Xmin) (((at_ a0 x2).Tuple).Xmax) (((at_ a0 x2).Tuple).Key) (((at_ a0 x2).Tuple).Value))) v6_0 v6_1 v6_2 v6_3 s3.w (z.ky Kx2) (fl_rd A6_0) (RdF.top A6_1) (fl_rd A6_2) (RdF.top A6_3) r10 m10) ?_)
  rintro r10 _ w10 m10 ⟨rfl, ky10⟩
  obtain ⟨s11, rfl, p11, n11⟩ := nwx s3 w10 40 ky10
  refine dn (cd rfl (fun h12 => ?_) (fun h12 => ?_))
  ·
   refine sr (Xb rfl (Xb rfl (dn (sgi ?_))))
   exact re rfl func68 rfl (Xo rfl Xe) rfl ⟨_, rfl, rfl, z.ky (Kx2.st p11 rfl)⟩
  refine sk (ib (rg (Xb rfl (Xb rfl (dn ?_)))))
  exact lb ih2 ⟨s11, _, rfl, (ue (ue (ue (ue rfl rfl) rfl) rfl) rfl), (Kx2.st p11 rfl)⟩
 exact xt rfl (sgb (sr (Xb rfl (dn (re rfl func68 rfl (Xo rfl Xe) rfl ⟨_, rfl, rfl, z.ky Kx2⟩)))))
set_option linter.unusedSectionVars false
section
variable {β : Type} [Inhabited β]
def slices_IndexFunc_impl_Row_impl_Row_pk.b0 (a0 : (List (Pk β))) (a1 : ((Pk β) → Option Bool)) (x2 : Int) : Option (Int ⊕ Int) :=
 (if (decide (x2 < (a0.length : Int))) = true then (if 0 ≤ x2 ∧ x2 < (a0.length : Int) then ((a1 (at_ a0 x2)).bind fun r8 => (if r8 = true then (some (Sum.inr x2)) else (some (Sum.inl (IntKind.wrap .i64 (x2 + (1 : Int))))))) else none) else ((some (-1 : Int)).bind fun o => some (Sum.inr o)))
def slices_IndexFunc_impl_Row_impl_Row_pk.f (a0 : (List (Pk β))) (a1 : ((Pk β) → Option Bool)) : Option (Int) :=
 (iter (slices_IndexFunc_impl_Row_impl_Row_pk.b0 a0 a1) (0 : Int))
def slices_IndexFunc_impl_Row_impl_Row_pk.Q (w : World) (F : Nat → Prop) (r : Int) (v : Value) (w' : World) : Prop :=
 v = (iI r) ∧ Ky [] w w'
theorem slices_IndexFunc_impl_Row_impl_Row_pk.calls (a0 : (List (Pk β))) (a1 : ((Pk β) → Option Bool)) (w : World) (F : Nat → Prop) (w0_0 : Value) (f1 : Value) (h0_0 : (Kd.sl 51 (Kd.pk β 12)).rd w [w0_0] a0 F) (hf1 : ∀ (x0 : (Pk β)) (w' : World), Ky [] w w' → ∀ r, a1 x0 = some r → CallV prog f1 [(.agg (List.toArray x0.cs))] w' fun en w'' => ∃ v, en = .returned v ∧ v = (.bool r) ∧ Ky [] w' w'') (ho1 : f1.cells = #[f1]) (r : Int) (m : slices_IndexFunc_impl_Row_impl_Row_pk.f a0 a1 = some r) :
  Calls prog 68 #[w0_0, f1] w (RT (slices_IndexFunc_impl_Row_impl_Row_pk.Q w F) r) := by
 obtain ⟨s0, rfl, kp0, z⟩ := Xg w F
 have A0_0 := z.rd h0_0
 refine Xd (args := [w0_0, f1]) func68 ntmps68 rfl rfl m ?_
 unfold slices_IndexFunc_impl_Row_impl_Row_pk.f
 refine sr (Xb rfl (dn (sq (sr (Xl w0_0 rfl (ln' A0_0 u42 rfl (Xb rfl (dn (bl (lpI (fun (x2 : Int) e w => ∃ (s : St) (e0 : Env), w = s.w ∧ e = upd (upd (upd (upd e0 0 w0_0) 1 f1) 7 (iI (a0.length : Int))) 8 (iI x2) ∧ Kp s0 s) ⟨s0, _, rfl, (ue (ue (ue (ue rfl rfl) rfl) rfl) rfl), kp0⟩ (fun g2 ih2 => ?_)))))))))))
 rintro x2 _ _ ⟨s3, _, rfl, rfl, Kx2⟩
 unfold slices_IndexFunc_impl_Row_impl_Row_pk.b0
 refine sr (Xb rfl (dn (sq (cd rfl (fun h4 => ?_) (fun h4 => ?_)))))
 ·
  refine sk (sq (bl (sr (Xb rfl (Xb rfl (dn (sr (Xl f1 rfl (Xl w0_0 rfl (Xb rfl ?_))))))))))
  refine ix' (A0_0.kp Kx2) u42 z51 rfl (fun ad6 es6 h0_6 h1_6 he6 ce6 ia6 => ?_)
  obtain ⟨rfl, hl6, hv6⟩ := he6
  refine lca ce6 u51 (by rw [hl6]; exact z51) rfl rfl rfl rfl rfl rfl rfl (clv rfl rfl rfl rfl rfl rfl rfl (fun r8 m8 => hf1 (at_ a0 x2) s3.w (z.ky Kx2)  r8 m8) ?_)
  rintro r8 _ w8 m8 ⟨rfl, ky8⟩
  obtain ⟨s9, rfl, p9, n9⟩ := nwx s3 w8 40 ky8
  refine dn (cd rfl (fun h10 => ?_) (fun h10 => ?_))
  ·
   refine sr (Xb rfl (Xb rfl (dn (sgi ?_))))
   exact re rfl func68 rfl (Xo rfl Xe) rfl ⟨_, rfl, rfl, z.ky (Kx2.st p9 rfl)⟩
  refine sk (ib (rg (Xb rfl (Xb rfl (dn ?_)))))
  exact lb ih2 ⟨s9, _, rfl, (ue (ue (ue (ue rfl rfl) rfl) rfl) rfl), (Kx2.st p9 rfl)⟩
 exact xt rfl (sgb (sr (Xb rfl (dn (re rfl func68 rfl (Xo rfl Xe) rfl ⟨_, rfl, rfl, z.ky Kx2⟩)))))
end
set_option linter.unusedSectionVars false
section
variable {β : Type} [Inhabited β]
def slices_DeleteFunc_impl_Row_impl_Row_pk.b0 (a1 : ((Pk β) → Option Bool)) (x7 : (List (Pk β)) × Int × Int) : Option (((List (Pk β)) × Int × Int) ⊕ (List (Pk β))) :=
 (if (decide (x7.2.2 < (x7.1.length : Int))) = true then (if 0 ≤ x7.2.2 ∧ x7.2.2 < (x7.1.length : Int) then ((a1 (at_ x7.1 x7.2.2)).bind fun r20 => ((if (!r20) = true then (if 0 ≤ x7.2.1 ∧ x7.2.1 < (x7.1.length : Int) then (some ((x7.1.set (x7.2.1).toNat (at_ x7.1 x7.2.2)), (IntKind.wrap .i64 (x7.2.1 + (1 : Int))))) else none) else (some (x7.1, x7.2.1))).bind fun y22 => (some (Sum.inl (y22.1, y22.2, (IntKind.wrap .i64 (x7.2.2 + (1 : Int)))))))) else none) else ((if 0 ≤ x7.2.1 ∧ x7.2.1 ≤ (x7.1.length : Int) then (if 0 ≤ x7.2.1 ∧ x7.2.1 ≤ ((x7.1.take (x7.2.1).toNat ++ List.replicate (x7.1.length - (x7.2.1).toNat) (Pk.mk [(iI 0), (iI 0), (iI 0), (iI 0), (iI 0), (iI 0), (.float .f64 0), (.slice none 0 0), (iI 0), (iI 0), (.float .f64 0), (.slice none 0 0)] default)).length : Int) then (some ((x7.1.take (x7.2.1).toNat ++ List.replicate (x7.1.length - (x7.2.1).toNat) (Pk.mk [(iI 0), (iI 0), (iI 0), (iI 0), (iI 0), (iI 0), (.float .f64 0), (.slice none 0 0), (iI 0), (iI 0), (.float .f64 0), (.slice none 0 0)] default)).take (x7.2.1).toNat)) else none) else none).bind fun o => some (Sum.inr o)))
def slices_DeleteFunc_impl_Row_impl_Row_pk.f (a0 : (List (Pk β))) (a1 : ((Pk β) → Option Bool)) : Option ((List (Pk β))) :=
 ((slices_IndexFunc_impl_Row_impl_Row_pk.f a0 a1).bind fun r2 => (if (r2 == (-1 : Int)) = true then (some a0) else (iter (slices_DeleteFunc_impl_Row_impl_Row_pk.b0 a1) (a0, r2, (IntKind.wrap .i64 (r2 + (1 : Int)))))))
def slices_DeleteFunc_impl_Row_impl_Row_pk.Q (w : World) (F : Nat → Prop) (os : List Nat) (r : (List (Pk β))) (v : Value) (w' : World) : Prop :=
 FW (Kd.sl 51 (Kd.pk β 12)) os w w' [v] r ∧ Ky os w w'
theorem slices_DeleteFunc_impl_Row_impl_Row_pk.calls (a0 : (List (Pk β))) (a1 : ((Pk β) → Option Bool)) (w : World) (F : Nat → Prop) (w0_0 : Value) (f1 : Value) (os : List Nat) (h0 : (Kd.sl 51 (Kd.pk β 12)).ow w [w0_0] a0 os) (hn : os.Nodup) (hF : ∀ b, F b → b ∉ os) (hf1 : ∀ (x0 : (Pk β)) (w' : World), Ky os w w' → ∀ r, a1 x0 = some r → CallV prog f1 [(.agg (List.toArray x0.cs))] w' fun en w'' => ∃ v, en = .returned v ∧ v = (.bool r) ∧ Ky [] w' w'') (ho1 : f1.cells = #[f1]) (r : (List (Pk β))) (m : slices_DeleteFunc_impl_Row_impl_Row_pk.f a0 a1 = some r) :
  Calls prog 39 #[w0_0, f1] w (RT (slices_DeleteFunc_impl_Row_impl_Row_pk.Q w F os) r) := by
 obtain ⟨s0, rfl, kp0, z⟩ := startN w F [(os, 40)] (by simpa [fl_] using hn) (fun b hb => by simpa [fl_] using hF b hb) rfl
 have ez : fl_ [(os, 40)] = os := by simp [fl_]
 have A0_0 := z.ow (c := 40) (by simp) hn h0
 refine Xd (args := [w0_0, f1]) func39 ntmps39 rfl rfl m ?_
 unfold slices_DeleteFunc_impl_Row_impl_Row_pk.f
 refine sr (Xb rfl (dn (sr (Xl w0_0 rfl (Xl f1 rfl (clV 41 rfl func68 rfl (slices_IndexFunc_impl_Row_impl_Row_pk.calls a0 a1 s0.w (mm [40] s0) w0_0 f1 A0_0.rd (fun x0 w' k  r m =>  hf1 x0 w' (Ky.tr (z.ky' ez kp0) k)  r m) ho1) (fun r2 s3 p3 n3 => ?_)))))))
 refine Xb rfl (dn (sq (sr (Xb rfl (Xb rfl (dn (cd rfl (fun h4 => ?_) (fun h4 => ?_))))))))
 ·
  refine sr (Xl w0_0 rfl (Xp w0_0 rfl (dn ?_)))
  have K6 := kp0.st p3 rfl
  exact re rfl func39 rfl (Xo rfl Xe) rfl ⟨_, rfl, z.fw' ez K6 (oc_ow (A0_0.st p3 rfl)) rfl, z.ky' ez K6⟩
 refine sk (sq (sr (Xb rfl (Xb rfl (Xb rfl (dn (bl ?_)))))))
 refine lpI (fun (x7 : (List (Pk β)) × Int × Int) e w => ∃ (s : St) (e0 : Env), w = s.w ∧ e = upd (upd (upd (upd e0 0 w0_0) 1 f1) 5 (iI x7.2.1)) 6 (iI x7.2.2) ∧ Kp s0 s ∧ OwF (Kd.sl 51 (Kd.pk β 12)) s [w0_0] x7.1 40) ⟨s3, _, rfl, (ue (ue (ue (ue rfl rfl) rfl) rfl) rfl), (kp0.st p3 rfl), (A0_0.st p3 rfl)⟩ (fun g7 ih7 => ?_)
 rintro x7 _ _ ⟨s10, _, rfl, rfl, Kx7, Ax7_0⟩
 unfold slices_DeleteFunc_impl_Row_impl_Row_pk.b0
 refine sq (sr (Xb rfl (Xl w0_0 rfl (ln' Ax7_0.rd u42 rfl (Xb rfl (dn (cd rfl (fun h12 => ?_) (fun h12 => ?_))))))))
 ·
  refine sk (sq (bl (sr (Xl w0_0 rfl (Xb rfl (ix' Ax7_0.rd u42 z51 rfl (fun ad13 es13 h0_13 h1_13 he13 ce13 ia13 => ?_)))))))
  obtain ⟨rfl, hl13, hv13⟩ := he13
  refine lca ce13 u51 (by rw [hl13]; exact z51) rfl rfl rfl rfl rfl rfl rfl (al' (cs := [(iI 0), (iI 0), (iI 0), (iI 0), (iI 0), (iI 0), (.float .f64 0), (.slice none 0 0), (iI 0), (iI 0), (.float .f64 0), (.slice none 0 0)]) 42 rfl o51 rfl (fun b15 s15 p15 B15 => ?_))
  refine svp B15 (by rw [hl13]; exact z51) hv13 (by rw [hl13]; rfl) rfl rfl rfl rfl rfl rfl (fun s17 p17 B17 => ?_)
  refine dn (sr (Xl f1 rfl (ldp B17 u51 (by rw [hl13]; exact z51) rfl rfl rfl rfl rfl rfl rfl ?_)))
  have K19 := Kx7.st (Xs p15 p17) rfl
  refine clv rfl rfl rfl rfl rfl rfl rfl (fun r20 m20 => hf1 (at_ x7.1 x7.2.2) s17.w (z.ky' ez K19)  r20 m20) ?_
  rintro r20 _ w20 m20 ⟨rfl, ky20⟩
  obtain ⟨s21, rfl, p21, n21⟩ := nwx s17 w20 43 ky20
  refine Xb rfl (dn (jc (fun (y22 : (List (Pk β)) × Int) e w => ∃ (s : St) (e0 : Env), w = s.w ∧ e = upd (upd (upd (upd e0 0 w0_0) 1 f1) 5 (iI y22.2)) 6 (iI x7.2.2) ∧ Kp s0 s ∧ OwF (Kd.sl 51 (Kd.pk β 12)) s [w0_0] y22.1 40) (fun Gj22 Kj22 => ?_) ?_))
  ·
   refine cd rfl (fun h23 => ?_) (fun h23 => ?_)
   ·
    refine sr (Xl w0_0 rfl (Xb rfl ?_))
    refine ldp (B17.st p21 rfl) u51 (by rw [hl13]; exact z51) rfl rfl rfl rfl rfl rfl rfl ?_
    have A25 := Ax7_0.st (tr3 p15 p17 p21) rfl
    refine ix' A25.rd u42 z51 rfl (fun ad26 es26 h0_26 h1_26 he26 ce26 ia26 => ?_)
    obtain ⟨rfl, hl26, hv26⟩ := he26
    have A28 : OwF (Kd.pk β 12) s21 (at_ x7.1 x7.2.2).cs (at_ x7.1 x7.2.2) 44 := ow_z _ _ (fun _ => ⟨⟨rfl, hl13, hv13⟩, rfl⟩)
    refine som (x' := (at_ x7.1 x7.2.2)) A25 ia26 h0_26 h1_26 A28 rfl rfl z51 rfl rfl rfl rfl rfl rfl (fun s30 p30 A30 => ?_)
    refine dn (rg (Xb rfl (Xb rfl (Xb rfl (dn ?_)))))
    exact Kj22 _ _ _ ⟨s30, _, rfl, (ue (ue (ue (ue rfl rfl) rfl) rfl) rfl), (K19.st (Xs p21 p30) rfl), A30⟩
   exact sk (Kj22 _ _ _ ⟨s21, _, rfl, (ue (ue (ue (ue rfl rfl) rfl) rfl) rfl), (K19.st p21 rfl), (Ax7_0.st (tr3 p15 p17 p21) rfl)⟩)
  rintro y22 _ _ ⟨s35, _, rfl, rfl, Ky22, Ay22_0⟩
  exact ib (rg (Xb rfl (Xb rfl (Xb rfl (dn (lb ih7 ⟨s35, _, rfl, (ue (ue (ue (ue rfl rfl) rfl) rfl) rfl), Ky22, Ay22_0⟩))))))
 refine xt rfl (sgb (sr (Xl w0_0 rfl (Xb rfl (mg fun hg37 => ?_)))))
 obtain ⟨v37, C37⟩ := cut_e (a := (x7.2.1).toNat) (b := x7.1.length) Ax7_0 (by omega) (Nat.le_refl _)
 refine slA_ hg37.1 C37 u42 z51 rfl rfl rfl rfl rfl rfl rfl (clr_ (x0 := (Pk.mk [(iI 0), (iI 0), (iI 0), (iI 0), (iI 0), (iI 0), (.float .f64 0), (.slice none 0 0), (iI 0), (iI 0), (.float .f64 0), (.slice none 0 0)] default)) fl_pk Ax7_0 C37 (by omega) (by omega) u42 o51 rfl rfl (fun _ => ⟨⟨rfl, rfl, fun v hv => List.all_eq_true.1 (show ([(iI 0), (iI 0), (iI 0), (iI 0), (iI 0), (iI 0), (.float .f64 0), (.slice none 0 0), (iI 0), (iI 0), (.float .f64 0), (.slice none 0 0)] : List Value).all (·.oneCell') = true from rfl) v hv⟩, rfl⟩) rfl rfl rfl rfl rfl (fun s39 p39 A39 => ?_))
 refine dn (sr (Xl w0_0 rfl (Xb rfl (mg fun hg41 => ?_))))
 obtain ⟨v41, C41⟩ := cut_e (a := 0) (b := (x7.2.1).toNat) A39 (Nat.zero_le _) (by omega)
 obtain ⟨A41, Q41⟩ := cut_ow fl_pk A39 (by omega) C41
 refine slH_ hg41.1 C41 u42 z51 rfl rfl rfl rfl rfl rfl rfl (Xp v41 rfl (dn ?_))
 have K43 := Kx7.st p39 rfl
 exact re rfl func39 rfl (Xo rfl Xe) rfl ⟨_, rfl, z.fw' ez K43 (oc_ow A41) rfl, z.ky' ez K43⟩
end
def slices_DeleteFunc_impl_Row_impl_Row.f (a0 : (List Row)) (a1 : (Row → Option Bool)) : Option ((List Row)) := delF a0 a1
def slices_DeleteFunc_impl_Row_impl_Row.Q (w : World) (F : Nat → Prop) (os : List Nat) (r : (List Row)) (v : Value) (w' : World) : Prop := FW Yh os w w' [v] r ∧ Ky os w w'
theorem slices_DeleteFunc_impl_Row_impl_Row.calls (a0 : (List Row)) (a1 : (Row → Option Bool)) (w : World) (F : Nat → Prop) (w0_0 : Value) (f1 : Value) (os : List Nat) (h0 : Yh.ow w [w0_0] a0 os) (hn : os.Nodup) (hF : ∀ b, F b → b ∉ os) (hf1 : ∀ (x0 : Row) (u0_0 u0_1 u0_2 u0_3 : Value) (w' : World), Ky os w w' → Kd.flt.rd w' [u0_0] x0.Tuple.Key.F (fun _ => True) → Ye.rd w' [u0_1] x0.Tuple.Key.T (fun _ => True) → Kd.flt.rd w' [u0_2] x0.Tuple.Value.F (fun _ => True) → Ye.rd w' [u0_3] x0.Tuple.Value.T (fun _ => True) → ∀ r, a1 x0 = some r → CallV prog f1 [(.agg #[(iI x0.Page), (iI x0.Slot), (iI x0.Tuple.Xmin), (iI x0.Tuple.Xmax), (iI x0.Tuple.Key.Kind), (iI x0.Tuple.Key.N), u0_0, u0_1, (iI x0.Tuple.Value.Kind), (iI x0.Tuple.Value.N), u0_2, u0_3])] w' fun en w'' => ∃ v, en = .returned v ∧ v = (.bool r) ∧ Ky [] w' w'') (ho1 : f1.cells = #[f1]) (r : (List Row)) (m : slices_DeleteFunc_impl_Row_impl_Row.f a0 a1 = some r) :
  Calls prog 39 #[w0_0, f1] w (RT (slices_DeleteFunc_impl_Row_impl_Row.Q w F os) r) :=
 delG (te := 51) (K := kd51) slices_DeleteFunc_impl_Row_impl_Row_pk.calls (fun a0 a1 g hl h => dfM_eq _ a0 a1 g hl h) a0 a1 w w0_0 f1 os h0 hn (fun x0 cs w' k hrd r hr => by
  obtain ⟨q0, q1, q2, q3, e, hq0, hq1, hq2, hq3⟩ := op51 (top_rd hrd)
  rw [e]
  exact hf1 x0 q0 q1 q2 q3 w' k (fl_rd hq0) (rd_top hq1) (fl_rd hq2) (rd_top hq3) r hr) ho1 r m

def impl_Heap_rowsOf.f (a0 : Heap) (a1 : (Tuple → Option Bool)) : Option ((List Row)) :=
 ((impl_HeapOk.f a0).bind fun r9 => (if (!r9) = true then (some ([] : (List Row))) else ((impl_Heap_rows.f a0).bind fun r16 => ((slices_DeleteFunc_impl_Row_impl_Row.f r16 (fun x0 => impl_Heap_rowsOf_1.f x0 a1)).bind fun r19 => (some r19)))))
def impl_Heap_rowsOf.Q (w : World) (F : Nat → Prop) (r : (List Row)) (v : Value) (w' : World) : Prop :=
 FO Yh w w' [v] r ∧ Ky [] w w'
theorem impl_Heap_rowsOf.calls (a0 : Heap) (a1 : (Tuple → Option Bool)) (w : World) (F : Nat → Prop) (w0_0 : Value) (f1 : Value) (h0_0 : Yg.rd w [w0_0] a0.Pages F) (hf1 : ∀ (x0 : Tuple) (u0_0 u0_1 u0_2 u0_3 : Value) (w' : World), Ky [] w w' → Kd.flt.rd w' [u0_0] x0.Key.F (fun _ => True) → Ye.rd w' [u0_1] x0.Key.T (fun _ => True) → Kd.flt.rd w' [u0_2] x0.Value.F (fun _ => True) → Ye.rd w' [u0_3] x0.Value.T (fun _ => True) → ∀ r, a1 x0 = some r → CallV prog f1 [(.agg #[(iI x0.Xmin), (iI x0.Xmax), (iI x0.Key.Kind), (iI x0.Key.N), u0_0, u0_1, (iI x0.Value.Kind), (iI x0.Value.N), u0_2, u0_3])] w' fun en w'' => ∃ v, en = .returned v ∧ v = (.bool r) ∧ Ky [] w' w'') (ho1 : f1.cells = #[f1]) (r : (List Row)) (m : impl_Heap_rowsOf.f a0 a1 = some r) :
  Calls prog 21 #[(.agg #[w0_0]), f1] w (RT (impl_Heap_rowsOf.Q w F) r) := by
 obtain ⟨s0, rfl, kp0, z⟩ := Xg w F
 have A0_0 := z.rd h0_0
 refine Xd (args := [(.agg #[w0_0]), f1]) func21 ntmps21 rfl rfl m ?_
 unfold impl_Heap_rowsOf.f
 refine sr (bx' (cs := [w0_0]) 40 rfl rfl (fun b2 s2 p2 B2 => ?_))
 refine bx' (cs := [f1]) 41 rfl ho1 (fun b4 s4 p4 B4 => ?_)
 refine Xb rfl (dn (sq (sr ?_)))
 have A6 := B2.st p4 rfl
 refine Yc (es := [w0_0]) A6 u31 z31 rfl ?_
 have K7 := kp0.st (Xs p2 p4) rfl
 refine clV 42 rfl func38 rfl (impl_HeapOk.calls a0 s4.w (mm [0] s4) w0_0 (A0_0.kp K7)) (fun r9 s10 p10 n10 => ?_)
 refine Xb rfl (dn (cd rfl (fun h11 => ?_) (fun h11 => ?_)))
 ·
  refine sr (Xb rfl (dn ?_))
  have K12 := K7.st p10 rfl
  exact re rfl func21 rfl (Xo rfl Xe) rfl ⟨_, rfl, (ow_nil 51 kd51 s10 40).fo K12 rfl z.l, z.ky K12⟩
 refine sk (sr ?_)
 refine Yc (es := [w0_0]) (A6.st p10 rfl) u31 z31 rfl ?_
 have K14 := K7.st p10 rfl
 refine clO 43 rfl func40 rfl (impl_Heap_rows.calls a0 s10.w (mm [0] s10) w0_0 (A0_0.kp K14)) (fun r16 v16_0 s17 p17 A16_0 => ?_)
 refine mkf (fs := []) (cs := [(pB b4)]) rfl rfl rfl rfl rfl rfl rfl ?_
 obtain ⟨os19, ho19, hn19, hc19⟩ := A16_0
 have K20 := K14.st p17 rfl
 refine cl' rfl func39 rfl (slices_DeleteFunc_impl_Row_impl_Row.calls r16 (fun x0 => impl_Heap_rowsOf_1.f x0 a1) s17.w (mm [] s17) v16_0 (.func (.func 41) (List.toArray []) (List.toArray [(pB b4)])) os19 ho19 hn19 (Yb hc19 rfl) (fun x0 u0_0 u0_1 u0_2 u0_3 w' k h0 h1 h2 h3 r m =>  ⟨41, _, _, [], [(pB b4)], rfl, func41, rfl, rfl, (impl_Heap_rowsOf_1.calls x0 a1 w' (fun _ => True) u0_0 u0_1 u0_2 u0_3 b4 f1 h0 h1 h2 h3 (fun x0c u0_0c u0_1c u0_2c u0_3c w'c kc h0c h1c h2c h3c r m =>  hf1 x0c u0_0c u0_1c u0_2c u0_3c w'c (kyn (z.ky K20) K20 z.l hc19 rfl (Ky.tr k kc)) h0c h1c h2c h3c r m) ho1 (BlF.kyo (B4.st (Xs p10 p17) rfl) hc19 k rfl) trivial r m).mono fun en w2 hq => by obtain ⟨v, e, q⟩ := hq; exact ⟨v, e, q⟩⟩) rfl) ?_
 rintro r19 v19_0 w19 m19 ⟨f19_0, ky19⟩
 obtain ⟨s22, rfl, p22, n22⟩ := nwm 44 hc19 ky19 rfl
 refine Xp v19_0 rfl (dn ?_)
 have K24 := K20.st p22 rfl
 exact re rfl func21 rfl (Xo rfl Xe) rfl ⟨_, rfl, (f19_0.m n22).fo K24 rfl z.l, z.ky K24⟩
set_option linter.unusedSectionVars false
section
variable {β : Type} [Inhabited β]
def slices_insertionSortCmpFunc_impl_Row_pk.b1 (a1 : Int) (a3 : ((Pk β) → (Pk β) → Option Int)) (x2 : (List (Pk β)) × Int) (x6 : (List (Pk β)) × Int) : Option (((List (Pk β)) × Int) ⊕ ((List (Pk β)) × Int ⊕ (List (Pk β)))) :=
 ((if (decide (x6.2 > a1)) = true then (if 0 ≤ x6.2 ∧ x6.2 < (x6.1.length : Int) then (if 0 ≤ (IntKind.wrap .i64 (x6.2 - (1 : Int))) ∧ (IntKind.wrap .i64 (x6.2 - (1 : Int))) < (x6.1.length : Int) then ((a3 (at_ x6.1 x6.2) (at_ x6.1 (IntKind.wrap .i64 (x6.2 - (1 : Int))))).bind fun r31 => (some (decide (r31 < (0 : Int))))) else none) else none) else (some false)).bind fun y14 => (if y14 = true then (if 0 ≤ (IntKind.wrap .i64 (x6.2 - (1 : Int))) ∧ (IntKind.wrap .i64 (x6.2 - (1 : Int))) < (x6.1.length : Int) then (if 0 ≤ x6.2 ∧ x6.2 < (x6.1.length : Int) then (if 0 ≤ x6.2 ∧ x6.2 < (x6.1.length : Int) then (if 0 ≤ (IntKind.wrap .i64 (x6.2 - (1 : Int))) ∧ (IntKind.wrap .i64 (x6.2 - (1 : Int))) < ((x6.1.set (x6.2).toNat (at_ x6.1 (IntKind.wrap .i64 (x6.2 - (1 : Int))))).length : Int) then ((some ((x6.1.set (x6.2).toNat (at_ x6.1 (IntKind.wrap .i64 (x6.2 - (1 : Int))))).set ((IntKind.wrap .i64 (x6.2 - (1 : Int)))).toNat (at_ x6.1 x6.2))).bind fun y84 => (some (Sum.inl (y84, (IntKind.wrap .i64 (x6.2 - (1 : Int))))))) else none) else none) else none) else none) else ((some (Sum.inl (x6.1, (IntKind.wrap .i64 (x2.2 + (1 : Int)))))).bind fun o => some (Sum.inr o))))
def slices_insertionSortCmpFunc_impl_Row_pk.b0 (a1 : Int) (a2 : Int) (a3 : ((Pk β) → (Pk β) → Option Int)) (x2 : (List (Pk β)) × Int) : Option (((List (Pk β)) × Int) ⊕ (List (Pk β))) :=
 (if (decide (x2.2 < a2)) = true then (iter (slices_insertionSortCmpFunc_impl_Row_pk.b1 a1 a3 x2) (x2.1, x2.2)) else ((some x2.1).bind fun o => some (Sum.inr o)))
def slices_insertionSortCmpFunc_impl_Row_pk.f (a0 : (List (Pk β))) (a1 : Int) (a2 : Int) (a3 : ((Pk β) → (Pk β) → Option Int)) : Option ((List (Pk β))) :=
 (iter (slices_insertionSortCmpFunc_impl_Row_pk.b0 a1 a2 a3) (a0, (IntKind.wrap .i64 (a1 + (1 : Int)))))
def slices_insertionSortCmpFunc_impl_Row_pk.Q (w : World) (F : Nat → Prop) (os : List Nat) (w0_0 : Value) (r : (List (Pk β))) (v : Value) (w' : World) : Prop :=
 v = .tuple #[] ∧ FW (Kd.sl 51 (Kd.pk β 12)) os w w' [w0_0] r ∧ Ky os w w'
theorem slices_insertionSortCmpFunc_impl_Row_pk.calls (a0 : (List (Pk β))) (a1 : Int) (a2 : Int) (a3 : ((Pk β) → (Pk β) → Option Int)) (w : World) (F : Nat → Prop) (w0_0 : Value) (f3 : Value) (os : List Nat) (h0_0 : (Kd.sl 51 (Kd.pk β 12)).ow w [w0_0] a0 os) (hn : os.Nodup) (hF : ∀ b, F b → b ∉ os) (hf3 : ∀ (x0 : (Pk β)) (x1 : (Pk β)) (w' : World), Ky os w w' → ∀ r, a3 x0 x1 = some r → CallV prog f3 [(.agg (List.toArray x0.cs)), (.agg (List.toArray x1.cs))] w' fun en w'' => ∃ v, en = .returned v ∧ v = (iI r) ∧ Ky [] w' w'') (ho3 : f3.cells = #[f3]) (r : (List (Pk β))) (m : slices_insertionSortCmpFunc_impl_Row_pk.f a0 a1 a2 a3 = some r) :
  Calls prog 69 #[w0_0, (iI a1), (iI a2), f3] w (RT (slices_insertionSortCmpFunc_impl_Row_pk.Q w F os w0_0) r) := by
 obtain ⟨s0, rfl, kp0, z⟩ := start1 w F os hF
 refine Xd (args := [w0_0, (iI a1), (iI a2), f3]) func69 ntmps69 rfl rfl m ?_
 unfold slices_insertionSortCmpFunc_impl_Row_pk.f
 refine sr (Xb rfl (Xb rfl (Xb rfl (dn (bl (lpI (fun (x2 : (List (Pk β)) × Int) e w => ∃ (s : St) (e0 : Env), w = s.w ∧ e = upd (upd (upd (upd (upd e0 0 w0_0) 1 (iI a1)) 2 (iI a2)) 3 f3) 8 (iI x2.2) ∧ Kp s0 s ∧ OwF (Kd.sl 51 (Kd.pk β 12)) s [w0_0] x2.1 2) ⟨s0, _, rfl, (ue (ue (ue (ue (ue rfl rfl) rfl) rfl) rfl) rfl), kp0, (z.ow h0_0 hn)⟩ (fun g2 ih2 => ?_)))))))
 rintro x2 _ _ ⟨s3, _, rfl, rfl, Kx2, Ax2_0⟩
 unfold slices_insertionSortCmpFunc_impl_Row_pk.b0
 refine sq (sr (Xb rfl (Xb rfl (Xb rfl (dn (cd rfl (fun h5 => ?_) (fun h5 => ?_)))))))
 ·
  refine sk (sq (bl (sr (Xb rfl (Xb rfl (dn (bl (lpI (fun (x6 : (List (Pk β)) × Int) e w => ∃ (s : St) (e0 : Env), w = s.w ∧ e = upd (upd (upd (upd (upd (upd e0 0 w0_0) 1 (iI a1)) 2 (iI a2)) 3 f3) 8 (iI x2.2)) 9 (iI x6.2) ∧ Kp s0 s ∧ OwF (Kd.sl 51 (Kd.pk β 12)) s [w0_0] x6.1 2) ⟨s3, _, rfl, (ue (ue (ue (ue (ue (ue rfl rfl) rfl) rfl) rfl) rfl) rfl), Kx2, Ax2_0⟩ (fun g6 ih6 => ?_)))))))))
  rintro x6 _ _ ⟨s7, _, rfl, rfl, Kx6, Ax6_0⟩
  unfold slices_insertionSortCmpFunc_impl_Row_pk.b1
  refine sq (sq (zdraw [[], [], [0, 1], [2], [3], [3], [3], [5, 6, 3], [7, 3], [3], [3], [10, 3], [9, 11, 3], [12, 3], [4, 8, 13, 3, 3], [14, 3], [3, 15]] [some 18, some 19, some 20, some 21, some 22, some 23, some 24, some 25, some 26, some 27, some 28, some 29, some 30, some 31, some 32, some 33, some 34] [[9], [1], [18, 19], [20], [3, 21], [0, 21], [9, 21], [23, 24, 21], [25, 21], [0, 21], [9, 21], [28, 21], [27, 29, 21], [30, 21], [22, 26, 31, 21], [32, 21], [21, 33]] [0, 1, 2, 3, 4, 5, 6, 7, 8, 9, 10, 11, 12, 13, 14, 15, 16] ⟨by kernel_rfl, by kernel_rfl, by kernel_rfl⟩ (by kernel_rfl) (fun s9 p9 l9 tb9 zd9 => ?_)))
  have zd13 := (((zd9.add 0 18 (iI x6.2) rfl).add 1 19 (iI a1) rfl).add 2 20 (.bool (decide (x6.2 > a1))) rfl).add 3 21 (.bool (decide (x6.2 > a1))) rfl
  refine ji [] (fun (y14 : Bool) e w => ∃ (s : St) (e0 : Env), w = s.w ∧ e = upd (upd (upd (upd (upd (upd (upd e0 0 w0_0) 1 (iI a1)) 2 (iI a2)) 3 f3) 8 (iI x2.2)) 9 (iI x6.2)) 34 (.bool y14) ∧ Kp s0 s ∧ OwF (Kd.sl 51 (Kd.pk β 12)) s [w0_0] x6.1 2) (fun Gj14 Kj14 => ?_) ?_
  ·
   rcases bft (decide (x6.2 > a1)) with hb14 | hb14
   ·
    rw [if_pos hb14]
    rw [hb14] at zd13
    try rw [hb14]
    have A18 := Ax6_0.st p9 rfl
    refine mg fun hg19 => ?_
    obtain ⟨ad19, es19, he19, ce19, ia19⟩ := ix_e A18.rd rfl hg19.1 hg19.2
    obtain ⟨rfl, hl19, hv19⟩ := he19
    refine mg fun hg26 => ?_
    obtain ⟨ad26, es26, he26, ce26, ia26⟩ := ix_e A18.rd rfl hg26.1 hg26.2
    obtain ⟨rfl, hl26, hv26⟩ := he26
    refine zfin [14, 15, 16] tb9 ((((((((((zd13.add 4 22 f3 rfl).add 5 23 w0_0 rfl).add 6 24 (iI x6.2) rfl).add 7 25 (.pointer (some ad19)) rfl).add 8 26 (.agg (List.toArray (at_ x6.1 x6.2).cs)) rfl).add 9 27 w0_0 rfl).add 10 28 (iI x6.2) rfl).add 11 29 (iI (IntKind.wrap .i64 (x6.2 - (1 : Int)))) rfl).add 12 30 (.pointer (some ad26)) rfl).add 13 31 (.agg (List.toArray (at_ x6.1 (IntKind.wrap .i64 (x6.2 - (1 : Int)))).cs)) rfl) (Xa (lca_q ce26 u51 (by rw [hl26]; exact z51) rfl rfl rfl rfl rfl rfl rfl) rfl (Xa (ix_q' A18.rd u42 z51 hg26.1 hg26.2 ia26 rfl) rfl (Xa (Xm rfl) rfl (Xa (Xm rfl) rfl (Xa (Xf w0_0 rfl) rfl (Xa (lca_q ce19 u51 (by rw [hl19]; exact z51) rfl rfl rfl rfl rfl rfl rfl) rfl (Xa (ix_q' A18.rd u42 z51 hg19.1 hg19.2 ia19 rfl) rfl (Xa (Xm rfl) rfl (Xa (Xf w0_0 rfl) rfl (Xa (Xf f3 rfl) rfl (Xa (Xm rfl) rfl (Xa (qv_b (Xm rfl) hb14) rfl (Xa (Xm rfl) rfl (Xa (Xm rfl) rfl Xk)))))))))))))) (by kernel_rfl) (by decide) ?_
    have K30 := Kx6.st p9 rfl
    refine clv rfl rfl rfl rfl rfl rfl rfl (fun r31 m31 => hf3 (at_ x6.1 x6.2) (at_ x6.1 (IntKind.wrap .i64 (x6.2 - (1 : Int)))) s9.w (z.ky K30)  r31 m31) ?_
    rintro r31 _ w31 m31 ⟨rfl, ky31⟩
    obtain ⟨s32, rfl, p32, n32⟩ := nwx s9 w31 40 ky31
    refine Xb rfl (Xb rfl ?_)
    exact Kj14 _ _ _ ⟨s32, _, rfl, (ue (ue (ue (ue (ue (ue (ue rfl rfl) rfl) rfl) rfl) rfl) rfl) rfl), (K30.st p32 rfl), (A18.st p32 rfl)⟩
   rw [if_neg (by rw [hb14]; decide)]
   rw [hb14] at zd13
   try rw [hb14]
   refine zfin [14, 15, 16] tb9 ((((((((((zd13.add 4 22 undef rfl).add 5 23 undef rfl).add 6 24 undef rfl).add 7 25 undef rfl).add 8 26 undef rfl).add 9 27 undef rfl).add 10 28 undef rfl).add 11 29 undef rfl).add 12 30 undef rfl).add 13 31 undef rfl) (Xa (uw_q' rfl) rfl (Xa (uw_q' rfl) rfl (Xa (uw_q' rfl) rfl (Xa (uw_q' rfl) rfl (Xa (uw_q' rfl) rfl (Xa (uw_q' rfl) rfl (Xa (uw_q' rfl) rfl (Xa (uw_q' rfl) rfl (Xa (uw_q' rfl) rfl (Xa (uw_q' rfl) rfl (Xa (Xm rfl) rfl (Xa (qv_b (Xm rfl) hb14) rfl (Xa (Xm rfl) rfl (Xa (Xm rfl) rfl Xk)))))))))))))) (by kernel_rfl) (by decide) (Xh rfl (Xh rfl (Xb rfl ?_)))
   exact Kj14 _ _ _ ⟨s9, _, rfl, (ue (ue (ue (ue (ue (ue (ue rfl rfl) rfl) rfl) rfl) rfl) rfl) rfl), (Kx6.st p9 rfl), (Ax6_0.st p9 rfl)⟩
  rintro y14 _ _ ⟨s47, _, rfl, rfl, Ky14, Cy14_8⟩
  refine dn (cd rfl (fun h48 => ?_) (fun h48 => ?_))
  ·
   refine sk (sq (bl (zdraw [[], [], [], [], [3], [], [], [6], [5, 7], [8], [], [], [10, 11], [12], [0, 1, 0, 1, 5, 6, 7, 8, 9, 13], [14, 9, 0, 1, 5, 6, 7, 8, 9, 13], [2, 4, 0, 1, 2, 3, 4, 5, 6, 7, 8, 9, 10, 11, 12, 13, 14, 15], [16, 13, 15, 0, 1, 2, 3, 4, 5, 6, 7, 8, 9, 10, 11, 12, 13, 14, 15]] [some 37, some 38, some 39, some 40, some 41, some 42, some 43, some 44, some 45, some 46, some 47, some 48, some 49, some 50, some 51, none, some 52, none] [[0], [9], [0], [9], [40], [0], [9], [43], [42, 44], [45], [0], [9], [47, 48], [49], [37, 38], [51, 46], [39, 41], [52, 50]] [0, 1, 13, 14, 15, 2, 3, 4, 5, 6, 7, 8, 9, 10, 11, 12, 16, 17] ⟨by kernel_rfl, by kernel_rfl, by kernel_rfl⟩ (by kernel_rfl) (fun s49 p49 l49 tb49 zd49 => ?_))))
   have A58 := Cy14_8.st p49 rfl
   refine mg fun hg59 => ?_
   obtain ⟨ad59, es59, he59, ce59, ia59⟩ := ix_e A58.rd rfl hg59.1 hg59.2
   obtain ⟨rfl, hl59, hv59⟩ := he59
   refine mg fun hg65 => ?_
   obtain ⟨ad65, es65, he65, ce65, ia65⟩ := ix_e A58.rd rfl hg65.1 hg65.2
   obtain ⟨rfl, hl65, hv65⟩ := he65
   refine mg fun hg69 => ?_
   obtain ⟨ad69, es69, he69, ce69, ia69⟩ := ix_e A58.rd rfl hg69.1 hg69.2
   obtain ⟨rfl, hl69, hv69⟩ := he69
   refine zstep 15 [some 41, some 40, some 39] tb49 (((((((((((((((zd49.add 0 37 w0_0 rfl).add 1 38 (iI x6.2) rfl).add 2 39 w0_0 rfl).add 3 40 (iI x6.2) rfl).add 4 41 (iI (IntKind.wrap .i64 (x6.2 - (1 : Int)))) rfl).add 5 42 w0_0 rfl).add 6 43 (iI x6.2) rfl).add 7 44 (iI (IntKind.wrap .i64 (x6.2 - (1 : Int)))) rfl).add 8 45 (.pointer (some ad59)) rfl).add 9 46 (.agg (List.toArray (at_ x6.1 (IntKind.wrap .i64 (x6.2 - (1 : Int)))).cs)) rfl).add 10 47 w0_0 rfl).add 11 48 (iI x6.2) rfl).add 12 49 (.pointer (some ad65)) rfl).add 13 50 (.agg (List.toArray (at_ x6.1 x6.2).cs)) rfl).add 14 51 (.pointer (some ad69)) rfl) (Xa (ix_q' A58.rd u42 z51 hg69.1 hg69.2 ia69 rfl) rfl (Xa (lca_q ce65 u51 (by rw [hl65]; exact z51) rfl rfl rfl rfl rfl rfl rfl) rfl (Xa (ix_q' A58.rd u42 z51 hg65.1 hg65.2 ia65 rfl) rfl (Xa (Xm rfl) rfl (Xa (Xf w0_0 rfl) rfl (Xa (lca_q ce59 u51 (by rw [hl59]; exact z51) rfl rfl rfl rfl rfl rfl rfl) rfl (Xa (ix_q' A58.rd u42 z51 hg59.1 hg59.2 ia59 rfl) rfl (Xa (Xm rfl) rfl (Xa (Xm rfl) rfl (Xa (Xf w0_0 rfl) rfl (Xa (Xm rfl) rfl (Xa (Xm rfl) rfl (Xa (Xf w0_0 rfl) rfl (Xa (Xm rfl) rfl (Xa (Xf w0_0 rfl) rfl Xk))))))))))))))) (by kernel_rfl) rfl (fun l72 e72 zd72 => ?_)
   have A73 : OwF (Kd.pk β 12) s49 (at_ x6.1 (IntKind.wrap .i64 (x6.2 - (1 : Int)))).cs (at_ x6.1 (IntKind.wrap .i64 (x6.2 - (1 : Int)))) 41 := ow_z _ _ (fun _ => ⟨⟨rfl, hl59, hv59⟩, rfl⟩)
   refine som (x' := (at_ x6.1 (IntKind.wrap .i64 (x6.2 - (1 : Int))))) A58 ia69 hg69.1 hg69.2 A73 rfl rfl z51 rfl rfl rfl rfl rfl rfl (fun s75 p75 A75 => ?_)
   refine zdone0 (L' := [4, 3, 2]) (D' := [10, 11, 12, 14, 9, 0, 1, 5, 6, 7, 8, 9, 13, 15]) zd72 rfl rfl rfl (fun zd77 => ?_)
   refine zfin [16, 17] tb49 zd77 (Xa (Xm rfl) rfl (Xa (Xm rfl) rfl (Xa (Xf w0_0 rfl) rfl Xk))) (by kernel_rfl) (by decide) (ix' A75.rd u42 z51 rfl (fun ad78 es78 h0_78 h1_78 he78 ce78 ia78 => ?_))
   obtain ⟨rfl, hl78, hv78⟩ := he78
   have A80 : OwF (Kd.pk β 12) s75 (at_ x6.1 x6.2).cs (at_ x6.1 x6.2) 42 := ow_z _ _ (fun _ => ⟨⟨rfl, hl65, hv65⟩, rfl⟩)
   refine som (x' := (at_ x6.1 x6.2)) A75 ia78 h0_78 h1_78 A80 rfl rfl z51 rfl rfl rfl rfl rfl rfl (fun s82 p82 A82 => ?_)
   refine nb (fun y84 h84 => ?_)
   have A84 : OwF (Kd.sl 51 (Kd.pk β 12)) s82 [w0_0] y84 2 := by rw [h84]; exact A82
   refine dn (ib (rg (Xb rfl (Xb rfl (Xb rfl (dn ?_))))))
   exact lb ih6 ⟨s82, _, rfl, (ue (ue (ue (ue (ue (ue rfl rfl) rfl) rfl) rfl) rfl) rfl), (Ky14.st (tr3 p49 p75 p82) rfl), A84⟩
  exact xt rfl (sgb (ib (rg (Xb rfl (Xb rfl (Xb rfl (dn (lb ih2 ⟨s47, _, rfl, (ue (ue (ue (ue (ue rfl rfl) rfl) rfl) rfl) rfl), Ky14, Cy14_8⟩))))))))
 exact xt rfl (sgb (reE rfl func69 rfl Xe rfl ⟨_, rfl, rfl, z.fw Kx2 Ax2_0, z.ky Kx2⟩))
end
set_option linter.unusedSectionVars false
section
variable {β : Type} [Inhabited β]
def slices_swapRangeCmpFunc_impl_Row_pk.b0 (a1 : Int) (a2 : Int) (a3 : Int) (x2 : (List (Pk β)) × Int) : Option (((List (Pk β)) × Int) ⊕ (List (Pk β))) :=
 (if (decide (x2.2 < a3)) = true then (if 0 ≤ (IntKind.wrap .i64 (a2 + x2.2)) ∧ (IntKind.wrap .i64 (a2 + x2.2)) < (x2.1.length : Int) then (if 0 ≤ (IntKind.wrap .i64 (a1 + x2.2)) ∧ (IntKind.wrap .i64 (a1 + x2.2)) < (x2.1.length : Int) then (if 0 ≤ (IntKind.wrap .i64 (a1 + x2.2)) ∧ (IntKind.wrap .i64 (a1 + x2.2)) < (x2.1.length : Int) then (if 0 ≤ (IntKind.wrap .i64 (a2 + x2.2)) ∧ (IntKind.wrap .i64 (a2 + x2.2)) < ((x2.1.set ((IntKind.wrap .i64 (a1 + x2.2))).toNat (at_ x2.1 (IntKind.wrap .i64 (a2 + x2.2)))).length : Int) then ((some ((x2.1.set ((IntKind.wrap .i64 (a1 + x2.2))).toNat (at_ x2.1 (IntKind.wrap .i64 (a2 + x2.2)))).set ((IntKind.wrap .i64 (a2 + x2.2))).toNat (at_ x2.1 (IntKind.wrap .i64 (a1 + x2.2))))).bind fun y47 => (some (Sum.inl (y47, (IntKind.wrap .i64 (x2.2 + (1 : Int))))))) else none) else none) else none) else none) else ((some x2.1).bind fun o => some (Sum.inr o)))
def slices_swapRangeCmpFunc_impl_Row_pk.f (a0 : (List (Pk β))) (a1 : Int) (a2 : Int) (a3 : Int) (a4 : ((Pk β) → (Pk β) → Option Int)) : Option ((List (Pk β))) :=
 (iter (slices_swapRangeCmpFunc_impl_Row_pk.b0 a1 a2 a3) (a0, (0 : Int)))
def slices_swapRangeCmpFunc_impl_Row_pk.Q (w : World) (F : Nat → Prop) (os : List Nat) (w0_0 : Value) (r : (List (Pk β))) (v : Value) (w' : World) : Prop :=
 v = .tuple #[] ∧ FW (Kd.sl 51 (Kd.pk β 12)) os w w' [w0_0] r ∧ Ky os w w'
theorem slices_swapRangeCmpFunc_impl_Row_pk.calls (a0 : (List (Pk β))) (a1 : Int) (a2 : Int) (a3 : Int) (a4 : ((Pk β) → (Pk β) → Option Int)) (w : World) (F : Nat → Prop) (w0_0 : Value) (f4 : Value) (os : List Nat) (h0_0 : (Kd.sl 51 (Kd.pk β 12)).ow w [w0_0] a0 os) (hn : os.Nodup) (hF : ∀ b, F b → b ∉ os) (hf4 : ∀ (x0 : (Pk β)) (x1 : (Pk β)) (w' : World), Ky os w w' → ∀ r, a4 x0 x1 = some r → CallV prog f4 [(.agg (List.toArray x0.cs)), (.agg (List.toArray x1.cs))] w' fun en w'' => ∃ v, en = .returned v ∧ v = (iI r) ∧ Ky [] w' w'') (ho4 : f4.cells = #[f4]) (r : (List (Pk β))) (m : slices_swapRangeCmpFunc_impl_Row_pk.f a0 a1 a2 a3 a4 = some r) :
  Calls prog 117 #[w0_0, (iI a1), (iI a2), (iI a3), f4] w (RT (slices_swapRangeCmpFunc_impl_Row_pk.Q w F os w0_0) r) := by
 obtain ⟨s0, rfl, kp0, z⟩ := start1 w F os hF
 refine Xd (args := [w0_0, (iI a1), (iI a2), (iI a3), f4]) func117 ntmps117 rfl rfl m ?_
 unfold slices_swapRangeCmpFunc_impl_Row_pk.f
 refine sr (Xb rfl (dn (bl (lpI (fun (x2 : (List (Pk β)) × Int) e w => ∃ (s : St) (e0 : Env), w = s.w ∧ e = upd (upd (upd (upd (upd e0 0 w0_0) 1 (iI a1)) 2 (iI a2)) 3 (iI a3)) 10 (iI x2.2) ∧ Kp s0 s ∧ OwF (Kd.sl 51 (Kd.pk β 12)) s [w0_0] x2.1 2) ⟨s0, _, rfl, (ue (ue (ue (ue (ue rfl rfl) rfl) rfl) rfl) rfl), kp0, (z.ow h0_0 hn)⟩ (fun g2 ih2 => ?_)))))
 rintro x2 _ _ ⟨s3, _, rfl, rfl, Kx2, Ax2_0⟩
 unfold slices_swapRangeCmpFunc_impl_Row_pk.b0
 refine sq (sr (Xb rfl (Xb rfl (Xb rfl (dn (cd rfl (fun h5 => ?_) (fun h5 => ?_)))))))
 ·
  refine sk (sq (bl (zdraw [[], [], [], [1, 2], [], [], [], [5, 6], [], [], [], [9, 10], [8, 11], [12], [], [], [], [15, 16], [14, 17], [18], [0, 3, 0, 1, 2, 3, 8, 9, 10, 11, 12, 13, 19], [20, 13, 0, 1, 2, 3, 8, 9, 10, 11, 12, 13, 19], [4, 7, 0, 1, 2, 3, 4, 5, 6, 7, 8, 9, 10, 11, 12, 13, 14, 15, 16, 17, 18, 19, 20, 21], [22, 19, 21, 0, 1, 2, 3, 4, 5, 6, 7, 8, 9, 10, 11, 12, 13, 14, 15, 16, 17, 18, 19, 20, 21]] [some 16, some 17, some 18, some 19, some 20, some 21, some 22, some 23, some 24, some 25, some 26, some 27, some 28, some 29, some 30, some 31, some 32, some 33, some 34, some 35, some 36, none, some 37, none] [[0], [1], [10], [17, 18], [0], [2], [10], [21, 22], [0], [2], [10], [25, 26], [24, 27], [28], [0], [1], [10], [31, 32], [30, 33], [34], [16, 19], [36, 29], [20, 23], [37, 35]] [0, 1, 2, 3, 18, 19, 20, 21, 4, 5, 6, 7, 8, 9, 10, 11, 12, 13, 14, 15, 16, 17, 22, 23] ⟨by kernel_rfl, by kernel_rfl, by kernel_rfl⟩ (by kernel_rfl) (fun s6 p6 l6 tb6 zd6 => ?_))))
  have zd16 := (((((((((zd6.add 0 16 w0_0 rfl).add 1 17 (iI a1) rfl).add 2 18 (iI x2.2) rfl).add 3 19 (iI (IntKind.wrap .i64 (a1 + x2.2))) rfl).add 4 20 w0_0 rfl).add 5 21 (iI a2) rfl).add 6 22 (iI x2.2) rfl).add 7 23 (iI (IntKind.wrap .i64 (a2 + x2.2))) rfl).add 8 24 w0_0 rfl).add 9 25 (iI a2) rfl
  have A19 := Ax2_0.st p6 rfl
  refine mg fun hg20 => ?_
  obtain ⟨ad20, es20, he20, ce20, ia20⟩ := ix_e A19.rd rfl hg20.1 hg20.2
  obtain ⟨rfl, hl20, hv20⟩ := he20
  refine mg fun hg28 => ?_
  obtain ⟨ad28, es28, he28, ce28, ia28⟩ := ix_e A19.rd rfl hg28.1 hg28.2
  obtain ⟨rfl, hl28, hv28⟩ := he28
  refine mg fun hg32 => ?_
  obtain ⟨ad32, es32, he32, ce32, ia32⟩ := ix_e A19.rd rfl hg32.1 hg32.2
  obtain ⟨rfl, hl32, hv32⟩ := he32
  refine zstep 21 [some 23, some 22, some 21, some 20] tb6 (((((((((((zd16.add 10 26 (iI x2.2) rfl).add 11 27 (iI (IntKind.wrap .i64 (a2 + x2.2))) rfl).add 12 28 (.pointer (some ad20)) rfl).add 13 29 (.agg (List.toArray (at_ x2.1 (IntKind.wrap .i64 (a2 + x2.2))).cs)) rfl).add 14 30 w0_0 rfl).add 15 31 (iI a1) rfl).add 16 32 (iI x2.2) rfl).add 17 33 (iI (IntKind.wrap .i64 (a1 + x2.2))) rfl).add 18 34 (.pointer (some ad28)) rfl).add 19 35 (.agg (List.toArray (at_ x2.1 (IntKind.wrap .i64 (a1 + x2.2))).cs)) rfl).add 20 36 (.pointer (some ad32)) rfl) (Xa (ix_q' A19.rd u42 z51 hg32.1 hg32.2 ia32 rfl) rfl (Xa (lca_q ce28 u51 (by rw [hl28]; exact z51) rfl rfl rfl rfl rfl rfl rfl) rfl (Xa (ix_q' A19.rd u42 z51 hg28.1 hg28.2 ia28 rfl) rfl (Xa (Xm rfl) rfl (Xa (Xm rfl) rfl (Xa (Xm rfl) rfl (Xa (Xf w0_0 rfl) rfl (Xa (lca_q ce20 u51 (by rw [hl20]; exact z51) rfl rfl rfl rfl rfl rfl rfl) rfl (Xa (ix_q' A19.rd u42 z51 hg20.1 hg20.2 ia20 rfl) rfl (Xa (Xm rfl) rfl (Xa (Xm rfl) rfl (Xa (Xm rfl) rfl (Xa (Xf w0_0 rfl) rfl (Xa (Xm rfl) rfl (Xa (Xm rfl) rfl (Xa (Xm rfl) rfl (Xa (Xf w0_0 rfl) rfl (Xa (Xm rfl) rfl (Xa (Xm rfl) rfl (Xa (Xm rfl) rfl (Xa (Xf w0_0 rfl) rfl Xk))))))))))))))))))))) (by kernel_rfl) rfl (fun l35 e35 zd35 => ?_)
  have A36 : OwF (Kd.pk β 12) s6 (at_ x2.1 (IntKind.wrap .i64 (a2 + x2.2))).cs (at_ x2.1 (IntKind.wrap .i64 (a2 + x2.2))) 40 := ow_z _ _ (fun _ => ⟨⟨rfl, hl20, hv20⟩, rfl⟩)
  refine som (x' := (at_ x2.1 (IntKind.wrap .i64 (a2 + x2.2)))) A19 ia32 hg32.1 hg32.2 A36 rfl rfl z51 rfl rfl rfl rfl rfl rfl (fun s38 p38 A38 => ?_)
  refine zdone0 (L' := [7, 6, 5, 4]) (D' := [15, 16, 14, 17, 18, 20, 13, 0, 1, 2, 3, 8, 9, 10, 11, 12, 13, 19, 21]) zd35 rfl rfl rfl (fun zd40 => ?_)
  refine zfin [22, 23] tb6 zd40 (Xa (Xm rfl) rfl (Xa (Xm rfl) rfl (Xa (Xm rfl) rfl (Xa (Xf w0_0 rfl) rfl Xk)))) (by kernel_rfl) (by decide) (ix' A38.rd u42 z51 rfl (fun ad41 es41 h0_41 h1_41 he41 ce41 ia41 => ?_))
  obtain ⟨rfl, hl41, hv41⟩ := he41
  have A43 : OwF (Kd.pk β 12) s38 (at_ x2.1 (IntKind.wrap .i64 (a1 + x2.2))).cs (at_ x2.1 (IntKind.wrap .i64 (a1 + x2.2))) 41 := ow_z _ _ (fun _ => ⟨⟨rfl, hl28, hv28⟩, rfl⟩)
  refine som (x' := (at_ x2.1 (IntKind.wrap .i64 (a1 + x2.2)))) A38 ia41 h0_41 h1_41 A43 rfl rfl z51 rfl rfl rfl rfl rfl rfl (fun s45 p45 A45 => ?_)
  refine nb (fun y47 h47 => ?_)
  have A47 : OwF (Kd.sl 51 (Kd.pk β 12)) s45 [w0_0] y47 2 := by rw [h47]; exact A45
  refine dn (ib (rg (Xb rfl (Xb rfl (Xb rfl (dn ?_))))))
  exact lb ih2 ⟨s45, _, rfl, (ue (ue (ue (ue (ue rfl rfl) rfl) rfl) rfl) rfl), (Kx2.st (tr3 p6 p38 p45) rfl), A47⟩
 exact xt rfl (sgb (reE rfl func117 rfl Xe rfl ⟨_, rfl, rfl, z.fw Kx2 Ax2_0, z.ky Kx2⟩))
end
set_option linter.unusedSectionVars false
section
variable {β : Type} [Inhabited β]
def slices_rotateCmpFunc_impl_Row_pk.b0 (a2 : Int) (a4 : ((Pk β) → (Pk β) → Option Int)) (x2 : (List (Pk β)) × Int × Int) : Option (((List (Pk β)) × Int × Int) ⊕ (List (Pk β))) :=
 (if (x2.2.1 != x2.2.2) = true then ((if (decide (x2.2.1 > x2.2.2)) = true then ((slices_swapRangeCmpFunc_impl_Row_pk.f x2.1 (IntKind.wrap .i64 (a2 - x2.2.1)) a2 x2.2.2 a4).bind fun r8 => (some (r8, (IntKind.wrap .i64 (x2.2.1 - x2.2.2)), x2.2.2))) else ((slices_swapRangeCmpFunc_impl_Row_pk.f x2.1 (IntKind.wrap .i64 (a2 - x2.2.1)) (IntKind.wrap .i64 ((IntKind.wrap .i64 (a2 + x2.2.2)) - x2.2.1)) x2.2.1 a4).bind fun r12 => (some (r12, x2.2.1, (IntKind.wrap .i64 (x2.2.2 - x2.2.1)))))).bind fun y6 => (some (Sum.inl (y6.1, y6.2.1, y6.2.2)))) else (((slices_swapRangeCmpFunc_impl_Row_pk.f x2.1 (IntKind.wrap .i64 (a2 - x2.2.1)) a2 x2.2.1 a4).bind fun r18 => (some r18)).bind fun o => some (Sum.inr o)))
def slices_rotateCmpFunc_impl_Row_pk.f (a0 : (List (Pk β))) (a1 : Int) (a2 : Int) (a3 : Int) (a4 : ((Pk β) → (Pk β) → Option Int)) : Option ((List (Pk β))) :=
 (iter (slices_rotateCmpFunc_impl_Row_pk.b0 a2 a4) (a0, (IntKind.wrap .i64 (a2 - a1)), (IntKind.wrap .i64 (a3 - a2))))
def slices_rotateCmpFunc_impl_Row_pk.Q (w : World) (F : Nat → Prop) (os : List Nat) (w0_0 : Value) (r : (List (Pk β))) (v : Value) (w' : World) : Prop :=
 v = .tuple #[] ∧ FW (Kd.sl 51 (Kd.pk β 12)) os w w' [w0_0] r ∧ Ky os w w'
theorem slices_rotateCmpFunc_impl_Row_pk.calls (a0 : (List (Pk β))) (a1 : Int) (a2 : Int) (a3 : Int) (a4 : ((Pk β) → (Pk β) → Option Int)) (w : World) (F : Nat → Prop) (w0_0 : Value) (f4 : Value) (os : List Nat) (h0_0 : (Kd.sl 51 (Kd.pk β 12)).ow w [w0_0] a0 os) (hn : os.Nodup) (hF : ∀ b, F b → b ∉ os) (hf4 : ∀ (x0 : (Pk β)) (x1 : (Pk β)) (w' : World), Ky os w w' → ∀ r, a4 x0 x1 = some r → CallV prog f4 [(.agg (List.toArray x0.cs)), (.agg (List.toArray x1.cs))] w' fun en w'' => ∃ v, en = .returned v ∧ v = (iI r) ∧ Ky [] w' w'') (ho4 : f4.cells = #[f4]) (r : (List (Pk β))) (m : slices_rotateCmpFunc_impl_Row_pk.f a0 a1 a2 a3 a4 = some r) :
  Calls prog 99 #[w0_0, (iI a1), (iI a2), (iI a3), f4] w (RT (slices_rotateCmpFunc_impl_Row_pk.Q w F os w0_0) r) := by
 obtain ⟨s0, rfl, kp0, z⟩ := start1 w F os hF
 refine Xd (args := [w0_0, (iI a1), (iI a2), (iI a3), f4]) func99 ntmps99 rfl rfl m ?_
 unfold slices_rotateCmpFunc_impl_Row_pk.f
 refine sr (Xb rfl (Xb rfl (Xb rfl (Xb rfl (dn (sr (Xb rfl (Xb rfl (Xb rfl (Xb rfl (dn (sq (bl (lpI (fun (x2 : (List (Pk β)) × Int × Int) e w => ∃ (s : St) (e0 : Env), w = s.w ∧ e = upd (upd (upd (upd (upd e0 0 w0_0) 2 (iI a2)) 4 f4) 10 (iI x2.2.1)) 11 (iI x2.2.2) ∧ Kp s0 s ∧ OwF (Kd.sl 51 (Kd.pk β 12)) s [w0_0] x2.1 2) ⟨s0, _, rfl, (ue (ue (ue (ue (ue rfl rfl) rfl) rfl) rfl) rfl), kp0, (z.ow h0_0 hn)⟩ (fun g2 ih2 => ?_)))))))))))))))
 rintro x2 _ _ ⟨s3, _, rfl, rfl, Kx2, Ax2_0⟩
 unfold slices_rotateCmpFunc_impl_Row_pk.b0
 refine sq (sr (Xb rfl (Xb rfl (Xb rfl (dn (cd rfl (fun h5 => ?_) (fun h5 => ?_)))))))
 ·
  refine sk (bl (sr (Xb rfl (Xb rfl (Xb rfl (dn (jc (fun (y6 : (List (Pk β)) × Int × Int) e w => ∃ (s : St) (e0 : Env), w = s.w ∧ e = upd (upd (upd (upd (upd e0 0 w0_0) 2 (iI a2)) 4 f4) 10 (iI y6.2.1)) 11 (iI y6.2.2) ∧ Kp s0 s ∧ OwF (Kd.sl 51 (Kd.pk β 12)) s [w0_0] y6.1 2) (fun Gj6 Kj6 => ?_) ?_)))))))
  ·
   refine cd rfl (fun h7 => ?_) (fun h7 => ?_)
   ·
    refine sr (Xl w0_0 rfl (Xb rfl (Xb rfl (Xb rfl (Xb rfl (Xb rfl (Xl f4 rfl ?_)))))))
    obtain ⟨os8, ho8, hn8, hc8⟩ := Ax2_0
    refine cl' rfl func117 rfl (slices_swapRangeCmpFunc_impl_Row_pk.calls x2.1 (IntKind.wrap .i64 (a2 - x2.2.1)) a2 x2.2.2 a4 s3.w (mm [] s3) w0_0 f4 os8 ho8 hn8 (Yb hc8 rfl) (fun x0 x1 w' k  r m =>  hf4 x0 x1 w' (kyw z (z.ky Kx2) Kx2 hc8 rfl k)  r m) ho4) ?_
    rintro r8 _ w8 m8 ⟨rfl, w8_, ky8⟩
    obtain ⟨s9, rfl, p9, A9⟩ := nwo 40 hc8 ky8 w8_
    refine dn (rg (Xb rfl (Xb rfl (Xb rfl (Xb rfl (dn ?_))))))
    exact Kj6 _ _ _ ⟨s9, _, rfl, (ue (ue (ue (ue (ue rfl rfl) rfl) rfl) rfl) rfl), (Kx2.st p9 rfl), A9⟩
   refine sr (Xl w0_0 rfl (Xb rfl (Xb rfl (Xb rfl (Xb rfl (Xb rfl (Xb rfl (Xb rfl (Xb rfl (Xb rfl (Xl f4 rfl ?_)))))))))))
   obtain ⟨os12, ho12, hn12, hc12⟩ := Ax2_0
   refine cl' rfl func117 rfl (slices_swapRangeCmpFunc_impl_Row_pk.calls x2.1 (IntKind.wrap .i64 (a2 - x2.2.1)) (IntKind.wrap .i64 ((IntKind.wrap .i64 (a2 + x2.2.2)) - x2.2.1)) x2.2.1 a4 s3.w (mm [] s3) w0_0 f4 os12 ho12 hn12 (Yb hc12 rfl) (fun x0 x1 w' k  r m =>  hf4 x0 x1 w' (kyw z (z.ky Kx2) Kx2 hc12 rfl k)  r m) ho4) ?_
   rintro r12 _ w12 m12 ⟨rfl, w12_, ky12⟩
   obtain ⟨s13, rfl, p13, A13⟩ := nwo 41 hc12 ky12 w12_
   refine dn (rg (Xb rfl (Xb rfl (Xb rfl (Xb rfl (dn ?_))))))
   exact Kj6 _ _ _ ⟨s13, _, rfl, (ue (ue (ue (ue (ue rfl rfl) rfl) rfl) rfl) rfl), (Kx2.st p13 rfl), A13⟩
  rintro y6 _ _ ⟨s16, _, rfl, rfl, Ky6, Ay6_0⟩
  exact ib (lb ih2 ⟨s16, _, rfl, (ue (ue (ue (ue (ue rfl rfl) rfl) rfl) rfl) rfl), Ky6, Ay6_0⟩)
 refine xt rfl (sgb (rg (Xl w0_0 rfl (Xb rfl (Xb rfl (Xb rfl (Xb rfl (Xb rfl (Xl f4 rfl ?_)))))))))
 obtain ⟨os18, ho18, hn18, hc18⟩ := Ax2_0
 refine cl' rfl func117 rfl (slices_swapRangeCmpFunc_impl_Row_pk.calls x2.1 (IntKind.wrap .i64 (a2 - x2.2.1)) a2 x2.2.1 a4 s3.w (mm [] s3) w0_0 f4 os18 ho18 hn18 (Yb hc18 rfl) (fun x0 x1 w' k  r m =>  hf4 x0 x1 w' (kyw z (z.ky Kx2) Kx2 hc18 rfl k)  r m) ho4) ?_
 rintro r18 _ w18 m18 ⟨rfl, w18_, ky18⟩
 obtain ⟨s19, rfl, p19, A19⟩ := nwo 42 hc18 ky18 w18_
 refine dn ?_
 have K21 := Kx2.st p19 rfl
 exact reE rfl func99 rfl Xe rfl ⟨_, rfl, rfl, z.fw K21 A19, z.ky K21⟩
end
set_option linter.unusedSectionVars false
section
variable {β : Type} [Inhabited β]
def slices_symMergeCmpFunc_impl_Row_pk.b4 (a0 : (List (Pk β))) (a1 : Int) (a2 : Int) (a3 : Int) (a4 : ((Pk β) → (Pk β) → Option Int)) (R : ((List (Pk β)) → Int → Int → Int → ((Pk β) → (Pk β) → Option Int) → Option ((List (Pk β))))) (x145 : Int × Int) : Option ((Int × Int) ⊕ (List (Pk β))) :=
 (if (decide (x145.1 < x145.2)) = true then (if 0 ≤ (IntKind.wrap .i64 ((IntKind.wrap .i64 ((IntKind.wrap .i64 ((IntKind.wrap .i64 (ishr .u64 (IntKind.wrap .u64 (IntKind.wrap .i64 (a1 + a3))) (1 : Int))) + a2)) - (1 : Int))) - (IntKind.wrap .i64 (ishr .u64 (IntKind.wrap .u64 (IntKind.wrap .i64 (x145.1 + x145.2))) (1 : Int))))) ∧ (IntKind.wrap .i64 ((IntKind.wrap .i64 ((IntKind.wrap .i64 ((IntKind.wrap .i64 (ishr .u64 (IntKind.wrap .u64 (IntKind.wrap .i64 (a1 + a3))) (1 : Int))) + a2)) - (1 : Int))) - (IntKind.wrap .i64 (ishr .u64 (IntKind.wrap .u64 (IntKind.wrap .i64 (x145.1 + x145.2))) (1 : Int))))) < (a0.length : Int) then (if 0 ≤ (IntKind.wrap .i64 (ishr .u64 (IntKind.wrap .u64 (IntKind.wrap .i64 (x145.1 + x145.2))) (1 : Int))) ∧ (IntKind.wrap .i64 (ishr .u64 (IntKind.wrap .u64 (IntKind.wrap .i64 (x145.1 + x145.2))) (1 : Int))) < (a0.length : Int) then ((a4 (at_ a0 (IntKind.wrap .i64 ((IntKind.wrap .i64 ((IntKind.wrap .i64 ((IntKind.wrap .i64 (ishr .u64 (IntKind.wrap .u64 (IntKind.wrap .i64 (a1 + a3))) (1 : Int))) + a2)) - (1 : Int))) - (IntKind.wrap .i64 (ishr .u64 (IntKind.wrap .u64 (IntKind.wrap .i64 (x145.1 + x145.2))) (1 : Int)))))) (at_ a0 (IntKind.wrap .i64 (ishr .u64 (IntKind.wrap .u64 (IntKind.wrap .i64 (x145.1 + x145.2))) (1 : Int))))).bind fun r166 => ((if (!(decide (r166 < (0 : Int)))) = true then (some ((IntKind.wrap .i64 ((IntKind.wrap .i64 (ishr .u64 (IntKind.wrap .u64 (IntKind.wrap .i64 (x145.1 + x145.2))) (1 : Int))) + (1 : Int))), x145.2)) else (some (x145.1, (IntKind.wrap .i64 (ishr .u64 (IntKind.wrap .u64 (IntKind.wrap .i64 (x145.1 + x145.2))) (1 : Int)))))).bind fun y168 => (some (Sum.inl (y168.1, y168.2))))) else none) else none) else (((if ((decide (x145.1 < a2)) && (decide (a2 < (IntKind.wrap .i64 ((IntKind.wrap .i64 ((IntKind.wrap .i64 (ishr .u64 (IntKind.wrap .u64 (IntKind.wrap .i64 (a1 + a3))) (1 : Int))) + a2)) - x145.1))))) = true then ((slices_rotateCmpFunc_impl_Row_pk.f a0 x145.1 a2 (IntKind.wrap .i64 ((IntKind.wrap .i64 ((IntKind.wrap .i64 (ishr .u64 (IntKind.wrap .u64 (IntKind.wrap .i64 (a1 + a3))) (1 : Int))) + a2)) - x145.1)) a4).bind fun r178 => (some r178)) else (some a0)).bind fun y176 => ((if ((decide (a1 < x145.1)) && (decide (x145.1 < (IntKind.wrap .i64 (ishr .u64 (IntKind.wrap .u64 (IntKind.wrap .i64 (a1 + a3))) (1 : Int)))))) = true then ((R y176 a1 x145.1 (IntKind.wrap .i64 (ishr .u64 (IntKind.wrap .u64 (IntKind.wrap .i64 (a1 + a3))) (1 : Int))) a4).bind fun r187 => (some r187)) else (some y176)).bind fun y185 => (if ((decide ((IntKind.wrap .i64 (ishr .u64 (IntKind.wrap .u64 (IntKind.wrap .i64 (a1 + a3))) (1 : Int))) < (IntKind.wrap .i64 ((IntKind.wrap .i64 ((IntKind.wrap .i64 (ishr .u64 (IntKind.wrap .u64 (IntKind.wrap .i64 (a1 + a3))) (1 : Int))) + a2)) - x145.1)))) && (decide ((IntKind.wrap .i64 ((IntKind.wrap .i64 ((IntKind.wrap .i64 (ishr .u64 (IntKind.wrap .u64 (IntKind.wrap .i64 (a1 + a3))) (1 : Int))) + a2)) - x145.1)) < a3))) = true then ((R y185 (IntKind.wrap .i64 (ishr .u64 (IntKind.wrap .u64 (IntKind.wrap .i64 (a1 + a3))) (1 : Int))) (IntKind.wrap .i64 ((IntKind.wrap .i64 ((IntKind.wrap .i64 (ishr .u64 (IntKind.wrap .u64 (IntKind.wrap .i64 (a1 + a3))) (1 : Int))) + a2)) - x145.1)) a3 a4).bind fun r195 => (some r195)) else (some y185)))).bind fun o => some (Sum.inr o)))
def slices_symMergeCmpFunc_impl_Row_pk.b3 (x73 : Int × Int) (x101 : (List (Pk β)) × Int) : Option (((List (Pk β)) × Int) ⊕ (List (Pk β))) :=
 (if (decide (x101.2 > x73.1)) = true then (if 0 ≤ (IntKind.wrap .i64 (x101.2 - (1 : Int))) ∧ (IntKind.wrap .i64 (x101.2 - (1 : Int))) < (x101.1.length : Int) then (if 0 ≤ x101.2 ∧ x101.2 < (x101.1.length : Int) then (if 0 ≤ x101.2 ∧ x101.2 < (x101.1.length : Int) then (if 0 ≤ (IntKind.wrap .i64 (x101.2 - (1 : Int))) ∧ (IntKind.wrap .i64 (x101.2 - (1 : Int))) < ((x101.1.set (x101.2).toNat (at_ x101.1 (IntKind.wrap .i64 (x101.2 - (1 : Int))))).length : Int) then ((some ((x101.1.set (x101.2).toNat (at_ x101.1 (IntKind.wrap .i64 (x101.2 - (1 : Int))))).set ((IntKind.wrap .i64 (x101.2 - (1 : Int)))).toNat (at_ x101.1 x101.2))).bind fun y140 => (some (Sum.inl (y140, (IntKind.wrap .i64 (x101.2 - (1 : Int))))))) else none) else none) else none) else none) else ((some x101.1).bind fun o => some (Sum.inr o)))
def slices_symMergeCmpFunc_impl_Row_pk.b2 (a0 : (List (Pk β))) (a2 : Int) (a4 : ((Pk β) → (Pk β) → Option Int)) (x73 : Int × Int) : Option ((Int × Int) ⊕ (List (Pk β))) :=
 (if (decide (x73.1 < x73.2)) = true then (if 0 ≤ a2 ∧ a2 < (a0.length : Int) then (if 0 ≤ (IntKind.wrap .i64 (ishr .u64 (IntKind.wrap .u64 (IntKind.wrap .i64 (x73.1 + x73.2))) (1 : Int))) ∧ (IntKind.wrap .i64 (ishr .u64 (IntKind.wrap .u64 (IntKind.wrap .i64 (x73.1 + x73.2))) (1 : Int))) < (a0.length : Int) then ((a4 (at_ a0 a2) (at_ a0 (IntKind.wrap .i64 (ishr .u64 (IntKind.wrap .u64 (IntKind.wrap .i64 (x73.1 + x73.2))) (1 : Int))))).bind fun r92 => ((if (!(decide (r92 < (0 : Int)))) = true then (some ((IntKind.wrap .i64 ((IntKind.wrap .i64 (ishr .u64 (IntKind.wrap .u64 (IntKind.wrap .i64 (x73.1 + x73.2))) (1 : Int))) + (1 : Int))), x73.2)) else (some (x73.1, (IntKind.wrap .i64 (ishr .u64 (IntKind.wrap .u64 (IntKind.wrap .i64 (x73.1 + x73.2))) (1 : Int)))))).bind fun y94 => (some (Sum.inl (y94.1, y94.2))))) else none) else none) else ((iter (slices_symMergeCmpFunc_impl_Row_pk.b3 x73) (a0, a2)).bind fun o => some (Sum.inr o)))
def slices_symMergeCmpFunc_impl_Row_pk.b1 (x3 : Int × Int) (x31 : (List (Pk β)) × Int) : Option (((List (Pk β)) × Int) ⊕ (List (Pk β))) :=
 (if (decide (x31.2 < (IntKind.wrap .i64 (x3.1 - (1 : Int))))) = true then (if 0 ≤ (IntKind.wrap .i64 (x31.2 + (1 : Int))) ∧ (IntKind.wrap .i64 (x31.2 + (1 : Int))) < (x31.1.length : Int) then (if 0 ≤ x31.2 ∧ x31.2 < (x31.1.length : Int) then (if 0 ≤ x31.2 ∧ x31.2 < (x31.1.length : Int) then (if 0 ≤ (IntKind.wrap .i64 (x31.2 + (1 : Int))) ∧ (IntKind.wrap .i64 (x31.2 + (1 : Int))) < ((x31.1.set (x31.2).toNat (at_ x31.1 (IntKind.wrap .i64 (x31.2 + (1 : Int))))).length : Int) then ((some ((x31.1.set (x31.2).toNat (at_ x31.1 (IntKind.wrap .i64 (x31.2 + (1 : Int))))).set ((IntKind.wrap .i64 (x31.2 + (1 : Int)))).toNat (at_ x31.1 x31.2))).bind fun y70 => (some (Sum.inl (y70, (IntKind.wrap .i64 (x31.2 + (1 : Int))))))) else none) else none) else none) else none) else ((some x31.1).bind fun o => some (Sum.inr o)))
def slices_symMergeCmpFunc_impl_Row_pk.b0 (a0 : (List (Pk β))) (a1 : Int) (a4 : ((Pk β) → (Pk β) → Option Int)) (x3 : Int × Int) : Option ((Int × Int) ⊕ (List (Pk β))) :=
 (if (decide (x3.1 < x3.2)) = true then (if 0 ≤ (IntKind.wrap .i64 (ishr .u64 (IntKind.wrap .u64 (IntKind.wrap .i64 (x3.1 + x3.2))) (1 : Int))) ∧ (IntKind.wrap .i64 (ishr .u64 (IntKind.wrap .u64 (IntKind.wrap .i64 (x3.1 + x3.2))) (1 : Int))) < (a0.length : Int) then (if 0 ≤ a1 ∧ a1 < (a0.length : Int) then ((a4 (at_ a0 (IntKind.wrap .i64 (ishr .u64 (IntKind.wrap .u64 (IntKind.wrap .i64 (x3.1 + x3.2))) (1 : Int)))) (at_ a0 a1)).bind fun r22 => ((if (decide (r22 < (0 : Int))) = true then (some ((IntKind.wrap .i64 ((IntKind.wrap .i64 (ishr .u64 (IntKind.wrap .u64 (IntKind.wrap .i64 (x3.1 + x3.2))) (1 : Int))) + (1 : Int))), x3.2)) else (some (x3.1, (IntKind.wrap .i64 (ishr .u64 (IntKind.wrap .u64 (IntKind.wrap .i64 (x3.1 + x3.2))) (1 : Int)))))).bind fun y24 => (some (Sum.inl (y24.1, y24.2))))) else none) else none) else ((iter (slices_symMergeCmpFunc_impl_Row_pk.b1 x3) (a0, a1)).bind fun o => some (Sum.inr o)))
def slices_symMergeCmpFunc_impl_Row_pk.h (R : ((List (Pk β)) → Int → Int → Int → ((Pk β) → (Pk β) → Option Int) → Option ((List (Pk β))))) (a0 : (List (Pk β))) (a1 : Int) (a2 : Int) (a3 : Int) (a4 : ((Pk β) → (Pk β) → Option Int)) : Option ((List (Pk β))) :=
 (if ((IntKind.wrap .i64 (a2 - a1)) == (1 : Int)) = true then (iter (slices_symMergeCmpFunc_impl_Row_pk.b0 a0 a1 a4) (a2, a3)) else (if ((IntKind.wrap .i64 (a3 - a2)) == (1 : Int)) = true then (iter (slices_symMergeCmpFunc_impl_Row_pk.b2 a0 a2 a4) (a1, a2)) else ((if (decide (a2 > (IntKind.wrap .i64 (ishr .u64 (IntKind.wrap .u64 (IntKind.wrap .i64 (a1 + a3))) (1 : Int))))) = true then (some ((IntKind.wrap .i64 ((IntKind.wrap .i64 ((IntKind.wrap .i64 (ishr .u64 (IntKind.wrap .u64 (IntKind.wrap .i64 (a1 + a3))) (1 : Int))) + a2)) - a3)), (IntKind.wrap .i64 (ishr .u64 (IntKind.wrap .u64 (IntKind.wrap .i64 (a1 + a3))) (1 : Int))))) else (some (a1, a2))).bind fun y142 => (iter (slices_symMergeCmpFunc_impl_Row_pk.b4 a0 a1 a2 a3 a4 R) (y142.1, y142.2)))))
def slices_symMergeCmpFunc_impl_Row_pk.g : Nat → ((List (Pk β)) → Int → Int → Int → ((Pk β) → (Pk β) → Option Int) → Option ((List (Pk β))))
 | 0 => fun _ _ _ _ _ => none
 | n + 1 => slices_symMergeCmpFunc_impl_Row_pk.h (slices_symMergeCmpFunc_impl_Row_pk.g n)
def slices_symMergeCmpFunc_impl_Row_pk.f (a0 : (List (Pk β))) (a1 : Int) (a2 : Int) (a3 : Int) (a4 : ((Pk β) → (Pk β) → Option Int)) : Option ((List (Pk β))) := slices_symMergeCmpFunc_impl_Row_pk.g 1000 a0 a1 a2 a3 a4
def slices_symMergeCmpFunc_impl_Row_pk.Q (w : World) (F : Nat → Prop) (os : List Nat) (w0_0 : Value) (r : (List (Pk β))) (v : Value) (w' : World) : Prop :=
 v = .tuple #[] ∧ FW (Kd.sl 51 (Kd.pk β 12)) os w w' [w0_0] r ∧ Ky os w w'
theorem slices_symMergeCmpFunc_impl_Row_pk.callsR (R : ((List (Pk β)) → Int → Int → Int → ((Pk β) → (Pk β) → Option Int) → Option ((List (Pk β))))) (hR : ∀ (a0 : (List (Pk β))) (a1 : Int) (a2 : Int) (a3 : Int) (a4 : ((Pk β) → (Pk β) → Option Int)) (w : World) (F : Nat → Prop) (w0_0 : Value) (f4 : Value) (os : List Nat) (h0_0 : (Kd.sl 51 (Kd.pk β 12)).ow w [w0_0] a0 os) (hn : os.Nodup) (hF : ∀ b, F b → b ∉ os) (hf4 : ∀ (x0 : (Pk β)) (x1 : (Pk β)) (w' : World), Ky os w w' → ∀ r, a4 x0 x1 = some r → CallV prog f4 [(.agg (List.toArray x0.cs)), (.agg (List.toArray x1.cs))] w' fun en w'' => ∃ v, en = .returned v ∧ v = (iI r) ∧ Ky [] w' w'') (ho4 : f4.cells = #[f4]) (r : (List (Pk β))) (m : R a0 a1 a2 a3 a4 = some r), Calls prog 70 #[w0_0, (iI a1), (iI a2), (iI a3), f4] w (RT (slices_symMergeCmpFunc_impl_Row_pk.Q w F os w0_0) r)) (a0 : (List (Pk β))) (a1 : Int) (a2 : Int) (a3 : Int) (a4 : ((Pk β) → (Pk β) → Option Int)) (w : World) (F : Nat → Prop) (w0_0 : Value) (f4 : Value) (os : List Nat) (h0_0 : (Kd.sl 51 (Kd.pk β 12)).ow w [w0_0] a0 os) (hn : os.Nodup) (hF : ∀ b, F b → b ∉ os) (hf4 : ∀ (x0 : (Pk β)) (x1 : (Pk β)) (w' : World), Ky os w w' → ∀ r, a4 x0 x1 = some r → CallV prog f4 [(.agg (List.toArray x0.cs)), (.agg (List.toArray x1.cs))] w' fun en w'' => ∃ v, en = .returned v ∧ v = (iI r) ∧ Ky [] w' w'') (ho4 : f4.cells = #[f4]) (r : (List (Pk β))) (m : slices_symMergeCmpFunc_impl_Row_pk.h R a0 a1 a2 a3 a4 = some r) :
  Calls prog 70 #[w0_0, (iI a1), (iI a2), (iI a3), f4] w (RT (slices_symMergeCmpFunc_impl_Row_pk.Q w F os w0_0) r) := by
 obtain ⟨s0, rfl, kp0, z⟩ := start1 w F os hF
 have A0_0 := z.ow h0_0 hn
 refine Xd (args := [w0_0, (iI a1), (iI a2), (iI a3), f4]) func70 ntmps70 rfl rfl m ?_
 unfold slices_symMergeCmpFunc_impl_Row_pk.h
 refine sq (sr (Xb rfl (Xb rfl (Xb rfl (Xb rfl (dn (cd rfl (fun h2 => ?_) (fun h2 => ?_))))))))
 ·
  refine sr (Xb rfl (Xb rfl (dn (sr (Xb rfl (Xb rfl (dn (sq (bl (lpI (fun (x3 : Int × Int) e w => ∃ (s : St) (e0 : Env), w = s.w ∧ e = upd (upd (upd (upd (upd e0 0 w0_0) 1 (iI a1)) 4 f4) 10 (iI x3.1)) 11 (iI x3.2) ∧ Kp s0 s ∧ OwF (Kd.sl 51 (Kd.pk β 12)) s [w0_0] a0 2) ⟨s0, _, rfl, (ue (ue (ue (ue (ue rfl rfl) rfl) rfl) rfl) rfl), kp0, A0_0⟩ (fun g3 ih3 => ?_)))))))))))
  rintro x3 _ _ ⟨s4, _, rfl, rfl, Kx3, Cx3_1⟩
  unfold slices_symMergeCmpFunc_impl_Row_pk.b0
  refine sq (sr (Xb rfl (Xb rfl (Xb rfl (dn (cd rfl (fun h5 => ?_) (fun h5 => ?_)))))))
  ·
   refine sk (bl (sr (Xb rfl (Xb rfl (Xb rfl (cv' u115 u3 rfl (shrK rfl rfl rfl rfl rfl rfl rfl rfl (cv' u3 u115 rfl (Xb rfl (dn (sq (zdraw [[], [], [], [1, 2], [3], [], [], [5, 6], [7], [0, 4, 8], [9]] [some 40, some 41, some 42, some 43, some 44, some 45, some 46, some 47, some 48, some 49, some 50] [[4], [0], [12], [41, 42], [43], [0], [1], [45, 46], [47], [40, 44, 48], [49]] [0, 1, 2, 3, 4, 5, 6, 7, 8, 9, 10] ⟨by kernel_rfl, by kernel_rfl, by kernel_rfl⟩ (by kernel_rfl) (fun s6 p6 l6 tb6 zd6 => ?_)))))))))))))
   have A10 := Cx3_1.st p6 rfl
   refine mg fun hg11 => ?_
   obtain ⟨ad11, es11, he11, ce11, ia11⟩ := ix_e A10.rd rfl hg11.1 hg11.2
   obtain ⟨rfl, hl11, hv11⟩ := he11
   refine mg fun hg17 => ?_
   obtain ⟨ad17, es17, he17, ce17, ia17⟩ := ix_e A10.rd rfl hg17.1 hg17.2
   obtain ⟨rfl, hl17, hv17⟩ := he17
   refine zfin [9, 10] tb6 (((((((((zd6.add 0 40 f4 rfl).add 1 41 w0_0 rfl).add 2 42 (iI (IntKind.wrap .i64 (ishr .u64 (IntKind.wrap .u64 (IntKind.wrap .i64 (x3.1 + x3.2))) (1 : Int)))) rfl).add 3 43 (.pointer (some ad11)) rfl).add 4 44 (.agg (List.toArray (at_ a0 (IntKind.wrap .i64 (ishr .u64 (IntKind.wrap .u64 (IntKind.wrap .i64 (x3.1 + x3.2))) (1 : Int)))).cs)) rfl).add 5 45 w0_0 rfl).add 6 46 (iI a1) rfl).add 7 47 (.pointer (some ad17)) rfl).add 8 48 (.agg (List.toArray (at_ a0 a1).cs)) rfl) (Xa (lca_q ce17 u51 (by rw [hl17]; exact z51) rfl rfl rfl rfl rfl rfl rfl) rfl (Xa (ix_q' A10.rd u42 z51 hg17.1 hg17.2 ia17 rfl) rfl (Xa (Xm rfl) rfl (Xa (Xf w0_0 rfl) rfl (Xa (lca_q ce11 u51 (by rw [hl11]; exact z51) rfl rfl rfl rfl rfl rfl rfl) rfl (Xa (ix_q' A10.rd u42 z51 hg11.1 hg11.2 ia11 rfl) rfl (Xa (Xm rfl) rfl (Xa (Xf w0_0 rfl) rfl (Xa (Xf f4 rfl) rfl Xk))))))))) (by kernel_rfl) (by decide) ?_
   have K21 := Kx3.st p6 rfl
   refine clv rfl rfl rfl rfl rfl rfl rfl (fun r22 m22 => hf4 (at_ a0 (IntKind.wrap .i64 (ishr .u64 (IntKind.wrap .u64 (IntKind.wrap .i64 (x3.1 + x3.2))) (1 : Int)))) (at_ a0 a1) s6.w (z.ky K21)  r22 m22) ?_
   rintro r22 _ w22 m22 ⟨rfl, ky22⟩
   obtain ⟨s23, rfl, p23, n23⟩ := nwx s6 w22 40 ky22
   refine Xb rfl (dn (jc (fun (y24 : Int × Int) e w => ∃ (s : St) (e0 : Env), w = s.w ∧ e = upd (upd (upd (upd (upd e0 0 w0_0) 1 (iI a1)) 4 f4) 10 (iI y24.1)) 11 (iI y24.2) ∧ Kp s0 s ∧ OwF (Kd.sl 51 (Kd.pk β 12)) s [w0_0] a0 2) (fun Gj24 Kj24 => ?_) ?_))
   ·
    refine cd rfl (fun h25 => ?_) (fun h25 => ?_)
    ·
     refine rg (Xb rfl (Xb rfl (Xb rfl (dn ?_))))
     exact Kj24 _ _ _ ⟨s23, _, rfl, (ue (ue (ue (ue (ue rfl rfl) rfl) rfl) rfl) rfl), (K21.st p23 rfl), (A10.st p23 rfl)⟩
    refine rg (Xb rfl (Xb rfl (dn ?_)))
    exact Kj24 _ _ _ ⟨s23, _, rfl, (ue (ue (ue (ue (ue rfl rfl) rfl) rfl) rfl) rfl), (K21.st p23 rfl), (A10.st p23 rfl)⟩
   rintro y24 _ _ ⟨s30, _, rfl, rfl, Ky24, Cy24_1⟩
   exact ib (lb ih3 ⟨s30, _, rfl, (ue (ue (ue (ue (ue rfl rfl) rfl) rfl) rfl) rfl), Ky24, Cy24_1⟩)
  refine xt rfl (sgb (sq (sr (Xb rfl (Xb rfl (dn (bl (lpI (fun (x31 : (List (Pk β)) × Int) e w => ∃ (s : St) (e0 : Env), w = s.w ∧ e = upd (upd (upd e0 0 w0_0) 10 (iI x3.1)) 13 (iI x31.2) ∧ Kp s0 s ∧ OwF (Kd.sl 51 (Kd.pk β 12)) s [w0_0] x31.1 2) ⟨s4, _, rfl, (ue (ue (ue rfl rfl) rfl) rfl), Kx3, Cx3_1⟩ (fun g31 ih31 => ?_)))))))))
  rintro x31 _ _ ⟨s32, _, rfl, rfl, Kx31, Ax31_0⟩
  unfold slices_symMergeCmpFunc_impl_Row_pk.b1
  refine sq (sr (Xb rfl (Xb rfl (Xb rfl (Xb rfl (dn (cd rfl (fun h34 => ?_) (fun h34 => ?_))))))))
  ·
   refine sk (sq (bl (zdraw [[], [], [], [], [3], [], [], [6], [5, 7], [8], [], [], [10, 11], [12], [0, 1, 0, 1, 5, 6, 7, 8, 9, 13], [14, 9, 0, 1, 5, 6, 7, 8, 9, 13], [2, 4, 0, 1, 2, 3, 4, 5, 6, 7, 8, 9, 10, 11, 12, 13, 14, 15], [16, 13, 15, 0, 1, 2, 3, 4, 5, 6, 7, 8, 9, 10, 11, 12, 13, 14, 15]] [some 61, some 62, some 63, some 64, some 65, some 66, some 67, some 68, some 69, some 70, some 71, some 72, some 73, some 74, some 75, none, some 76, none] [[0], [13], [0], [13], [64], [0], [13], [67], [66, 68], [69], [0], [13], [71, 72], [73], [61, 62], [75, 70], [63, 65], [76, 74]] [0, 1, 13, 14, 15, 2, 3, 4, 5, 6, 7, 8, 9, 10, 11, 12, 16, 17] ⟨by kernel_rfl, by kernel_rfl, by kernel_rfl⟩ (by kernel_rfl) (fun s35 p35 l35 tb35 zd35 => ?_))))
   have A44 := Ax31_0.st p35 rfl
   refine mg fun hg45 => ?_
   obtain ⟨ad45, es45, he45, ce45, ia45⟩ := ix_e A44.rd rfl hg45.1 hg45.2
   obtain ⟨rfl, hl45, hv45⟩ := he45
   refine mg fun hg51 => ?_
   obtain ⟨ad51, es51, he51, ce51, ia51⟩ := ix_e A44.rd rfl hg51.1 hg51.2
   obtain ⟨rfl, hl51, hv51⟩ := he51
   refine mg fun hg55 => ?_
   obtain ⟨ad55, es55, he55, ce55, ia55⟩ := ix_e A44.rd rfl hg55.1 hg55.2
   obtain ⟨rfl, hl55, hv55⟩ := he55
   refine zstep 15 [some 65, some 64, some 63] tb35 (((((((((((((((zd35.add 0 61 w0_0 rfl).add 1 62 (iI x31.2) rfl).add 2 63 w0_0 rfl).add 3 64 (iI x31.2) rfl).add 4 65 (iI (IntKind.wrap .i64 (x31.2 + (1 : Int)))) rfl).add 5 66 w0_0 rfl).add 6 67 (iI x31.2) rfl).add 7 68 (iI (IntKind.wrap .i64 (x31.2 + (1 : Int)))) rfl).add 8 69 (.pointer (some ad45)) rfl).add 9 70 (.agg (List.toArray (at_ x31.1 (IntKind.wrap .i64 (x31.2 + (1 : Int)))).cs)) rfl).add 10 71 w0_0 rfl).add 11 72 (iI x31.2) rfl).add 12 73 (.pointer (some ad51)) rfl).add 13 74 (.agg (List.toArray (at_ x31.1 x31.2).cs)) rfl).add 14 75 (.pointer (some ad55)) rfl) (Xa (ix_q' A44.rd u42 z51 hg55.1 hg55.2 ia55 rfl) rfl (Xa (lca_q ce51 u51 (by rw [hl51]; exact z51) rfl rfl rfl rfl rfl rfl rfl) rfl (Xa (ix_q' A44.rd u42 z51 hg51.1 hg51.2 ia51 rfl) rfl (Xa (Xm rfl) rfl (Xa (Xf w0_0 rfl) rfl (Xa (lca_q ce45 u51 (by rw [hl45]; exact z51) rfl rfl rfl rfl rfl rfl rfl) rfl (Xa (ix_q' A44.rd u42 z51 hg45.1 hg45.2 ia45 rfl) rfl (Xa (Xm rfl) rfl (Xa (Xm rfl) rfl (Xa (Xf w0_0 rfl) rfl (Xa (Xm rfl) rfl (Xa (Xm rfl) rfl (Xa (Xf w0_0 rfl) rfl (Xa (Xm rfl) rfl (Xa (Xf w0_0 rfl) rfl Xk))))))))))))))) (by kernel_rfl) rfl (fun l58 e58 zd58 => ?_)
   have A59 : OwF (Kd.pk β 12) s35 (at_ x31.1 (IntKind.wrap .i64 (x31.2 + (1 : Int)))).cs (at_ x31.1 (IntKind.wrap .i64 (x31.2 + (1 : Int)))) 41 := ow_z _ _ (fun _ => ⟨⟨rfl, hl45, hv45⟩, rfl⟩)
   refine som (x' := (at_ x31.1 (IntKind.wrap .i64 (x31.2 + (1 : Int))))) A44 ia55 hg55.1 hg55.2 A59 rfl rfl z51 rfl rfl rfl rfl rfl rfl (fun s61 p61 A61 => ?_)
   refine zdone0 (L' := [4, 3, 2]) (D' := [10, 11, 12, 14, 9, 0, 1, 5, 6, 7, 8, 9, 13, 15]) zd58 rfl rfl rfl (fun zd63 => ?_)
   refine zfin [16, 17] tb35 zd63 (Xa (Xm rfl) rfl (Xa (Xm rfl) rfl (Xa (Xf w0_0 rfl) rfl Xk))) (by kernel_rfl) (by decide) (ix' A61.rd u42 z51 rfl (fun ad64 es64 h0_64 h1_64 he64 ce64 ia64 => ?_))
   obtain ⟨rfl, hl64, hv64⟩ := he64
   have A66 : OwF (Kd.pk β 12) s61 (at_ x31.1 x31.2).cs (at_ x31.1 x31.2) 42 := ow_z _ _ (fun _ => ⟨⟨rfl, hl51, hv51⟩, rfl⟩)
   refine som (x' := (at_ x31.1 x31.2)) A61 ia64 h0_64 h1_64 A66 rfl rfl z51 rfl rfl rfl rfl rfl rfl (fun s68 p68 A68 => ?_)
   refine nb (fun y70 h70 => ?_)
   have A70 : OwF (Kd.sl 51 (Kd.pk β 12)) s68 [w0_0] y70 2 := by rw [h70]; exact A68
   refine dn (ib (rg (Xb rfl (Xb rfl (Xb rfl (dn ?_))))))
   exact lb ih31 ⟨s68, _, rfl, (ue (ue (ue rfl rfl) rfl) rfl), (Kx31.st (tr3 p35 p61 p68) rfl), A70⟩
  exact xt rfl (sgb (re rfl func70 rfl Xe rfl ⟨_, rfl, rfl, z.fw Kx31 Ax31_0, z.ky Kx31⟩))
 refine sk (sq (sr (Xb rfl (Xb rfl (Xb rfl (Xb rfl (dn (cd rfl (fun h72 => ?_) (fun h72 => ?_)))))))))
 ·
  refine sr (Xb rfl (Xb rfl (dn (sr (Xb rfl (Xb rfl (dn (sq (bl (lpI (fun (x73 : Int × Int) e w => ∃ (s : St) (e0 : Env), w = s.w ∧ e = upd (upd (upd (upd (upd e0 0 w0_0) 2 (iI a2)) 4 f4) 14 (iI x73.1)) 15 (iI x73.2) ∧ Kp s0 s ∧ OwF (Kd.sl 51 (Kd.pk β 12)) s [w0_0] a0 2) ⟨s0, _, rfl, (ue (ue (ue (ue (ue rfl rfl) rfl) rfl) rfl) rfl), kp0, A0_0⟩ (fun g73 ih73 => ?_)))))))))))
  rintro x73 _ _ ⟨s74, _, rfl, rfl, Kx73, Cx73_1⟩
  unfold slices_symMergeCmpFunc_impl_Row_pk.b2
  refine sq (sr (Xb rfl (Xb rfl (Xb rfl (dn (cd rfl (fun h75 => ?_) (fun h75 => ?_)))))))
  ·
   refine sk (bl (sr (Xb rfl (Xb rfl (Xb rfl (cv' u115 u3 rfl (shrK rfl rfl rfl rfl rfl rfl rfl rfl (cv' u3 u115 rfl (Xb rfl (dn (sq (zdraw [[], [], [], [1, 2], [3], [], [], [5, 6], [7], [0, 4, 8], [9], [10]] [some 92, some 93, some 94, some 95, some 96, some 97, some 98, some 99, some 100, some 101, some 102, some 103] [[4], [0], [2], [93, 94], [95], [0], [16], [97, 98], [99], [92, 96, 100], [101], [102]] [0, 1, 2, 3, 4, 5, 6, 7, 8, 9, 10, 11] ⟨by kernel_rfl, by kernel_rfl, by kernel_rfl⟩ (by kernel_rfl) (fun s76 p76 l76 tb76 zd76 => ?_)))))))))))))
   have A80 := Cx73_1.st p76 rfl
   refine mg fun hg81 => ?_
   obtain ⟨ad81, es81, he81, ce81, ia81⟩ := ix_e A80.rd rfl hg81.1 hg81.2
   obtain ⟨rfl, hl81, hv81⟩ := he81
   refine mg fun hg87 => ?_
   obtain ⟨ad87, es87, he87, ce87, ia87⟩ := ix_e A80.rd rfl hg87.1 hg87.2
   obtain ⟨rfl, hl87, hv87⟩ := he87
   refine zfin [9, 10, 11] tb76 (((((((((zd76.add 0 92 f4 rfl).add 1 93 w0_0 rfl).add 2 94 (iI a2) rfl).add 3 95 (.pointer (some ad81)) rfl).add 4 96 (.agg (List.toArray (at_ a0 a2).cs)) rfl).add 5 97 w0_0 rfl).add 6 98 (iI (IntKind.wrap .i64 (ishr .u64 (IntKind.wrap .u64 (IntKind.wrap .i64 (x73.1 + x73.2))) (1 : Int)))) rfl).add 7 99 (.pointer (some ad87)) rfl).add 8 100 (.agg (List.toArray (at_ a0 (IntKind.wrap .i64 (ishr .u64 (IntKind.wrap .u64 (IntKind.wrap .i64 (x73.1 + x73.2))) (1 : Int)))).cs)) rfl) (Xa (lca_q ce87 u51 (by rw [hl87]; exact z51) rfl rfl rfl rfl rfl rfl rfl) rfl (Xa (ix_q' A80.rd u42 z51 hg87.1 hg87.2 ia87 rfl) rfl (Xa (Xm rfl) rfl (Xa (Xf w0_0 rfl) rfl (Xa (lca_q ce81 u51 (by rw [hl81]; exact z51) rfl rfl rfl rfl rfl rfl rfl) rfl (Xa (ix_q' A80.rd u42 z51 hg81.1 hg81.2 ia81 rfl) rfl (Xa (Xm rfl) rfl (Xa (Xf w0_0 rfl) rfl (Xa (Xf f4 rfl) rfl Xk))))))))) (by kernel_rfl) (by decide) ?_
   have K91 := Kx73.st p76 rfl
   refine clv rfl rfl rfl rfl rfl rfl rfl (fun r92 m92 => hf4 (at_ a0 a2) (at_ a0 (IntKind.wrap .i64 (ishr .u64 (IntKind.wrap .u64 (IntKind.wrap .i64 (x73.1 + x73.2))) (1 : Int)))) s76.w (z.ky K91)  r92 m92) ?_
   rintro r92 _ w92 m92 ⟨rfl, ky92⟩
   obtain ⟨s93, rfl, p93, n93⟩ := nwx s76 w92 43 ky92
   refine Xb rfl (Xb rfl (dn (jc (fun (y94 : Int × Int) e w => ∃ (s : St) (e0 : Env), w = s.w ∧ e = upd (upd (upd (upd (upd e0 0 w0_0) 2 (iI a2)) 4 f4) 14 (iI y94.1)) 15 (iI y94.2) ∧ Kp s0 s ∧ OwF (Kd.sl 51 (Kd.pk β 12)) s [w0_0] a0 2) (fun Gj94 Kj94 => ?_) ?_)))
   ·
    refine cd rfl (fun h95 => ?_) (fun h95 => ?_)
    ·
     refine rg (Xb rfl (Xb rfl (Xb rfl (dn ?_))))
     exact Kj94 _ _ _ ⟨s93, _, rfl, (ue (ue (ue (ue (ue rfl rfl) rfl) rfl) rfl) rfl), (K91.st p93 rfl), (A80.st p93 rfl)⟩
    refine rg (Xb rfl (Xb rfl (dn ?_)))
    exact Kj94 _ _ _ ⟨s93, _, rfl, (ue (ue (ue (ue (ue rfl rfl) rfl) rfl) rfl) rfl), (K91.st p93 rfl), (A80.st p93 rfl)⟩
   rintro y94 _ _ ⟨s100, _, rfl, rfl, Ky94, Cy94_1⟩
   exact ib (lb ih73 ⟨s100, _, rfl, (ue (ue (ue (ue (ue rfl rfl) rfl) rfl) rfl) rfl), Ky94, Cy94_1⟩)
  refine xt rfl (sgb (sq (sr (Xb rfl (Xb rfl (dn (bl (lpI (fun (x101 : (List (Pk β)) × Int) e w => ∃ (s : St) (e0 : Env), w = s.w ∧ e = upd (upd (upd e0 0 w0_0) 14 (iI x73.1)) 17 (iI x101.2) ∧ Kp s0 s ∧ OwF (Kd.sl 51 (Kd.pk β 12)) s [w0_0] x101.1 2) ⟨s74, _, rfl, (ue (ue (ue rfl rfl) rfl) rfl), Kx73, Cx73_1⟩ (fun g101 ih101 => ?_)))))))))
  rintro x101 _ _ ⟨s102, _, rfl, rfl, Kx101, Ax101_0⟩
  unfold slices_symMergeCmpFunc_impl_Row_pk.b3
  refine sq (sr (Xb rfl (Xb rfl (Xb rfl (dn (cd rfl (fun h104 => ?_) (fun h104 => ?_)))))))
  ·
   refine sk (sq (bl (zdraw [[], [], [], [], [3], [], [], [6], [5, 7], [8], [], [], [10, 11], [12], [0, 1, 0, 1, 5, 6, 7, 8, 9, 13], [14, 9, 0, 1, 5, 6, 7, 8, 9, 13], [2, 4, 0, 1, 2, 3, 4, 5, 6, 7, 8, 9, 10, 11, 12, 13, 14, 15], [16, 13, 15, 0, 1, 2, 3, 4, 5, 6, 7, 8, 9, 10, 11, 12, 13, 14, 15]] [some 113, some 114, some 115, some 116, some 117, some 118, some 119, some 120, some 121, some 122, some 123, some 124, some 125, some 126, some 127, none, some 128, none] [[0], [17], [0], [17], [116], [0], [17], [119], [118, 120], [121], [0], [17], [123, 124], [125], [113, 114], [127, 122], [115, 117], [128, 126]] [0, 1, 13, 14, 15, 2, 3, 4, 5, 6, 7, 8, 9, 10, 11, 12, 16, 17] ⟨by kernel_rfl, by kernel_rfl, by kernel_rfl⟩ (by kernel_rfl) (fun s105 p105 l105 tb105 zd105 => ?_))))
   have A114 := Ax101_0.st p105 rfl
   refine mg fun hg115 => ?_
   obtain ⟨ad115, es115, he115, ce115, ia115⟩ := ix_e A114.rd rfl hg115.1 hg115.2
   obtain ⟨rfl, hl115, hv115⟩ := he115
   refine mg fun hg121 => ?_
   obtain ⟨ad121, es121, he121, ce121, ia121⟩ := ix_e A114.rd rfl hg121.1 hg121.2
   obtain ⟨rfl, hl121, hv121⟩ := he121
   refine mg fun hg125 => ?_
   obtain ⟨ad125, es125, he125, ce125, ia125⟩ := ix_e A114.rd rfl hg125.1 hg125.2
   obtain ⟨rfl, hl125, hv125⟩ := he125
   refine zstep 15 [some 117, some 116, some 115] tb105 (((((((((((((((zd105.add 0 113 w0_0 rfl).add 1 114 (iI x101.2) rfl).add 2 115 w0_0 rfl).add 3 116 (iI x101.2) rfl).add 4 117 (iI (IntKind.wrap .i64 (x101.2 - (1 : Int)))) rfl).add 5 118 w0_0 rfl).add 6 119 (iI x101.2) rfl).add 7 120 (iI (IntKind.wrap .i64 (x101.2 - (1 : Int)))) rfl).add 8 121 (.pointer (some ad115)) rfl).add 9 122 (.agg (List.toArray (at_ x101.1 (IntKind.wrap .i64 (x101.2 - (1 : Int)))).cs)) rfl).add 10 123 w0_0 rfl).add 11 124 (iI x101.2) rfl).add 12 125 (.pointer (some ad121)) rfl).add 13 126 (.agg (List.toArray (at_ x101.1 x101.2).cs)) rfl).add 14 127 (.pointer (some ad125)) rfl) (Xa (ix_q' A114.rd u42 z51 hg125.1 hg125.2 ia125 rfl) rfl (Xa (lca_q ce121 u51 (by rw [hl121]; exact z51) rfl rfl rfl rfl rfl rfl rfl) rfl (Xa (ix_q' A114.rd u42 z51 hg121.1 hg121.2 ia121 rfl) rfl (Xa (Xm rfl) rfl (Xa (Xf w0_0 rfl) rfl (Xa (lca_q ce115 u51 (by rw [hl115]; exact z51) rfl rfl rfl rfl rfl rfl rfl) rfl (Xa (ix_q' A114.rd u42 z51 hg115.1 hg115.2 ia115 rfl) rfl (Xa (Xm rfl) rfl (Xa (Xm rfl) rfl (Xa (Xf w0_0 rfl) rfl (Xa (Xm rfl) rfl (Xa (Xm rfl) rfl (Xa (Xf w0_0 rfl) rfl (Xa (Xm rfl) rfl (Xa (Xf w0_0 rfl) rfl Xk))))))))))))))) (by kernel_rfl) rfl (fun l128 e128 zd128 => ?_)
   have A129 : OwF (Kd.pk β 12) s105 (at_ x101.1 (IntKind.wrap .i64 (x101.2 - (1 : Int)))).cs (at_ x101.1 (IntKind.wrap .i64 (x101.2 - (1 : Int)))) 44 := ow_z _ _ (fun _ => ⟨⟨rfl, hl115, hv115⟩, rfl⟩)
   refine som (x' := (at_ x101.1 (IntKind.wrap .i64 (x101.2 - (1 : Int))))) A114 ia125 hg125.1 hg125.2 A129 rfl rfl z51 rfl rfl rfl rfl rfl rfl (fun s131 p131 A131 => ?_)
   refine zdone0 (L' := [4, 3, 2]) (D' := [10, 11, 12, 14, 9, 0, 1, 5, 6, 7, 8, 9, 13, 15]) zd128 rfl rfl rfl (fun zd133 => ?_)
   refine zfin [16, 17] tb105 zd133 (Xa (Xm rfl) rfl (Xa (Xm rfl) rfl (Xa (Xf w0_0 rfl) rfl Xk))) (by kernel_rfl) (by decide) (ix' A131.rd u42 z51 rfl (fun ad134 es134 h0_134 h1_134 he134 ce134 ia134 => ?_))
   obtain ⟨rfl, hl134, hv134⟩ := he134
   have A136 : OwF (Kd.pk β 12) s131 (at_ x101.1 x101.2).cs (at_ x101.1 x101.2) 45 := ow_z _ _ (fun _ => ⟨⟨rfl, hl121, hv121⟩, rfl⟩)
   refine som (x' := (at_ x101.1 x101.2)) A131 ia134 h0_134 h1_134 A136 rfl rfl z51 rfl rfl rfl rfl rfl rfl (fun s138 p138 A138 => ?_)
   refine nb (fun y140 h140 => ?_)
   have A140 : OwF (Kd.sl 51 (Kd.pk β 12)) s138 [w0_0] y140 2 := by rw [h140]; exact A138
   refine dn (ib (rg (Xb rfl (Xb rfl (Xb rfl (dn ?_))))))
   exact lb ih101 ⟨s138, _, rfl, (ue (ue (ue rfl rfl) rfl) rfl), (Kx101.st (tr3 p105 p131 p138) rfl), A140⟩
  exact xt rfl (sgb (re rfl func70 rfl Xe rfl ⟨_, rfl, rfl, z.fw Kx101 Ax101_0, z.ky Kx101⟩))
 refine sk (sr (Xb rfl (Xb rfl (Xb rfl (cv' u115 u3 rfl (shrK rfl rfl rfl rfl rfl rfl rfl rfl (cv' u3 u115 rfl (Xb rfl (dn (sr (Xb rfl (Xb rfl (Xb rfl (Xb rfl ?_))))))))))))))
 refine dn (sr (Xb rfl (Xb rfl (dn (sq (sr (Xb rfl (Xb rfl (Xb rfl (dn (jc (fun (y142 : Int × Int) e w => ∃ (s : St) (e0 : Env), w = s.w ∧ e = upd (upd (upd (upd (upd (upd (upd (upd (upd e0 0 w0_0) 1 (iI a1)) 2 (iI a2)) 3 (iI a3)) 4 f4) 18 (iI (IntKind.wrap .i64 (ishr .u64 (IntKind.wrap .u64 (IntKind.wrap .i64 (a1 + a3))) (1 : Int))))) 19 (iI (IntKind.wrap .i64 ((IntKind.wrap .i64 (ishr .u64 (IntKind.wrap .u64 (IntKind.wrap .i64 (a1 + a3))) (1 : Int))) + a2)))) 20 (iI y142.1)) 21 (iI y142.2) ∧ Kp s0 s ∧ OwF (Kd.sl 51 (Kd.pk β 12)) s [w0_0] a0 2) (fun Gj142 Kj142 => ?_) ?_)))))))))))
 ·
  refine cd rfl (fun h143 => ?_) (fun h143 => ?_)
  ·
   exact sr (Xb rfl (Xb rfl (Xb rfl (Xb rfl (dn (rg (Xb rfl (Xb rfl (dn (Kj142 _ _ _ ⟨s0, _, rfl, (ue (ue (ue (ue (ue (ue (ue (ue (ue rfl rfl) rfl) rfl) rfl) rfl) rfl) rfl) rfl) rfl), kp0, A0_0⟩))))))))))
  exact sr (Xb rfl (Xb rfl (dn (rg (Xb rfl (Xb rfl (dn (Kj142 _ _ _ ⟨s0, _, rfl, (ue (ue (ue (ue (ue (ue (ue (ue (ue rfl rfl) rfl) rfl) rfl) rfl) rfl) rfl) rfl) rfl), kp0, A0_0⟩))))))))
 rintro y142 _ _ ⟨s144, _, rfl, rfl, Ky142, Cy142_1⟩
 refine sr (Xb rfl (Xb rfl (Xb rfl (dn (sq (bl (lpI (fun (x145 : Int × Int) e w => ∃ (s : St) (e0 : Env), w = s.w ∧ e = upd (upd (upd (upd (upd (upd (upd (upd (upd (upd e0 0 w0_0) 1 (iI a1)) 2 (iI a2)) 3 (iI a3)) 4 f4) 18 (iI (IntKind.wrap .i64 (ishr .u64 (IntKind.wrap .u64 (IntKind.wrap .i64 (a1 + a3))) (1 : Int))))) 19 (iI (IntKind.wrap .i64 ((IntKind.wrap .i64 (ishr .u64 (IntKind.wrap .u64 (IntKind.wrap .i64 (a1 + a3))) (1 : Int))) + a2)))) 20 (iI x145.1)) 21 (iI x145.2)) 22 (iI (IntKind.wrap .i64 ((IntKind.wrap .i64 ((IntKind.wrap .i64 (ishr .u64 (IntKind.wrap .u64 (IntKind.wrap .i64 (a1 + a3))) (1 : Int))) + a2)) - (1 : Int)))) ∧ Kp s0 s ∧ OwF (Kd.sl 51 (Kd.pk β 12)) s [w0_0] a0 2) ⟨s144, _, rfl, (ue (ue (ue (ue (ue (ue (ue (ue (ue (ue rfl rfl) rfl) rfl) rfl) rfl) rfl) rfl) rfl) rfl) rfl), Ky142, Cy142_1⟩ (fun g145 ih145 => ?_))))))))
 rintro x145 _ _ ⟨s146, _, rfl, rfl, Kx145, Cx145_1⟩
 unfold slices_symMergeCmpFunc_impl_Row_pk.b4
 refine sq (sr (Xb rfl (Xb rfl (Xb rfl (dn (cd rfl (fun h147 => ?_) (fun h147 => ?_)))))))
 ·
  refine sk (bl (sr (Xb rfl (Xb rfl (Xb rfl (cv' u115 u3 rfl (shrK rfl rfl rfl rfl rfl rfl rfl rfl (cv' u3 u115 rfl (Xb rfl (dn (sq (zdraw [[], [], [], [], [2, 3], [1, 4], [5], [], [], [7, 8], [9], [0, 6, 10], [11], [12]] [some 158, some 159, some 160, some 161, some 162, some 163, some 164, some 165, some 166, some 167, some 168, some 169, some 170, some 171] [[4], [0], [22], [23], [160, 161], [159, 162], [163], [0], [23], [165, 166], [167], [158, 164, 168], [169], [170]] [0, 1, 2, 3, 4, 5, 6, 7, 8, 9, 10, 11, 12, 13] ⟨by kernel_rfl, by kernel_rfl, by kernel_rfl⟩ (by kernel_rfl) (fun s148 p148 l148 tb148 zd148 => ?_)))))))))))))
  have zd153 := ((((zd148.add 0 158 f4 rfl).add 1 159 w0_0 rfl).add 2 160 (iI (IntKind.wrap .i64 ((IntKind.wrap .i64 ((IntKind.wrap .i64 (ishr .u64 (IntKind.wrap .u64 (IntKind.wrap .i64 (a1 + a3))) (1 : Int))) + a2)) - (1 : Int)))) rfl).add 3 161 (iI (IntKind.wrap .i64 (ishr .u64 (IntKind.wrap .u64 (IntKind.wrap .i64 (x145.1 + x145.2))) (1 : Int)))) rfl).add 4 162 (iI (IntKind.wrap .i64 ((IntKind.wrap .i64 ((IntKind.wrap .i64 ((IntKind.wrap .i64 (ishr .u64 (IntKind.wrap .u64 (IntKind.wrap .i64 (a1 + a3))) (1 : Int))) + a2)) - (1 : Int))) - (IntKind.wrap .i64 (ishr .u64 (IntKind.wrap .u64 (IntKind.wrap .i64 (x145.1 + x145.2))) (1 : Int)))))) rfl
  have A154 := Cx145_1.st p148 rfl
  refine mg fun hg155 => ?_
  obtain ⟨ad155, es155, he155, ce155, ia155⟩ := ix_e A154.rd rfl hg155.1 hg155.2
  obtain ⟨rfl, hl155, hv155⟩ := he155
  refine mg fun hg161 => ?_
  obtain ⟨ad161, es161, he161, ce161, ia161⟩ := ix_e A154.rd rfl hg161.1 hg161.2
  obtain ⟨rfl, hl161, hv161⟩ := he161
  refine zfin [11, 12, 13] tb148 ((((((zd153.add 5 163 (.pointer (some ad155)) rfl).add 6 164 (.agg (List.toArray (at_ a0 (IntKind.wrap .i64 ((IntKind.wrap .i64 ((IntKind.wrap .i64 ((IntKind.wrap .i64 (ishr .u64 (IntKind.wrap .u64 (IntKind.wrap .i64 (a1 + a3))) (1 : Int))) + a2)) - (1 : Int))) - (IntKind.wrap .i64 (ishr .u64 (IntKind.wrap .u64 (IntKind.wrap .i64 (x145.1 + x145.2))) (1 : Int)))))).cs)) rfl).add 7 165 w0_0 rfl).add 8 166 (iI (IntKind.wrap .i64 (ishr .u64 (IntKind.wrap .u64 (IntKind.wrap .i64 (x145.1 + x145.2))) (1 : Int)))) rfl).add 9 167 (.pointer (some ad161)) rfl).add 10 168 (.agg (List.toArray (at_ a0 (IntKind.wrap .i64 (ishr .u64 (IntKind.wrap .u64 (IntKind.wrap .i64 (x145.1 + x145.2))) (1 : Int)))).cs)) rfl) (Xa (lca_q ce161 u51 (by rw [hl161]; exact z51) rfl rfl rfl rfl rfl rfl rfl) rfl (Xa (ix_q' A154.rd u42 z51 hg161.1 hg161.2 ia161 rfl) rfl (Xa (Xm rfl) rfl (Xa (Xf w0_0 rfl) rfl (Xa (lca_q ce155 u51 (by rw [hl155]; exact z51) rfl rfl rfl rfl rfl rfl rfl) rfl (Xa (ix_q' A154.rd u42 z51 hg155.1 hg155.2 ia155 rfl) rfl (Xa (Xm rfl) rfl (Xa (Xm rfl) rfl (Xa (Xm rfl) rfl (Xa (Xf w0_0 rfl) rfl (Xa (Xf f4 rfl) rfl Xk))))))))))) (by kernel_rfl) (by decide) ?_
  have K165 := Kx145.st p148 rfl
  refine clv rfl rfl rfl rfl rfl rfl rfl (fun r166 m166 => hf4 (at_ a0 (IntKind.wrap .i64 ((IntKind.wrap .i64 ((IntKind.wrap .i64 ((IntKind.wrap .i64 (ishr .u64 (IntKind.wrap .u64 (IntKind.wrap .i64 (a1 + a3))) (1 : Int))) + a2)) - (1 : Int))) - (IntKind.wrap .i64 (ishr .u64 (IntKind.wrap .u64 (IntKind.wrap .i64 (x145.1 + x145.2))) (1 : Int)))))) (at_ a0 (IntKind.wrap .i64 (ishr .u64 (IntKind.wrap .u64 (IntKind.wrap .i64 (x145.1 + x145.2))) (1 : Int)))) s148.w (z.ky K165)  r166 m166) ?_
  rintro r166 _ w166 m166 ⟨rfl, ky166⟩
  obtain ⟨s167, rfl, p167, n167⟩ := nwx s148 w166 46 ky166
  refine Xb rfl (Xb rfl (dn (jc (fun (y168 : Int × Int) e w => ∃ (s : St) (e0 : Env), w = s.w ∧ e = upd (upd (upd (upd (upd (upd (upd (upd (upd (upd e0 0 w0_0) 1 (iI a1)) 2 (iI a2)) 3 (iI a3)) 4 f4) 18 (iI (IntKind.wrap .i64 (ishr .u64 (IntKind.wrap .u64 (IntKind.wrap .i64 (a1 + a3))) (1 : Int))))) 19 (iI (IntKind.wrap .i64 ((IntKind.wrap .i64 (ishr .u64 (IntKind.wrap .u64 (IntKind.wrap .i64 (a1 + a3))) (1 : Int))) + a2)))) 20 (iI y168.1)) 21 (iI y168.2)) 22 (iI (IntKind.wrap .i64 ((IntKind.wrap .i64 ((IntKind.wrap .i64 (ishr .u64 (IntKind.wrap .u64 (IntKind.wrap .i64 (a1 + a3))) (1 : Int))) + a2)) - (1 : Int)))) ∧ Kp s0 s ∧ OwF (Kd.sl 51 (Kd.pk β 12)) s [w0_0] a0 2) (fun Gj168 Kj168 => ?_) ?_)))
  ·
   refine cd rfl (fun h169 => ?_) (fun h169 => ?_)
   ·
    refine rg (Xb rfl (Xb rfl (Xb rfl (dn ?_))))
    exact Kj168 _ _ _ ⟨s167, _, rfl, (ue (ue (ue (ue (ue (ue (ue (ue (ue (ue rfl rfl) rfl) rfl) rfl) rfl) rfl) rfl) rfl) rfl) rfl), (K165.st p167 rfl), (A154.st p167 rfl)⟩
   refine rg (Xb rfl (Xb rfl (dn ?_)))
   exact Kj168 _ _ _ ⟨s167, _, rfl, (ue (ue (ue (ue (ue (ue (ue (ue (ue (ue rfl rfl) rfl) rfl) rfl) rfl) rfl) rfl) rfl) rfl) rfl), (K165.st p167 rfl), (A154.st p167 rfl)⟩
  rintro y168 _ _ ⟨s174, _, rfl, rfl, Ky168, Cy168_1⟩
  exact ib (lb ih145 ⟨s174, _, rfl, (ue (ue (ue (ue (ue (ue (ue (ue (ue (ue rfl rfl) rfl) rfl) rfl) rfl) rfl) rfl) rfl) rfl) rfl), Ky168, Cy168_1⟩)
 refine xt rfl (sgb (sr (Xb rfl (Xb rfl (Xb rfl (Xb rfl (dn (sq (sr (Xb rfl (Xb rfl (Xb rfl (Xb rfl (jy [181, 182, 183, 184, 185] [] 185 (.bool ((decide (x145.1 < a2)) && (decide (a2 < (IntKind.wrap .i64 ((IntKind.wrap .i64 ((IntKind.wrap .i64 (ishr .u64 (IntKind.wrap .u64 (IntKind.wrap .i64 (a1 + a3))) (1 : Int))) + a2)) - x145.1)))))) rfl (fun Kg175 => ?_) (fun j175 => ?_)))))))))))))))
 ·
  rcases bft (decide (x145.1 < a2)) with hb175 | hb175
  ·
   exact Xu hb175 (Xb rfl (Xb rfl (Xb rfl (Xb rfl (Kg175 _ (Ag.put ((Ag.put ((Ag.put ((Ag.put (Ag.base rfl) rfl)) rfl)) rfl)) rfl) (by rw [hb175]; rfl))))))
  exact Xu hb175 (Xh rfl (Xh rfl (Xh rfl (Xb rfl (Kg175 _ (Ag.put ((Ag.put ((Ag.put ((Ag.put (Ag.base rfl) rfl)) rfl)) rfl)) rfl) (by rw [hb175]; rfl))))))
 refine dn (jc (fun (y176 : (List (Pk β))) e w => ∃ (s : St) (e0 : Env), w = s.w ∧ e = upd (upd (upd (upd (upd (upd (upd e0 0 w0_0) 1 (iI a1)) 3 (iI a3)) 4 f4) 18 (iI (IntKind.wrap .i64 (ishr .u64 (IntKind.wrap .u64 (IntKind.wrap .i64 (a1 + a3))) (1 : Int))))) 20 (iI x145.1)) 24 (iI (IntKind.wrap .i64 ((IntKind.wrap .i64 ((IntKind.wrap .i64 (ishr .u64 (IntKind.wrap .u64 (IntKind.wrap .i64 (a1 + a3))) (1 : Int))) + a2)) - x145.1))) ∧ Kp s0 s ∧ OwF (Kd.sl 51 (Kd.pk β 12)) s [w0_0] y176 2) (fun Gj176 Kj176 => ?_) ?_)
 ·
  refine cd rfl (fun h177 => ?_) (fun h177 => ?_)
  ·
   refine rg (Xl w0_0 rfl (Xb rfl (Xb rfl (Xb rfl (Xl f4 rfl ?_)))))
   obtain ⟨os178, ho178, hn178, hc178⟩ := Cx145_1
   refine cl' rfl func99 rfl (slices_rotateCmpFunc_impl_Row_pk.calls a0 x145.1 a2 (IntKind.wrap .i64 ((IntKind.wrap .i64 ((IntKind.wrap .i64 (ishr .u64 (IntKind.wrap .u64 (IntKind.wrap .i64 (a1 + a3))) (1 : Int))) + a2)) - x145.1)) a4 s146.w (mm [] s146) w0_0 f4 os178 ho178 hn178 (Yb hc178 rfl) (fun x0 x1 w' k  r m =>  hf4 x0 x1 w' (kyw z (z.ky Kx145) Kx145 hc178 rfl k)  r m) ho4) ?_
   rintro r178 _ w178 m178 ⟨rfl, w178_, ky178⟩
   obtain ⟨s179, rfl, p179, A179⟩ := nwo 47 hc178 ky178 w178_
   exact dn (Kj176 _ _ _ ⟨s179, _, rfl, (ue (ue (ue (ue (ue (ue (ue rfl rfl) rfl) rfl) rfl) rfl) rfl) rfl), (Kx145.st p179 rfl), A179⟩)
  exact sk (Kj176 _ _ _ ⟨s146, _, rfl, (ue (ue (ue (ue (ue (ue (ue rfl rfl) rfl) rfl) rfl) rfl) rfl) rfl), Kx145, Cx145_1⟩)
 rintro y176 _ _ ⟨s182, _, rfl, rfl, Ky176, Ay176_0⟩
 refine sq (sr (Xb rfl (Xb rfl (Xb rfl (Xb rfl (jy [195, 196, 197, 198, 199] [] 199 (.bool ((decide (a1 < x145.1)) && (decide (x145.1 < (IntKind.wrap .i64 (ishr .u64 (IntKind.wrap .u64 (IntKind.wrap .i64 (a1 + a3))) (1 : Int))))))) rfl (fun Kg184 => ?_) (fun j184 => ?_)))))))
 ·
  rcases bft (decide (a1 < x145.1)) with hb184 | hb184
  ·
   exact Xu hb184 (Xb rfl (Xb rfl (Xb rfl (Xb rfl (Kg184 _ (Ag.put ((Ag.put ((Ag.put ((Ag.put (Ag.base rfl) rfl)) rfl)) rfl)) rfl) (by rw [hb184]; rfl))))))
  exact Xu hb184 (Xh rfl (Xh rfl (Xh rfl (Xb rfl (Kg184 _ (Ag.put ((Ag.put ((Ag.put ((Ag.put (Ag.base rfl) rfl)) rfl)) rfl)) rfl) (by rw [hb184]; rfl))))))
 refine dn (jc (fun (y185 : (List (Pk β))) e w => ∃ (s : St) (e0 : Env), w = s.w ∧ e = upd (upd (upd (upd (upd e0 0 w0_0) 3 (iI a3)) 4 f4) 18 (iI (IntKind.wrap .i64 (ishr .u64 (IntKind.wrap .u64 (IntKind.wrap .i64 (a1 + a3))) (1 : Int))))) 24 (iI (IntKind.wrap .i64 ((IntKind.wrap .i64 ((IntKind.wrap .i64 (ishr .u64 (IntKind.wrap .u64 (IntKind.wrap .i64 (a1 + a3))) (1 : Int))) + a2)) - x145.1))) ∧ Kp s0 s ∧ OwF (Kd.sl 51 (Kd.pk β 12)) s [w0_0] y185 2) (fun Gj185 Kj185 => ?_) ?_)
 ·
  refine cd rfl (fun h186 => ?_) (fun h186 => ?_)
  ·
   refine rg (Xl w0_0 rfl (Xb rfl (Xb rfl (Xb rfl (Xl f4 rfl ?_)))))
   obtain ⟨os187, ho187, hn187, hc187⟩ := Ay176_0
   refine cl' rfl func70 rfl (fun r187 m187 => hR y176 a1 x145.1 (IntKind.wrap .i64 (ishr .u64 (IntKind.wrap .u64 (IntKind.wrap .i64 (a1 + a3))) (1 : Int))) a4 s182.w (mm [] s182) w0_0 f4 os187 ho187 hn187 (Yb hc187 rfl) (fun x0 x1 w' k  r m =>  hf4 x0 x1 w' (kyw z (z.ky Ky176) Ky176 hc187 rfl k)  r m) ho4 r187 m187) ?_
   rintro r187 _ w187 m187 ⟨rfl, w187_, ky187⟩
   obtain ⟨s188, rfl, p188, A188⟩ := nwo 48 hc187 ky187 w187_
   exact dn (Kj185 _ _ _ ⟨s188, _, rfl, (ue (ue (ue (ue (ue rfl rfl) rfl) rfl) rfl) rfl), (Ky176.st p188 rfl), A188⟩)
  exact sk (Kj185 _ _ _ ⟨s182, _, rfl, (ue (ue (ue (ue (ue rfl rfl) rfl) rfl) rfl) rfl), Ky176, Ay176_0⟩)
 rintro y185 _ _ ⟨s191, _, rfl, rfl, Ky185, Ay185_0⟩
 refine sr (Xb rfl (Xb rfl (Xb rfl (Xb rfl (jy [209, 210, 211, 212, 213] [] 213 (.bool ((decide ((IntKind.wrap .i64 (ishr .u64 (IntKind.wrap .u64 (IntKind.wrap .i64 (a1 + a3))) (1 : Int))) < (IntKind.wrap .i64 ((IntKind.wrap .i64 ((IntKind.wrap .i64 (ishr .u64 (IntKind.wrap .u64 (IntKind.wrap .i64 (a1 + a3))) (1 : Int))) + a2)) - x145.1)))) && (decide ((IntKind.wrap .i64 ((IntKind.wrap .i64 ((IntKind.wrap .i64 (ishr .u64 (IntKind.wrap .u64 (IntKind.wrap .i64 (a1 + a3))) (1 : Int))) + a2)) - x145.1)) < a3)))) rfl (fun Kg193 => ?_) (fun j193 => ?_))))))
 ·
  rcases bft (decide ((IntKind.wrap .i64 (ishr .u64 (IntKind.wrap .u64 (IntKind.wrap .i64 (a1 + a3))) (1 : Int))) < (IntKind.wrap .i64 ((IntKind.wrap .i64 ((IntKind.wrap .i64 (ishr .u64 (IntKind.wrap .u64 (IntKind.wrap .i64 (a1 + a3))) (1 : Int))) + a2)) - x145.1)))) with hb193 | hb193
  ·
   exact Xu hb193 (Xb rfl (Xb rfl (Xb rfl (Xb rfl (Kg193 _ (Ag.put ((Ag.put ((Ag.put ((Ag.put (Ag.base rfl) rfl)) rfl)) rfl)) rfl) (by rw [hb193]; rfl))))))
  exact Xu hb193 (Xh rfl (Xh rfl (Xh rfl (Xb rfl (Kg193 _ (Ag.put ((Ag.put ((Ag.put ((Ag.put (Ag.base rfl) rfl)) rfl)) rfl)) rfl) (by rw [hb193]; rfl))))))
 refine dn (cd rfl (fun h194 => ?_) (fun h194 => ?_))
 ·
  refine rg (Xl w0_0 rfl (Xb rfl (Xb rfl (Xb rfl (Xl f4 rfl ?_)))))
  obtain ⟨os195, ho195, hn195, hc195⟩ := Ay185_0
  refine cl' rfl func70 rfl (fun r195 m195 => hR y185 (IntKind.wrap .i64 (ishr .u64 (IntKind.wrap .u64 (IntKind.wrap .i64 (a1 + a3))) (1 : Int))) (IntKind.wrap .i64 ((IntKind.wrap .i64 ((IntKind.wrap .i64 (ishr .u64 (IntKind.wrap .u64 (IntKind.wrap .i64 (a1 + a3))) (1 : Int))) + a2)) - x145.1)) a3 a4 s191.w (mm [] s191) w0_0 f4 os195 ho195 hn195 (Yb hc195 rfl) (fun x0 x1 w' k  r m =>  hf4 x0 x1 w' (kyw z (z.ky Ky185) Ky185 hc195 rfl k)  r m) ho4 r195 m195) ?_
  rintro r195 _ w195 m195 ⟨rfl, w195_, ky195⟩
  obtain ⟨s196, rfl, p196, A196⟩ := nwo 49 hc195 ky195 w195_
  refine dn ?_
  have K198 := Ky185.st p196 rfl
  exact reE rfl func70 rfl Xe rfl ⟨_, rfl, rfl, z.fw K198 A196, z.ky K198⟩
 exact sk (reE rfl func70 rfl Xe rfl ⟨_, rfl, rfl, z.fw Ky185 Ay185_0, z.ky Ky185⟩)
theorem slices_symMergeCmpFunc_impl_Row_pk.callsN : ∀ n : Nat, ∀ (a0 : (List (Pk β))) (a1 : Int) (a2 : Int) (a3 : Int) (a4 : ((Pk β) → (Pk β) → Option Int)) (w : World) (F : Nat → Prop) (w0_0 : Value) (f4 : Value) (os : List Nat) (h0_0 : (Kd.sl 51 (Kd.pk β 12)).ow w [w0_0] a0 os) (hn : os.Nodup) (hF : ∀ b, F b → b ∉ os) (hf4 : ∀ (x0 : (Pk β)) (x1 : (Pk β)) (w' : World), Ky os w w' → ∀ r, a4 x0 x1 = some r → CallV prog f4 [(.agg (List.toArray x0.cs)), (.agg (List.toArray x1.cs))] w' fun en w'' => ∃ v, en = .returned v ∧ v = (iI r) ∧ Ky [] w' w'') (ho4 : f4.cells = #[f4]) (r : (List (Pk β))) (m : slices_symMergeCmpFunc_impl_Row_pk.g n a0 a1 a2 a3 a4 = some r), Calls prog 70 #[w0_0, (iI a1), (iI a2), (iI a3), f4] w (RT (slices_symMergeCmpFunc_impl_Row_pk.Q w F os w0_0) r)
 | 0 => by intros; rename_i m; cases m
 | n + 1 => slices_symMergeCmpFunc_impl_Row_pk.callsR (slices_symMergeCmpFunc_impl_Row_pk.g n) (slices_symMergeCmpFunc_impl_Row_pk.callsN n)
theorem slices_symMergeCmpFunc_impl_Row_pk.calls : ∀ (a0 : (List (Pk β))) (a1 : Int) (a2 : Int) (a3 : Int) (a4 : ((Pk β) → (Pk β) → Option Int)) (w : World) (F : Nat → Prop) (w0_0 : Value) (f4 : Value) (os : List Nat) (h0_0 : (Kd.sl 51 (Kd.pk β 12)).ow w [w0_0] a0 os) (hn : os.Nodup) (hF : ∀ b, F b → b ∉ os) (hf4 : ∀ (x0 : (Pk β)) (x1 : (Pk β)) (w' : World), Ky os w w' → ∀ r, a4 x0 x1 = some r → CallV prog f4 [(.agg (List.toArray x0.cs)), (.agg (List.toArray x1.cs))] w' fun en w'' => ∃ v, en = .returned v ∧ v = (iI r) ∧ Ky [] w' w'') (ho4 : f4.cells = #[f4]) (r : (List (Pk β))) (m : slices_symMergeCmpFunc_impl_Row_pk.f a0 a1 a2 a3 a4 = some r), Calls prog 70 #[w0_0, (iI a1), (iI a2), (iI a3), f4] w (RT (slices_symMergeCmpFunc_impl_Row_pk.Q w F os w0_0) r) := slices_symMergeCmpFunc_impl_Row_pk.callsN 1000
end
set_option linter.unusedSectionVars false
section
variable {β : Type} [Inhabited β]
def slices_stableCmpFunc_impl_Row_pk.b2 (a1 : Int) (a2 : ((Pk β) → (Pk β) → Option Int)) (x13 : (List (Pk β)) × Int) (x18 : (List (Pk β)) × Int × Int) : Option (((List (Pk β)) × Int × Int) ⊕ ((List (Pk β)) × Int ⊕ (List (Pk β)))) :=
 (if (decide (x18.2.2 ≤ a1)) = true then ((slices_symMergeCmpFunc_impl_Row_pk.f x18.1 x18.2.1 (IntKind.wrap .i64 (x18.2.1 + x13.2)) x18.2.2 a2).bind fun r22 => (some (Sum.inl (r22, x18.2.2, (IntKind.wrap .i64 (x18.2.2 + (IntKind.wrap .i64 ((2 : Int) * x13.2)))))))) else (((if (decide ((IntKind.wrap .i64 (x18.2.1 + x13.2)) < a1)) = true then ((slices_symMergeCmpFunc_impl_Row_pk.f x18.1 x18.2.1 (IntKind.wrap .i64 (x18.2.1 + x13.2)) a1 a2).bind fun r28 => (some r28)) else (some x18.1)).bind fun y26 => (some (Sum.inl (y26, (IntKind.wrap .i64 (x13.2 * (2 : Int))))))).bind fun o => some (Sum.inr o)))
def slices_stableCmpFunc_impl_Row_pk.b1 (a1 : Int) (a2 : ((Pk β) → (Pk β) → Option Int)) (x13 : (List (Pk β)) × Int) : Option (((List (Pk β)) × Int) ⊕ (List (Pk β))) :=
 (if (decide (x13.2 < a1)) = true then (iter (slices_stableCmpFunc_impl_Row_pk.b2 a1 a2 x13) (x13.1, (0 : Int), (IntKind.wrap .i64 ((2 : Int) * x13.2)))) else ((some x13.1).bind fun o => some (Sum.inr o)))
def slices_stableCmpFunc_impl_Row_pk.b0 (a1 : Int) (a2 : ((Pk β) → (Pk β) → Option Int)) (x2 : (List (Pk β)) × Int × Int) : Option (((List (Pk β)) × Int × Int) ⊕ (List (Pk β))) :=
 (if (decide (x2.2.2 ≤ a1)) = true then ((slices_insertionSortCmpFunc_impl_Row_pk.f x2.1 x2.2.1 x2.2.2 a2).bind fun r6 => (some (Sum.inl (r6, x2.2.2, (IntKind.wrap .i64 (x2.2.2 + (20 : Int))))))) else (((slices_insertionSortCmpFunc_impl_Row_pk.f x2.1 x2.2.1 a1 a2).bind fun r10 => (iter (slices_stableCmpFunc_impl_Row_pk.b1 a1 a2) (r10, (20 : Int)))).bind fun o => some (Sum.inr o)))
def slices_stableCmpFunc_impl_Row_pk.f (a0 : (List (Pk β))) (a1 : Int) (a2 : ((Pk β) → (Pk β) → Option Int)) : Option ((List (Pk β))) :=
 (iter (slices_stableCmpFunc_impl_Row_pk.b0 a1 a2) (a0, (0 : Int), (20 : Int)))
def slices_stableCmpFunc_impl_Row_pk.Q (w : World) (F : Nat → Prop) (os : List Nat) (w0_0 : Value) (r : (List (Pk β))) (v : Value) (w' : World) : Prop :=
 v = .tuple #[] ∧ FW (Kd.sl 51 (Kd.pk β 12)) os w w' [w0_0] r ∧ Ky os w w'
theorem slices_stableCmpFunc_impl_Row_pk.calls (a0 : (List (Pk β))) (a1 : Int) (a2 : ((Pk β) → (Pk β) → Option Int)) (w : World) (F : Nat → Prop) (w0_0 : Value) (f2 : Value) (os : List Nat) (h0_0 : (Kd.sl 51 (Kd.pk β 12)).ow w [w0_0] a0 os) (hn : os.Nodup) (hF : ∀ b, F b → b ∉ os) (hf2 : ∀ (x0 : (Pk β)) (x1 : (Pk β)) (w' : World), Ky os w w' → ∀ r, a2 x0 x1 = some r → CallV prog f2 [(.agg (List.toArray x0.cs)), (.agg (List.toArray x1.cs))] w' fun en w'' => ∃ v, en = .returned v ∧ v = (iI r) ∧ Ky [] w' w'') (ho2 : f2.cells = #[f2]) (r : (List (Pk β))) (m : slices_stableCmpFunc_impl_Row_pk.f a0 a1 a2 = some r) :
  Calls prog 44 #[w0_0, (iI a1), f2] w (RT (slices_stableCmpFunc_impl_Row_pk.Q w F os w0_0) r) := by
 obtain ⟨s0, rfl, kp0, z⟩ := start1 w F os hF
 refine Xd (args := [w0_0, (iI a1), f2]) func44 ntmps44 rfl rfl m ?_
 unfold slices_stableCmpFunc_impl_Row_pk.f
 refine sr (Xb rfl (dn (sr (Xb rfl (Xb rfl (Xb rfl (dn (sq (bl (lpI (fun (x2 : (List (Pk β)) × Int × Int) e w => ∃ (s : St) (e0 : Env), w = s.w ∧ e = upd (upd (upd (upd (upd (upd e0 0 w0_0) 1 (iI a1)) 2 f2) 6 (iI 20)) 7 (iI x2.2.1)) 8 (iI x2.2.2) ∧ Kp s0 s ∧ OwF (Kd.sl 51 (Kd.pk β 12)) s [w0_0] x2.1 2) ⟨s0, _, rfl, (ue (ue (ue (ue (ue (ue rfl rfl) rfl) rfl) rfl) rfl) rfl), kp0, (z.ow h0_0 hn)⟩ (fun g2 ih2 => ?_)))))))))))
 rintro x2 _ _ ⟨s3, _, rfl, rfl, Kx2, Ax2_0⟩
 unfold slices_stableCmpFunc_impl_Row_pk.b0
 refine sq (sr (Xb rfl (Xb rfl (Xb rfl (dn (cd rfl (fun h5 => ?_) (fun h5 => ?_)))))))
 ·
  refine sk (bl (sr (Xl w0_0 rfl (Xb rfl (Xb rfl (Xl f2 rfl ?_))))))
  obtain ⟨os6, ho6, hn6, hc6⟩ := Ax2_0
  refine cl' rfl func69 rfl (slices_insertionSortCmpFunc_impl_Row_pk.calls x2.1 x2.2.1 x2.2.2 a2 s3.w (mm [] s3) w0_0 f2 os6 ho6 hn6 (Yb hc6 rfl) (fun x0 x1 w' k  r m =>  hf2 x0 x1 w' (kyw z (z.ky Kx2) Kx2 hc6 rfl k)  r m) ho2) ?_
  rintro r6 _ w6 m6 ⟨rfl, w6_, ky6⟩
  obtain ⟨s7, rfl, p7, A7⟩ := nwo 40 hc6 ky6 w6_
  refine dn (sr (Xb rfl (Xb rfl (dn (rg (Xb rfl (Xb rfl (Xb rfl (Xb rfl (dn (ib ?_)))))))))))
  exact lb ih2 ⟨s7, _, rfl, (ue (ue (ue (ue (ue (ue rfl rfl) rfl) rfl) rfl) rfl) rfl), (Kx2.st p7 rfl), A7⟩
 refine xt rfl (sgb (sr (Xl w0_0 rfl (Xb rfl (Xb rfl (Xl f2 rfl ?_))))))
 obtain ⟨os10, ho10, hn10, hc10⟩ := Ax2_0
 refine cl' rfl func69 rfl (slices_insertionSortCmpFunc_impl_Row_pk.calls x2.1 x2.2.1 a1 a2 s3.w (mm [] s3) w0_0 f2 os10 ho10 hn10 (Yb hc10 rfl) (fun x0 x1 w' k  r m =>  hf2 x0 x1 w' (kyw z (z.ky Kx2) Kx2 hc10 rfl k)  r m) ho2) ?_
 rintro r10 _ w10 m10 ⟨rfl, w10_, ky10⟩
 obtain ⟨s11, rfl, p11, A11⟩ := nwo 41 hc10 ky10 w10_
 refine dn (bl ?_)
 refine lpI (fun (x13 : (List (Pk β)) × Int) e w => ∃ (s : St) (e0 : Env), w = s.w ∧ e = upd (upd (upd (upd e0 0 w0_0) 1 (iI a1)) 2 f2) 6 (iI x13.2) ∧ Kp s0 s ∧ OwF (Kd.sl 51 (Kd.pk β 12)) s [w0_0] x13.1 2) ⟨s11, _, rfl, (ue (ue (ue (ue rfl rfl) rfl) rfl) rfl), (Kx2.st p11 rfl), A11⟩ (fun g13 ih13 => ?_)
 rintro x13 _ _ ⟨s15, _, rfl, rfl, Kx13, Ax13_0⟩
 unfold slices_stableCmpFunc_impl_Row_pk.b1
 refine sq (sr (Xb rfl (Xb rfl (Xb rfl (dn (cd rfl (fun h17 => ?_) (fun h17 => ?_)))))))
 ·
  refine sk (bl (sr (Xb rfl (Xb rfl (Xb rfl (Xb rfl (dn (sq (bl (lpI (fun (x18 : (List (Pk β)) × Int × Int) e w => ∃ (s : St) (e0 : Env), w = s.w ∧ e = upd (upd (upd (upd (upd (upd e0 0 w0_0) 1 (iI a1)) 2 f2) 6 (iI x13.2)) 7 (iI x18.2.1)) 8 (iI x18.2.2) ∧ Kp s0 s ∧ OwF (Kd.sl 51 (Kd.pk β 12)) s [w0_0] x18.1 2) ⟨s15, _, rfl, (ue (ue (ue (ue (ue (ue rfl rfl) rfl) rfl) rfl) rfl) rfl), Kx13, Ax13_0⟩ (fun g18 ih18 => ?_)))))))))))
  rintro x18 _ _ ⟨s19, _, rfl, rfl, Kx18, Ax18_0⟩
  unfold slices_stableCmpFunc_impl_Row_pk.b2
  refine sq (sr (Xb rfl (Xb rfl (Xb rfl (dn (cd rfl (fun h21 => ?_) (fun h21 => ?_)))))))
  ·
   refine sk (bl (sr (Xl w0_0 rfl (Xb rfl (Xb rfl (Xb rfl (Xb rfl (Xb rfl (Xl f2 rfl ?_)))))))))
   obtain ⟨os22, ho22, hn22, hc22⟩ := Ax18_0
   refine cl' rfl func70 rfl (slices_symMergeCmpFunc_impl_Row_pk.calls x18.1 x18.2.1 (IntKind.wrap .i64 (x18.2.1 + x13.2)) x18.2.2 a2 s19.w (mm [] s19) w0_0 f2 os22 ho22 hn22 (Yb hc22 rfl) (fun x0 x1 w' k  r m =>  hf2 x0 x1 w' (kyw z (z.ky Kx18) Kx18 hc22 rfl k)  r m) ho2) ?_
   rintro r22 _ w22 m22 ⟨rfl, w22_, ky22⟩
   obtain ⟨s23, rfl, p23, A23⟩ := nwo 42 hc22 ky22 w22_
   refine dn (sr (Xb rfl (Xb rfl (dn (rg (Xb rfl (Xb rfl (Xb rfl (Xb rfl (Xb rfl (dn (ib ?_))))))))))))
   exact lb ih18 ⟨s23, _, rfl, (ue (ue (ue (ue (ue (ue rfl rfl) rfl) rfl) rfl) rfl) rfl), (Kx18.st p23 rfl), A23⟩
  refine xt rfl (sgb (sq (sr (Xb rfl (Xb rfl (Xb rfl (Xb rfl (dn (sr (Xb rfl (Xb rfl (Xb rfl (dn (jc (fun (y26 : (List (Pk β))) e w => ∃ (s : St) (e0 : Env), w = s.w ∧ e = upd (upd (upd (upd e0 0 w0_0) 1 (iI a1)) 2 f2) 6 (iI x13.2) ∧ Kp s0 s ∧ OwF (Kd.sl 51 (Kd.pk β 12)) s [w0_0] y26 2) (fun Gj26 Kj26 => ?_) ?_))))))))))))))
  ·
   refine cd rfl (fun h27 => ?_) (fun h27 => ?_)
   ·
    refine rg (Xl w0_0 rfl (Xb rfl (Xb rfl (Xb rfl (Xl f2 rfl ?_)))))
    obtain ⟨os28, ho28, hn28, hc28⟩ := Ax18_0
    refine cl' rfl func70 rfl (slices_symMergeCmpFunc_impl_Row_pk.calls x18.1 x18.2.1 (IntKind.wrap .i64 (x18.2.1 + x13.2)) a1 a2 s19.w (mm [] s19) w0_0 f2 os28 ho28 hn28 (Yb hc28 rfl) (fun x0 x1 w' k  r m =>  hf2 x0 x1 w' (kyw z (z.ky Kx18) Kx18 hc28 rfl k)  r m) ho2) ?_
    rintro r28 _ w28 m28 ⟨rfl, w28_, ky28⟩
    obtain ⟨s29, rfl, p29, A29⟩ := nwo 43 hc28 ky28 w28_
    exact dn (Kj26 _ _ _ ⟨s29, _, rfl, (ue (ue (ue (ue rfl rfl) rfl) rfl) rfl), (Kx18.st p29 rfl), A29⟩)
   exact sk (Kj26 _ _ _ ⟨s19, _, rfl, (ue (ue (ue (ue rfl rfl) rfl) rfl) rfl), Kx18, Ax18_0⟩)
  rintro y26 _ _ ⟨s32, _, rfl, rfl, Ky26, Ay26_0⟩
  exact rg (Xb rfl (Xb rfl (Xb rfl (dn (ib (lb ih13 ⟨s32, _, rfl, (ue (ue (ue (ue rfl rfl) rfl) rfl) rfl), Ky26, Ay26_0⟩))))))
 exact xt rfl (sgb (reE rfl func44 rfl Xe rfl ⟨_, rfl, rfl, z.fw Kx13 Ax13_0, z.ky Kx13⟩))
end
set_option linter.unusedSectionVars false
section
variable {β : Type} [Inhabited β]
def slices_SortStableFunc_impl_Row_impl_Row_pk.f (a0 : (List (Pk β))) (a1 : ((Pk β) → (Pk β) → Option Int)) : Option ((List (Pk β))) :=
 ((slices_stableCmpFunc_impl_Row_pk.f a0 (a0.length : Int) a1).bind fun r2 => (some r2))
def slices_SortStableFunc_impl_Row_impl_Row_pk.Q (w : World) (F : Nat → Prop) (os : List Nat) (w0_0 : Value) (r : (List (Pk β))) (v : Value) (w' : World) : Prop :=
 v = .tuple #[] ∧ FW (Kd.sl 51 (Kd.pk β 12)) os w w' [w0_0] r ∧ Ky os w w'
theorem slices_SortStableFunc_impl_Row_impl_Row_pk.calls (a0 : (List (Pk β))) (a1 : ((Pk β) → (Pk β) → Option Int)) (w : World) (F : Nat → Prop) (w0_0 : Value) (f1 : Value) (os : List Nat) (h0_0 : (Kd.sl 51 (Kd.pk β 12)).ow w [w0_0] a0 os) (hn : os.Nodup) (hF : ∀ b, F b → b ∉ os) (hf1 : ∀ (x0 : (Pk β)) (x1 : (Pk β)) (w' : World), Ky os w w' → ∀ r, a1 x0 x1 = some r → CallV prog f1 [(.agg (List.toArray x0.cs)), (.agg (List.toArray x1.cs))] w' fun en w'' => ∃ v, en = .returned v ∧ v = (iI r) ∧ Ky [] w' w'') (ho1 : f1.cells = #[f1]) (r : (List (Pk β))) (m : slices_SortStableFunc_impl_Row_impl_Row_pk.f a0 a1 = some r) :
  Calls prog 24 #[w0_0, f1] w (RT (slices_SortStableFunc_impl_Row_impl_Row_pk.Q w F os w0_0) r) := by
 obtain ⟨s0, rfl, kp0, z⟩ := start1 w F os hF
 have A0_0 := z.ow h0_0 hn
 refine Xd (args := [w0_0, f1]) func24 ntmps24 rfl rfl m ?_
 unfold slices_SortStableFunc_impl_Row_impl_Row_pk.f
 refine rg (Xl w0_0 rfl (Xl w0_0 rfl (ln' A0_0.rd u42 rfl (Xl f1 rfl ?_))))
 obtain ⟨os2, ho2, hn2, hc2⟩ := A0_0
 refine cl' rfl func44 rfl (slices_stableCmpFunc_impl_Row_pk.calls a0 (a0.length : Int) a1 s0.w (mm [] s0) w0_0 f1 os2 ho2 hn2 (Yb hc2 rfl) (fun x0 x1 w' k  r m =>  hf1 x0 x1 w' (kyw z (z.ky kp0) kp0 hc2 rfl k)  r m) ho1) ?_
 rintro r2 _ w2 m2 ⟨rfl, w2_, ky2⟩
 obtain ⟨s3, rfl, p3, A3⟩ := nwo 40 hc2 ky2 w2_
 refine dn ?_
 have K5 := kp0.st p3 rfl
 exact reE rfl func24 rfl Xe rfl ⟨_, rfl, rfl, z.fw K5 A3, z.ky K5⟩
end
section
variable {β : Type} [Inhabited β]
theorem slices_insertionSortCmpFunc_impl_Row_pk_ef : @slices_insertionSortCmpFunc_impl_Row_pk.f β _ = insM.f := rfl
theorem slices_symMergeCmpFunc_impl_Row_pk_eh : @slices_symMergeCmpFunc_impl_Row_pk.h β _ = symM.h := rfl
theorem slices_symMergeCmpFunc_impl_Row_pk_eg : ∀ n : Nat, slices_symMergeCmpFunc_impl_Row_pk.g (β := β) n = symM.g n
 | 0 => rfl
 | n + 1 => by show slices_symMergeCmpFunc_impl_Row_pk.h (slices_symMergeCmpFunc_impl_Row_pk.g n) = symM.h (symM.g n); rw [slices_symMergeCmpFunc_impl_Row_pk_eg n, slices_symMergeCmpFunc_impl_Row_pk_eh]
theorem slices_symMergeCmpFunc_impl_Row_pk_ef : @slices_symMergeCmpFunc_impl_Row_pk.f β _ = symM.f := by funext a b c d e; show slices_symMergeCmpFunc_impl_Row_pk.g 1000 a b c d e = symM.g 1000 a b c d e; rw [slices_symMergeCmpFunc_impl_Row_pk_eg]
theorem slices_stableCmpFunc_impl_Row_pk_e2 : @slices_stableCmpFunc_impl_Row_pk.b2 β _ = stbM.b2 := by funext a b c d; unfold slices_stableCmpFunc_impl_Row_pk.b2 stbM.b2; rw [slices_symMergeCmpFunc_impl_Row_pk_ef]
theorem slices_stableCmpFunc_impl_Row_pk_e1 : @slices_stableCmpFunc_impl_Row_pk.b1 β _ = stbM.b1 := by funext a b c; unfold slices_stableCmpFunc_impl_Row_pk.b1 stbM.b1; rw [slices_stableCmpFunc_impl_Row_pk_e2]
theorem slices_stableCmpFunc_impl_Row_pk_e0 : @slices_stableCmpFunc_impl_Row_pk.b0 β _ = stbM.b0 := by funext a b c; unfold slices_stableCmpFunc_impl_Row_pk.b0 stbM.b0; rw [slices_stableCmpFunc_impl_Row_pk_e1, slices_insertionSortCmpFunc_impl_Row_pk_ef]
theorem slices_stableCmpFunc_impl_Row_pk_ef : @slices_stableCmpFunc_impl_Row_pk.f β _ = stbM.f := by funext a b c; unfold slices_stableCmpFunc_impl_Row_pk.f stbM.f; rw [slices_stableCmpFunc_impl_Row_pk_e0]
end
def slices_SortStableFunc_impl_Row_impl_Row.f (a0 : (List Row)) (a1 : (Row → Row → Option Int)) : Option ((List Row)) := srtF a0 a1
def slices_SortStableFunc_impl_Row_impl_Row.Q (w : World) (F : Nat → Prop) (os : List Nat) (w0_0 : Value) (r : (List Row)) (v : Value) (w' : World) : Prop := v = .tuple #[] ∧ FW Yh os w w' [w0_0] r ∧ Ky os w w'
theorem slices_SortStableFunc_impl_Row_impl_Row.calls (a0 : (List Row)) (a1 : (Row → Row → Option Int)) (w : World) (F : Nat → Prop) (w0_0 : Value) (f1 : Value) (os : List Nat) (h0 : Yh.ow w [w0_0] a0 os) (hn : os.Nodup) (hF : ∀ b, F b → b ∉ os) (hf1 : ∀ (x0 : Row) (x1 : Row) (u0_0 u0_1 u0_2 u0_3 u1_0 u1_1 u1_2 u1_3 : Value) (w' : World), Ky os w w' → Kd.flt.rd w' [u0_0] x0.Tuple.Key.F (fun _ => True) → Ye.rd w' [u0_1] x0.Tuple.Key.T (fun _ => True) → Kd.flt.rd w' [u0_2] x0.Tuple.Value.F (fun _ => True) → Ye.rd w' [u0_3] x0.Tuple.Value.T (fun _ => True) → Kd.flt.rd w' [u1_0] x1.Tuple.Key.F (fun _ => True) → Ye.rd w' [u1_1] x1.Tuple.Key.T (fun _ => True) → Kd.flt.rd w' [u1_2] x1.Tuple.Value.F (fun _ => True) → Ye.rd w' [u1_3] x1.Tuple.Value.T (fun _ => True) → ∀ r, a1 x0 x1 = some r → CallV prog f1 [(.agg #[(iI x0.Page), (iI x0.Slot), (iI x0.Tuple.Xmin), (iI x0.Tuple.Xmax), (iI x0.Tuple.Key.Kind), (iI x0.Tuple.Key.N), u0_0, u0_1, (iI x0.Tuple.Value.Kind), (iI x0.Tuple.Value.N), u0_2, u0_3]), (.agg #[(iI x1.Page), (iI x1.Slot), (iI x1.Tuple.Xmin), (iI x1.Tuple.Xmax), (iI x1.Tuple.Key.Kind), (iI x1.Tuple.Key.N), u1_0, u1_1, (iI x1.Tuple.Value.Kind), (iI x1.Tuple.Value.N), u1_2, u1_3])] w' fun en w'' => ∃ v, en = .returned v ∧ v = (iI r) ∧ Ky [] w' w'') (ho1 : f1.cells = #[f1]) (r : (List Row)) (m : slices_SortStableFunc_impl_Row_impl_Row.f a0 a1 = some r) :
  Calls prog 24 #[w0_0, f1] w (RT (slices_SortStableFunc_impl_Row_impl_Row.Q w F os w0_0) r) :=
 srtG (te := 51) (K := kd51) slices_SortStableFunc_impl_Row_impl_Row_pk.calls (fun a0 a1 => by unfold slices_SortStableFunc_impl_Row_impl_Row_pk.f; rw [slices_stableCmpFunc_impl_Row_pk_ef]) a0 a1 w w0_0 f1 os h0 hn (fun x0 x1 c0 c1 w' k hr0 hr1 r hr => by
  obtain ⟨q0, q1, q2, q3, e0, hq0, hq1, hq2, hq3⟩ := op51 (top_rd hr0)
  obtain ⟨q4, q5, q6, q7, e1, hq4, hq5, hq6, hq7⟩ := op51 (top_rd hr1)
  rw [e0, e1]
  exact hf1 x0 x1 q0 q1 q2 q3 q4 q5 q6 q7 w' k (fl_rd hq0) (rd_top hq1) (fl_rd hq2) (rd_top hq3) (fl_rd hq4) (rd_top hq5) (fl_rd hq6) (rd_top hq7) r hr) ho1 r m

def cmp_isNaN_int.f (a0 : Int) : Option (Bool) :=
 (some (a0 != a0))
def cmp_isNaN_int.Q (w : World) (F : Nat → Prop) (r : Bool) (v : Value) (w' : World) : Prop :=
 v = (.bool r) ∧ Ky [] w w'
theorem cmp_isNaN_int.calls (a0 : Int) (w : World) (F : Nat → Prop)   (r : Bool) (m : cmp_isNaN_int.f a0 = some r) :
  Calls prog 71 #[(iI a0)] w (RT (cmp_isNaN_int.Q w F) r) := by
 obtain ⟨s0, rfl, kp0, z⟩ := Xg w F
 refine Xd (args := [(iI a0)]) func71 ntmps71 rfl rfl m ?_
 unfold cmp_isNaN_int.f
 exact sr (Xb rfl (dn (sr (Xb rfl (Xb rfl (Xb rfl (Xb rfl (dn (re rfl func71 rfl (Xo rfl Xe) rfl ⟨_, rfl, rfl, z.ky kp0⟩)))))))))
def cmp_Compare_int.f (a0 : Int) (a1 : Int) : Option (Int) :=
 ((cmp_isNaN_int.f a0).bind fun r1 => ((cmp_isNaN_int.f a1).bind fun r3 => (if r1 = true then (if r3 = true then (some (0 : Int)) else (some (-1 : Int))) else (if r3 = true then (some (1 : Int)) else (if (decide (a0 < a1)) = true then (some (-1 : Int)) else (if (decide (a0 > a1)) = true then (some (1 : Int)) else (some (0 : Int))))))))
def cmp_Compare_int.Q (w : World) (F : Nat → Prop) (r : Int) (v : Value) (w' : World) : Prop :=
 v = (iI r) ∧ Ky [] w w'
theorem cmp_Compare_int.calls (a0 : Int) (a1 : Int) (w : World) (F : Nat → Prop)   (r : Int) (m : cmp_Compare_int.f a0 a1 = some r) :
  Calls prog 46 #[(iI a0), (iI a1)] w (RT (cmp_Compare_int.Q w F) r) := by
 obtain ⟨s0, rfl, kp0, z⟩ := Xg w F
 refine Xd (args := [(iI a0), (iI a1)]) func46 ntmps46 rfl rfl m ?_
 unfold cmp_Compare_int.f
 refine sr (Xb rfl (dn (sr (Xb rfl (clV 40 rfl func71 rfl (cmp_isNaN_int.calls a0 s0.w (mm [] s0)) (fun r1 s2 p2 n2 => ?_))))))
 refine Xb rfl (dn (sr (Xb rfl (clV 41 rfl func71 rfl (cmp_isNaN_int.calls a1 s2.w (mm [] s2)) (fun r3 s4 p4 n4 => ?_)))))
 refine Xb rfl (dn (sq (sr (Xb rfl (dn (cd rfl (fun h5 => ?_) (fun h5 => ?_)))))))
 ·
  refine sq (sr (Xb rfl (dn (cd rfl (fun h6 => ?_) (fun h6 => ?_)))))
  ·
   refine sr (Xb rfl (dn ?_))
   exact re rfl func46 rfl (Xo rfl Xe) rfl ⟨_, rfl, rfl, z.ky (kp0.st (Xs p2 p4) rfl)⟩
  refine sk (sr (Xb rfl (dn ?_)))
  exact re rfl func46 rfl (Xo rfl Xe) rfl ⟨_, rfl, rfl, z.ky (kp0.st (Xs p2 p4) rfl)⟩
 refine sk (sq (sr (Xb rfl (dn (cd rfl (fun h9 => ?_) (fun h9 => ?_))))))
 ·
  refine sr (Xb rfl (dn ?_))
  exact re rfl func46 rfl (Xo rfl Xe) rfl ⟨_, rfl, rfl, z.ky (kp0.st (Xs p2 p4) rfl)⟩
 refine sk (sq (sr (Xb rfl (Xb rfl (Xb rfl (dn (cd rfl (fun h11 => ?_) (fun h11 => ?_))))))))
 ·
  refine sr (Xb rfl (dn ?_))
  exact re rfl func46 rfl (Xo rfl Xe) rfl ⟨_, rfl, rfl, z.ky (kp0.st (Xs p2 p4) rfl)⟩
 refine sk (sq (sr (Xb rfl (Xb rfl (Xb rfl (dn (cd rfl (fun h13 => ?_) (fun h13 => ?_))))))))
 ·
  refine sr (Xb rfl (dn ?_))
  exact re rfl func46 rfl (Xo rfl Xe) rfl ⟨_, rfl, rfl, z.ky (kp0.st (Xs p2 p4) rfl)⟩
 refine sk (sr (Xb rfl (dn ?_)))
 exact re rfl func46 rfl (Xo rfl Xe) rfl ⟨_, rfl, rfl, z.ky (kp0.st (Xs p2 p4) rfl)⟩
def cmp_isNaN_uint64.f (a0 : Int) : Option (Bool) :=
 (some (a0 != a0))
def cmp_isNaN_uint64.Q (w : World) (F : Nat → Prop) (r : Bool) (v : Value) (w' : World) : Prop :=
 v = (.bool r) ∧ Ky [] w w'
theorem cmp_isNaN_uint64.calls (a0 : Int) (w : World) (F : Nat → Prop)   (r : Bool) (m : cmp_isNaN_uint64.f a0 = some r) :
  Calls prog 100 #[(.int .u64 a0)] w (RT (cmp_isNaN_uint64.Q w F) r) := by
 obtain ⟨s0, rfl, kp0, z⟩ := Xg w F
 refine Xd (args := [(.int .u64 a0)]) func100 ntmps100 rfl rfl m ?_
 unfold cmp_isNaN_uint64.f
 exact sr (Xb rfl (dn (sr (Xb rfl (Xb rfl (Xb rfl (Xb rfl (dn (re rfl func100 rfl (Xo rfl Xe) rfl ⟨_, rfl, rfl, z.ky kp0⟩)))))))))
def cmp_Compare_uint64.f (a0 : Int) (a1 : Int) : Option (Int) :=
 ((cmp_isNaN_uint64.f a0).bind fun r1 => ((cmp_isNaN_uint64.f a1).bind fun r3 => (if r1 = true then (if r3 = true then (some (0 : Int)) else (some (-1 : Int))) else (if r3 = true then (some (1 : Int)) else (if (decide (a0 < a1)) = true then (some (-1 : Int)) else (if (decide (a0 > a1)) = true then (some (1 : Int)) else (some (0 : Int))))))))
def cmp_Compare_uint64.Q (w : World) (F : Nat → Prop) (r : Int) (v : Value) (w' : World) : Prop :=
 v = (iI r) ∧ Ky [] w w'
theorem cmp_Compare_uint64.calls (a0 : Int) (a1 : Int) (w : World) (F : Nat → Prop)   (r : Int) (m : cmp_Compare_uint64.f a0 a1 = some r) :
  Calls prog 72 #[(.int .u64 a0), (.int .u64 a1)] w (RT (cmp_Compare_uint64.Q w F) r) := by
 obtain ⟨s0, rfl, kp0, z⟩ := Xg w F
 refine Xd (args := [(.int .u64 a0), (.int .u64 a1)]) func72 ntmps72 rfl rfl m ?_
 unfold cmp_Compare_uint64.f
 refine sr (Xb rfl (dn (sr (Xb rfl (clV 40 rfl func100 rfl (cmp_isNaN_uint64.calls a0 s0.w (mm [] s0)) (fun r1 s2 p2 n2 => ?_))))))
 refine Xb rfl (dn (sr (Xb rfl (clV 41 rfl func100 rfl (cmp_isNaN_uint64.calls a1 s2.w (mm [] s2)) (fun r3 s4 p4 n4 => ?_)))))
 refine Xb rfl (dn (sq (sr (Xb rfl (dn (cd rfl (fun h5 => ?_) (fun h5 => ?_)))))))
 ·
  refine sq (sr (Xb rfl (dn (cd rfl (fun h6 => ?_) (fun h6 => ?_)))))
  ·
   refine sr (Xb rfl (dn ?_))
   exact re rfl func72 rfl (Xo rfl Xe) rfl ⟨_, rfl, rfl, z.ky (kp0.st (Xs p2 p4) rfl)⟩
  refine sk (sr (Xb rfl (dn ?_)))
  exact re rfl func72 rfl (Xo rfl Xe) rfl ⟨_, rfl, rfl, z.ky (kp0.st (Xs p2 p4) rfl)⟩
 refine sk (sq (sr (Xb rfl (dn (cd rfl (fun h9 => ?_) (fun h9 => ?_))))))
 ·
  refine sr (Xb rfl (dn ?_))
  exact re rfl func72 rfl (Xo rfl Xe) rfl ⟨_, rfl, rfl, z.ky (kp0.st (Xs p2 p4) rfl)⟩
 refine sk (sq (sr (Xb rfl (Xb rfl (Xb rfl (dn (cd rfl (fun h11 => ?_) (fun h11 => ?_))))))))
 ·
  refine sr (Xb rfl (dn ?_))
  exact re rfl func72 rfl (Xo rfl Xe) rfl ⟨_, rfl, rfl, z.ky (kp0.st (Xs p2 p4) rfl)⟩
 refine sk (sq (sr (Xb rfl (Xb rfl (Xb rfl (dn (cd rfl (fun h13 => ?_) (fun h13 => ?_))))))))
 ·
  refine sr (Xb rfl (dn ?_))
  exact re rfl func72 rfl (Xo rfl Xe) rfl ⟨_, rfl, rfl, z.ky (kp0.st (Xs p2 p4) rfl)⟩
 refine sk (sr (Xb rfl (dn ?_)))
 exact re rfl func72 rfl (Xo rfl Xe) rfl ⟨_, rfl, rfl, z.ky (kp0.st (Xs p2 p4) rfl)⟩
def impl_FloatCompare.f (a0 : Nat) (a1 : Nat) : Option (Int) :=
 ((impl_FloatRank.f a0).bind fun r1 => ((impl_FloatRank.f a1).bind fun r3 => ((cmp_Compare_uint64.f r1 r3).bind fun r5 => (some r5))))
def impl_FloatCompare.Q (w : World) (F : Nat → Prop) (r : Int) (v : Value) (w' : World) : Prop :=
 v = (iI r) ∧ Ky [] w w'
theorem impl_FloatCompare.calls (a0 : Nat) (a1 : Nat) (w : World) (F : Nat → Prop) (w0_0 : Value) (w1_0 : Value) (h0_0 : Kd.flt.rd w [w0_0] a0 F) (h1_0 : Kd.flt.rd w [w1_0] a1 F) (r : Int) (m : impl_FloatCompare.f a0 a1 = some r) :
  Calls prog 47 #[w0_0, w1_0] w (RT (impl_FloatCompare.Q w F) r) := by
 obtain ⟨s0, rfl, kp0, z⟩ := Xg w F
 refine Xd (args := [w0_0, w1_0]) func47 ntmps47 rfl rfl m ?_
 unfold impl_FloatCompare.f
 refine sr (Xb rfl (dn (sr (Xl w0_0 rfl (clV 40 rfl func73 rfl (impl_FloatRank.calls a0 s0.w (mm [] s0) w0_0 (Xn (s := s0) (fl_of h0_0))) (fun r1 s2 p2 n2 => ?_))))))
 refine Xl w1_0 rfl (clV 41 rfl func73 rfl (impl_FloatRank.calls a1 s2.w (mm [] s2) w1_0 (Xn (s := s2) (fl_of h1_0))) (fun r3 s4 p4 n4 => ?_))
 refine clV 42 rfl func72 rfl (cmp_Compare_uint64.calls r1 r3 s4.w (mm [] s4)) (fun r5 s6 p6 n6 => ?_)
 refine Xb rfl (dn ?_)
 exact re rfl func47 rfl (Xo rfl Xe) rfl ⟨_, rfl, rfl, z.ky (kp0.st (tr3 p2 p4 p6) rfl)⟩
def bytes_Compare.f (a0 : (List Int)) (a1 : (List Int)) : Option (Int) :=
 (some (bcmpS a0 a1))
def bytes_Compare.Q (w : World) (F : Nat → Prop) (r : Int) (v : Value) (w' : World) : Prop :=
 v = (iI r) ∧ Ky [] w w'
theorem bytes_Compare.calls (a0 : (List Int)) (a1 : (List Int)) (w : World) (F : Nat → Prop) (w0_0 : Value) (w1_0 : Value) (h0_0 : Ye.rd w [w0_0] a0 F) (h1_0 : Ye.rd w [w1_0] a1 F) (r : Int) (m : bytes_Compare.f a0 a1 = some r) :
  Calls prog 48 #[w0_0, w1_0] w (RT (bytes_Compare.Q w F) r) := by
 obtain ⟨s0, rfl, kp0, z⟩ := Xg w F
 refine Xd (args := [w0_0, w1_0]) func48 ntmps48 rfl rfl m ?_
 unfold bytes_Compare.f
 exact sr (Xb rfl (dn (sr (Xl w0_0 rfl (Xl w1_0 rfl (bcx (z.rd h0_0) (z.rd h1_0) rfl rfl rfl rfl rfl func74 rfl rfl xn74 xf74 rfl rfl (Xb rfl (dn (re rfl func48 rfl (Xo rfl Xe) rfl ⟨_, rfl, rfl, z.ky kp0⟩)))))))))
def cmp_Or_int.b0 (a0 : (List Int)) (x2 : Int) : Option (Int ⊕ Int) :=
 (if (decide (x2 < (a0.length : Int))) = true then (if 0 ≤ x2 ∧ x2 < (a0.length : Int) then (if ((at_ a0 x2) != (0 : Int)) = true then (some (Sum.inr (at_ a0 x2))) else (some (Sum.inl (IntKind.wrap .i64 (x2 + (1 : Int)))))) else none) else ((some (0 : Int)).bind fun o => some (Sum.inr o)))
def cmp_Or_int.f (a0 : (List Int)) : Option (Int) :=
 (iter (cmp_Or_int.b0 a0) (0 : Int))
def cmp_Or_int.Q (w : World) (F : Nat → Prop) (r : Int) (v : Value) (w' : World) : Prop :=
 v = (iI r) ∧ Ky [] w w'
theorem cmp_Or_int.calls (a0 : (List Int)) (w : World) (F : Nat → Prop) (w0_0 : Value) (h0_0 : Yj.rd w [w0_0] a0 F) (r : Int) (m : cmp_Or_int.f a0 = some r) :
  Calls prog 45 #[w0_0] w (RT (cmp_Or_int.Q w F) r) := by
 obtain ⟨s0, rfl, kp0, z⟩ := Xg w F
 have A0_0 := z.rd h0_0
 refine Xd (args := [w0_0]) func45 ntmps45 rfl rfl m ?_
 unfold cmp_Or_int.f
 refine sr (Xb rfl (dn (sr (Xb rfl (dn (sq (sr (Xl w0_0 rfl (ln' A0_0 u25 rfl (Xb rfl (dn (bl (lpI (fun (x2 : Int) e w => ∃ (s : St) (e0 : Env), w = s.w ∧ e = upd (upd (upd (upd e0 3 (iI 0)) 6 w0_0) 7 (iI (a0.length : Int))) 8 (iI x2) ∧ Kp s0 s) ⟨s0, _, rfl, (ue (ue (ue (ue rfl rfl) rfl) rfl) rfl), kp0⟩ (fun g2 ih2 => ?_))))))))))))))
 rintro x2 _ _ ⟨s3, _, rfl, rfl, Kx2⟩
 unfold cmp_Or_int.b0
 refine sr (Xb rfl (dn (sq (cd rfl (fun h4 => ?_) (fun h4 => ?_)))))
 ·
  refine sk (sq (bl (sr ?_)))
  refine ix' (A0_0.kp Kx2) u25 z3 rfl (fun ad6 es6 h0_6 h1_6 he6 ce6 ia6 => ?_)
  obtain rfl := he6
  refine lc0' ce6 u3 rfl (Xb rfl (dn (sr (Xb rfl (Xb rfl (Xb rfl (dn (cd rfl (fun h8 => ?_) (fun h8 => ?_)))))))))
  ·
   exact sr (Xb rfl (Xb rfl (dn (sgi (re rfl func45 rfl (Xo rfl Xe) rfl ⟨_, rfl, rfl, z.ky Kx2⟩)))))
  exact sk (ib (rg (Xb rfl (Xb rfl (dn (lb ih2 ⟨s3, _, rfl, (ue (ue (ue (ue rfl rfl) rfl) rfl) rfl), Kx2⟩))))))
 exact xt rfl (sgb (sr (Xb rfl (Xb rfl (dn (re rfl func45 rfl (Xo rfl Xe) rfl ⟨_, rfl, rfl, z.ky Kx2⟩))))))
def impl_compareItems.f (a0 : Item) (a1 : Item) : Option (Int) :=
 ((cmp_Compare_int.f a0.Kind a1.Kind).bind fun r41 => ((cmp_Compare_int.f a0.N a1.N).bind fun r51 => ((impl_FloatCompare.f a0.F a1.F).bind fun r59 => ((bytes_Compare.f a0.T a1.T).bind fun r67 => ((cmp_Or_int.f ([r41, r51, r59, r67])).bind fun r71 => (some r71))))))
def impl_compareItems.Q (w : World) (F : Nat → Prop) (r : Int) (v : Value) (w' : World) : Prop :=
 v = (iI r) ∧ Ky [] w w'
theorem impl_compareItems.calls (a0 : Item) (a1 : Item) (w : World) (F : Nat → Prop) (w0_0 : Value) (w0_1 : Value) (w1_0 : Value) (w1_1 : Value) (h0_0 : Kd.flt.rd w [w0_0] a0.F F) (h0_1 : Ye.rd w [w0_1] a0.T F) (h1_0 : Kd.flt.rd w [w1_0] a1.F F) (h1_1 : Ye.rd w [w1_1] a1.T F) (r : Int) (m : impl_compareItems.f a0 a1 = some r) :
  Calls prog 26 #[(.agg #[(iI a0.Kind), (iI a0.N), w0_0, w0_1]), (.agg #[(iI a1.Kind), (iI a1.N), w1_0, w1_1])] w (RT (impl_compareItems.Q w F) r) := by
 obtain ⟨s0, rfl, kp0, z⟩ := Xg w F
 refine Xd (args := [(.agg #[(iI a0.Kind), (iI a0.N), w0_0, w0_1]), (.agg #[(iI a1.Kind), (iI a1.N), w1_0, w1_1])]) func26 ntmps26 rfl rfl m ?_
 unfold impl_compareItems.f
 refine sr (bx' (cs := [(iI a0.Kind), (iI a0.N), w0_0, w0_1]) 40 rfl rfl (fun b3 s3 p3 B3 => ?_))
 refine bx' (cs := [(iI a1.Kind), (iI a1.N), w1_0, w1_1]) 41 rfl rfl (fun b5 s5 p5 B5 => ?_)
 refine Xb rfl (dn (sq (zdraw [[], [0], [], [2], [1, 3], [], [5], [], [7], [6, 8, 4], [], [10], [], [12], [11, 13, 9], [], [15], [], [17], [16, 18, 14], [4, 9, 14, 19], [20, 19], [21, 21, 0, 1, 2, 3, 4, 5, 6, 7, 8, 9, 10, 11, 12, 13, 14, 15, 16, 17, 18, 19, 20, 21]] [some 5, some 6, some 7, some 8, some 9, some 10, some 11, some 12, some 13, some 14, some 15, some 16, some 17, some 18, some 19, some 20, some 21, some 22, some 23, some 24, some 25, some 26, some 4] [[2], [5], [3], [7], [6, 8], [2], [10], [3], [12], [11, 13], [2], [15], [3], [17], [16, 18], [2], [20], [3], [22], [21, 23], [9, 14, 19, 24], [25], [26]] [0, 1, 2, 3, 4, 5, 6, 7, 8, 9, 10, 11, 12, 13, 14, 15, 16, 17, 18, 19, 20, 21, 22] ⟨by kernel_rfl, by kernel_rfl, by kernel_rfl⟩ (by kernel_rfl) (fun s7 p7 l7 tb7 zd7 => ?_))))
 have zd11 := ((zd7.add 0 5 (pB b3) rfl).add 1 6 (iI a0.Kind) rfl).add 2 7 (pB b5) rfl
 refine zstep 4 [some 23, some 22, some 21, some 20, some 18, some 17, some 16, some 15, some 13, some 12, some 11, some 10] tb7 (((((((((((((zd11.add 3 8 (iI a1.Kind) rfl).add 5 10 (pO b3 1) rfl).add 6 11 (iI a0.N) rfl).add 7 12 (pO b5 1) rfl).add 8 13 (iI a1.N) rfl).add 10 15 (pO b3 2) rfl).add 11 16 w0_0 rfl).add 12 17 (pO b5 2) rfl).add 13 18 w1_0 rfl).add 15 20 (pO b3 3) rfl).add 16 21 w0_1 rfl).add 17 22 (pO b5 3) rfl).add 18 23 w1_1 rfl) (Xa (Xz (B5.st p7 rfl) u45 rfl) rfl (Xa (Xx fa47_3 rfl) rfl (Xa (Xz (B3.st (Xs p5 p7) rfl) u45 rfl) rfl (Xa (Xx fa47_3 rfl) rfl (Xa (Xz (B5.st p7 rfl) u44 rfl) rfl (Xa (Xx fa47_2 rfl) rfl (Xa (Xz (B3.st (Xs p5 p7) rfl) u44 rfl) rfl (Xa (Xx fa47_2 rfl) rfl (Xa (Xz (B5.st p7 rfl) u3 rfl) rfl (Xa (Xx fa47_1 rfl) rfl (Xa (Xz (B3.st (Xs p5 p7) rfl) u3 rfl) rfl (Xa (Xx fa47_1 rfl) rfl (Xa (Xz (B5.st p7 rfl) u3 rfl) rfl (Xa (Xx fa47_0 rfl) rfl (Xa (Xz (B3.st (Xs p5 p7) rfl) u3 rfl) rfl (Xa (Xx fa47_0 rfl) rfl Xk)))))))))))))))) (by kernel_rfl) rfl (fun l32 e32 zd32 => ?_)
 refine clV 42 rfl func46 rfl (cmp_Compare_int.calls a0.Kind a1.Kind s7.w (mm [] s7)) (fun r41 s42 p42 n42 => ?_)
 refine Xy (L' := [18, 17, 16, 15, 13, 12, 11, 10, 8, 7, 6, 5]) (D' := [0, 2, 1, 3, 4]) zd32 rfl rfl rfl (fun zd43 => ?_)
 refine zstep 9 [some 23, some 22, some 21, some 20, some 18, some 17, some 16, some 15] tb7 zd43 (Xa (Xz (B5.st (Xs p7 p42) rfl) u45 rfl) rfl (Xa (Xx fa47_3 rfl) rfl (Xa (Xz (B3.st (tr3 p5 p7 p42) rfl) u45 rfl) rfl (Xa (Xx fa47_3 rfl) rfl (Xa (Xz (B5.st (Xs p7 p42) rfl) u44 rfl) rfl (Xa (Xx fa47_2 rfl) rfl (Xa (Xz (B3.st (tr3 p5 p7 p42) rfl) u44 rfl) rfl (Xa (Xx fa47_2 rfl) rfl (Xa (Xz (B5.st (Xs p7 p42) rfl) u3 rfl) rfl (Xa (Xx fa47_1 rfl) rfl (Xa (Xz (B3.st (tr3 p5 p7 p42) rfl) u3 rfl) rfl (Xa (Xx fa47_1 rfl) rfl Xk)))))))))))) (by kernel_rfl) rfl (fun l44 e44 zd44 => ?_)
 refine clV 43 rfl func46 rfl (cmp_Compare_int.calls a0.N a1.N s42.w (mm [] s42)) (fun r51 s52 p52 n52 => ?_)
 refine Xy (L' := [18, 17, 16, 15, 13, 12, 11, 10]) (D' := [5, 7, 6, 8, 9, 0, 2, 1, 3, 4]) zd44 rfl rfl rfl (fun zd53 => ?_)
 refine zstep 14 [some 23, some 22, some 21, some 20] tb7 zd53 (Xa (Xz (B5.st (tr3 p7 p42 p52) rfl) u45 rfl) rfl (Xa (Xx fa47_3 rfl) rfl (Xa (Xz (B3.st (tr4 p5 p7 p42 p52) rfl) u45 rfl) rfl (Xa (Xx fa47_3 rfl) rfl (Xa (Xz (B5.st (tr3 p7 p42 p52) rfl) u44 rfl) rfl (Xa (Xx fa47_2 rfl) rfl (Xa (Xz (B3.st (tr4 p5 p7 p42 p52) rfl) u44 rfl) rfl (Xa (Xx fa47_2 rfl) rfl Xk)))))))) (by kernel_rfl) rfl (fun l54 e54 zd54 => ?_)
 refine clV 44 rfl func47 rfl (impl_FloatCompare.calls a0.F a1.F s52.w (mm [] s52) w0_0 w1_0 (Xn (s := s52) (fl_of h0_0)) (Xn (s := s52) (fl_of h1_0))) (fun r59 s60 p60 n60 => ?_)
 refine Xy (L' := [18, 17, 16, 15]) (D' := [10, 12, 11, 13, 14, 5, 7, 6, 8, 9, 0, 2, 1, 3, 4]) zd54 rfl rfl rfl (fun zd61 => ?_)
 refine zfin [19, 20, 21, 22] tb7 zd61 (Xa (Xz (B5.st (tr4 p7 p42 p52 p60) rfl) u45 rfl) rfl (Xa (Xx fa47_3 rfl) rfl (Xa (Xz (B3.st (tr5 p5 p7 p42 p52 p60) rfl) u45 rfl) rfl (Xa (Xx fa47_3 rfl) rfl Xk)))) (by kernel_rfl) (by decide) ?_
 have K64 := kp0.st (tr6 p3 p5 p7 p42 p52 p60) rfl
 refine clV 45 rfl func48 rfl (bytes_Compare.calls a0.T a1.T s60.w (mm [0] s60) w0_1 w1_1 ((z.rd h0_1).kp K64) ((z.rd h1_1).kp K64)) (fun r67 s68 p68 n68 => ?_)
 refine ltF' (K := (Kd.int .i64)) (cells := [(iI r41), (iI r51), (iI r59), (iI r67)]) [r41, r51, r59, r67] 46 Xq u25 z3 o3 (fun w => (Xv _ _ _)) rfl (fun v69 s69 p69 A69 => ?_)
 refine clV 47 rfl func45 rfl (cmp_Or_int.calls ([r41, r51, r59, r67]) s69.w (mm [46] s69) v69 A69.rd) (fun r71 s72 p72 n72 => ?_)
 refine Xb rfl (dn ?_)
 exact re rfl func26 rfl (Xo rfl Xe) rfl ⟨_, rfl, rfl, z.ky (K64.st (tr3 p68 p69 p72) rfl)⟩
def impl_Committed_2.f (a0 : Row) (a1 : Row) : Option (Int) :=
 ((impl_compareItems.f a0.Tuple.Key a1.Tuple.Key).bind fun r13 => (some r13))
def impl_Committed_2.Q (w : World) (F : Nat → Prop) (r : Int) (v : Value) (w' : World) : Prop :=
 v = (iI r) ∧ Ky [] w w'
theorem impl_Committed_2.calls (a0 : Row) (a1 : Row) (w : World) (F : Nat → Prop) (w0_0 : Value) (w0_1 : Value) (w0_2 : Value) (w0_3 : Value) (w1_0 : Value) (w1_1 : Value) (w1_2 : Value) (w1_3 : Value) (h0_0 : Kd.flt.rd w [w0_0] a0.Tuple.Key.F F) (h0_1 : Ye.rd w [w0_1] a0.Tuple.Key.T F) (h0_2 : Kd.flt.rd w [w0_2] a0.Tuple.Value.F F) (h0_3 : Ye.rd w [w0_3] a0.Tuple.Value.T F) (h1_0 : Kd.flt.rd w [w1_0] a1.Tuple.Key.F F) (h1_1 : Ye.rd w [w1_1] a1.Tuple.Key.T F) (h1_2 : Kd.flt.rd w [w1_2] a1.Tuple.Value.F F) (h1_3 : Ye.rd w [w1_3] a1.Tuple.Value.T F) (r : Int) (m : impl_Committed_2.f a0 a1 = some r) :
  Calls prog 25 #[(.agg #[(iI a0.Page), (iI a0.Slot), (iI a0.Tuple.Xmin), (iI a0.Tuple.Xmax), (iI a0.Tuple.Key.Kind), (iI a0.Tuple.Key.N), w0_0, w0_1, (iI a0.Tuple.Value.Kind), (iI a0.Tuple.Value.N), w0_2, w0_3]), (.agg #[(iI a1.Page), (iI a1.Slot), (iI a1.Tuple.Xmin), (iI a1.Tuple.Xmax), (iI a1.Tuple.Key.Kind), (iI a1.Tuple.Key.N), w1_0, w1_1, (iI a1.Tuple.Value.Kind), (iI a1.Tuple.Value.N), w1_2, w1_3])] w (RT (impl_Committed_2.Q w F) r) := by
 obtain ⟨s0, rfl, kp0, z⟩ := Xg w F
 refine Xd (args := [(.agg #[(iI a0.Page), (iI a0.Slot), (iI a0.Tuple.Xmin), (iI a0.Tuple.Xmax), (iI a0.Tuple.Key.Kind), (iI a0.Tuple.Key.N), w0_0, w0_1, (iI a0.Tuple.Value.Kind), (iI a0.Tuple.Value.N), w0_2, w0_3]), (.agg #[(iI a1.Page), (iI a1.Slot), (iI a1.Tuple.Xmin), (iI a1.Tuple.Xmax), (iI a1.Tuple.Key.Kind), (iI a1.Tuple.Key.N), w1_0, w1_1, (iI a1.Tuple.Value.Kind), (iI a1.Tuple.Value.N), w1_2, w1_3])]) func25 ntmps25 rfl rfl m ?_
 unfold impl_Committed_2.f
 refine sr (bx' (cs := [(iI a0.Page), (iI a0.Slot), (iI a0.Tuple.Xmin), (iI a0.Tuple.Xmax), (iI a0.Tuple.Key.Kind), (iI a0.Tuple.Key.N), w0_0, w0_1, (iI a0.Tuple.Value.Kind), (iI a0.Tuple.Value.N), w0_2, w0_3]) 40 rfl rfl (fun b5 s5 p5 B5 => ?_))
 refine bx' (cs := [(iI a1.Page), (iI a1.Slot), (iI a1.Tuple.Xmin), (iI a1.Tuple.Xmax), (iI a1.Tuple.Key.Kind), (iI a1.Tuple.Key.N), w1_0, w1_1, (iI a1.Tuple.Value.Kind), (iI a1.Tuple.Value.N), w1_2, w1_3]) 41 rfl rfl (fun b7 s7 p7 B7 => ?_)
 refine Xb rfl (dn (sr (Xr fa51_2 rfl (Xr fa49_2 rfl ?_))))
 refine Yc (es := [(iI a0.Tuple.Key.Kind), (iI a0.Tuple.Key.N), w0_0, w0_1]) (B5.st p7 rfl) u47 z47 rfl (Xr fa51_2 rfl (Xr fa49_2 rfl (Yc (es := [(iI a1.Tuple.Key.Kind), (iI a1.Tuple.Key.N), w1_0, w1_1]) B7 u47 z47 rfl ?_)))
 have K10 := kp0.st (Xs p5 p7) rfl
 refine clV 42 rfl func26 rfl (impl_compareItems.calls a0.Tuple.Key a1.Tuple.Key s7.w (mm [0] s7) w0_0 w0_1 w1_0 w1_1 ((Xn (s := s7) (fl_of h0_0)).sub (D := [0]) rfl) ((z.rd h0_1).kp K10) ((Xn (s := s7) (fl_of h1_0)).sub (D := [0]) rfl) ((z.rd h1_1).kp K10)) (fun r13 s14 p14 n14 => ?_)
 refine Xb rfl (dn ?_)
 exact re rfl func25 rfl (Xo rfl Xe) rfl ⟨_, rfl, rfl, z.ky (K10.st p14 rfl)⟩
def impl_Committed.b0 (r16 : (List Row)) (x21 : (List Pair) × Int) : Option (((List Pair) × Int) ⊕ (List Pair)) :=
 (if (decide (x21.2 < (r16.length : Int))) = true then (if 0 ≤ x21.2 ∧ x21.2 < (r16.length : Int) then (if x21.1.length + ([(Pair.mk (((at_ r16 x21.2).Tuple).Key) (((at_ r16 x21.2).Tuple).Value))]).length ≤ Lim then (some (Sum.inl ((x21.1 ++ [(Pair.mk (((at_ r16 x21.2).Tuple).Key) (((at_ r16 x21.2).Tuple).Value))]), (IntKind.wrap .i64 (x21.2 + (1 : Int)))))) else none) else none) else ((some x21.1).bind fun o => some (Sum.inr o)))
def impl_Committed.f (a0 : Heap) (a1 : (List Int)) : Option ((List Pair)) :=
 ((impl_Heap_rowsOf.f a0 (fun x0 => impl_Committed_1.f x0 a1)).bind fun r13 => ((slices_SortStableFunc_impl_Row_impl_Row.f r13 impl_Committed_2.f).bind fun r16 => (iter (impl_Committed.b0 r16) (([] : (List Pair)), (0 : Int)))))
def impl_Committed.Q (w : World) (F : Nat → Prop) (r : (List Pair)) (v : Value) (w' : World) : Prop :=
 FO Yi w w' [v] r ∧ Ky [] w w'
theorem impl_Committed.calls (a0 : Heap) (a1 : (List Int)) (w : World) (F : Nat → Prop) (w0_0 : Value) (w1_0 : Value) (h0_0 : Yg.rd w [w0_0] a0.Pages F) (h1_0 : Yj.rd w [w1_0] a1 F) (r : (List Pair)) (m : impl_Committed.f a0 a1 = some r) :
  Calls prog 8 #[(.agg #[w0_0]), w1_0] w (RT (impl_Committed.Q w F) r) := by
 obtain ⟨s0, rfl, kp0, z⟩ := Xg w F
 have A1_0 := z.rd h1_0
 refine Xd (args := [(.agg #[w0_0]), w1_0]) func8 ntmps8 rfl rfl m ?_
 unfold impl_Committed.f
 refine sr (bx' (cs := [w0_0]) 40 rfl rfl (fun b3 s3 p3 B3 => ?_))
 have K5 := kp0.st p3 rfl
 refine bx' (cs := [w1_0]) 41 rfl (oc (A1_0.kp K5).one) (fun b7 s7 p7 B7 => ?_)
 refine Xb rfl (dn (sr ?_))
 refine Yc (es := [w0_0]) (B3.st p7 rfl) u31 z31 rfl (mkf (fs := []) (cs := [(pB b7)]) rfl rfl rfl rfl rfl rfl rfl ?_)
 have K10 := K5.st p7 rfl
 refine clO 42 rfl func21 rfl (impl_Heap_rowsOf.calls a0 (fun x0 => impl_Committed_1.f x0 a1) s7.w (mm [0] s7) w0_0 (.func (.func 22) (List.toArray []) (List.toArray [(pB b7)])) ((z.rd h0_0).kp K10) (fun x0 u0_0 u0_1 u0_2 u0_3 w' k h0 h1 h2 h3 r m =>  ⟨22, _, _, [], [(pB b7)], rfl, func22, rfl, rfl, (impl_Committed_1.calls x0 a1 w' (fun _ => True) u0_0 u0_1 u0_2 u0_3 b7 w1_0 h0 h1 h2 h3 (RdF.ky (A1_0.kp K10) k) (B7.ky k) trivial r m).mono fun en w2 hq => by obtain ⟨v, e, q⟩ := hq; exact ⟨v, e, q⟩⟩) rfl) (fun r13 v13_0 s14 p14 A13_0 => ?_)
 refine Xp v13_0 rfl (dn (sr (Xl v13_0 rfl ?_)))
 obtain ⟨os16, ho16, hn16, hc16⟩ := A13_0
 refine cl' rfl func24 rfl (slices_SortStableFunc_impl_Row_impl_Row.calls r13 impl_Committed_2.f s14.w (mm [] s14) v13_0 (.func (.func 25) #[] #[]) os16 ho16 hn16 (Yb hc16 rfl) (fun x0 x1 u0_0 u0_1 u0_2 u0_3 u1_0 u1_1 u1_2 u1_3 w' k h0 h1 h2 h3 h4 h5 h6 h7 r m =>  ⟨25, _, _, [], [], rfl, func25, rfl, rfl, (impl_Committed_2.calls x0 x1 w' (fun _ => True) u0_0 u0_1 u0_2 u0_3 u1_0 u1_1 u1_2 u1_3 h0 h1 h2 h3 h4 h5 h6 h7 r m).mono fun en w2 hq => by obtain ⟨v, e, q⟩ := hq; exact ⟨v, e, q⟩⟩) rfl) ?_
 rintro r16 _ w16 m16 ⟨rfl, w16_, ky16⟩
 obtain ⟨s17, rfl, p17, A17⟩ := nwo 43 hc16 ky16 w16_
 refine dn (sr (Xb rfl (dn (sq (sr (Xl v13_0 rfl (ln' A17.rd u42 rfl (Xb rfl (dn (bl ?_))))))))))
 refine lpI (fun (x21 : (List Pair) × Int) e w => ∃ (s : St) (e0 : Env) (vx21_0 : Value), w = s.w ∧ e = upd (upd (upd (upd e0 6 vx21_0) 14 v13_0) 15 (iI (r16.length : Int))) 16 (iI x21.2) ∧ Kp s0 s ∧ OwF Yi s [vx21_0] x21.1 45 ∧ SxF 51 kd51 s v13_0 r16 (x21.2).toNat 42) ⟨s17, _, (.slice none 0 0), rfl, (ue (ue (ue (ue rfl rfl) rfl) rfl) rfl), (K10.st (Xs p14 p17) rfl), (ow_nil 54 kd54 _ 45), (sx_0 A17)⟩ (fun g21 ih21 => ?_)
 rintro x21 _ _ ⟨s23, _, vx21_0, rfl, rfl, Kx21, Ax21_0, Cx21_20⟩
 unfold impl_Committed.b0
 refine sr (Xb rfl (dn (sq (cd rfl (fun h25 => ?_) (fun h25 => ?_)))))
 ·
  refine sk (sq (bl (sr (ixs 46 Cx21_20 u42 z51 rfl rfl rfl rfl rfl rfl rfl rfl rfl (fun ad26 es26 s26 p26 h0_26 h1_26 O26 X26 ce26 ia26 => ?_)))))
  obtain ⟨v26_0, v26_1, v26_2, v26_3, rfl, A26_0, A26_1, A26_2, A26_3⟩ := op51 O26.rd
  obtain ⟨s31, hw31, p31, hu26_x_0, Au26_x_1, hu26_x_2, Au26_x_3⟩ := ap51 47 O26 rfl
  rw [hw31]
  refine lca (ce26.st p31 rfl rfl) u51 z51 rfl rfl rfl rfl rfl rfl rfl (al' (cs := [(iI 0), (iI 0), (iI 0), (iI 0), (iI 0), (iI 0), (.float .f64 0), (.slice none 0 0), (iI 0), (iI 0), (.float .f64 0), (.slice none 0 0)]) 48 rfl o51 rfl (fun b35 s35 p35 B35 => ?_))
  have A37 := Au26_x_3.st p35 rfl
  have A38 := Au26_x_1.st p35 rfl
  refine sva' (vs := [(iI ((at_ r16 x21.2).Page)), (iI ((at_ r16 x21.2).Slot)), (iI (((at_ r16 x21.2).Tuple).Xmin)), (iI (((at_ r16 x21.2).Tuple).Xmax)), (iI ((((at_ r16 x21.2).Tuple).Key).Kind)), (iI ((((at_ r16 x21.2).Tuple).Key).N)), v26_0, v26_1, (iI ((((at_ r16 x21.2).Tuple).Value).Kind)), (iI ((((at_ r16 x21.2).Tuple).Value).N)), v26_2, v26_3]) B35 z51 rfl (Xc rfl (Xc rfl (Xc rfl (Xc rfl (Xc rfl (Xc rfl (Xc (FL.one hu26_x_0) (Xc A38.rd.one (Xc rfl (Xc rfl (Xc (FL.one hu26_x_2) (Xc A37.rd.one Xt)))))))))))) rfl (fun s39 p39 B39 => ?_)
  replace B39 : BlF s39 b35 51 [(iI ((at_ r16 x21.2).Page)), (iI ((at_ r16 x21.2).Slot)), (iI (((at_ r16 x21.2).Tuple).Xmin)), (iI (((at_ r16 x21.2).Tuple).Xmax)), (iI ((((at_ r16 x21.2).Tuple).Key).Kind)), (iI ((((at_ r16 x21.2).Tuple).Key).N)), v26_0, v26_1, (iI ((((at_ r16 x21.2).Tuple).Value).Kind)), (iI ((((at_ r16 x21.2).Tuple).Value).N)), v26_2, v26_3] 48 := B39
  refine dn (rg (Xl vx21_0 rfl (Xr fa51_2 rfl (Xr fa49_2 rfl (Yc (es := [(iI ((((at_ r16 x21.2).Tuple).Key).Kind)), (iI ((((at_ r16 x21.2).Tuple).Key).N)), v26_0, v26_1]) B39 u47 z47 rfl (Xr fa51_2 rfl (Xr fa49_3 rfl (Yc (es := [(iI ((((at_ r16 x21.2).Tuple).Value).Kind)), (iI ((((at_ r16 x21.2).Tuple).Value).N)), v26_2, v26_3]) B39 u47 z47 rfl (bd (cells := [(iI ((((at_ r16 x21.2).Tuple).Key).Kind)), (iI ((((at_ r16 x21.2).Tuple).Key).N)), v26_0, v26_1, (iI ((((at_ r16 x21.2).Tuple).Value).Kind)), (iI ((((at_ r16 x21.2).Tuple).Value).N)), v26_2, v26_3]) pl54 o54 rfl rfl rfl rfl rfl rfl ?_)))))))))
  obtain ⟨s43, hw43, p43, A43⟩ := ow_2 (Yd (fun x : Item => (x.Kind, x.N, x.F, x.T)) (((at_ r16 x21.2).Tuple).Key) (ow_l (Xi .i64 ((((at_ r16 x21.2).Tuple).Key).Kind)) (ow_l (Xi .i64 ((((at_ r16 x21.2).Tuple).Key).N)) (ow_l (Ya hu26_x_0) (A38.st p39 rfl))))) (Yd (fun x : Item => (x.Kind, x.N, x.F, x.T)) (((at_ r16 x21.2).Tuple).Value) (ow_l (Xi .i64 ((((at_ r16 x21.2).Tuple).Value).Kind)) (ow_l (Xi .i64 ((((at_ r16 x21.2).Tuple).Value).N)) (ow_l (Ya hu26_x_2) (A37.st p39 rfl))))) rfl rfl
  rw [hw43]
  have A45 : OwF kd54 s43 [(iI ((((at_ r16 x21.2).Tuple).Key).Kind)), (iI ((((at_ r16 x21.2).Tuple).Key).N)), v26_0, v26_1, (iI ((((at_ r16 x21.2).Tuple).Value).Kind)), (iI ((((at_ r16 x21.2).Tuple).Value).N)), v26_2, v26_3] (Pair.mk (((at_ r16 x21.2).Tuple).Key) (((at_ r16 x21.2).Tuple).Value)) 46 := (Yd (fun x : Pair => (x.Key, x.Value)) (Pair.mk (((at_ r16 x21.2).Tuple).Key) (((at_ r16 x21.2).Tuple).Value)) A43)
  refine ltO (K := kd54) (cells := [(iI ((((at_ r16 x21.2).Tuple).Key).Kind)), (iI ((((at_ r16 x21.2).Tuple).Key).N)), v26_0, v26_1, (iI ((((at_ r16 x21.2).Tuple).Value).Kind)), (iI ((((at_ r16 x21.2).Tuple).Value).N)), v26_2, v26_3]) [(Pair.mk (((at_ r16 x21.2).Tuple).Key) (((at_ r16 x21.2).Tuple).Value))] 46 u27 z54 o54 (lo_one A45) rfl rfl rfl rfl rfl rfl rfl rfl rfl rfl (fun v48 s48 p48 A48 => ?_)
  refine apO sl27 (Ax21_0.st (tr6 p26 p31 p35 p39 p43 p48) rfl) A48 rfl rfl rfl rfl rfl rfl rfl rfl rfl (fun v51 s51 p51 A51 => ?_)
  refine Xp v51 rfl (dn (ib (rg (Xb rfl (Xb rfl (dn ?_))))))
  exact lb ih21 ⟨s51, _, v51, rfl, (ue (ue (ue (ue rfl rfl) rfl) rfl) rfl), (Kx21.st (tr7 p26 p31 p35 p39 p43 p48 p51) rfl), A51, (sx_next (X26.st (tr6 p31 p35 p39 p43 p48 p51) rfl) h0_26 h1_26)⟩
 exact xt rfl (sgb (sr (Xl vx21_0 rfl (Xp vx21_0 rfl (dn (re rfl func8 rfl (Xo rfl Xe) rfl ⟨_, rfl, Ax21_0.fo Kx21 rfl z.l, z.ky Kx21⟩))))))
def laws_sameFloat.f (a0 : Nat) (a1 : Nat) : Option (Bool) :=
 (if ((fcmp .f64 a0 a0 != some .eq) || (fcmp .f64 a1 a1 != some .eq)) = true then (some ((fcmp .f64 a0 a0 != some .eq) && (fcmp .f64 a1 a1 != some .eq))) else (if ((fcmp .f64 a0 (0 : Nat) == some .eq) && (fcmp .f64 a1 (0 : Nat) == some .eq)) = true then (some ((fcmp .f64 (far .quo (4607182418800017408 : Nat) a0) (0 : Nat) == some .gt) == (fcmp .f64 (far .quo (4607182418800017408 : Nat) a1) (0 : Nat) == some .gt))) else (some (fcmp .f64 a0 a1 == some .eq))))
def laws_sameFloat.Q (w : World) (F : Nat → Prop) (r : Bool) (v : Value) (w' : World) : Prop :=
 v = (.bool r) ∧ Ky [] w w'
theorem laws_sameFloat.calls (a0 : Nat) (a1 : Nat) (w : World) (F : Nat → Prop) (w0_0 : Value) (w1_0 : Value) (h0_0 : Kd.flt.rd w [w0_0] a0 F) (h1_0 : Kd.flt.rd w [w1_0] a1 F) (r : Bool) (m : laws_sameFloat.f a0 a1 = some r) :
  Calls prog 75 #[w0_0, w1_0] w (RT (laws_sameFloat.Q w F) r) := by
 obtain ⟨s0, rfl, kp0, z⟩ := Xg w F
 have A0_0 := fl_of h0_0
 have A1_0 := fl_of h1_0
 refine Xd (args := [w0_0, w1_0]) func75 ntmps75 rfl rfl m ?_
 unfold laws_sameFloat.f
 refine sr (Xb rfl (dn (sq (sr (Xl w0_0 rfl (Xl w0_0 rfl (fq_' A0_0 A0_0 rfl (Xb rfl (jy [8, 9, 10, 11, 12] [] 12 (.bool ((fcmp .f64 a0 a0 != some .eq) || (fcmp .f64 a1 a1 != some .eq))) rfl (fun Kg1 => ?_) (fun j1 => ?_))))))))))
 ·
  rcases bft (fcmp .f64 a0 a0 != some .eq) with hb1 | hb1
  ·
   exact Xu hb1 (Xh rfl (Xh rfl (Xh rfl (Xb rfl (Kg1 _ (Ag.put ((Ag.put ((Ag.put ((Ag.put (Ag.base rfl) rfl)) rfl)) rfl)) rfl) (by rw [hb1]; rfl))))))
  exact Xu hb1 (Xl w1_0 rfl (Xl w1_0 rfl (fq_' A1_0 A1_0 rfl (Xb rfl (Kg1 _ (Ag.put ((Ag.put ((Ag.put ((Ag.put (Ag.base rfl) rfl)) rfl)) rfl)) rfl) (by rw [hb1]; rfl))))))
 refine dn (cd rfl (fun h2 => ?_) (fun h2 => ?_))
 ·
  refine sr (Xl w0_0 rfl (Xl w0_0 rfl (fq_' A0_0 A0_0 rfl (Xb rfl (jy [16, 17, 18, 19, 20] [8] 20 (.bool ((fcmp .f64 a0 a0 != some .eq) && (fcmp .f64 a1 a1 != some .eq))) rfl (fun Kg3 => ?_) (fun j3 => ?_))))))
  ·
   rcases bft (fcmp .f64 a0 a0 != some .eq) with hb3 | hb3
   ·
    exact Xu hb3 (Xl w1_0 rfl (Xl w1_0 rfl (fq_' A1_0 A1_0 rfl (Xb rfl (Kg3 _ (Ag.put ((Ag.put ((Ag.put ((Ag.put (Ag.base rfl) rfl)) rfl)) rfl)) rfl) (by rw [hb3]; rfl))))))
   exact Xu hb3 (Xh rfl (Xh rfl (Xh rfl (Xb rfl (Kg3 _ (Ag.put ((Ag.put ((Ag.put ((Ag.put (Ag.base rfl) rfl)) rfl)) rfl)) rfl) (by rw [hb3]; rfl))))))
  exact Xb rfl (dn (re rfl func75 rfl (Xo rfl Xe) rfl ⟨_, rfl, rfl, z.ky kp0⟩))
 refine sk (sq (sr (Xl w0_0 rfl (fq_' A0_0 (Xw rfl) rfl (Xb rfl (jy [23, 24, 25, 26] [] 26 (.bool ((fcmp .f64 a0 (0 : Nat) == some .eq) && (fcmp .f64 a1 (0 : Nat) == some .eq))) rfl (fun Kg4 => ?_) (fun j4 => ?_)))))))
 ·
  rcases bft (fcmp .f64 a0 (0 : Nat) == some .eq) with hb4 | hb4
  ·
   exact Xu hb4 (Xl w1_0 rfl (fq_' A1_0 (Xw rfl) rfl (Xb rfl (Kg4 _ (Ag.put ((Ag.put ((Ag.put (Ag.base rfl) rfl)) rfl)) rfl) (by rw [hb4]; rfl)))))
  exact Xu hb4 (Xh rfl (Xh rfl (Xb rfl (Kg4 _ (Ag.put ((Ag.put ((Ag.put (Ag.base rfl) rfl)) rfl)) rfl) (by rw [hb4]; rfl)))))
 refine dn (cd rfl (fun h5 => ?_) (fun h5 => ?_))
 ·
  refine sr (Xl w0_0 rfl (fa_ (Xw rfl) A0_0 (by simp) rfl rfl rfl rfl rfl rfl rfl (fun v6 s6 p6 A6 => ?_)))
  refine fq_' A6 (Xw rfl) rfl (Xl w1_0 rfl (fa_ (Xw rfl) A1_0 (by simp) rfl rfl rfl rfl rfl rfl rfl (fun v7 s7 p7 A7 => ?_)))
  refine fq_' A7 (Xw rfl) rfl (beq_ u4 rfl rfl rfl rfl rfl rfl rfl (Xb rfl (dn ?_)))
  exact re rfl func75 rfl (Xo rfl Xe) rfl ⟨_, rfl, rfl, z.ky (kp0.st (Xs p6 p7) rfl)⟩
 exact sk (sr (Xl w0_0 rfl (Xl w1_0 rfl (fq_' A0_0 A1_0 rfl (Xb rfl (dn (re rfl func75 rfl (Xo rfl Xe) rfl ⟨_, rfl, rfl, z.ky kp0⟩)))))))
end Go.Proofs.YtcgbhldenkeplaaGreat
