/- The functions as models, and that the calls come to what the models tell. -/
import Derived.Test.YtdhefendaopcbaaGreatDoorGt
import Derived.Shelf.Strconv.Itoa3
import Derived.Shelf.Lay
import Derived.Ground.NamesProg
import Derived.Shelf.Strconv.ErrVarAll
import Derived.Shelf.Strconv.AtoiAll
import Derived.Shelf.Small.Strs
import Derived.Shelf.Strings.OnBuilder
import Derived.Shelf.Strings.Split
set_option linter.unusedVariables false
set_option linter.unusedSimpArgs false
set_option maxHeartbeats 4000000
set_option maxRecDepth 100000
noncomputable section
namespace Go.Proofs.YtdhefendaopcbaaGreatDoor
open Go V Tryz
def spec_FloatBits.b1 (y8 : Int × Nat) (x19 : Nat × Int) : Option ((Nat × Int) ⊕ Int) :=
 (if ((fcmp .f64 x19.1 (4607182418800017408 : Nat) == some .lt) && (decide (x19.2 > (-1022 : Int)))) = true then (some (Sum.inl ((far .mul x19.1 (4611686018427387904 : Nat)), (IntKind.wrap .i64 (x19.2 - (1 : Int)))))) else ((if (fcmp .f64 x19.1 (4607182418800017408 : Nat) == some .lt) = true then ((floatToIntVal .f64 (far .mul x19.1 (4841369599423283200 : Nat)) .u64).bind fun r27 => (some (ior .u64 y8.1 r27))) else ((floatToIntVal .f64 (far .mul (far .sub x19.1 (4607182418800017408 : Nat)) (4841369599423283200 : Nat)) .u64).bind fun r31 => (some (ior .u64 (ior .u64 y8.1 (ishl .u64 (IntKind.wrap .u64 (IntKind.wrap .i64 (x19.2 + (1023 : Int)))) (52 : Int))) r31)))).bind fun o => some (Sum.inr o)))
def spec_FloatBits.b0 (y8 : Int × Nat) (x14 : Nat × Int) : Option ((Nat × Int) ⊕ Int) :=
 (if (fcmp .f64 x14.1 (4611686018427387904 : Nat) == some .gt || fcmp .f64 x14.1 (4611686018427387904 : Nat) == some .eq) = true then (some (Sum.inl ((far .quo x14.1 (4611686018427387904 : Nat)), (IntKind.wrap .i64 (x14.2 + (1 : Int)))))) else ((iter (spec_FloatBits.b1 y8) (x14.1, x14.2)).bind fun o => some (Sum.inr o)))
def spec_FloatBits.f (a0 : Nat) : Option (Int) :=
 (if (fcmp .f64 a0 a0 != some .eq) = true then (some (9221120237041090560 : Int)) else ((if (fcmp .f64 a0 (0 : Nat) == some .lt) = true then (some true) else ((if (fcmp .f64 a0 (0 : Nat) == some .eq) = true then (some (fcmp .f64 (far .quo (4607182418800017408 : Nat) a0) (0 : Nat) == some .lt)) else (some false)).bind fun y3 => (some y3))).bind fun y2 => ((if y2 = true then (some ((9223372036854775808 : Int), (fneg a0))) else (some ((0 : Int), a0))).bind fun y8 => (if (fcmp .f64 y8.2 (0 : Nat) == some .eq) = true then (some y8.1) else (if (fcmp .f64 y8.2 (9218868437227405311 : Nat) == some .gt) = true then (some (ior .u64 y8.1 (9218868437227405312 : Int))) else (iter (spec_FloatBits.b0 y8) (y8.2, (0 : Int))))))))
def spec_FloatBits.Q (w : World) (F : Nat → Prop) (r : Int) (v : Value) (w' : World) : Prop :=
 v = (.int .u64 r) ∧ Ky [] w w'
theorem spec_FloatBits.calls (a0 : Nat) (w : World) (F : Nat → Prop) (w0_0 : Value) (h0_0 : Kd.flt.rd w [w0_0] a0 F) (r : Int) (m : spec_FloatBits.f a0 = some r) :
  Calls prog 29 #[w0_0] w (RT (spec_FloatBits.Q w F) r) := by
 obtain ⟨s0, rfl, kp0, z⟩ := Xm w F
 have A0_0 := fl_of h0_0
 refine Xd (args := [w0_0]) func29 ntmps29 rfl rfl m ?_
 unfold spec_FloatBits.f
 refine sr (Xb rfl (dn (sq (sr (Xp w0_0 rfl (Xp w0_0 rfl (fq_' A0_0 A0_0 rfl (dn (cd rfl (fun h1 => ?_) (fun h1 => ?_))))))))))
 ·
  exact sr (Xb rfl (dn (re rfl func29 rfl (Xv rfl Xg) rfl ⟨_, rfl, rfl, z.ky kp0⟩)))
 refine sk (sr (Xb rfl (dn (sr (Xp w0_0 rfl (Xq w0_0 rfl (dn (sq (sr (Xp w0_0 rfl (fq_' A0_0 (Xl rfl) rfl (Xb rfl (ji [] (fun (y2 : Bool) e w => ∃ (s : St) (e0 : Env), w = s.w ∧ e = upd (upd (upd (upd e0 0 w0_0) 3 (.int .u64 (0 : Int))) 4 w0_0) 20 (.bool y2) ∧ Kp s0 s) (fun Gj2 Kj2 => ?_) ?_)))))))))))))
 ·
  rcases bft (fcmp .f64 a0 (0 : Nat) == some .lt) with hb2 | hb2
  ·
   refine sbT hb2 ?_
   rw [if_pos hb2]
   exact Xi rfl (Xi rfl (Xi rfl (Xi rfl (Xi rfl (Xi rfl (Xi rfl (Xb rfl (Kj2 _ _ _ ⟨s0, _, rfl, (ue (ue (ue (ue rfl rfl) rfl) rfl) rfl), kp0⟩))))))))
  refine sbT hb2 ?_
  rw [if_neg (by rw [hb2]; decide)]
  refine Xp w0_0 rfl (fq_' A0_0 (Xl rfl) rfl (Xb rfl (ji [10] (fun (y3 : Bool) e w => ∃ (s : St) (e0 : Env), w = s.w ∧ e = upd (upd (upd (upd (upd e0 0 w0_0) 3 (.int .u64 (0 : Int))) 4 w0_0) 12 (.bool false)) 19 (.bool y3) ∧ Kp s0 s) (fun Gj3 Kj3 => ?_) ?_)))
  ·
   rcases bft (fcmp .f64 a0 (0 : Nat) == some .eq) with hb3 | hb3
   ·
    refine sbT hb3 ?_
    rw [if_pos hb3]
    refine Xp w0_0 rfl (fa_ (Xl rfl) A0_0 (by simp) rfl rfl rfl rfl rfl rfl rfl (fun v4 s4 p4 A4 => ?_))
    refine fq_' A4 (Xl rfl) rfl (Xb rfl ?_)
    exact Kj3 _ _ _ ⟨s4, _, rfl, (ue (ue (ue (ue (ue rfl rfl) rfl) rfl) rfl) rfl), (kp0.st p4 rfl)⟩
   refine sbT hb3 ?_
   rw [if_neg (by rw [hb3]; decide)]
   exact Xi rfl (Xi rfl (Xi rfl (Xb rfl (Kj3 _ _ _ ⟨s0, _, rfl, (ue (ue (ue (ue (ue rfl rfl) rfl) rfl) rfl) rfl), kp0⟩))))
  rintro y3 _ _ ⟨s6, _, rfl, rfl, Ky3⟩
  exact Xb rfl (Kj2 _ _ _ ⟨s6, _, rfl, (ue (ue (ue (ue rfl rfl) rfl) rfl) rfl), Ky3⟩)
 rintro y2 _ _ ⟨s7, _, rfl, rfl, Ky2⟩
 refine dn (jc (fun (y8 : Int × Nat) e w => ∃ (s : St) (e0 : Env) (uy8_0 : Value), w = s.w ∧ e = upd (upd e0 3 (.int .u64 y8.1)) 4 uy8_0 ∧ Kp s0 s ∧ FL uy8_0 y8.2) (fun Gj8 Kj8 => ?_) ?_)
 ·
  refine cd rfl (fun h9 => ?_) (fun h9 => ?_)
  ·
   refine sr (Xb rfl (dn (rg (Xp w0_0 rfl (fng_ A0_0 rfl rfl rfl rfl rfl rfl (fun v10 A10 => ?_))))))
   exact Xq v10 rfl (dn (Kj8 _ _ _ ⟨s7, _, v10, rfl, (ue (ue rfl rfl) rfl), Ky2, A10⟩))
  exact sk (Kj8 _ _ _ ⟨s7, _, w0_0, rfl, (ue (ue rfl rfl) rfl), Ky2, A0_0⟩)
 rintro y8 _ _ ⟨s11, _, uy8_0, rfl, rfl, Ky8, Fy8_0⟩
 refine sq (sr (Xp uy8_0 rfl (fq_' Fy8_0 (Xl rfl) rfl (dn (cd rfl (fun h12 => ?_) (fun h12 => ?_))))))
 ·
  exact sr (Xb rfl (Xb rfl (dn (re rfl func29 rfl (Xv rfl Xg) rfl ⟨_, rfl, rfl, z.ky Ky8⟩))))
 refine sk (sq (sr (Xp uy8_0 rfl (fq_' Fy8_0 (Xl rfl) rfl (dn (cd rfl (fun h13 => ?_) (fun h13 => ?_)))))))
 ·
  exact sr (Xb rfl (Xb rfl (Xb rfl (dn (re rfl func29 rfl (Xv rfl Xg) rfl ⟨_, rfl, rfl, z.ky Ky8⟩)))))
 refine sk (sr (Xb rfl (dn (sq (bl (lpI (fun (x14 : Nat × Int) e w => ∃ (s : St) (e0 : Env) (ux14_0 : Value), w = s.w ∧ e = upd (upd (upd e0 3 (.int .u64 y8.1)) 4 ux14_0) 5 (iI x14.2) ∧ Kp s0 s ∧ FL ux14_0 x14.1) ⟨s11, _, uy8_0, rfl, (ue (ue (ue rfl rfl) rfl) rfl), Ky8, Fy8_0⟩ (fun g14 ih14 => ?_)))))))
 rintro x14 _ _ ⟨s15, _, ux14_0, rfl, rfl, Kx14, Fx14_0⟩
 unfold spec_FloatBits.b0
 refine sq (sr (Xp ux14_0 rfl (fq_' Fx14_0 (Xl rfl) rfl (dn (cd rfl (fun h16 => ?_) (fun h16 => ?_))))))
 ·
  refine sk (bl (sr (Xp ux14_0 rfl (fa_ Fx14_0 (Xl rfl) (by simp) rfl rfl rfl rfl rfl rfl rfl (fun v17 s17 p17 A17 => ?_)))))
  refine Xq v17 rfl (dn (rg (Xb rfl (Xb rfl (Xb rfl (dn (ib ?_)))))))
  exact lb ih14 ⟨s17, _, v17, rfl, (ue (ue (ue rfl rfl) rfl) rfl), (Kx14.st p17 rfl), A17⟩
 refine xt rfl (sgb (sq (bl (lpI (fun (x19 : Nat × Int) e w => ∃ (s : St) (e0 : Env) (ux19_0 : Value), w = s.w ∧ e = upd (upd (upd e0 3 (.int .u64 y8.1)) 4 ux19_0) 5 (iI x19.2) ∧ Kp s0 s ∧ FL ux19_0 x19.1) ⟨s15, _, ux14_0, rfl, (ue (ue (ue rfl rfl) rfl) rfl), Kx14, Fx14_0⟩ (fun g19 ih19 => ?_)))))
 rintro x19 _ _ ⟨s20, _, ux19_0, rfl, rfl, Kx19, Fx19_0⟩
 unfold spec_FloatBits.b1
 refine sq (sr (Xp ux19_0 rfl (fq_' Fx19_0 (Xl rfl) rfl (Xb rfl (jy [38, 39, 40, 41] [] 41 (.bool ((fcmp .f64 x19.1 (4607182418800017408 : Nat) == some .lt) && (decide (x19.2 > (-1022 : Int))))) rfl (fun Kg21 => ?_) (fun j21 => ?_))))))
 ·
  rcases bft (fcmp .f64 x19.1 (4607182418800017408 : Nat) == some .lt) with hb21 | hb21
  ·
   exact sbT hb21 (Xb rfl (Xb rfl (Xb rfl (Kg21 _ (Ag.put ((Ag.put ((Ag.put (Ag.base rfl) rfl)) rfl)) rfl) (by rw [hb21]; rfl)))))
  exact sbT hb21 (Xi rfl (Xi rfl (Xb rfl (Kg21 _ (Ag.put ((Ag.put ((Ag.put (Ag.base rfl) rfl)) rfl)) rfl) (by rw [hb21]; rfl)))))
 refine dn (cd rfl (fun h22 => ?_) (fun h22 => ?_))
 ·
  refine sk (bl (sr (Xp ux19_0 rfl (fa_ Fx19_0 (Xl rfl) (by simp) rfl rfl rfl rfl rfl rfl rfl (fun v23 s23 p23 A23 => ?_)))))
  refine Xq v23 rfl (dn (rg (Xb rfl (Xb rfl (Xb rfl (dn (ib ?_)))))))
  exact lb ih19 ⟨s23, _, v23, rfl, (ue (ue (ue rfl rfl) rfl) rfl), (Kx19.st p23 rfl), A23⟩
 refine xt rfl (sgb (sq (sr (Xp ux19_0 rfl (fq_' Fx19_0 (Xl rfl) rfl (dn (cd rfl (fun h25 => ?_) (fun h25 => ?_))))))))
 ·
  refine sr (Xb rfl (Xp ux19_0 rfl (fa_ Fx19_0 (Xl rfl) (by simp) rfl rfl rfl rfl rfl rfl rfl (fun v26 s26 p26 A26 => ?_))))
  refine f2i A26 u53 u24 rfl rfl rfl rfl rfl rfl (fun r27 m27 => ?_)
  refine Xb rfl (Xb rfl (dn ?_))
  exact re rfl func29 rfl (Xv rfl Xg) rfl ⟨_, rfl, rfl, z.ky (Kx19.st p26 rfl)⟩
 refine sk (sr (Xb rfl (Xb rfl (Xb rfl (cv u53 u3 rfl rfl rfl rfl rfl rfl (shlK rfl rfl rfl rfl rfl rfl rfl rfl (Xb rfl (Xp ux19_0 rfl (fa_ Fx19_0 (Xl rfl) (by simp) rfl rfl rfl rfl rfl rfl rfl (fun v29 s29 p29 A29 => ?_))))))))))
 refine fa_ A29 (Xl rfl) (by simp) rfl rfl rfl rfl rfl rfl rfl (fun v30 s30 p30 A30 => ?_)
 refine f2i A30 u53 u24 rfl rfl rfl rfl rfl rfl (fun r31 m31 => ?_)
 refine Xb rfl (Xb rfl (dn ?_))
 exact re rfl func29 rfl (Xv rfl Xg) rfl ⟨_, rfl, rfl, z.ky (Kx19.st (Xo p29 p30) rfl)⟩
def spec_FloatOf.b1  (x21 : Nat × Int) : Option ((Nat × Int) ⊕ (Nat ⊕ Nat)) :=
 (if (decide (x21.2 < (0 : Int))) = true then (some (Sum.inl ((far .quo x21.1 (4611686018427387904 : Nat)), (IntKind.wrap .i64 (x21.2 + (1 : Int)))))) else ((some (Sum.inl x21.1)).bind fun o => some (Sum.inr o)))
def spec_FloatOf.b0  (x16 : Nat × Int) : Option ((Nat × Int) ⊕ (Nat ⊕ Nat)) :=
 (if (decide (x16.2 > (0 : Int))) = true then (some (Sum.inl ((far .mul x16.1 (4611686018427387904 : Nat)), (IntKind.wrap .i64 (x16.2 - (1 : Int)))))) else ((iter spec_FloatOf.b1 (x16.1, x16.2)).bind fun o => some (Sum.inr o)))
def spec_FloatOf.f (a0 : Int) : Option (Nat) :=
 ((if ((IntKind.wrap .i64 (iand .u64 (ishr .u64 a0 (52 : Int)) (2047 : Int))) == (2047 : Int)) = true then (if ((iand .u64 a0 (4503599627370495 : Int)) != (0 : Int)) = true then (some (Sum.inr (far .quo (0 : Nat) (0 : Nat)))) else (some (Sum.inl (far .quo (4607182418800017408 : Nat) (0 : Nat))))) else ((if ((IntKind.wrap .i64 (iand .u64 (ishr .u64 a0 (52 : Int)) (2047 : Int))) == (0 : Int)) = true then (some ((far .quo (FloatKind.f64.nearest (iand .u64 a0 (4503599627370495 : Int))) (4841369599423283200 : Nat)), (-1022 : Int))) else (some ((far .add (far .quo (FloatKind.f64.nearest (iand .u64 a0 (4503599627370495 : Int))) (4841369599423283200 : Nat)) (4607182418800017408 : Nat)), (IntKind.wrap .i64 ((IntKind.wrap .i64 (iand .u64 (ishr .u64 a0 (52 : Int)) (2047 : Int))) - (1023 : Int)))))).bind fun y10 => (iter spec_FloatOf.b0 (y10.1, y10.2)))).bind (sel fun y3 => (if ((ishr .u64 a0 (63 : Int)) == (1 : Int)) = true then (some (fneg y3)) else (some y3))))
def spec_FloatOf.Q (w : World) (F : Nat → Prop) (r : Nat) (v : Value) (w' : World) : Prop :=
 FL v r ∧ Ky [] w w'
theorem spec_FloatOf.calls (a0 : Int) (w : World) (F : Nat → Prop)   (r : Nat) (m : spec_FloatOf.f a0 = some r) :
  Calls prog 79 #[(.int .u64 a0)] w (RT (spec_FloatOf.Q w F) r) := by
 obtain ⟨s0, rfl, kp0, z⟩ := Xm w F
 refine Xd (args := [(.int .u64 a0)]) func79 ntmps79 rfl rfl m ?_
 unfold spec_FloatOf.f
 refine sr (Xq (.float .f64 0) rfl (dn (sr (Xb rfl (shrK rfl rfl rfl rfl rfl rfl rfl rfl (Xb rfl (cv u3 u53 rfl rfl rfl rfl rfl rfl (Xb rfl (dn (sr (Xb rfl (Xb rfl (Xb rfl (dn ?_))))))))))))))
 refine sr (Xq (.float .f64 0) rfl (dn (sr (Xb rfl (i2f u24 u53 rfl rfl rfl rfl rfl rfl (fun v1 A1 => ?_))))))
 refine fa_ A1 (Xl rfl) (by simp) rfl rfl rfl rfl rfl rfl rfl (fun v2 s2 p2 A2 => ?_)
 refine Xq v2 rfl (dn (sq (sr (Xb rfl (Xb rfl (dn (jr (fun (y3 : Nat) e w => ∃ (s : St) (e0 : Env) (uy3_0 : Value), w = s.w ∧ e = upd (upd e0 0 (.int .u64 a0)) 6 uy3_0 ∧ Kp s0 s ∧ FL uy3_0 y3) (fun Gj3 Kj3 hG3 => ?_) ?_)))))))
 ·
  refine cd rfl (fun h4 => ?_) (fun h4 => ?_)
  ·
   refine sq (sr (Xb rfl (Xb rfl (dn (cd rfl (fun h5 => ?_) (fun h5 => ?_))))))
   ·
    refine sr (Xp (.float .f64 0) rfl (Xp (.float .f64 0) rfl (fa_ (Xl rfl) (Xl rfl) (by simp) rfl rfl rfl rfl rfl rfl rfl (fun v6 s6 p6 A6 => ?_))))
    refine Xq v6 rfl (dn (jri hG3 ?_))
    exact re rfl func79 rfl (Xv rfl Xg) rfl ⟨_, rfl, A6, z.ky (kp0.st (Xo p2 p6) rfl)⟩
   refine sk (rg (Xp (.float .f64 0) rfl (fa_ (Xl rfl) (Xl rfl) (by simp) rfl rfl rfl rfl rfl rfl rfl (fun v8 s8 p8 A8 => ?_))))
   refine Xq v8 rfl (dn ?_)
   exact Kj3 _ _ _ ⟨s8, _, v8, rfl, (ue (ue rfl rfl) rfl), (kp0.st (Xo p2 p8) rfl), A8⟩
  refine sr (Xb rfl (Xb rfl (Xb rfl (dn (sq (sr (Xb rfl (Xb rfl (dn (jc (fun (y10 : Nat × Int) e w => ∃ (s : St) (e0 : Env) (uy10_0 : Value), w = s.w ∧ e = upd (upd (upd e0 0 (.int .u64 a0)) 6 uy10_0) 7 (iI y10.2) ∧ Kp s0 s ∧ FL uy10_0 y10.1) (fun Gj10 Kj10 => ?_) ?_))))))))))
  ·
   refine cd rfl (fun h11 => ?_) (fun h11 => ?_)
   ·
    refine rg (Xb rfl (dn ?_))
    exact Kj10 _ _ _ ⟨s2, _, v2, rfl, (ue (ue (ue rfl rfl) rfl) rfl), (kp0.st p2 rfl), A2⟩
   refine rg (Xp v2 rfl (fa_ A2 (Xl rfl) (by simp) rfl rfl rfl rfl rfl rfl rfl (fun v13 s13 p13 A13 => ?_)))
   refine Xq v13 rfl (dn ?_)
   exact Kj10 _ _ _ ⟨s13, _, v13, rfl, (ue (ue (ue rfl rfl) rfl) rfl), (kp0.st (Xo p2 p13) rfl), A13⟩
  rintro y10 _ _ ⟨s15, _, uy10_0, rfl, rfl, Ky10, Fy10_0⟩
  refine sq (bl (lpI (fun (x16 : Nat × Int) e w => ∃ (s : St) (e0 : Env) (ux16_0 : Value), w = s.w ∧ e = upd (upd (upd e0 0 (.int .u64 a0)) 6 ux16_0) 7 (iI x16.2) ∧ Kp s0 s ∧ FL ux16_0 x16.1) ⟨s15, _, uy10_0, rfl, (ue (ue (ue rfl rfl) rfl) rfl), Ky10, Fy10_0⟩ (fun g16 ih16 => ?_)))
  rintro x16 _ _ ⟨s17, _, ux16_0, rfl, rfl, Kx16, Fx16_0⟩
  unfold spec_FloatOf.b0
  refine sq (sr (Xb rfl (Xb rfl (dn (cd rfl (fun h18 => ?_) (fun h18 => ?_))))))
  ·
   refine sk (sq (bl (rg (Xp ux16_0 rfl (fa_ Fx16_0 (Xl rfl) (by simp) rfl rfl rfl rfl rfl rfl rfl (fun v19 s19 p19 A19 => ?_))))))
   refine Xq v19 rfl (dn (ib (rg (Xb rfl (Xb rfl (Xb rfl (dn ?_)))))))
   exact lb ih16 ⟨s19, _, v19, rfl, (ue (ue (ue rfl rfl) rfl) rfl), (Kx16.st p19 rfl), A19⟩
  refine xt rfl (sgb (bl (lpI (fun (x21 : Nat × Int) e w => ∃ (s : St) (e0 : Env) (ux21_0 : Value), w = s.w ∧ e = upd (upd (upd e0 0 (.int .u64 a0)) 6 ux21_0) 7 (iI x21.2) ∧ Kp s0 s ∧ FL ux21_0 x21.1) ⟨s17, _, ux16_0, rfl, (ue (ue (ue rfl rfl) rfl) rfl), Kx16, Fx16_0⟩ (fun g21 ih21 => ?_))))
  rintro x21 _ _ ⟨s22, _, ux21_0, rfl, rfl, Kx21, Fx21_0⟩
  unfold spec_FloatOf.b1
  refine sq (sr (Xb rfl (Xb rfl (dn (cd rfl (fun h23 => ?_) (fun h23 => ?_))))))
  ·
   refine sk (sq (bl (rg (Xp ux21_0 rfl (fa_ Fx21_0 (Xl rfl) (by simp) rfl rfl rfl rfl rfl rfl rfl (fun v24 s24 p24 A24 => ?_))))))
   refine Xq v24 rfl (dn (ib (rg (Xb rfl (Xb rfl (Xb rfl (dn ?_)))))))
   exact lb ih21 ⟨s24, _, v24, rfl, (ue (ue (ue rfl rfl) rfl) rfl), (Kx21.st p24 rfl), A24⟩
  exact xt rfl (sgb (Kj3 _ _ _ ⟨s22, _, ux21_0, rfl, (ue (ue rfl rfl) rfl), Kx21, Fx21_0⟩))
 rintro y3 _ _ ⟨s26, _, uy3_0, rfl, rfl, Ky3, Fy3_0⟩
 refine sq (sr (Xb rfl (shrK rfl rfl rfl rfl rfl rfl rfl rfl (Xb rfl (dn (cd rfl (fun h27 => ?_) (fun h27 => ?_)))))))
 ·
  refine sr (Xp uy3_0 rfl (fng_ Fy3_0 rfl rfl rfl rfl rfl rfl (fun v28 A28 => ?_)))
  exact Xq v28 rfl (dn (re rfl func79 rfl (Xv rfl Xg) rfl ⟨_, rfl, A28, z.ky Ky3⟩))
 exact sk (sr (Xp uy3_0 rfl (Xq uy3_0 rfl (dn (re rfl func79 rfl (Xv rfl Xg) rfl ⟨_, rfl, Fy3_0, z.ky Ky3⟩)))))
def spec_ItemOk.f (a0 : Item) : Option (Bool) :=
 (if (((decide (a0.Kind < (0 : Int))) || (decide (a0.Kind > (3 : Int)))) || (decide ((a0.T.length : Int) > (40 : Int)))) = true then (some false) else (if ((a0.Kind != (1 : Int)) && (a0.N != (0 : Int))) = true then (some false) else ((if (a0.Kind != (2 : Int)) = true then ((spec_FloatBits.f a0.F).bind fun r14 => (some (r14 != (0 : Int)))) else (some false)).bind fun y13 => (if y13 = true then (some false) else (some ((a0.Kind == (3 : Int)) || ((a0.T.length : Int) == (0 : Int))))))))
def spec_ItemOk.Q (w : World) (F : Nat → Prop) (r : Bool) (v : Value) (w' : World) : Prop :=
 v = (.bool r) ∧ Ky [] w w'
theorem spec_ItemOk.calls (a0 : Item) (w : World) (F : Nat → Prop) (w0_0 : Value) (w0_1 : Value) (h0_0 : Kd.flt.rd w [w0_0] a0.F F) (h0_1 : Xx.rd w [w0_1] a0.T F) (r : Bool) (m : spec_ItemOk.f a0 = some r) :
  Calls prog 9 #[(.agg #[(iI a0.Kind), (iI a0.N), w0_0, w0_1])] w (RT (spec_ItemOk.Q w F) r) := by
 obtain ⟨s0, rfl, kp0, z⟩ := Xm w F
 have A0_1 := z.rd h0_1
 refine Xd (args := [(.agg #[(iI a0.Kind), (iI a0.N), w0_0, w0_1])]) func9 ntmps9 rfl rfl m ?_
 unfold spec_ItemOk.f
 refine sr (bx (cs := [(iI a0.Kind), (iI a0.N), w0_0, w0_1]) 40 rfl rfl rfl rfl rfl rfl (fun b2 s2 p2 B2 => ?_))
 refine Xb rfl (dn (sq (sr (Xs fa26_0 rfl (ld' B2 u3 rfl (Xb rfl (Xb rfl (jy [6, 7, 8, 9, 10] [8, 9, 10, 11, 12, 13] 10 (.bool ((decide (a0.Kind < (0 : Int))) || (decide (a0.Kind > (3 : Int))))) rfl (fun Kg4 => ?_) (fun j4 => ?_)))))))))
 ·
  rcases bft (decide (a0.Kind < (0 : Int))) with hb4 | hb4
  ·
   exact sbT hb4 (Xi rfl (Xi rfl (Xi rfl (Xb rfl (Kg4 _ (Ag.put ((Ag.put ((Ag.put ((Ag.put (Ag.base rfl) rfl)) rfl)) rfl)) rfl) (by rw [hb4]; rfl))))))
  exact sbT hb4 (Xs fa26_0 rfl (ld' B2 u3 rfl (Xb rfl (Xb rfl (Kg4 _ (Ag.put ((Ag.put ((Ag.put ((Ag.put (Ag.base rfl) rfl)) rfl)) rfl)) rfl) (by rw [hb4]; rfl))))))
 refine Xb rfl (jy [11, 12, 13, 14, 15, 16] [] 16 (.bool (((decide (a0.Kind < (0 : Int))) || (decide (a0.Kind > (3 : Int)))) || (decide ((a0.T.length : Int) > (40 : Int))))) rfl (fun Kg5 => ?_) (fun j5 => ?_))
 ·
  rcases bft ((decide (a0.Kind < (0 : Int))) || (decide (a0.Kind > (3 : Int)))) with hb5 | hb5
  ·
   exact sbT hb5 (Xi rfl (Xi rfl (Xi rfl (Xi rfl (Xb rfl (Kg5 _ (Ag.put ((Ag.put ((Ag.put ((Ag.put ((Ag.put (Ag.base rfl) rfl)) rfl)) rfl)) rfl)) rfl) (by rw [hb5]; rfl)))))))
  refine sbT hb5 (Xs fa26_3 rfl (ld' B2 u22 rfl ?_))
  exact ln' (A0_1.kp (kp0.st p2 rfl)) u22 rfl (Xb rfl (Xb rfl (Kg5 _ (Ag.put ((Ag.put ((Ag.put ((Ag.put ((Ag.put (Ag.base rfl) rfl)) rfl)) rfl)) rfl)) rfl) (by rw [hb5]; rfl))))
 refine dn (cd rfl (fun h8 => ?_) (fun h8 => ?_))
 ·
  refine sr (Xb rfl (dn ?_))
  exact re rfl func9 rfl (Xv rfl Xg) rfl ⟨_, rfl, rfl, z.ky (kp0.st p2 rfl)⟩
 refine sk (sq (sr (Xs fa26_0 rfl (ld' B2 u3 rfl (Xb rfl (Xb rfl (jy [20, 21, 22, 23, 24] [] 24 (.bool ((a0.Kind != (1 : Int)) && (a0.N != (0 : Int)))) rfl (fun Kg10 => ?_) (fun j10 => ?_))))))))
 ·
  rcases bft (a0.Kind != (1 : Int)) with hb10 | hb10
  ·
   exact sbT hb10 (Xs fa26_1 rfl (ld' B2 u3 rfl (Xb rfl (Xb rfl (Kg10 _ (Ag.put ((Ag.put ((Ag.put ((Ag.put (Ag.base rfl) rfl)) rfl)) rfl)) rfl) (by rw [hb10]; rfl))))))
  exact sbT hb10 (Xi rfl (Xi rfl (Xi rfl (Xb rfl (Kg10 _ (Ag.put ((Ag.put ((Ag.put ((Ag.put (Ag.base rfl) rfl)) rfl)) rfl)) rfl) (by rw [hb10]; rfl))))))
 refine dn (cd rfl (fun h11 => ?_) (fun h11 => ?_))
 ·
  refine sr (Xb rfl (dn ?_))
  exact re rfl func9 rfl (Xv rfl Xg) rfl ⟨_, rfl, rfl, z.ky (kp0.st p2 rfl)⟩
 refine sk (sq (sr (Xs fa26_0 rfl (ld' B2 u3 rfl (Xb rfl (Xb rfl (ji [] (fun (y13 : Bool) e w => ∃ (s : St) (e0 : Env), w = s.w ∧ e = upd (upd e0 1 (pB b2)) 33 (.bool y13) ∧ Kp s0 s ∧ BlF s b2 26 [(iI a0.Kind), (iI a0.N), w0_0, w0_1] 40) (fun Gj13 Kj13 => ?_) ?_)))))))
 ·
  rcases bft (a0.Kind != (2 : Int)) with hb13 | hb13
  ·
   refine sbT hb13 ?_
   rw [if_pos hb13]
   refine Xs fa26_2 rfl (ld' B2 u24 rfl (clV 41 rfl func29 rfl (spec_FloatBits.calls a0.F s2.w (mm [] s2) w0_0 (Xh (s := s2) (fl_of h0_0))) (fun r14 s15 p15 n15 => ?_)))
   refine Xb rfl (Xb rfl ?_)
   exact Kj13 _ _ _ ⟨s15, _, rfl, (ue (ue rfl rfl) rfl), (kp0.st (Xo p2 p15) rfl), (B2.st p15 rfl)⟩
  refine sbT hb13 ?_
  rw [if_neg (by rw [hb13]; decide)]
  refine Xi rfl (Xi rfl (Xi rfl (Xi rfl (Xb rfl ?_))))
  exact Kj13 _ _ _ ⟨s2, _, rfl, (ue (ue rfl rfl) rfl), (kp0.st p2 rfl), B2⟩
 rintro y13 _ _ ⟨s19, _, rfl, rfl, Ky13, By13_b2⟩
 refine dn (cd rfl (fun h21 => ?_) (fun h21 => ?_))
 ·
  exact sr (Xb rfl (dn (re rfl func9 rfl (Xv rfl Xg) rfl ⟨_, rfl, rfl, z.ky Ky13⟩)))
 refine sk (sr (Xs fa26_0 rfl (ld' By13_b2 u3 rfl (Xb rfl (Xb rfl (jy [37, 38, 39, 40, 41, 42] [9] 42 (.bool ((a0.Kind == (3 : Int)) || ((a0.T.length : Int) == (0 : Int)))) rfl (fun Kg22 => ?_) (fun j22 => ?_)))))))
 ·
  rcases bft (a0.Kind == (3 : Int)) with hb22 | hb22
  ·
   exact sbT hb22 (Xi rfl (Xi rfl (Xi rfl (Xi rfl (Xb rfl (Kg22 _ (Ag.put ((Ag.put ((Ag.put ((Ag.put ((Ag.put (Ag.base rfl) rfl)) rfl)) rfl)) rfl)) rfl) (by rw [hb22]; rfl)))))))
  refine sbT hb22 (Xs fa26_3 rfl (ld' By13_b2 u22 rfl ?_))
  exact ln' (A0_1.kp Ky13) u22 rfl (Xb rfl (Xb rfl (Kg22 _ (Ag.put ((Ag.put ((Ag.put ((Ag.put ((Ag.put (Ag.base rfl) rfl)) rfl)) rfl)) rfl)) rfl) (by rw [hb22]; rfl))))
 exact Xb rfl (dn (re rfl func9 rfl (Xv rfl Xg) rfl ⟨_, rfl, rfl, z.ky Ky13⟩))
def spec_l3copy.f (a0 : Item) : Option (Item) :=
 (if ([] : (List Int)).length + a0.T.length ≤ Lim then (some (Item.mk a0.Kind a0.N a0.F (([] : (List Int)) ++ a0.T))) else none)
def spec_l3copy.Q (w : World) (F : Nat → Prop) (r : Item) (v : Value) (w' : World) : Prop :=
 ∃ (v0 : Value) (v1 : Value), v = (.agg #[(iI r.Kind), (iI r.N), v0, v1]) ∧ FO kd26 w w' [(iI r.Kind), (iI r.N), v0, v1] r ∧ Ky [] w w'
theorem spec_l3copy.calls (a0 : Item) (w : World) (F : Nat → Prop) (w0_0 : Value) (w0_1 : Value) (h0_0 : Kd.flt.rd w [w0_0] a0.F F) (h0_1 : Xx.rd w [w0_1] a0.T F) (r : Item) (m : spec_l3copy.f a0 = some r) :
  Calls prog 76 #[(.agg #[(iI a0.Kind), (iI a0.N), w0_0, w0_1])] w (RT (spec_l3copy.Q w F) r) := by
 obtain ⟨s0, rfl, kp0, z⟩ := Xm w F
 have A0_0 := fl_of h0_0
 refine Xd (args := [(.agg #[(iI a0.Kind), (iI a0.N), w0_0, w0_1])]) func76 ntmps76 rfl rfl m ?_
 unfold spec_l3copy.f
 refine sr (bx (cs := [(iI a0.Kind), (iI a0.N), w0_0, w0_1]) 40 rfl rfl rfl rfl rfl rfl (fun b2 s2 p2 B2 => ?_))
 refine al (cs := [(iI 0), (iI 0), (.float .f64 0), (.slice none 0 0)]) 41 rfl rfl rfl rfl rfl o26 rfl (fun b4 s4 p4 B4 => ?_)
 refine dn (sr (lt0 (K := (Kd.int .u8)) 42 u22 z5 rfl rfl rfl rfl rfl (fun v6 s6 p6 A6 => ?_)))
 refine Xs fa26_3 rfl ?_
 have A8 := B2.st (Xo p4 p6) rfl
 refine ld' A8 u22 rfl ?_
 have K9 := kp0.st (tr3 p2 p4 p6) rfl
 refine apF' Xn sl22 A6 ((z.rd h0_1).kp K9) rfl (fun v11 s11 p11 A11 => ?_)
 refine Xs fa26_3 rfl (sv (A8.st p11 rfl) z22 rfl rfl rfl rfl rfl rfl A11.rd.one rfl (fun s14 p14 B14 => ?_))
 refine dn (sr (Xw (es := [(iI a0.Kind), (iI a0.N), w0_0, v11]) B14 u26 z26 rfl ?_))
 have A17 := A11.st p14 rfl
 refine sva' (vs := [(iI a0.Kind), (iI a0.N), w0_0, v11]) (B4.st (tr3 p6 p11 p14) rfl) z26 rfl (Xa rfl (Xa rfl (Xa (FL.one A0_0) (Xa A17.rd.one Xr)))) rfl (fun s18 p18 B18 => ?_)
 refine dn ?_
 have A20 : OwF kd26 s18 [(iI a0.Kind), (iI a0.N), w0_0, v11] (Item.mk a0.Kind a0.N a0.F (([] : (List Int)) ++ a0.T)) 42 := (ow_isoz (fun x : Item => (x.Kind, x.N, x.F, x.T)) (Item.mk a0.Kind a0.N a0.F (([] : (List Int)) ++ a0.T)) (ow_l (Xf .i64 a0.Kind) (ow_l (Xf .i64 a0.N) (ow_l (Xu A0_0) (A17.st p18 rfl)))))
 have K23 := K9.st (tr3 p11 p14 p18) rfl
 exact re rfl func76 rfl (r_b B18 u26 rfl z26 rfl Xg) rfl ⟨_, rfl, w0_0, v11, rfl, A20.fo K23 rfl z.l, z.ky K23⟩
def spec_ItemClean.f (a0 : Item) : Option (Item) :=
 ((spec_ItemOk.f a0).bind fun r9 => (if (!r9) = true then (some (Item.mk (0 : Int) (0 : Int) (0 : Nat) ([] : (List Int)))) else ((spec_l3copy.f a0).bind fun r21 => ((if (fcmp .f64 a0.F (0 : Nat) == some .eq) = true then (some (0 : Nat)) else (some r21.F)).bind fun y30 => (some (Item.mk r21.Kind r21.N y30 r21.T))))))
def spec_ItemClean.Q (w : World) (F : Nat → Prop) (r : Item) (v : Value) (w' : World) : Prop :=
 ∃ (v0 : Value) (v1 : Value), v = (.agg #[(iI r.Kind), (iI r.N), v0, v1]) ∧ FO kd26 w w' [(iI r.Kind), (iI r.N), v0, v1] r ∧ Ky [] w w'
theorem spec_ItemClean.calls (a0 : Item) (w : World) (F : Nat → Prop) (w0_0 : Value) (w0_1 : Value) (h0_0 : Kd.flt.rd w [w0_0] a0.F F) (h0_1 : Xx.rd w [w0_1] a0.T F) (r : Item) (m : spec_ItemClean.f a0 = some r) :
  Calls prog 44 #[(.agg #[(iI a0.Kind), (iI a0.N), w0_0, w0_1])] w (RT (spec_ItemClean.Q w F) r) := by
 obtain ⟨s0, rfl, kp0, z⟩ := Xm w F
 have A0_0 := fl_of h0_0
 have A0_1 := z.rd h0_1
 refine Xd (args := [(.agg #[(iI a0.Kind), (iI a0.N), w0_0, w0_1])]) func44 ntmps44 rfl rfl m ?_
 unfold spec_ItemClean.f
 refine sr (bx (cs := [(iI a0.Kind), (iI a0.N), w0_0, w0_1]) 40 rfl rfl rfl rfl rfl rfl (fun b2 s2 p2 B2 => ?_))
 refine al (cs := [(iI 0), (iI 0), (.float .f64 0), (.slice none 0 0)]) 41 rfl rfl rfl rfl rfl o26 rfl (fun b4 s4 p4 B4 => ?_)
 refine dn (sq (sr ?_))
 have A6 := B2.st p4 rfl
 refine Xw (es := [(iI a0.Kind), (iI a0.N), w0_0, w0_1]) A6 u26 z26 rfl ?_
 have K7 := kp0.st (Xo p2 p4) rfl
 refine clV 42 rfl func9 rfl (spec_ItemOk.calls a0 s4.w (mm [0] s4) w0_0 w0_1 ((Xh (s := s4) A0_0).sub (D := [0]) rfl) (A0_1.kp K7)) (fun r9 s10 p10 n10 => ?_)
 refine Xb rfl (dn (cd rfl (fun h11 => ?_) (fun h11 => ?_)))
 ·
  refine sr (bd (cells := [(iI 0), (iI 0), (.float .f64 0), (.slice none 0 0)]) pl26 o26 rfl rfl rfl rfl rfl rfl ?_)
  refine sva' (vs := [(iI 0), (iI 0), (.float .f64 0), (.slice none 0 0)]) (B4.st p10 rfl) z26 rfl (Xa rfl (Xa rfl (Xa (FL.one (Xl rfl)) (Xa rfl Xr)))) rfl (fun s13 p13 B13 => ?_)
  refine dn ?_
  have A15 : OwF kd26 s13 [(iI 0), (iI 0), (.float .f64 0), (.slice none 0 0)] (Item.mk (0 : Int) (0 : Int) (0 : Nat) ([] : (List Int))) 43 := ow_z _ _ (fz_iso (fun x : Item => (x.Kind, x.N, x.F, x.T)) (Item.mk (0 : Int) (0 : Int) (0 : Nat) ([] : (List Int))) (Xe (Xf .i64 (0 : Int)) (Xe (Xf .i64 (0 : Int)) (Xe (Xu (Xl rfl)) (fz_nil 5 (Kd.int .u8))))))
  have K17 := K7.st (Xo p10 p13) rfl
  exact re rfl func44 rfl (r_b B13 u26 rfl z26 rfl Xg) rfl ⟨_, rfl, (.float .f64 0), (.slice none 0 0), rfl, A15.fo K17 rfl z.l, z.ky K17⟩
 refine sk (sr ?_)
 have A18 := A6.st p10 rfl
 refine Xw (es := [(iI a0.Kind), (iI a0.N), w0_0, w0_1]) A18 u26 z26 rfl ?_
 have K19 := K7.st p10 rfl
 refine cl' rfl func76 rfl (spec_l3copy.calls a0 s10.w (mm [0] s10) w0_0 w0_1 ((Xh (s := s10) A0_0).sub (D := [0]) rfl) (A0_1.kp K19)) ?_
 rintro r21 _ w21 m21 ⟨v21_0, v21_1, rfl, f21_0, ky21⟩
 obtain ⟨s22, rfl, p22, n22⟩ := nwx s10 w21 44 ky21
 obtain ⟨hu21_0_0, Au21_0_1⟩ := ap26 (f21_0.c n22)
 refine al (cs := [(iI 0), (iI 0), (.float .f64 0), (.slice none 0 0)]) 45 rfl rfl rfl rfl rfl o26 rfl (fun b24 s24 p24 B24 => ?_)
 have A26 := Au21_0_1.st p24 rfl
 refine sva' (vs := [(iI r21.Kind), (iI r21.N), v21_0, v21_1]) B24 z26 rfl (Xa rfl (Xa rfl (Xa (FL.one hu21_0_0) (Xa A26.rd.one Xr)))) rfl (fun s27 p27 B27 => ?_)
 refine dn (sq (sr (Xs fa26_2 rfl ?_)))
 refine ld' (A18.st (tr3 p22 p24 p27) rfl) u24 rfl (fq_' A0_0 (Xl rfl) rfl (dn (jc (fun (y30 : Nat) e w => ∃ (s : St) (e0 : Env) (uy30_0 : Value), w = s.w ∧ e = upd (upd e0 2 (pB b4)) 3 (pB b24) ∧ Kp s0 s ∧ FL uy30_0 y30 ∧ BlF s b24 26 [(iI r21.Kind), (iI r21.N), uy30_0, v21_1] 45 ∧ BlF s b4 26 [(iI 0), (iI 0), (.float .f64 0), (.slice none 0 0)] 41 ∧ OwF Xx s [v21_1] r21.T 44) (fun Gj30 Kj30 => ?_) ?_)))
 ·
  refine cd rfl (fun h31 => ?_) (fun h31 => ?_)
  ·
   refine rg (Xs fa26_2 rfl (sv B27 z24 rfl rfl rfl rfl rfl rfl (FL.one (Xl rfl)) rfl (fun s32 p32 B32 => ?_)))
   exact dn (Kj30 _ _ _ ⟨s32, _, (.float .f64 0), rfl, (ue (ue rfl rfl) rfl), (K19.st (tr4 p22 p24 p27 p32) rfl), (Xl rfl), B32, (B4.st (tr5 p10 p22 p24 p27 p32) rfl), (A26.st (Xo p27 p32) rfl)⟩)
  exact sk (Kj30 _ _ _ ⟨s27, _, v21_0, rfl, (ue (ue rfl rfl) rfl), (K19.st (tr3 p22 p24 p27) rfl), hu21_0_0, B27, (B4.st (tr4 p10 p22 p24 p27) rfl), (A26.st p27 rfl)⟩)
 rintro y30 _ _ ⟨s40, _, uy30_0, rfl, rfl, Ky30, Fy30_0, By30_b24, By30_b4, Cy30_23⟩
 refine sr (Xw (es := [(iI r21.Kind), (iI r21.N), uy30_0, v21_1]) By30_b24 u26 z26 rfl (sva' (vs := [(iI r21.Kind), (iI r21.N), uy30_0, v21_1]) By30_b4 z26 rfl (Xa rfl (Xa rfl (Xa (FL.one Fy30_0) (Xa Cy30_23.rd.one Xr)))) rfl (fun s43 p43 B43 => ?_)))
 refine dn ?_
 have A45 : OwF kd26 s43 [(iI r21.Kind), (iI r21.N), uy30_0, v21_1] (Item.mk r21.Kind r21.N y30 r21.T) 44 := (ow_isoz (fun x : Item => (x.Kind, x.N, x.F, x.T)) (Item.mk r21.Kind r21.N y30 r21.T) (ow_l (Xf .i64 r21.Kind) (ow_l (Xf .i64 r21.N) (ow_l (Xu Fy30_0) (Cy30_23.st p43 rfl)))))
 have K48 := Ky30.st p43 rfl
 exact re rfl func44 rfl (r_b B43 u26 rfl z26 rfl Xg) rfl ⟨_, rfl, uy30_0, v21_1, rfl, A45.fo K48 rfl z.l, z.ky K48⟩
def impl_within.f (a0 : Int) (a1 : Int) (a2 : Int) : Option (Bool) :=
 (some ((decide (a1 ≤ a0)) && (decide (a0 ≤ a2))))
def impl_within.Q (w : World) (F : Nat → Prop) (r : Bool) (v : Value) (w' : World) : Prop :=
 v = (.bool r) ∧ Ky [] w w'
theorem impl_within.calls (a0 : Int) (a1 : Int) (a2 : Int) (w : World) (F : Nat → Prop)   (r : Bool) (m : impl_within.f a0 a1 a2 = some r) :
  Calls prog 38 #[(iI a0), (iI a1), (iI a2)] w (RT (impl_within.Q w F) r) := by
 obtain ⟨s0, rfl, kp0, z⟩ := Xm w F
 refine Xd (args := [(iI a0), (iI a1), (iI a2)]) func38 ntmps38 rfl rfl m ?_
 unfold impl_within.f
 refine sr (Xb rfl (dn (sr (Xb rfl (Xb rfl (Xb rfl (Xb rfl (jy [10, 11, 12, 13, 14] [8] 14 (.bool ((decide (a1 ≤ a0)) && (decide (a0 ≤ a2)))) rfl (fun Kg1 => ?_) (fun j1 => ?_)))))))))
 ·
  rcases bft (decide (a1 ≤ a0)) with hb1 | hb1
  ·
   exact sbT hb1 (Xb rfl (Xb rfl (Xb rfl (Xb rfl (Kg1 _ (Ag.put ((Ag.put ((Ag.put ((Ag.put (Ag.base rfl) rfl)) rfl)) rfl)) rfl) (by rw [hb1]; rfl))))))
  exact sbT hb1 (Xi rfl (Xi rfl (Xi rfl (Xb rfl (Kg1 _ (Ag.put ((Ag.put ((Ag.put ((Ag.put (Ag.base rfl) rfl)) rfl)) rfl)) rfl) (by rw [hb1]; rfl))))))
 exact Xb rfl (dn (re rfl func38 rfl (Xv rfl Xg) rfl ⟨_, rfl, rfl, z.ky kp0⟩))
def impl_ItemOk.f (a0 : Item) : Option (Bool) :=
 ((impl_within.f a0.Kind (0 : Int) (3 : Int)).bind fun r4 => (some (((r4 && ((a0.N == (0 : Int)) || (a0.Kind == (1 : Int)))) && (((a0.F : Int) == 0) || (a0.Kind == (2 : Int)))) && (((a0.T.length : Int) == (0 : Int)) || ((a0.Kind == (3 : Int)) && (decide ((a0.T.length : Int) ≤ (40 : Int))))))))
def impl_ItemOk.Q (w : World) (F : Nat → Prop) (r : Bool) (v : Value) (w' : World) : Prop :=
 v = (.bool r) ∧ Ky [] w w'
theorem impl_ItemOk.calls (a0 : Item) (w : World) (F : Nat → Prop) (w0_0 : Value) (w0_1 : Value) (h0_0 : Kd.flt.rd w [w0_0] a0.F F) (h0_1 : Xx.rd w [w0_1] a0.T F) (r : Bool) (m : impl_ItemOk.f a0 = some r) :
  Calls prog 26 #[(.agg #[(iI a0.Kind), (iI a0.N), w0_0, w0_1])] w (RT (impl_ItemOk.Q w F) r) := by
 obtain ⟨s0, rfl, kp0, z⟩ := Xm w F
 refine Xd (args := [(.agg #[(iI a0.Kind), (iI a0.N), w0_0, w0_1])]) func26 ntmps26 rfl rfl m ?_
 unfold impl_ItemOk.f
 refine sr (bx (cs := [(iI a0.Kind), (iI a0.N), w0_0, w0_1]) 40 rfl rfl rfl rfl rfl rfl (fun b2 s2 p2 B2 => ?_))
 refine Xb rfl (dn (sr (Xs fa26_0 rfl (ld' B2 u3 rfl (clV 41 rfl func38 rfl (impl_within.calls a0.Kind (0 : Int) (3 : Int) s2.w (mm [] s2)) (fun r4 s5 p5 n5 => ?_))))))
 refine Xb rfl (jy [6, 7, 8, 9, 10, 11, 12, 13, 14, 15] [13, 14, 15, 16, 17, 18, 19, 20, 21, 22, 23, 24, 25, 26, 27, 28, 29, 30, 31, 32, 33, 34, 35, 36, 37, 38, 39, 40, 41] 15 (.bool (r4 && ((a0.N == (0 : Int)) || (a0.Kind == (1 : Int))))) rfl (fun Kg6 => ?_) (fun j6 => ?_))
 ·
  rcases bft r4 with hb6 | hb6
  ·
   refine sbT hb6 (Xs fa26_1 rfl ?_)
   have A7 := B2.st p5 rfl
   refine ld' A7 u3 rfl (Xb rfl (Xb rfl (jy [10, 11, 12, 13, 14] [12, 13, 14, 15, 16, 17, 18, 19, 20, 21, 22, 23, 24, 25, 26, 27, 28, 29, 30, 31, 32, 33, 34, 35, 36, 37, 38, 39, 40, 41] 14 (.bool ((a0.N == (0 : Int)) || (a0.Kind == (1 : Int)))) rfl (fun Kg8 => ?_) (fun j8 => ?_))))
   ·
    rcases bft (a0.N == (0 : Int)) with hb8 | hb8
    ·
     exact sbT hb8 (Xi rfl (Xi rfl (Xi rfl (Xb rfl (Kg8 _ (Ag.put ((Ag.put ((Ag.put ((Ag.put (Ag.base rfl) rfl)) rfl)) rfl)) rfl) (by rw [hb8]; rfl))))))
    exact sbT hb8 (Xs fa26_0 rfl (ld' A7 u3 rfl (Xb rfl (Xb rfl (Kg8 _ (Ag.put ((Ag.put ((Ag.put ((Ag.put (Ag.base rfl) rfl)) rfl)) rfl)) rfl) (by rw [hb8]; rfl))))))
   exact Xb rfl (Kg6 _ (Ag.put ((Ag.put ((Ag.ov ((Ag.put ((Ag.put ((Ag.put ((Ag.put (Ag.base rfl) rfl)) rfl)) rfl)) rfl)) rfl)) rfl)) rfl) (by rw [hb6]; rfl))
  exact sbT hb6 (Xi rfl (Xi rfl (Xi rfl (Xi rfl (Xi rfl (Xi rfl (Xi rfl (Xi rfl (Xb rfl (Kg6 _ (Ag.put ((Ag.put ((Ag.put ((Ag.put ((Ag.put ((Ag.put ((Ag.put ((Ag.put ((Ag.put (Ag.base rfl) rfl)) rfl)) rfl)) rfl)) rfl)) rfl)) rfl)) rfl)) rfl) (by rw [hb6]; rfl)))))))))))
 refine Xb rfl (jy [16, 17, 18, 19, 20, 21, 22, 23, 24, 25, 26] [24, 25, 26, 27, 28, 29, 30, 31, 32, 33, 34, 35, 36, 37, 38, 39, 40, 41] 26 (.bool ((r4 && ((a0.N == (0 : Int)) || (a0.Kind == (1 : Int)))) && (((a0.F : Int) == 0) || (a0.Kind == (2 : Int))))) rfl (fun Kg9 => ?_) (fun j9 => ?_))
 ·
  rcases bft (r4 && ((a0.N == (0 : Int)) || (a0.Kind == (1 : Int)))) with hb9 | hb9
  ·
   refine sbT hb9 (Xs fa26_2 rfl ?_)
   have A10 := B2.st p5 rfl
   refine ld' A10 u24 rfl (fbu (fl_of h0_0) rfl rfl rfl rfl rfl func61 rfl rfl xn61 xf61 rfl (fun b11 A11 => ?_))
   refine fz0 A11 rfl rfl rfl rfl rfl rfl rfl (Xb rfl (jy [21, 22, 23, 24, 25] [23, 24, 25, 26, 27, 28, 29, 30, 31, 32, 33, 34, 35, 36, 37, 38, 39, 40, 41] 25 (.bool (((a0.F : Int) == 0) || (a0.Kind == (2 : Int)))) rfl (fun Kg12 => ?_) (fun j12 => ?_)))
   ·
    rcases bft ((a0.F : Int) == 0) with hb12 | hb12
    ·
     exact sbT hb12 (Xi rfl (Xi rfl (Xi rfl (Xb rfl (Kg12 _ (Ag.put ((Ag.put ((Ag.put ((Ag.put (Ag.base rfl) rfl)) rfl)) rfl)) rfl) (by rw [hb12]; rfl))))))
    exact sbT hb12 (Xs fa26_0 rfl (ld' A10 u3 rfl (Xb rfl (Xb rfl (Kg12 _ (Ag.put ((Ag.put ((Ag.put ((Ag.put (Ag.base rfl) rfl)) rfl)) rfl)) rfl) (by rw [hb12]; rfl))))))
   exact Xb rfl (Kg9 _ (Ag.put ((Ag.put ((Ag.ov ((Ag.put ((Ag.put ((Ag.put ((Ag.put ((Ag.put (Ag.base rfl) rfl)) rfl)) rfl)) rfl)) rfl)) rfl)) rfl)) rfl) (by rw [hb9]; rfl))
  exact sbT hb9 (Xi rfl (Xi rfl (Xi rfl (Xi rfl (Xi rfl (Xi rfl (Xi rfl (Xi rfl (Xi rfl (Xb rfl (Kg9 _ (Ag.put ((Ag.put ((Ag.put ((Ag.put ((Ag.put ((Ag.put ((Ag.put ((Ag.put ((Ag.put ((Ag.put (Ag.base rfl) rfl)) rfl)) rfl)) rfl)) rfl)) rfl)) rfl)) rfl)) rfl)) rfl) (by rw [hb9]; rfl))))))))))))
 refine Xb rfl (jy [27, 28, 29, 30, 31, 32, 33, 34, 35, 36, 37, 38, 39, 40, 41, 42, 43] [41] 43 (.bool (((r4 && ((a0.N == (0 : Int)) || (a0.Kind == (1 : Int)))) && (((a0.F : Int) == 0) || (a0.Kind == (2 : Int)))) && (((a0.T.length : Int) == (0 : Int)) || ((a0.Kind == (3 : Int)) && (decide ((a0.T.length : Int) ≤ (40 : Int))))))) rfl (fun Kg13 => ?_) (fun j13 => ?_))
 ·
  rcases bft ((r4 && ((a0.N == (0 : Int)) || (a0.Kind == (1 : Int)))) && (((a0.F : Int) == 0) || (a0.Kind == (2 : Int)))) with hb13 | hb13
  ·
   refine sbT hb13 (Xs fa26_3 rfl ?_)
   have A14 := B2.st p5 rfl
   refine ld' A14 u22 rfl ?_
   have A16 := (z.rd h0_1).kp (kp0.st (Xo p2 p5) rfl)
   refine ln' A16 u22 rfl (Xb rfl (Xb rfl (jy [32, 33, 34, 35, 36, 37, 38, 39, 40, 41, 42] [40, 41] 42 (.bool (((a0.T.length : Int) == (0 : Int)) || ((a0.Kind == (3 : Int)) && (decide ((a0.T.length : Int) ≤ (40 : Int)))))) rfl (fun Kg17 => ?_) (fun j17 => ?_))))
   ·
    rcases bft ((a0.T.length : Int) == (0 : Int)) with hb17 | hb17
    ·
     exact sbT hb17 (Xi rfl (Xi rfl (Xi rfl (Xi rfl (Xi rfl (Xi rfl (Xi rfl (Xi rfl (Xi rfl (Xb rfl (Kg17 _ (Ag.put ((Ag.put ((Ag.put ((Ag.put ((Ag.put ((Ag.put ((Ag.put ((Ag.put ((Ag.put ((Ag.put (Ag.base rfl) rfl)) rfl)) rfl)) rfl)) rfl)) rfl)) rfl)) rfl)) rfl)) rfl) (by rw [hb17]; rfl))))))))))))
    refine sbT hb17 (Xs fa26_0 rfl (ld' A14 u3 rfl (Xb rfl (Xb rfl (jy [36, 37, 38, 39, 40, 41] [39, 40, 41] 41 (.bool ((a0.Kind == (3 : Int)) && (decide ((a0.T.length : Int) ≤ (40 : Int))))) rfl (fun Kg18 => ?_) (fun j18 => ?_))))))
    ·
     rcases bft (a0.Kind == (3 : Int)) with hb18 | hb18
     ·
      exact sbT hb18 (Xs fa26_3 rfl (ld' A14 u22 rfl (ln' A16 u22 rfl (Xb rfl (Xb rfl (Kg18 _ (Ag.put ((Ag.put ((Ag.put ((Ag.put ((Ag.put (Ag.base rfl) rfl)) rfl)) rfl)) rfl)) rfl) (by rw [hb18]; rfl)))))))
     exact sbT hb18 (Xi rfl (Xi rfl (Xi rfl (Xi rfl (Xb rfl (Kg18 _ (Ag.put ((Ag.put ((Ag.put ((Ag.put ((Ag.put (Ag.base rfl) rfl)) rfl)) rfl)) rfl)) rfl) (by rw [hb18]; rfl)))))))
    exact Xb rfl (Kg17 _ (Ag.put ((Ag.put ((Ag.ov ((Ag.put ((Ag.put ((Ag.put ((Ag.put (Ag.base rfl) rfl)) rfl)) rfl)) rfl)) rfl)) rfl)) rfl) (by rw [hb17]; rfl))
   exact Xb rfl (Kg13 _ (Ag.put ((Ag.put ((Ag.ov ((Ag.put ((Ag.put ((Ag.put ((Ag.put ((Ag.put (Ag.base rfl) rfl)) rfl)) rfl)) rfl)) rfl)) rfl)) rfl)) rfl) (by rw [hb13]; rfl))
  refine sbT hb13 (Xi rfl (Xi rfl (Xi rfl (Xi rfl (Xi rfl (Xi rfl (Xi rfl (Xi rfl (Xi rfl (Xi rfl (Xi rfl (Xi rfl (Xi rfl (Xi rfl ?_))))))))))))))
  exact Xi rfl (Xb rfl (Kg13 _ (Ag.put ((Ag.put ((Ag.put ((Ag.put ((Ag.put ((Ag.put ((Ag.put ((Ag.put ((Ag.put ((Ag.put ((Ag.put ((Ag.put ((Ag.put ((Ag.put ((Ag.put ((Ag.put (Ag.base rfl) rfl)) rfl)) rfl)) rfl)) rfl)) rfl)) rfl)) rfl)) rfl)) rfl)) rfl)) rfl)) rfl)) rfl)) rfl)) rfl) (by rw [hb13]; rfl)))
 refine Xb rfl (dn ?_)
 exact re rfl func26 rfl (Xv rfl Xg) rfl ⟨_, rfl, rfl, z.ky (kp0.st (Xo p2 p5) rfl)⟩
section
open Go.Shelf
shelf_lay LaysM.n171 Nm 171 at Tryz as lay_itoa
theorem grow_ky (w : World) (k : Nat) (os : Array Obj) : Ky [] w (Sort.grow (w.drewN k) os) := by
  refine ⟨rfl, ?_, rfl, ?_, fun b hb _ => ?_⟩
  · simp [Sort.grow]
  · simp [Sort.grow]
  · simp [Sort.grow, Array.getElem?_append_left hb]
def strconv_Itoa.f (a0 : Int) : Option (ByteArray) := if -9223372036854775808 ≤ a0 ∧ a0 ≤ 9223372036854775807 then some ⟨(Lib.itoa a0).toArray⟩ else none
def strconv_Itoa.Q (w : World) (F : Nat → Prop) (r : ByteArray) (v : Value) (w' : World) : Prop := v = (.string r) ∧ Ky [] w w'
theorem strconv_Itoa.calls (a0 : Int) (w : World) (F : Nat → Prop) (hG : GT.rd w [] () F) (r : ByteArray) (m : strconv_Itoa.f a0 = some r) :
    Calls Tryz.prog 62 #[.int .i64 a0] w (RT (strconv_Itoa.Q w F) r) := by
  unfold strconv_Itoa.f at m
  split at m
  · rename_i h
    cases m
    refine Calls.mono (Any.strconv_Itoa lay_itoa a0 h.1 h.2 w hG.2.1) fun e w' ⟨he, k, os, hw⟩ => ⟨_, he, rfl, ?_⟩
    rw [hw]; exact grow_ky w k os
  · cases m
end

def impl_FloatBits.f (a0 : Nat) : Option (Int) :=
 (if (fcmp .f64 a0 a0 != some .eq) = true then (some (9221120237041090560 : Int)) else (if isN a0 = false then (some (a0 : Int)) else none))
def impl_FloatBits.Q (w : World) (F : Nat → Prop) (r : Int) (v : Value) (w' : World) : Prop :=
 v = (.int .u64 r) ∧ Ky [] w w'
theorem impl_FloatBits.calls (a0 : Nat) (w : World) (F : Nat → Prop) (w0_0 : Value) (h0_0 : Kd.flt.rd w [w0_0] a0 F) (r : Int) (m : impl_FloatBits.f a0 = some r) :
  Calls prog 88 #[w0_0] w (RT (impl_FloatBits.Q w F) r) := by
 obtain ⟨s0, rfl, kp0, z⟩ := Xm w F
 have A0_0 := fl_of h0_0
 refine Xd (args := [w0_0]) func88 ntmps88 rfl rfl m ?_
 unfold impl_FloatBits.f
 refine sr (Xb rfl (dn (sq (sr (Xp w0_0 rfl (Xp w0_0 rfl (fq_' A0_0 A0_0 rfl (dn (cd rfl (fun h1 => ?_) (fun h1 => ?_))))))))))
 ·
  exact sr (Xb rfl (dn (re rfl func88 rfl (Xv rfl Xg) rfl ⟨_, rfl, rfl, z.ky kp0⟩)))
 exact sk (sr (Xp w0_0 rfl (fb_ A0_0 rfl rfl rfl rfl rfl func61 rfl rfl xn61 xf61 rfl (Xb rfl (dn (re rfl func88 rfl (Xv rfl Xg) rfl ⟨_, rfl, rfl, z.ky kp0⟩))))))
def impl_highFirst.b0 (a0 : Int) (x1 : (List Int) × Int) : Option (((List Int) × Int) ⊕ (List Int)) :=
 (if (decide (x1.2 ≥ (0 : Int))) = true then (if 0 ≤ x1.2 then (if x1.1.length + ([(IntKind.wrap .u8 (ishr .u64 a0 x1.2))]).length ≤ Lim then (some (Sum.inl ((x1.1 ++ [(IntKind.wrap .u8 (ishr .u64 a0 x1.2))]), (IntKind.wrap .i64 (x1.2 - (8 : Int)))))) else none) else none) else ((some x1.1).bind fun o => some (Sum.inr o)))
def impl_highFirst.f (a0 : Int) : Option ((List Int)) :=
 (iter (impl_highFirst.b0 a0) (([] : (List Int)), (56 : Int)))
def impl_highFirst.Q (w : World) (F : Nat → Prop) (r : (List Int)) (v : Value) (w' : World) : Prop :=
 FO Xx w w' [v] r ∧ Ky [] w w'
theorem impl_highFirst.calls (a0 : Int) (w : World) (F : Nat → Prop)   (r : (List Int)) (m : impl_highFirst.f a0 = some r) :
  Calls prog 87 #[(.int .u64 a0)] w (RT (impl_highFirst.Q w F) r) := by
 obtain ⟨s0, rfl, kp0, z⟩ := Xm w F
 refine Xd (args := [(.int .u64 a0)]) func87 ntmps87 rfl rfl m ?_
 unfold impl_highFirst.f
 refine sr (Xb rfl (dn (sr (Xb rfl (dn (sq (sr (Xb rfl (dn (bl (lpI (fun (x1 : (List Int) × Int) e w => ∃ (s : St) (e0 : Env) (vx1_0 : Value), w = s.w ∧ e = upd (upd (upd e0 0 (.int .u64 a0)) 3 vx1_0) 4 (iI x1.2) ∧ Kp s0 s ∧ OwF Xx s [vx1_0] x1.1 40) ⟨s0, _, (.slice none 0 0), rfl, (ue (ue (ue rfl rfl) rfl) rfl), kp0, (Xk 5 (Kd.int .u8) _ 40)⟩ (fun g1 ih1 => ?_))))))))))))
 rintro x1 _ _ ⟨s2, _, vx1_0, rfl, rfl, Kx1, Ax1_0⟩
 unfold impl_highFirst.b0
 refine sq (sr (Xb rfl (Xb rfl (dn (cd rfl (fun h4 => ?_) (fun h4 => ?_))))))
 ·
  refine sk (sq (bl (rg (Xp vx1_0 rfl (Xb rfl (Xb rfl (shr_ rfl rfl rfl rfl rfl rfl rfl (cv u5 u53 rfl rfl rfl rfl rfl rfl (ltF' (K := (Kd.int .u8)) (cells := [(.int .u8 (IntKind.wrap .u8 (ishr .u64 a0 x1.2)))]) [(IntKind.wrap .u8 (ishr .u64 a0 x1.2))] 41 Xn u22 z5 o5 (fun w => (Xj _ _ _)) rfl rfl (fun v5 s5 p5 A5 => ?_))))))))))
  refine apF' Xn sl22 (Ax1_0.st p5 rfl) A5.rd rfl (fun v8 s8 p8 A8 => ?_)
  refine Xq v8 rfl (dn (ib (rg (Xb rfl (Xb rfl (Xb rfl (dn ?_)))))))
  exact lb ih1 ⟨s8, _, v8, rfl, (ue (ue (ue rfl rfl) rfl) rfl), (Kx1.st (Xo p5 p8) rfl), A8⟩
 exact xt rfl (sgb (sr (Xp vx1_0 rfl (Xq vx1_0 rfl (dn (re rfl func87 rfl (Xv rfl Xg) rfl ⟨_, rfl, Ax1_0.fo Kx1 rfl z.l, z.ky Kx1⟩))))))
def impl_hexText.b0 (a0 : (List Int)) (x2 : (List Int) × Int) : Option (((List Int) × Int) ⊕ ByteArray) :=
 (if (decide (x2.2 < (a0.length : Int))) = true then (if 0 ≤ x2.2 ∧ x2.2 < (a0.length : Int) then (if 0 ≤ (ishr .u8 (at_ a0 x2.2) (4 : Int)) ∧ (ishr .u8 (at_ a0 x2.2) (4 : Int)) < ((⟨#[48, 49, 50, 51, 52, 53, 54, 55, 56, 57, 97, 98, 99, 100, 101, 102]⟩ : ByteArray).size : Int) then (if 0 ≤ (iand .u8 (at_ a0 x2.2) (15 : Int)) ∧ (iand .u8 (at_ a0 x2.2) (15 : Int)) < ((⟨#[48, 49, 50, 51, 52, 53, 54, 55, 56, 57, 97, 98, 99, 100, 101, 102]⟩ : ByteArray).size : Int) then (if x2.1.length + ([(at_ (bts (⟨#[48, 49, 50, 51, 52, 53, 54, 55, 56, 57, 97, 98, 99, 100, 101, 102]⟩ : ByteArray)) (ishr .u8 (at_ a0 x2.2) (4 : Int))), (at_ (bts (⟨#[48, 49, 50, 51, 52, 53, 54, 55, 56, 57, 97, 98, 99, 100, 101, 102]⟩ : ByteArray)) (iand .u8 (at_ a0 x2.2) (15 : Int)))]).length ≤ Lim then (some (Sum.inl ((x2.1 ++ [(at_ (bts (⟨#[48, 49, 50, 51, 52, 53, 54, 55, 56, 57, 97, 98, 99, 100, 101, 102]⟩ : ByteArray)) (ishr .u8 (at_ a0 x2.2) (4 : Int))), (at_ (bts (⟨#[48, 49, 50, 51, 52, 53, 54, 55, 56, 57, 97, 98, 99, 100, 101, 102]⟩ : ByteArray)) (iand .u8 (at_ a0 x2.2) (15 : Int)))]), (IntKind.wrap .i64 (x2.2 + (1 : Int)))))) else none) else none) else none) else none) else ((some (str x2.1)).bind fun o => some (Sum.inr o)))
def impl_hexText.f (a0 : (List Int)) : Option (ByteArray) :=
 (iter (impl_hexText.b0 a0) (([] : (List Int)), (0 : Int)))
def impl_hexText.Q (w : World) (F : Nat → Prop) (r : ByteArray) (v : Value) (w' : World) : Prop :=
 v = (.string r) ∧ Ky [] w w'
theorem impl_hexText.calls (a0 : (List Int)) (w : World) (F : Nat → Prop) (w0_0 : Value) (h0_0 : Xx.rd w [w0_0] a0 F) (r : ByteArray) (m : impl_hexText.f a0 = some r) :
  Calls prog 64 #[w0_0] w (RT (impl_hexText.Q w F) r) := by
 obtain ⟨s0, rfl, kp0, z⟩ := Xm w F
 have A0_0 := z.rd h0_0
 refine Xd (args := [w0_0]) func64 ntmps64 rfl rfl m ?_
 unfold impl_hexText.f
 refine sr (Xb rfl (dn (sr (Xb rfl (dn (sq (sr (Xp w0_0 rfl (ln' A0_0 u22 rfl (Xb rfl (dn (bl (lpI (fun (x2 : (List Int) × Int) e w => ∃ (s : St) (e0 : Env) (vx2_0 : Value), w = s.w ∧ e = upd (upd (upd (upd e0 3 vx2_0) 6 w0_0) 7 (iI (a0.length : Int))) 8 (iI x2.2) ∧ Kp s0 s ∧ OwF Xx s [vx2_0] x2.1 40) ⟨s0, _, (.slice none 0 0), rfl, (ue (ue (ue (ue rfl rfl) rfl) rfl) rfl), kp0, (Xk 5 (Kd.int .u8) _ 40)⟩ (fun g2 ih2 => ?_))))))))))))))
 rintro x2 _ _ ⟨s3, _, vx2_0, rfl, rfl, Kx2, Ax2_0⟩
 unfold impl_hexText.b0
 refine sr (Xb rfl (dn (sq (cd rfl (fun h5 => ?_) (fun h5 => ?_)))))
 ·
  refine sk (sq (bl (sr ?_)))
  refine ix' (A0_0.kp Kx2) u22 z5 rfl (fun ad7 es7 h0_7 h1_7 he7 ce7 ia7 => ?_)
  obtain rfl := he7
  refine lc0' ce7 u5 rfl (Xb rfl (dn (zdraw [[], [], [1], [2], [], [4], [5], [3, 6], [0, 7], [8, 8, 0, 1, 2, 3, 4, 5, 6, 7, 8]] [some 12, some 13, some 14, some 15, some 16, some 17, some 18, some 19, some 20, some 3] [[3], [5], [13], [14], [5], [16], [17], [15, 18], [12, 19], [20]] [0, 1, 2, 3, 4, 5, 6, 7, 8, 9] ⟨by kernel_rfl, by kernel_rfl, by kernel_rfl⟩ (by kernel_rfl) (fun s9 p9 l9 tb9 zd9 => ?_))))
  refine mg fun hg13 => (mg fun hg17 => (zstep 7 [some 12] tb9 (((((((zd9.add 0 12 vx2_0 rfl).add 1 13 (.int .u8 (at_ a0 x2.2)) rfl).add 2 14 (.int .u8 (ishr .u8 (at_ a0 x2.2) (4 : Int))) rfl).add 3 15 (.int .u8 (at_ (bts (⟨#[48, 49, 50, 51, 52, 53, 54, 55, 56, 57, 97, 98, 99, 100, 101, 102]⟩ : ByteArray)) (ishr .u8 (at_ a0 x2.2) (4 : Int)))) rfl).add 4 16 (.int .u8 (at_ a0 x2.2)) rfl).add 5 17 (.int .u8 (iand .u8 (at_ a0 x2.2) (15 : Int))) rfl).add 6 18 (.int .u8 (at_ (bts (⟨#[48, 49, 50, 51, 52, 53, 54, 55, 56, 57, 97, 98, 99, 100, 101, 102]⟩ : ByteArray)) (iand .u8 (at_ a0 x2.2) (15 : Int)))) rfl) (Xc (sxi_q u9 hg17 rfl rfl rfl rfl rfl rfl rfl) rfl (Xc (pu_q' rfl) rfl (Xc (pu_q' rfl) rfl (Xc (sxi_q u9 hg13 rfl rfl rfl rfl rfl rfl rfl) rfl (Xc (shrK_q rfl rfl rfl rfl rfl rfl rfl rfl) rfl (Xc (pu_q' rfl) rfl (Xc (mv_q' vx2_0 rfl) rfl Xt))))))) (by kernel_rfl) rfl (fun l19 e19 zd19 => ?_)))
  refine ltF' (K := (Kd.int .u8)) (cells := [(.int .u8 (at_ (bts (⟨#[48, 49, 50, 51, 52, 53, 54, 55, 56, 57, 97, 98, 99, 100, 101, 102]⟩ : ByteArray)) (ishr .u8 (at_ a0 x2.2) (4 : Int)))), (.int .u8 (at_ (bts (⟨#[48, 49, 50, 51, 52, 53, 54, 55, 56, 57, 97, 98, 99, 100, 101, 102]⟩ : ByteArray)) (iand .u8 (at_ a0 x2.2) (15 : Int))))]) [(at_ (bts (⟨#[48, 49, 50, 51, 52, 53, 54, 55, 56, 57, 97, 98, 99, 100, 101, 102]⟩ : ByteArray)) (ishr .u8 (at_ a0 x2.2) (4 : Int))), (at_ (bts (⟨#[48, 49, 50, 51, 52, 53, 54, 55, 56, 57, 97, 98, 99, 100, 101, 102]⟩ : ByteArray)) (iand .u8 (at_ a0 x2.2) (15 : Int)))] 41 Xn u22 z5 o5 (fun w => (Xj _ _ _)) rfl rfl (fun v20 s20 p20 A20 => ?_)
  refine zdone (L' := [0]) (D' := [1, 2, 4, 5, 3, 6, 7]) zd19 rfl rfl rfl (fun zd22 => ?_)
  refine zfin [8, 9] tb9 zd22 (Xc (mv_q' vx2_0 rfl) rfl Xt) (by kernel_rfl) (by decide) (apF' Xn sl22 (Ax2_0.st (Xo p9 p20) rfl) A20.rd rfl (fun v24 s24 p24 A24 => ?_))
  refine Xq v24 rfl (dn (ib (rg (Xb rfl (Xb rfl (dn ?_))))))
  exact lb ih2 ⟨s24, _, v24, rfl, (ue (ue (ue (ue rfl rfl) rfl) rfl) rfl), (Kx2.st (tr3 p9 p20 p24) rfl), A24⟩
 exact xt rfl (sgb (sr (Xp vx2_0 rfl (b2s Ax2_0.rd u22 u9 u5 rfl rfl rfl rfl rfl rfl (Xb rfl (dn (re rfl func64 rfl (Xv rfl Xg) rfl ⟨_, rfl, rfl, z.ky Kx2⟩)))))))
def impl_bitsText.f (a0 : Nat) : Option (ByteArray) :=
 ((impl_FloatBits.f a0).bind fun r1 => ((impl_highFirst.f r1).bind fun r3 => ((impl_hexText.f r3).bind fun r6 => (some r6))))
def impl_bitsText.Q (w : World) (F : Nat → Prop) (r : ByteArray) (v : Value) (w' : World) : Prop :=
 v = (.string r) ∧ Ky [] w w'
theorem impl_bitsText.calls (a0 : Nat) (w : World) (F : Nat → Prop) (w0_0 : Value) (h0_0 : Kd.flt.rd w [w0_0] a0 F) (r : ByteArray) (m : impl_bitsText.f a0 = some r) :
  Calls prog 63 #[w0_0] w (RT (impl_bitsText.Q w F) r) := by
 obtain ⟨s0, rfl, kp0, z⟩ := Xm w F
 refine Xd (args := [w0_0]) func63 ntmps63 rfl rfl m ?_
 unfold impl_bitsText.f
 refine sr (Xb rfl (dn (sr (Xp w0_0 rfl (clV 40 rfl func88 rfl (impl_FloatBits.calls a0 s0.w (mm [] s0) w0_0 (Xh (s := s0) (fl_of h0_0))) (fun r1 s2 p2 n2 => ?_))))))
 refine clO 41 rfl func87 rfl (impl_highFirst.calls r1 s2.w (mm [] s2)) (fun r3 v3_0 s4 p4 A3_0 => ?_)
 refine clV 42 rfl func64 rfl (impl_hexText.calls r3 s4.w (mm [41] s4) v3_0 A3_0.rd) (fun r6 s7 p7 n7 => ?_)
 refine Xb rfl (dn ?_)
 exact re rfl func63 rfl (Xv rfl Xg) rfl ⟨_, rfl, rfl, z.ky (kp0.st (tr3 p2 p4 p7) rfl)⟩
def impl_itemText.f (a0 : Item) : Option (ByteArray) :=
 (if (a0.Kind == (1 : Int)) = true then ((strconv_Itoa.f a0.N).bind fun r6 => (if (⟨#[105]⟩ : ByteArray).size + r6.size ≤ Lim then (some ((⟨#[105]⟩ : ByteArray) ++ r6)) else none)) else (if (a0.Kind == (2 : Int)) = true then ((impl_bitsText.f a0.F).bind fun r10 => (if (⟨#[102]⟩ : ByteArray).size + r10.size ≤ Lim then (some ((⟨#[102]⟩ : ByteArray) ++ r10)) else none)) else (if (a0.Kind == (3 : Int)) = true then ((impl_hexText.f a0.T).bind fun r16 => (if (⟨#[116]⟩ : ByteArray).size + r16.size ≤ Lim then (some ((⟨#[116]⟩ : ByteArray) ++ r16)) else none)) else (some (⟨#[45]⟩ : ByteArray)))))
def impl_itemText.Q (w : World) (F : Nat → Prop) (r : ByteArray) (v : Value) (w' : World) : Prop :=
 v = (.string r) ∧ Ky [] w w'
theorem impl_itemText.calls (a0 : Item) (w : World) (F : Nat → Prop) (w0_0 : Value) (w0_1 : Value) (hG : GT.rd w [] () F) (h0_0 : Kd.flt.rd w [w0_0] a0.F F) (h0_1 : Xx.rd w [w0_1] a0.T F) (r : ByteArray) (m : impl_itemText.f a0 = some r) :
  Calls prog 27 #[(.agg #[(iI a0.Kind), (iI a0.N), w0_0, w0_1])] w (RT (impl_itemText.Q w F) r) := by
 obtain ⟨s0, rfl, kp0, z⟩ := Xm w F
 refine Xd (args := [(.agg #[(iI a0.Kind), (iI a0.N), w0_0, w0_1])]) func27 ntmps27 rfl rfl m ?_
 unfold impl_itemText.f
 refine sr (bx (cs := [(iI a0.Kind), (iI a0.N), w0_0, w0_1]) 40 rfl rfl rfl rfl rfl rfl (fun b2 s2 p2 B2 => ?_))
 refine Xb rfl (dn (sq (sr (Xs fa26_0 rfl (ld' B2 u3 rfl (dn (bl (sr (Xb rfl (Xb rfl (dn (cd rfl (fun h4 => ?_) (fun h4 => ?_)))))))))))))
 ·
  refine sr (Xs fa26_1 rfl (ld' B2 u3 rfl ?_))
  have K5 := kp0.st p2 rfl
  refine clV 41 rfl func62 rfl (strconv_Itoa.calls a0.N s2.w (mm [0] s2) ((z.rd hG).kp K5)) (fun r6 s7 p7 n7 => ?_)
  refine sad rfl rfl rfl rfl rfl rfl rfl (Xb rfl (dn ?_))
  exact re rfl func27 rfl (Xv rfl Xg) rfl ⟨_, rfl, rfl, z.ky (K5.st p7 rfl)⟩
 refine sr (Xb rfl (Xb rfl (dn (cd rfl (fun h9 => ?_) (fun h9 => ?_)))))
 ·
  refine sr (Xs fa26_2 rfl (ld' B2 u24 rfl (clV 42 rfl func63 rfl (impl_bitsText.calls a0.F s2.w (mm [] s2) w0_0 (Xh (s := s2) (fl_of h0_0))) (fun r10 s11 p11 n11 => ?_))))
  refine sad rfl rfl rfl rfl rfl rfl rfl (Xb rfl (dn ?_))
  exact re rfl func27 rfl (Xv rfl Xg) rfl ⟨_, rfl, rfl, z.ky (kp0.st (Xo p2 p11) rfl)⟩
 refine sr (Xb rfl (Xb rfl (dn (cd rfl (fun h13 => ?_) (fun h13 => ?_)))))
 ·
  refine sr (Xs fa26_3 rfl (ld' B2 u22 rfl ?_))
  have K14 := kp0.st p2 rfl
  refine clV 43 rfl func64 rfl (impl_hexText.calls a0.T s2.w (mm [0] s2) w0_1 ((z.rd h0_1).kp K14)) (fun r16 s17 p17 n17 => ?_)
  refine sad rfl rfl rfl rfl rfl rfl rfl (Xb rfl (dn ?_))
  exact re rfl func27 rfl (Xv rfl Xg) rfl ⟨_, rfl, rfl, z.ky (K14.st p17 rfl)⟩
 refine sk (ib (sr (Xb rfl (dn ?_))))
 exact re rfl func27 rfl (Xv rfl Xg) rfl ⟨_, rfl, rfl, z.ky (kp0.st p2 rfl)⟩
section
open Go.Shelf
shelf_lay LaysC.n172 Nm 172 at Tryz as lay_atoi
theorem bytes_ky (w : World) (e : TypeId) (t : ByteArray) : Ky [] w (Lib.bytesWorld w e t) := ⟨rfl, rfl, rfl, by rw [Lib.bytesWorld_size]; omega, fun b hb _ => Lib.bytesWorld_at_old w e t b hb⟩
def strconv_Atoi.f (a0 : ByteArray) : Option (Int × Bool) :=
  if a0.size ≤ Lim then some (match Lib.atoiAll a0.data.toList with
    | .ok v => (v, true)
    | .«syntax» => (0, false)
    | .range => (Lib.atoiSat a0.data.toList, false)) else none
def strconv_Atoi.Q (w : World) (F : Nat → Prop) (r : Int × Bool) (v : Value) (w' : World) : Prop := ∃ v0 : Value, v = .tuple #[.int .i64 r.1, v0] ∧ EV v0 r.2 ∧ Ky [] w w'
theorem strconv_Atoi.calls (a0 : ByteArray) (w : World) (F : Nat → Prop) (hG : GU.rd w [] () F) (r : Int × Bool) (m : strconv_Atoi.f a0 = some r) :
    Calls Tryz.prog 65 #[.string a0] w (RT (strconv_Atoi.Q w F) r) := by
  unfold strconv_Atoi.f at m
  split at m
  · rename_i hl
    unfold Lim at hl
    obtain ⟨_, ⟨_, ⟨t1, p1, hs⟩, ⟨t2, p2, hr⟩⟩, _⟩ := hG
    cases m
    cases h : Lib.atoiAll a0.data.toList with
    | ok v => exact Calls.mono (Any.strconv_Atoi_ok lay_atoi a0 (by omega) v h w) fun e w' ⟨he, hw⟩ => ⟨_, he, .nilIface, rfl, .inl ⟨rfl, rfl⟩, by
        rcases hw with hw | ⟨t, hw⟩
        · rw [hw]; exact Ky.refl w
        · rw [hw]; exact bytes_ky w _ t⟩
    | «syntax» => exact Calls.mono (Any.strconv_Atoi_syntax_var lay_atoi a0 (by omega) h t1 p1 w hs) fun e w' ⟨N, he, _, _, hb⟩ => ⟨_, he, _, rfl, .inr ⟨rfl, _, _, rfl⟩, Ky.of_below hb⟩
    | range => exact Calls.mono (Any.strconv_Atoi_range_var lay_atoi a0 (by omega) h t2 p2 w hr) fun e w' ⟨N, he, _, _, hb⟩ => ⟨_, he, _, rfl, .inr ⟨rfl, _, _, rfl⟩, Ky.of_below hb⟩
  · cases m
end

section
open Go.Shelf
shelf_lay Lays.n137 Nm 137 at Tryz as lay_indexbyte
def strings_IndexByte.f (a0 : ByteArray) (a1 : Int) : Option (Int) := some (Lib.indexByte a0.data.toList a1.toNat.toUInt8)
def strings_IndexByte.Q (w : World) (F : Nat → Prop) (r : Int) (v : Value) (w' : World) : Prop := v = (.int .i64 r) ∧ Ky [] w w'
theorem strings_IndexByte.calls (a0 : ByteArray) (a1 : Int) (w : World) (F : Nat → Prop) (r : Int) (m : strings_IndexByte.f a0 a1 = some r) :
    Calls Tryz.prog 91 #[.string a0, .int .u8 a1] w (RT (strings_IndexByte.Q w F) r) := by
  cases m
  exact Calls.mono (Any.strings_IndexByte lay_indexbyte a0 a1 w) fun e w' ⟨he, hw⟩ => ⟨_, he, rfl, by rw [hw]; exact Ky.refl w⟩
end

def impl_readHex.b0 (a0 : ByteArray) (x2 : (List Int) × Int) : Option (((List Int) × Int) ⊕ ((List Int) × Bool)) :=
 (if (decide (x2.2 < (a0.size : Int))) = true then (if 0 ≤ x2.2 ∧ x2.2 < (a0.size : Int) then (if 0 ≤ (IntKind.wrap .i64 (x2.2 + (1 : Int))) ∧ (IntKind.wrap .i64 (x2.2 + (1 : Int))) < (a0.size : Int) then ((strings_IndexByte.f (⟨#[48, 49, 50, 51, 52, 53, 54, 55, 56, 57, 97, 98, 99, 100, 101, 102]⟩ : ByteArray) (at_ (bts a0) x2.2)).bind fun r17 => ((strings_IndexByte.f (⟨#[48, 49, 50, 51, 52, 53, 54, 55, 56, 57, 97, 98, 99, 100, 101, 102]⟩ : ByteArray) (at_ (bts a0) (IntKind.wrap .i64 (x2.2 + (1 : Int))))).bind fun r20 => (if ((decide (r17 < (0 : Int))) || (decide (r20 < (0 : Int)))) = true then (some (Sum.inr (([] : (List Int)), false))) else (if x2.1.length + ([(IntKind.wrap .u8 (ior .i64 (ishl .i64 r17 (4 : Int)) r20))]).length ≤ Lim then (some (Sum.inl ((x2.1 ++ [(IntKind.wrap .u8 (ior .i64 (ishl .i64 r17 (4 : Int)) r20))]), (IntKind.wrap .i64 (x2.2 + (2 : Int)))))) else none)))) else none) else none) else ((some (x2.1, true)).bind fun o => some (Sum.inr o)))
def impl_readHex.f (a0 : ByteArray) : Option ((List Int) × Bool) :=
 (if (((a0.size : Int).tmod (2 : Int)) == (1 : Int)) = true then (some (([] : (List Int)), false)) else (iter (impl_readHex.b0 a0) (([] : (List Int)), (0 : Int))))
def impl_readHex.Q (w : World) (F : Nat → Prop) (r : (List Int) × Bool) (v : Value) (w' : World) : Prop :=
 ∃ (v0 : Value), v = .tuple #[v0, (.bool r.2)] ∧ FO Xx w w' [v0] r.1 ∧ Ky [] w w'
theorem impl_readHex.calls (a0 : ByteArray) (w : World) (F : Nat → Prop)   (r : (List Int) × Bool) (m : impl_readHex.f a0 = some r) :
  Calls prog 66 #[(.string a0)] w (RT (impl_readHex.Q w F) r) := by
 obtain ⟨s0, rfl, kp0, z⟩ := Xm w F
 refine Xd (args := [(.string a0)]) func66 ntmps66 rfl rfl m ?_
 unfold impl_readHex.f
 refine sr (Xb rfl (Xb rfl (dn (sq (sr (Xb rfl (lns u9 rfl rfl rfl rfl rfl rfl (remK rfl rfl rfl rfl rfl rfl rfl rfl (Xb rfl (dn (cd rfl (fun h1 => ?_) (fun h1 => ?_))))))))))))
 ·
  exact sr (Xb rfl (Xb rfl (dn (re rfl func66 rfl (Xv rfl (Xv rfl Xg)) rfl ⟨_, rfl, (.slice none 0 0), rfl, (Xk 5 (Kd.int .u8) s0 40).fo kp0 rfl z.l, z.ky kp0⟩))))
 refine sk (sr (Xb rfl (dn (sq (sr (Xb rfl (dn (bl (lpI (fun (x2 : (List Int) × Int) e w => ∃ (s : St) (e0 : Env) (vx2_0 : Value), w = s.w ∧ e = upd (upd (upd e0 0 (.string a0)) 4 vx2_0) 5 (iI x2.2) ∧ Kp s0 s ∧ OwF Xx s [vx2_0] x2.1 40) ⟨s0, _, (.slice none 0 0), rfl, (ue (ue (ue rfl rfl) rfl) rfl), kp0, (Xk 5 (Kd.int .u8) _ 40)⟩ (fun g2 ih2 => ?_))))))))))
 rintro x2 _ _ ⟨s3, _, vx2_0, rfl, rfl, Kx2, Ax2_0⟩
 unfold impl_readHex.b0
 refine sq (sr (Xb rfl (Xb rfl (lns u9 rfl rfl rfl rfl rfl rfl (Xb rfl (dn (cd rfl (fun h5 => ?_) (fun h5 => ?_))))))))
 ·
  refine sk (sq (bl (sq (zdraw [[], [], [0, 1], [2], [], [], [5], [4, 6], [7, 3], [3, 8, 0, 1, 2, 3], [8, 9, 0, 1, 2, 3, 4, 5, 6, 7, 8, 9]] [some 18, some 19, some 20, some 21, some 22, some 23, some 24, some 25, some 26, some 6, some 7] [[0], [5], [18, 19], [20], [0], [5], [23], [22, 24], [25], [21], [26]] [0, 1, 2, 3, 4, 5, 6, 7, 8, 9, 10] ⟨by kernel_rfl, by kernel_rfl, by kernel_rfl⟩ (by kernel_rfl) (fun s6 p6 l6 tb6 zd6 => ?_)))))
  refine mg fun hg9 => (mg fun hg14 => (zstep 3 [some 25, some 24, some 23, some 22] tb6 (((((((zd6.add 0 18 (.string a0) rfl).add 1 19 (iI x2.2) rfl).add 2 20 (.int .u8 (at_ (bts a0) x2.2)) rfl).add 4 22 (.string a0) rfl).add 5 23 (iI x2.2) rfl).add 6 24 (iI (IntKind.wrap .i64 (x2.2 + (1 : Int)))) rfl).add 7 25 (.int .u8 (at_ (bts a0) (IntKind.wrap .i64 (x2.2 + (1 : Int))))) rfl) (Xc (sxi_q u9 hg14 rfl rfl rfl rfl rfl rfl rfl) rfl (Xc (pu_q' rfl) rfl (Xc (pu_q' rfl) rfl (Xc (pu_q' rfl) rfl (Xc (sxi_q u9 hg9 rfl rfl rfl rfl rfl rfl rfl) rfl (Xc (pu_q' rfl) rfl (Xc (pu_q' rfl) rfl Xt))))))) (by kernel_rfl) rfl (fun l16 e16 zd16 => ?_)))
  refine clV 41 rfl func91 rfl (strings_IndexByte.calls (⟨#[48, 49, 50, 51, 52, 53, 54, 55, 56, 57, 97, 98, 99, 100, 101, 102]⟩ : ByteArray) (at_ (bts a0) x2.2) s6.w (mm [] s6)) (fun r17 s18 p18 n18 => ?_)
  refine zdone (L' := [7, 6, 5, 4]) (D' := [0, 1, 2, 3]) zd16 rfl rfl rfl (fun zd19 => ?_)
  refine zfin [8, 9, 10] tb6 zd19 (Xc (sxi_q u9 hg14 rfl rfl rfl rfl rfl rfl rfl) rfl (Xc (pu_q' rfl) rfl (Xc (pu_q' rfl) rfl (Xc (pu_q' rfl) rfl Xt)))) (by kernel_rfl) (by decide) (clV 42 rfl func91 rfl (strings_IndexByte.calls (⟨#[48, 49, 50, 51, 52, 53, 54, 55, 56, 57, 97, 98, 99, 100, 101, 102]⟩ : ByteArray) (at_ (bts a0) (IntKind.wrap .i64 (x2.2 + (1 : Int)))) s18.w (mm [] s18)) (fun r20 s21 p21 n21 => ?_))
  refine Xb rfl (Xb rfl (dn (sq (sr (Xb rfl (Xb rfl (Xb rfl (jy [29, 30, 31, 32] [] 32 (.bool ((decide (r17 < (0 : Int))) || (decide (r20 < (0 : Int))))) rfl (fun Kg22 => ?_) (fun j22 => ?_)))))))))
  ·
   rcases bft (decide (r17 < (0 : Int))) with hb22 | hb22
   ·
    exact sbT hb22 (Xi rfl (Xi rfl (Xb rfl (Kg22 _ (Ag.put ((Ag.put ((Ag.put (Ag.base rfl) rfl)) rfl)) rfl) (by rw [hb22]; rfl)))))
   exact sbT hb22 (Xb rfl (Xb rfl (Xb rfl (Kg22 _ (Ag.put ((Ag.put ((Ag.put (Ag.base rfl) rfl)) rfl)) rfl) (by rw [hb22]; rfl)))))
  refine dn (cd rfl (fun h23 => ?_) (fun h23 => ?_))
  ·
   refine sr (Xb rfl (Xb rfl (dn (sgi ?_))))
   have K24 := Kx2.st (tr3 p6 p18 p21) rfl
   exact re rfl func66 rfl (Xv rfl (Xv rfl Xg)) rfl ⟨_, rfl, (.slice none 0 0), rfl, (Xk 5 (Kd.int .u8) s21 40).fo K24 rfl z.l, z.ky K24⟩
  refine sk (rg (Xp vx2_0 rfl (Xb rfl (shlK rfl rfl rfl rfl rfl rfl rfl rfl (Xb rfl (Xb rfl (cv u5 u3 rfl rfl rfl rfl rfl rfl (ltF' (K := (Kd.int .u8)) (cells := [(.int .u8 (IntKind.wrap .u8 (ior .i64 (ishl .i64 r17 (4 : Int)) r20)))]) [(IntKind.wrap .u8 (ior .i64 (ishl .i64 r17 (4 : Int)) r20))] 43 Xn u22 z5 o5 (fun w => (Xj _ _ _)) rfl rfl (fun v25 s25 p25 A25 => ?_)))))))))
  refine apF' Xn sl22 (Ax2_0.st (tr4 p6 p18 p21 p25) rfl) A25.rd rfl (fun v28 s28 p28 A28 => ?_)
  refine Xq v28 rfl (dn (ib (rg (Xb rfl (Xb rfl (Xb rfl (dn ?_)))))))
  exact lb ih2 ⟨s28, _, v28, rfl, (ue (ue (ue rfl rfl) rfl) rfl), (Kx2.st (tr5 p6 p18 p21 p25 p28) rfl), A28⟩
 exact xt rfl (sgb (sr (Xp vx2_0 rfl (Xq vx2_0 rfl (Xb rfl (dn (re rfl func66 rfl (Xv rfl (Xv rfl Xg)) rfl ⟨_, rfl, vx2_0, rfl, Ax2_0.fo Kx2 rfl z.l, z.ky Kx2⟩)))))))
def impl_fromHigh.b0 (a0 : (List Int)) (x2 : Int × Int) : Option ((Int × Int) ⊕ Int) :=
 (if (decide (x2.2 < (a0.length : Int))) = true then (if 0 ≤ x2.2 ∧ x2.2 < (a0.length : Int) then (some (Sum.inl ((ior .u64 (ishl .u64 x2.1 (8 : Int)) (IntKind.wrap .u64 (at_ a0 x2.2))), (IntKind.wrap .i64 (x2.2 + (1 : Int)))))) else none) else ((some x2.1).bind fun o => some (Sum.inr o)))
def impl_fromHigh.f (a0 : (List Int)) : Option (Int) :=
 (iter (impl_fromHigh.b0 a0) ((0 : Int), (0 : Int)))
def impl_fromHigh.Q (w : World) (F : Nat → Prop) (r : Int) (v : Value) (w' : World) : Prop :=
 v = (.int .u64 r) ∧ Ky [] w w'
theorem impl_fromHigh.calls (a0 : (List Int)) (w : World) (F : Nat → Prop) (w0_0 : Value) (h0_0 : Xx.rd w [w0_0] a0 F) (r : Int) (m : impl_fromHigh.f a0 = some r) :
  Calls prog 68 #[w0_0] w (RT (impl_fromHigh.Q w F) r) := by
 obtain ⟨s0, rfl, kp0, z⟩ := Xm w F
 have A0_0 := z.rd h0_0
 refine Xd (args := [w0_0]) func68 ntmps68 rfl rfl m ?_
 unfold impl_fromHigh.f
 refine sr (Xb rfl (dn (sr (Xb rfl (dn (sq (sr (Xp w0_0 rfl (ln' A0_0 u22 rfl (Xb rfl (dn (bl (lpI (fun (x2 : Int × Int) e w => ∃ (s : St) (e0 : Env), w = s.w ∧ e = upd (upd (upd (upd e0 3 (.int .u64 x2.1)) 6 w0_0) 7 (iI (a0.length : Int))) 8 (iI x2.2) ∧ Kp s0 s) ⟨s0, _, rfl, (ue (ue (ue (ue rfl rfl) rfl) rfl) rfl), kp0⟩ (fun g2 ih2 => ?_))))))))))))))
 rintro x2 _ _ ⟨s3, _, rfl, rfl, Kx2⟩
 unfold impl_fromHigh.b0
 refine sr (Xb rfl (dn (sq (cd rfl (fun h4 => ?_) (fun h4 => ?_)))))
 ·
  refine sk (sq (bl (sr ?_)))
  refine ix' (A0_0.kp Kx2) u22 z5 rfl (fun ad6 es6 h0_6 h1_6 he6 ce6 ia6 => ?_)
  obtain rfl := he6
  refine lc0' ce6 u5 rfl (Xb rfl (dn (rg (Xb rfl (shlK rfl rfl rfl rfl rfl rfl rfl rfl (Xb rfl (cv u53 u5 rfl rfl rfl rfl rfl rfl (Xb rfl (Xb rfl (dn (ib (rg (Xb rfl (Xb rfl ?_))))))))))))))
  exact dn (lb ih2 ⟨s3, _, rfl, (ue (ue (ue (ue rfl rfl) rfl) rfl) rfl), Kx2⟩)
 exact xt rfl (sgb (sr (Xb rfl (Xb rfl (dn (re rfl func68 rfl (Xv rfl Xg) rfl ⟨_, rfl, rfl, z.ky Kx2⟩))))))
def impl_FloatOf.f (a0 : Int) : Option (Nat) :=
 (some (cn (a0).toNat))
def impl_FloatOf.Q (w : World) (F : Nat → Prop) (r : Nat) (v : Value) (w' : World) : Prop :=
 FL v r ∧ Ky [] w w'
theorem impl_FloatOf.calls (a0 : Int) (w : World) (F : Nat → Prop)   (r : Nat) (m : impl_FloatOf.f a0 = some r) :
  Calls prog 67 #[(.int .u64 a0)] w (RT (impl_FloatOf.Q w F) r) := by
 obtain ⟨s0, rfl, kp0, z⟩ := Xm w F
 refine Xd (args := [(.int .u64 a0)]) func67 ntmps67 rfl rfl m ?_
 unfold impl_FloatOf.f
 refine sr (Xq (.float .f64 0) rfl (dn (sr (Xb rfl (ffb rfl rfl rfl rfl rfl func92 rfl rfl xn92 xf92 rfl (fun v1 A1 => ?_))))))
 exact Xq v1 rfl (dn (re rfl func67 rfl (Xv rfl Xg) rfl ⟨_, rfl, A1, z.ky kp0⟩))
def impl_readText.f (a0 : ByteArray) : Option (Item × Bool) :=
 (if (a0.toList == (⟨#[]⟩ : ByteArray).toList) = true then (some ((Item.mk (0 : Int) (0 : Int) (0 : Nat) ([] : (List Int))), false)) else (if 0 ≤ (1 : Int) ∧ (1 : Int) ≤ (a0.size : Int) ∧ (a0.size : Int) ≤ (a0.size : Int) then (if 0 ≤ (0 : Int) ∧ (0 : Int) < (a0.size : Int) then ((if ((at_ (bts a0) (0 : Int)) == (105 : Int)) = true then ((strconv_Atoi.f (ByteArray.extract a0 ((1 : Int)).toNat ((a0.size : Int)).toNat)).bind fun r15 => (if (!r15.2) = true then (some (Sum.inr ((Item.mk (0 : Int) (0 : Int) (0 : Nat) ([] : (List Int))), false))) else (some (Sum.inl ((1 : Int), r15.1, (0 : Nat), ([] : (List Int))))))) else ((if ((at_ (bts a0) (0 : Int)) == (102 : Int)) = true then (some ((at_ (bts a0) (0 : Int)) == (102 : Int))) else (some ((at_ (bts a0) (0 : Int)) == (116 : Int)))).bind fun y29 => ((if y29 = true then ((impl_readHex.f (ByteArray.extract a0 ((1 : Int)).toNat ((a0.size : Int)).toNat)).bind fun r40 => ((if (!r40.2) = true then (some true) else (if 0 ≤ (0 : Int) ∧ (0 : Int) < (a0.size : Int) then (some (((at_ (bts a0) (0 : Int)) == (102 : Int)) && ((r40.1.length : Int) != (8 : Int)))) else none)).bind fun y43 => (if y43 = true then (some (Sum.inr (Sum.inr ((Item.mk (0 : Int) (0 : Int) (0 : Nat) ([] : (List Int))), false)))) else (if 0 ≤ (0 : Int) ∧ (0 : Int) < (a0.size : Int) then ((if ((at_ (bts a0) (0 : Int)) == (102 : Int)) = true then ((impl_fromHigh.f r40.1).bind fun r65 => ((impl_FloatOf.f r65).bind fun r67 => (some ((2 : Int), r67, ([] : (List Int)))))) else (some ((3 : Int), (0 : Nat), r40.1))).bind fun y62 => (some (Sum.inl (y62.1, y62.2.1, y62.2.2)))) else none)))) else (some (Sum.inl ((0 : Int), (0 : Nat), ([] : (List Int)))))).bind (sel fun y38 => (some (Sum.inl (y38.1, (0 : Int), y38.2.1, y38.2.2))))))).bind (sel fun y12 => ((impl_ItemOk.f (Item.mk y12.1 y12.2.1 y12.2.2.1 y12.2.2.2)).bind fun r93 => ((if (!r93) = true then (some true) else ((impl_itemText.f (Item.mk y12.1 y12.2.1 y12.2.2.1 y12.2.2.2)).bind fun r103 => (some (!(r103.toList == a0.toList))))).bind fun y95 => (if y95 = true then (some ((Item.mk (0 : Int) (0 : Int) (0 : Nat) ([] : (List Int))), false)) else (some ((Item.mk y12.1 y12.2.1 y12.2.2.1 y12.2.2.2), true))))))) else none) else none))
def impl_readText.Q (w : World) (F : Nat → Prop) (r : Item × Bool) (v : Value) (w' : World) : Prop :=
 ∃ (v0 : Value) (v1 : Value), v = .tuple #[(.agg #[(iI r.1.Kind), (iI r.1.N), v0, v1]), (.bool r.2)] ∧ FO kd26 w w' [(iI r.1.Kind), (iI r.1.N), v0, v1] r.1 ∧ Ky [] w w'
theorem impl_readText.calls (a0 : ByteArray) (w : World) (F : Nat → Prop)  (hG : GU.rd w [] () F) (r : Item × Bool) (m : impl_readText.f a0 = some r) :
  Calls prog 28 #[(.string a0)] w (RT (impl_readText.Q w F) r) := by
 obtain ⟨s0, rfl, kp0, z⟩ := Xm w F
 have AG := z.rd hG
 refine Xd (args := [(.string a0)]) func28 ntmps28 rfl rfl m ?_
 unfold impl_readText.f
 refine sr (al (cs := [(iI 0), (iI 0), (.float .f64 0), (.slice none 0 0)]) 40 rfl rfl rfl rfl rfl o26 rfl (fun b1 s1 p1 B1 => ?_))
 refine Xb rfl (dn (sr (al (cs := [(iI 0), (iI 0), (.float .f64 0), (.slice none 0 0)]) 41 rfl rfl rfl rfl rfl o26 rfl (fun b3 s3 p3 B3 => ?_))))
 refine dn (sq (sr (Xb rfl (Xb rfl (dn (cd rfl (fun h5 => ?_) (fun h5 => ?_)))))))
 ·
  refine sr (bd (cells := [(iI 0), (iI 0), (.float .f64 0), (.slice none 0 0)]) pl26 o26 rfl rfl rfl rfl rfl rfl ?_)
  refine sva' (vs := [(iI 0), (iI 0), (.float .f64 0), (.slice none 0 0)]) (B1.st p3 rfl) z26 rfl (Xa rfl (Xa rfl (Xa (FL.one (Xl rfl)) (Xa rfl Xr)))) rfl (fun s7 p7 B7 => ?_)
  refine Xb rfl (dn ?_)
  have A9 : OwF kd26 s7 [(iI 0), (iI 0), (.float .f64 0), (.slice none 0 0)] (Item.mk (0 : Int) (0 : Int) (0 : Nat) ([] : (List Int))) 42 := ow_z _ _ (fz_iso (fun x : Item => (x.Kind, x.N, x.F, x.T)) (Item.mk (0 : Int) (0 : Int) (0 : Nat) ([] : (List Int))) (Xe (Xf .i64 (0 : Int)) (Xe (Xf .i64 (0 : Int)) (Xe (Xu (Xl rfl)) (fz_nil 5 (Kd.int .u8))))))
  have K11 := kp0.st (tr3 p1 p3 p7) rfl
  exact re rfl func28 rfl (r_b B7 u26 rfl z26 rfl (Xv rfl Xg)) rfl ⟨_, rfl, (.float .f64 0), (.slice none 0 0), rfl, A9.fo K11 rfl z.l, z.ky K11⟩
 refine sk (sr (Xb rfl (sct (1 : Int) (a0.size : Int) u9 rfl rfl rfl rfl rfl rfl (.inr ⟨_, _, rfl, rfl⟩) (.inl ⟨rfl, rfl⟩) (Xb rfl (dn (sq (sr (Xb rfl (sxi u9 rfl rfl rfl rfl rfl rfl rfl (dn (bl (sr (Xb rfl (Xb rfl ?_))))))))))))))
 refine dn (jr (fun (y12 : Int × Int × Nat × (List Int)) e w => ∃ (s : St) (e0 : Env) (vy12_0 uy12_0 : Value), w = s.w ∧ e = upd (upd (upd e0 0 (.string a0)) 2 (pB b1)) 4 (pB b3) ∧ Kp s0 s ∧ OwF Xx s [vy12_0] y12.2.2.2 44 ∧ FL uy12_0 y12.2.2.1 ∧ BlF s b3 26 [(iI y12.1), (iI y12.2.1), uy12_0, vy12_0] 41 ∧ BlF s b1 26 [(iI 0), (iI 0), (.float .f64 0), (.slice none 0 0)] 40) (fun Gj12 Kj12 hG12 => ?_) ?_)
 ·
  refine cd rfl (fun h13 => ?_) (fun h13 => ?_)
  ·
   refine sr (Xb rfl ?_)
   have K14 := kp0.st (Xo p1 p3) rfl
   refine cl' rfl func65 rfl (strconv_Atoi.calls (ByteArray.extract a0 ((1 : Int)).toNat ((a0.size : Int)).toNat) s3.w (mm [0] s3) (AG.kp K14)) ?_
   rintro r15 _ w15 m15 ⟨v15_0, rfl, f15_0, ky15⟩
   obtain ⟨s16, rfl, p16, n16⟩ := nwx s3 w15 43 ky15
   refine Xb rfl (Xb (v := (iI r15.1)) rfl (Xb (v := v15_0) rfl (Xb rfl (Xq v15_0 rfl (dn (sq (sr (Xp v15_0 rfl (ernon f15_0 u87 rfl rfl rfl rfl rfl rfl rfl (dn (cd rfl (fun h17 => ?_) (fun h17 => ?_))))))))))))
   ·
    refine sr (bd (cells := [(iI 0), (iI 0), (.float .f64 0), (.slice none 0 0)]) pl26 o26 rfl rfl rfl rfl rfl rfl ?_)
    refine sva' (vs := [(iI 0), (iI 0), (.float .f64 0), (.slice none 0 0)]) (B1.st (Xo p3 p16) rfl) z26 rfl (Xa rfl (Xa rfl (Xa (FL.one (Xl rfl)) (Xa rfl Xr)))) rfl (fun s19 p19 B19 => ?_)
    refine Xb rfl (dn (jri hG12 ?_))
    have A21 : OwF kd26 s19 [(iI 0), (iI 0), (.float .f64 0), (.slice none 0 0)] (Item.mk (0 : Int) (0 : Int) (0 : Nat) ([] : (List Int))) 44 := ow_z _ _ (fz_iso (fun x : Item => (x.Kind, x.N, x.F, x.T)) (Item.mk (0 : Int) (0 : Int) (0 : Nat) ([] : (List Int))) (Xe (Xf .i64 (0 : Int)) (Xe (Xf .i64 (0 : Int)) (Xe (Xu (Xl rfl)) (fz_nil 5 (Kd.int .u8))))))
    have K23 := K14.st (Xo p16 p19) rfl
    exact re rfl func28 rfl (r_b B19 u26 rfl z26 rfl (Xv rfl Xg)) rfl ⟨_, rfl, (.float .f64 0), (.slice none 0 0), rfl, A21.fo K23 rfl z.l, z.ky K23⟩
   refine sk (rg (Xb rfl (bd (cells := [(iI 1), (iI r15.1), (.float .f64 0), (.slice none 0 0)]) pl26 o26 rfl rfl rfl rfl rfl rfl ?_)))
   refine sva' (vs := [(iI 1), (iI r15.1), (.float .f64 0), (.slice none 0 0)]) (B3.st p16 rfl) z26 rfl (Xa rfl (Xa rfl (Xa (FL.one (Xl rfl)) (Xa rfl Xr)))) rfl (fun s25 p25 B25 => ?_)
   exact dn (Kj12 _ _ _ ⟨s25, _, (.slice none 0 0), (.float .f64 0), rfl, (ue (ue (ue rfl rfl) rfl) rfl), (K14.st (Xo p16 p25) rfl), (Xk 5 (Kd.int .u8) _ 44), (Xl rfl), B25, (B1.st (tr3 p3 p16 p25) rfl)⟩)
  refine sq (sr (Xb rfl (Xb rfl (dn (jc (fun (y29 : Bool) e w => ∃ (s : St) (e0 : Env), w = s.w ∧ e = upd (upd (upd (upd (upd e0 0 (.string a0)) 2 (pB b1)) 4 (pB b3)) 5 (.string (ByteArray.extract a0 ((1 : Int)).toNat ((a0.size : Int)).toNat))) 29 (.bool y29) ∧ Kp s0 s ∧ BlF s b3 26 [(iI 0), (iI 0), (.float .f64 0), (.slice none 0 0)] 41 ∧ BlF s b1 26 [(iI 0), (iI 0), (.float .f64 0), (.slice none 0 0)] 40) (fun Gj29 Kj29 => ?_) ?_)))))
  ·
   refine cd rfl (fun h30 => ?_) (fun h30 => ?_)
   ·
    exact sk (Kj29 _ _ _ ⟨s3, _, rfl, (ue (ue (ue (ue (ue rfl rfl) rfl) rfl) rfl) rfl), (kp0.st (Xo p1 p3) rfl), B3, (B1.st p3 rfl)⟩)
   refine rg (Xb rfl (Xb rfl (dn ?_)))
   exact Kj29 _ _ _ ⟨s3, _, rfl, (ue (ue (ue (ue (ue rfl rfl) rfl) rfl) rfl) rfl), (kp0.st (Xo p1 p3) rfl), B3, (B1.st p3 rfl)⟩
  rintro y29 _ _ ⟨s35, _, rfl, rfl, Ky29, By29_b3, By29_b1⟩
  refine jr (fun (y38 : Int × Nat × (List Int)) e w => ∃ (s : St) (e0 : Env) (vy38_0 uy38_0 : Value), w = s.w ∧ e = upd (upd (upd e0 0 (.string a0)) 2 (pB b1)) 4 (pB b3) ∧ Kp s0 s ∧ OwF Xx s [vy38_0] y38.2.2 45 ∧ FL uy38_0 y38.2.1 ∧ BlF s b3 26 [(iI y38.1), (iI 0), uy38_0, vy38_0] 41 ∧ BlF s b1 26 [(iI 0), (iI 0), (.float .f64 0), (.slice none 0 0)] 40) (fun Gj38 Kj38 hG38 => ?_) ?_
  ·
   refine cd rfl (fun h39 => ?_) (fun h39 => ?_)
   ·
    refine sr (Xb rfl (cl' rfl func66 rfl (impl_readHex.calls (ByteArray.extract a0 ((1 : Int)).toNat ((a0.size : Int)).toNat) s35.w (mm [] s35)) ?_))
    rintro r40 _ w40 m40 ⟨v40_0, rfl, f40_0, ky40⟩
    obtain ⟨s41, rfl, p41, n41⟩ := nwx s35 w40 45 ky40
    have A40_0 := f40_0.c n41
    refine Xb rfl (Xb (v := v40_0) rfl (Xb (v := (.bool r40.2)) rfl (Xq v40_0 rfl (Xb rfl (dn (sq (sr (Xb rfl (Xb rfl (Xb rfl (ji [] (fun (y43 : Bool) e w => ∃ (s : St) (e0 : Env), w = s.w ∧ e = upd (upd (upd (upd (upd e0 0 (.string a0)) 2 (pB b1)) 4 (pB b3)) 8 v40_0) 48 (.bool y43) ∧ Kp s0 s ∧ BlF s b3 26 [(iI 0), (iI 0), (.float .f64 0), (.slice none 0 0)] 41 ∧ BlF s b1 26 [(iI 0), (iI 0), (.float .f64 0), (.slice none 0 0)] 40 ∧ OwF Xx s [v40_0] r40.1 45) (fun Gj43 Kj43 => ?_) ?_)))))))))))
    ·
     rcases bft (!r40.2) with hb43 | hb43
     ·
      refine sbT hb43 ?_
      rw [if_pos hb43]
      refine Xi rfl (Xi rfl (Xi rfl (Xi rfl (Xi rfl (Xi rfl (Xi rfl (Xi rfl (Xb rfl ?_))))))))
      exact Kj43 _ _ _ ⟨s41, _, rfl, (ue (ue (ue (ue (ue rfl rfl) rfl) rfl) rfl) rfl), (Ky29.st p41 rfl), (By29_b3.st p41 rfl), (By29_b1.st p41 rfl), A40_0⟩
     refine sbT hb43 ?_
     rw [if_neg (by rw [hb43]; decide)]
     refine Xb rfl (sxi u9 rfl rfl rfl rfl rfl rfl rfl (Xb rfl (Xb rfl (jy [43, 44, 45, 46, 47] [11] 47 (.bool (((at_ (bts a0) (0 : Int)) == (102 : Int)) && ((r40.1.length : Int) != (8 : Int)))) rfl (fun Kg47 => ?_) (fun j47 => ?_)))))
     ·
      rcases bft ((at_ (bts a0) (0 : Int)) == (102 : Int)) with hb47 | hb47
      ·
       exact sbT hb47 (Xp v40_0 rfl (ln' A40_0.rd u22 rfl (Xb rfl (Xb rfl (Kg47 _ (Ag.put ((Ag.put ((Ag.put ((Ag.put (Ag.base rfl) rfl)) rfl)) rfl)) rfl) (by rw [hb47]; rfl))))))
      exact sbT hb47 (Xi rfl (Xi rfl (Xi rfl (Xb rfl (Kg47 _ (Ag.put ((Ag.put ((Ag.put ((Ag.put (Ag.base rfl) rfl)) rfl)) rfl)) rfl) (by rw [hb47]; rfl))))))
     exact Xb rfl (Kj43 _ _ _ ⟨s41, _, rfl, (ue (ue (ue (ue (ue rfl rfl) rfl) rfl) rfl) rfl), (Ky29.st p41 rfl), (By29_b3.st p41 rfl), (By29_b1.st p41 rfl), A40_0⟩)
    rintro y43 _ _ ⟨s51, _, rfl, rfl, Ky43, By43_b3, By43_b1, Cy43_42⟩
    refine dn (cd rfl (fun h54 => ?_) (fun h54 => ?_))
    ·
     refine sr (bd (cells := [(iI 0), (iI 0), (.float .f64 0), (.slice none 0 0)]) pl26 o26 rfl rfl rfl rfl rfl rfl (sva' (vs := [(iI 0), (iI 0), (.float .f64 0), (.slice none 0 0)]) By43_b1 z26 rfl (Xa rfl (Xa rfl (Xa (FL.one (Xl rfl)) (Xa rfl Xr)))) rfl (fun s55 p55 B55 => ?_)))
     refine Xb rfl (dn (jri hG38 (jri hG12 ?_)))
     have A57 : OwF kd26 s55 [(iI 0), (iI 0), (.float .f64 0), (.slice none 0 0)] (Item.mk (0 : Int) (0 : Int) (0 : Nat) ([] : (List Int))) 46 := ow_z _ _ (fz_iso (fun x : Item => (x.Kind, x.N, x.F, x.T)) (Item.mk (0 : Int) (0 : Int) (0 : Nat) ([] : (List Int))) (Xe (Xf .i64 (0 : Int)) (Xe (Xf .i64 (0 : Int)) (Xe (Xu (Xl rfl)) (fz_nil 5 (Kd.int .u8))))))
     have K59 := Ky43.st p55 rfl
     exact re rfl func28 rfl (r_b B55 u26 rfl z26 rfl (Xv rfl Xg)) rfl ⟨_, rfl, (.float .f64 0), (.slice none 0 0), rfl, A57.fo K59 rfl z.l, z.ky K59⟩
    refine sk (sr (Xp v40_0 rfl (bd (cells := [(iI 3), (iI 0), (.float .f64 0), v40_0]) pl26 o26 rfl rfl rfl rfl rfl (lfill_pc (pc_c rfl (pc_c (oc Cy43_42.rd.one) pc_n)) rfl) (sva' (vs := [(iI 3), (iI 0), (.float .f64 0), v40_0]) By43_b3 z26 rfl (Xa rfl (Xa rfl (Xa (FL.one (Xl rfl)) (Xa Cy43_42.rd.one Xr)))) rfl (fun s60 p60 B60 => ?_)))))
    refine dn (sr (Xb rfl (sxi u9 rfl rfl rfl rfl rfl rfl rfl (Xb rfl (dn (jc (fun (y62 : Int × Nat × (List Int)) e w => ∃ (s : St) (e0 : Env) (vy62_0 uy62_0 : Value), w = s.w ∧ e = upd (upd (upd e0 0 (.string a0)) 2 (pB b1)) 4 (pB b3) ∧ Kp s0 s ∧ OwF Xx s [vy62_0] y62.2.2 45 ∧ FL uy62_0 y62.2.1 ∧ BlF s b3 26 [(iI y62.1), (iI 0), uy62_0, vy62_0] 41 ∧ BlF s b1 26 [(iI 0), (iI 0), (.float .f64 0), (.slice none 0 0)] 40) (fun Gj62 Kj62 => ?_) ?_))))))
    ·
     refine cd rfl (fun h63 => ?_) (fun h63 => ?_)
     ·
      refine rg (Xp v40_0 rfl ?_)
      refine clV 47 rfl func68 rfl (impl_fromHigh.calls r40.1 s60.w (mm [45] s60) v40_0 (Cy43_42.st p60 rfl).rd) (fun r65 s66 p66 n66 => ?_)
      refine cl' rfl func67 rfl (impl_FloatOf.calls r65 s66.w (mm [] s66)) ?_
      rintro r67 v67_0 w67 m67 ⟨f67_0, ky67⟩
      obtain ⟨s68, rfl, p68, n68⟩ := nwx s66 w67 48 ky67
      refine bd (cells := [(iI 2), (iI 0), v67_0, (.slice none 0 0)]) pl26 o26 rfl rfl rfl rfl rfl (lfill_pc (pc_c rfl (pc_c (oc (FL.one f67_0)) pc_n)) rfl) (sva' (vs := [(iI 2), (iI 0), v67_0, (.slice none 0 0)]) (B60.st (Xo p66 p68) rfl) z26 rfl (Xa rfl (Xa rfl (Xa (FL.one f67_0) (Xa rfl Xr)))) rfl (fun s70 p70 B70 => ?_))
      exact dn (Kj62 _ _ _ ⟨s70, _, (.slice none 0 0), v67_0, rfl, (ue (ue (ue rfl rfl) rfl) rfl), (Ky43.st (tr4 p60 p66 p68 p70) rfl), (Xk 5 (Kd.int .u8) _ 45), f67_0, B70, (By43_b1.st (tr4 p60 p66 p68 p70) rfl)⟩)
     exact sk (Kj62 _ _ _ ⟨s60, _, v40_0, (.float .f64 0), rfl, (ue (ue (ue rfl rfl) rfl) rfl), (Ky43.st p60 rfl), (Cy43_42.st p60 rfl), (Xl rfl), B60, (By43_b1.st p60 rfl)⟩)
    rintro y62 _ _ ⟨s77, _, vy62_0, uy62_0, rfl, rfl, Ky62, Ay62_0, Fy62_0, By62_b3, By62_b1⟩
    exact Kj38 _ _ _ ⟨s77, _, vy62_0, uy62_0, rfl, (ue (ue (ue rfl rfl) rfl) rfl), Ky62, Ay62_0, Fy62_0, By62_b3, By62_b1⟩
   exact sk (Kj38 _ _ _ ⟨s35, _, (.slice none 0 0), (.float .f64 0), rfl, (ue (ue (ue rfl rfl) rfl) rfl), Ky29, (Xk 5 (Kd.int .u8) _ 45), (Xl rfl), By29_b3, By29_b1⟩)
  rintro y38 _ _ ⟨s81, _, vy38_0, uy38_0, rfl, rfl, Ky38, Ay38_0, Fy38_0, By38_b3, By38_b1⟩
  obtain ⟨s85, hw85, p85, A85⟩ := Ay38_0.rc 44 rfl
  rw [hw85]
  exact Kj12 _ _ _ ⟨s85, _, vy38_0, uy38_0, rfl, (ue (ue (ue rfl rfl) rfl) rfl), (Ky38.st p85 rfl), A85, Fy38_0, (By38_b3.st p85 rfl), (By38_b1.st p85 rfl)⟩
 rintro y12 _ _ ⟨s89, _, vy12_0, uy12_0, rfl, rfl, Ky12, Ay12_0, Fy12_0, By12_b3, By12_b1⟩
 refine ib (sq (sr (Xw (es := [(iI y12.1), (iI y12.2.1), uy12_0, vy12_0]) By12_b3 u26 z26 rfl (clV 49 rfl func26 rfl (impl_ItemOk.calls (Item.mk y12.1 y12.2.1 y12.2.2.1 y12.2.2.2) s89.w (mm [44] s89) uy12_0 vy12_0 ((Xh (s := s89) Fy12_0).sub (D := [44]) rfl) Ay12_0.rd) (fun r93 s94 p94 n94 => ?_)))))
 refine Xb rfl (Xb rfl (ji [] (fun (y95 : Bool) e w => ∃ (s : St) (e0 : Env), w = s.w ∧ e = upd (upd (upd e0 2 (pB b1)) 4 (pB b3)) 67 (.bool y95) ∧ Kp s0 s ∧ BlF s b3 26 [(iI y12.1), (iI y12.2.1), uy12_0, vy12_0] 41 ∧ BlF s b1 26 [(iI 0), (iI 0), (.float .f64 0), (.slice none 0 0)] 40 ∧ OwF Xx s [vy12_0] y12.2.2.2 44) (fun Gj95 Kj95 => ?_) ?_))
 ·
  rcases bft (!r93) with hb95 | hb95
  ·
   refine sbT hb95 ?_
   rw [if_pos hb95]
   refine Xi rfl (Xi rfl (Xi rfl (Xi rfl (Xb rfl ?_))))
   exact Kj95 _ _ _ ⟨s94, _, rfl, (ue (ue (ue rfl rfl) rfl) rfl), (Ky12.st p94 rfl), (By12_b3.st p94 rfl), (By12_b1.st p94 rfl), (Ay12_0.st p94 rfl)⟩
  refine sbT hb95 ?_
  rw [if_neg (by rw [hb95]; decide)]
  have A100 := By12_b3.st p94 rfl
  refine Xw (es := [(iI y12.1), (iI y12.2.1), uy12_0, vy12_0]) A100 u26 z26 rfl ?_
  have A101 := Ay12_0.st p94 rfl
  have K102 := Ky12.st p94 rfl
  refine clV 50 rfl func27 rfl (impl_itemText.calls (Item.mk y12.1 y12.2.1 y12.2.2.1 y12.2.2.2) s94.w (mm [44, 0] s94) uy12_0 vy12_0 ((gu_gt (AG.kp K102)).sub (D := [44, 0]) rfl) ((Xh (s := s94) Fy12_0).sub (D := [44, 0]) rfl) (A101.rd.sub (D := [44, 0]) rfl)) (fun r103 s104 p104 n104 => ?_)
  refine Xb rfl (Xb rfl (Xb rfl ?_))
  exact Kj95 _ _ _ ⟨s104, _, rfl, (ue (ue (ue rfl rfl) rfl) rfl), (K102.st p104 rfl), (A100.st p104 rfl), (By12_b1.st (Xo p94 p104) rfl), (A101.st p104 rfl)⟩
 rintro y95 _ _ ⟨s109, _, rfl, rfl, Ky95, By95_b3, By95_b1, Cy95_90⟩
 refine dn (cd rfl (fun h112 => ?_) (fun h112 => ?_))
 ·
  refine sr (bd (cells := [(iI 0), (iI 0), (.float .f64 0), (.slice none 0 0)]) pl26 o26 rfl rfl rfl rfl rfl rfl (sva' (vs := [(iI 0), (iI 0), (.float .f64 0), (.slice none 0 0)]) By95_b1 z26 rfl (Xa rfl (Xa rfl (Xa (FL.one (Xl rfl)) (Xa rfl Xr)))) rfl (fun s113 p113 B113 => ?_)))
  refine Xb rfl (dn ?_)
  have A115 : OwF kd26 s113 [(iI 0), (iI 0), (.float .f64 0), (.slice none 0 0)] (Item.mk (0 : Int) (0 : Int) (0 : Nat) ([] : (List Int))) 51 := ow_z _ _ (fz_iso (fun x : Item => (x.Kind, x.N, x.F, x.T)) (Item.mk (0 : Int) (0 : Int) (0 : Nat) ([] : (List Int))) (Xe (Xf .i64 (0 : Int)) (Xe (Xf .i64 (0 : Int)) (Xe (Xu (Xl rfl)) (fz_nil 5 (Kd.int .u8))))))
  have K117 := Ky95.st p113 rfl
  exact re rfl func28 rfl (r_b B113 u26 rfl z26 rfl (Xv rfl Xg)) rfl ⟨_, rfl, (.float .f64 0), (.slice none 0 0), rfl, A115.fo K117 rfl z.l, z.ky K117⟩
 refine sk (sr (Xw (es := [(iI y12.1), (iI y12.2.1), uy12_0, vy12_0]) By95_b3 u26 z26 rfl (sva' (vs := [(iI y12.1), (iI y12.2.1), uy12_0, vy12_0]) By95_b1 z26 rfl (Xa rfl (Xa rfl (Xa (FL.one Fy12_0) (Xa Cy95_90.rd.one Xr)))) rfl (fun s118 p118 B118 => ?_))))
 refine Xb rfl (dn ?_)
 have A120 : OwF kd26 s118 [(iI y12.1), (iI y12.2.1), uy12_0, vy12_0] (Item.mk y12.1 y12.2.1 y12.2.2.1 y12.2.2.2) 44 := (ow_isoz (fun x : Item => (x.Kind, x.N, x.F, x.T)) (Item.mk y12.1 y12.2.1 y12.2.2.1 y12.2.2.2) (ow_l (Xf .i64 y12.1) (ow_l (Xf .i64 y12.2.1) (ow_l (Xu Fy12_0) (Cy95_90.st p118 rfl)))))
 have K123 := Ky95.st p118 rfl
 exact re rfl func28 rfl (r_b B118 u26 rfl z26 rfl (Xv rfl Xg)) rfl ⟨_, rfl, uy12_0, vy12_0, rfl, A120.fo K123 rfl z.l, z.ky K123⟩
def slices_Clone_byte_byte.f (a0 : (List Int)) : Option ((List Int)) :=
 (if ([] : (List Int)).length + a0.length ≤ Lim then (some (([] : (List Int)) ++ a0)) else none)
def slices_Clone_byte_byte.Q (w : World) (F : Nat → Prop) (r : (List Int)) (v : Value) (w' : World) : Prop :=
 FO Xx w w' [v] r ∧ Ky [] w w'
theorem slices_Clone_byte_byte.calls (a0 : (List Int)) (w : World) (F : Nat → Prop) (w0_0 : Value) (h0_0 : Xx.rd w [w0_0] a0 F) (r : (List Int)) (m : slices_Clone_byte_byte.f a0 = some r) :
  Calls prog 125 #[w0_0] w (RT (slices_Clone_byte_byte.Q w F) r) := by
 obtain ⟨s0, rfl, kp0, z⟩ := Xm w F
 have A0_0 := z.rd h0_0
 refine Xd (args := [w0_0]) func125 ntmps125 rfl rfl m ?_
 unfold slices_Clone_byte_byte.f
 refine sr (Xb rfl (dn (sq (sr (Xp w0_0 rfl (nq A0_0 u22 rfl rfl rfl rfl rfl rfl rfl (fun nb2 hn2 => ?_)))))))
 refine dn (cdb rfl (fun h3 => ?_) (fun h3 => ?_))
 ·
  obtain rfl := hn2 h3
  exact mg fun _ => (sr (Xb rfl (dn (re rfl func125 rfl (Xv rfl Xg) rfl ⟨_, rfl, (Xk 5 (Kd.int .u8) s0 40).fo kp0 rfl z.l, z.ky kp0⟩))))
 refine sk (sr (lt0 (K := (Kd.int .u8)) 40 u22 z5 rfl rfl rfl rfl rfl (fun v4 s4 p4 A4 => ?_)))
 refine Xp w0_0 rfl ?_
 have K6 := kp0.st p4 rfl
 refine apF' Xn sl22 A4 (A0_0.kp K6) rfl (fun v8 s8 p8 A8 => ?_)
 refine Xq v8 rfl (dn ?_)
 have K10 := K6.st p8 rfl
 exact re rfl func125 rfl (Xv rfl Xg) rfl ⟨_, rfl, A8.fo K10 rfl z.l, z.ky K10⟩
def impl_Item_own.f (a0 : Item) : Option (Item) :=
 ((slices_Clone_byte_byte.f a0.T).bind fun r9 => (some (Item.mk a0.Kind a0.N a0.F r9)))
def impl_Item_own.Q (w : World) (F : Nat → Prop) (r : Item) (v : Value) (w' : World) : Prop :=
 ∃ (v0 : Value) (v1 : Value), v = (.agg #[(iI r.Kind), (iI r.N), v0, v1]) ∧ FO kd26 w w' [(iI r.Kind), (iI r.N), v0, v1] r ∧ Ky [] w w'
theorem impl_Item_own.calls (a0 : Item) (w : World) (F : Nat → Prop) (w0_0 : Value) (w0_1 : Value) (h0_0 : Kd.flt.rd w [w0_0] a0.F F) (h0_1 : Xx.rd w [w0_1] a0.T F) (r : Item) (m : impl_Item_own.f a0 = some r) :
  Calls prog 110 #[(.agg #[(iI a0.Kind), (iI a0.N), w0_0, w0_1])] w (RT (impl_Item_own.Q w F) r) := by
 obtain ⟨s0, rfl, kp0, z⟩ := Xm w F
 have A0_0 := fl_of h0_0
 refine Xd (args := [(.agg #[(iI a0.Kind), (iI a0.N), w0_0, w0_1])]) func110 ntmps110 rfl rfl m ?_
 unfold impl_Item_own.f
 refine sr (bx (cs := [(iI a0.Kind), (iI a0.N), w0_0, w0_1]) 40 rfl rfl rfl rfl rfl rfl (fun b2 s2 p2 B2 => ?_))
 refine al (cs := [(iI 0), (iI 0), (.float .f64 0), (.slice none 0 0)]) 41 rfl rfl rfl rfl rfl o26 rfl (fun b4 s4 p4 B4 => ?_)
 refine dn (sr (Xs fa26_3 rfl ?_))
 have A6 := B2.st p4 rfl
 refine ld' A6 u22 rfl ?_
 have K7 := kp0.st (Xo p2 p4) rfl
 refine clO 42 rfl func125 rfl (slices_Clone_byte_byte.calls a0.T s4.w (mm [0] s4) w0_1 ((z.rd h0_1).kp K7)) (fun r9 v9_0 s10 p10 A9_0 => ?_)
 refine Xs fa26_3 rfl (sv (A6.st p10 rfl) z22 rfl rfl rfl rfl rfl rfl A9_0.rd.one rfl (fun s13 p13 B13 => ?_))
 refine dn (sr (Xw (es := [(iI a0.Kind), (iI a0.N), w0_0, v9_0]) B13 u26 z26 rfl ?_))
 have A16 := A9_0.st p13 rfl
 refine sva' (vs := [(iI a0.Kind), (iI a0.N), w0_0, v9_0]) (B4.st (Xo p10 p13) rfl) z26 rfl (Xa rfl (Xa rfl (Xa (FL.one A0_0) (Xa A16.rd.one Xr)))) rfl (fun s17 p17 B17 => ?_)
 refine dn ?_
 have A19 : OwF kd26 s17 [(iI a0.Kind), (iI a0.N), w0_0, v9_0] (Item.mk a0.Kind a0.N a0.F r9) 42 := (ow_isoz (fun x : Item => (x.Kind, x.N, x.F, x.T)) (Item.mk a0.Kind a0.N a0.F r9) (ow_l (Xf .i64 a0.Kind) (ow_l (Xf .i64 a0.N) (ow_l (Xu A0_0) (A16.st p17 rfl)))))
 have K22 := K7.st (tr3 p10 p13 p17) rfl
 exact re rfl func110 rfl (r_b B17 u26 rfl z26 rfl Xg) rfl ⟨_, rfl, w0_0, v9_0, rfl, A19.fo K22 rfl z.l, z.ky K22⟩
def impl_ItemClean.f (a0 : Item) : Option (Item) :=
 ((impl_ItemOk.f a0).bind fun r9 => (if (!r9) = true then (some (Item.mk (0 : Int) (0 : Int) (0 : Nat) ([] : (List Int)))) else ((if (fcmp .f64 a0.F (0 : Nat) == some .eq) = true then (some (0 : Nat)) else (some a0.F)).bind fun y19 => ((impl_Item_own.f (Item.mk a0.Kind a0.N y19 a0.T)).bind fun r31 => (some r31)))))
def impl_ItemClean.Q (w : World) (F : Nat → Prop) (r : Item) (v : Value) (w' : World) : Prop :=
 ∃ (v0 : Value) (v1 : Value), v = (.agg #[(iI r.Kind), (iI r.N), v0, v1]) ∧ FO kd26 w w' [(iI r.Kind), (iI r.N), v0, v1] r ∧ Ky [] w w'
theorem impl_ItemClean.calls (a0 : Item) (w : World) (F : Nat → Prop) (w0_0 : Value) (w0_1 : Value) (h0_0 : Kd.flt.rd w [w0_0] a0.F F) (h0_1 : Xx.rd w [w0_1] a0.T F) (r : Item) (m : impl_ItemClean.f a0 = some r) :
  Calls prog 94 #[(.agg #[(iI a0.Kind), (iI a0.N), w0_0, w0_1])] w (RT (impl_ItemClean.Q w F) r) := by
 obtain ⟨s0, rfl, kp0, z⟩ := Xm w F
 have A0_0 := fl_of h0_0
 have A0_1 := z.rd h0_1
 refine Xd (args := [(.agg #[(iI a0.Kind), (iI a0.N), w0_0, w0_1])]) func94 ntmps94 rfl rfl m ?_
 unfold impl_ItemClean.f
 refine sr (bx (cs := [(iI a0.Kind), (iI a0.N), w0_0, w0_1]) 40 rfl rfl rfl rfl rfl rfl (fun b2 s2 p2 B2 => ?_))
 refine al (cs := [(iI 0), (iI 0), (.float .f64 0), (.slice none 0 0)]) 41 rfl rfl rfl rfl rfl o26 rfl (fun b4 s4 p4 B4 => ?_)
 refine dn (sq (sr ?_))
 have A6 := B2.st p4 rfl
 refine Xw (es := [(iI a0.Kind), (iI a0.N), w0_0, w0_1]) A6 u26 z26 rfl ?_
 have K7 := kp0.st (Xo p2 p4) rfl
 refine clV 42 rfl func26 rfl (impl_ItemOk.calls a0 s4.w (mm [0] s4) w0_0 w0_1 ((Xh (s := s4) A0_0).sub (D := [0]) rfl) (A0_1.kp K7)) (fun r9 s10 p10 n10 => ?_)
 refine Xb rfl (dn (cd rfl (fun h11 => ?_) (fun h11 => ?_)))
 ·
  refine sr (bd (cells := [(iI 0), (iI 0), (.float .f64 0), (.slice none 0 0)]) pl26 o26 rfl rfl rfl rfl rfl rfl ?_)
  refine sva' (vs := [(iI 0), (iI 0), (.float .f64 0), (.slice none 0 0)]) (B4.st p10 rfl) z26 rfl (Xa rfl (Xa rfl (Xa (FL.one (Xl rfl)) (Xa rfl Xr)))) rfl (fun s13 p13 B13 => ?_)
  refine dn ?_
  have A15 : OwF kd26 s13 [(iI 0), (iI 0), (.float .f64 0), (.slice none 0 0)] (Item.mk (0 : Int) (0 : Int) (0 : Nat) ([] : (List Int))) 43 := ow_z _ _ (fz_iso (fun x : Item => (x.Kind, x.N, x.F, x.T)) (Item.mk (0 : Int) (0 : Int) (0 : Nat) ([] : (List Int))) (Xe (Xf .i64 (0 : Int)) (Xe (Xf .i64 (0 : Int)) (Xe (Xu (Xl rfl)) (fz_nil 5 (Kd.int .u8))))))
  have K17 := K7.st (Xo p10 p13) rfl
  exact re rfl func94 rfl (r_b B13 u26 rfl z26 rfl Xg) rfl ⟨_, rfl, (.float .f64 0), (.slice none 0 0), rfl, A15.fo K17 rfl z.l, z.ky K17⟩
 refine sk (sq (sr (Xs fa26_2 rfl ?_)))
 have A18 := A6.st p10 rfl
 refine ld' A18 u24 rfl (fq_' A0_0 (Xl rfl) rfl (dn (jc (fun (y19 : Nat) e w => ∃ (s : St) (e0 : Env) (uy19_0 : Value), w = s.w ∧ e = upd (upd e0 1 (pB b2)) 2 (pB b4) ∧ Kp s0 s ∧ FL uy19_0 y19 ∧ BlF s b4 26 [(iI 0), (iI 0), (.float .f64 0), (.slice none 0 0)] 41 ∧ BlF s b2 26 [(iI a0.Kind), (iI a0.N), uy19_0, w0_1] 40) (fun Gj19 Kj19 => ?_) ?_)))
 ·
  refine cd rfl (fun h20 => ?_) (fun h20 => ?_)
  ·
   refine rg (Xs fa26_2 rfl (sv A18 z24 rfl rfl rfl rfl rfl rfl (FL.one (Xl rfl)) rfl (fun s21 p21 B21 => ?_)))
   exact dn (Kj19 _ _ _ ⟨s21, _, (.float .f64 0), rfl, (ue (ue rfl rfl) rfl), (K7.st (Xo p10 p21) rfl), (Xl rfl), (B4.st (Xo p10 p21) rfl), B21⟩)
  exact sk (Kj19 _ _ _ ⟨s10, _, w0_0, rfl, (ue (ue rfl rfl) rfl), (K7.st p10 rfl), A0_0, (B4.st p10 rfl), A18⟩)
 rintro y19 _ _ ⟨s27, _, uy19_0, rfl, rfl, Ky19, Fy19_0, By19_b4, By19_b2⟩
 refine sr (Xw (es := [(iI a0.Kind), (iI a0.N), uy19_0, w0_1]) By19_b2 u26 z26 rfl ?_)
 refine cl' rfl func110 rfl (impl_Item_own.calls (Item.mk a0.Kind a0.N y19 a0.T) s27.w (mm [0] s27) uy19_0 w0_1 ((Xh (s := s27) Fy19_0).sub (D := [0]) rfl) (A0_1.kp Ky19)) ?_
 rintro r31 _ w31 m31 ⟨v31_0, v31_1, rfl, f31_0, ky31⟩
 obtain ⟨s32, rfl, p32, n32⟩ := nwx s27 w31 44 ky31
 obtain ⟨hu31_0_0, Au31_0_1⟩ := ap26 (f31_0.c n32)
 refine sva' (vs := [(iI r31.Kind), (iI r31.N), v31_0, v31_1]) (By19_b4.st p32 rfl) z26 rfl (Xa rfl (Xa rfl (Xa (FL.one hu31_0_0) (Xa Au31_0_1.rd.one Xr)))) rfl (fun s35 p35 B35 => ?_)
 refine dn ?_
 have A37 : OwF kd26 s35 [(iI r31.Kind), (iI r31.N), v31_0, v31_1] r31 44 := (ow_isoz (fun x : Item => (x.Kind, x.N, x.F, x.T)) r31 (ow_l (Xf .i64 r31.Kind) (ow_l (Xf .i64 r31.N) (ow_l (Xu hu31_0_0) (Au31_0_1.st p35 rfl)))))
 have K40 := Ky19.st (Xo p32 p35) rfl
 exact re rfl func94 rfl (r_b B35 u26 rfl z26 rfl Xg) rfl ⟨_, rfl, v31_0, v31_1, rfl, A37.fo K40 rfl z.l, z.ky K40⟩
def impl_KeyOk.f (a0 : Item) : Option (Bool) :=
 ((impl_ItemOk.f a0).bind fun r6 => (some ((r6 && (a0.Kind != (0 : Int))) && ((fcmp .f64 a0.F (0 : Nat) != some .eq) || ((a0.F : Int) == 0)))))
def impl_KeyOk.Q (w : World) (F : Nat → Prop) (r : Bool) (v : Value) (w' : World) : Prop :=
 v = (.bool r) ∧ Ky [] w w'
theorem impl_KeyOk.calls (a0 : Item) (w : World) (F : Nat → Prop) (w0_0 : Value) (w0_1 : Value) (h0_0 : Kd.flt.rd w [w0_0] a0.F F) (h0_1 : Xx.rd w [w0_1] a0.T F) (r : Bool) (m : impl_KeyOk.f a0 = some r) :
  Calls prog 93 #[(.agg #[(iI a0.Kind), (iI a0.N), w0_0, w0_1])] w (RT (impl_KeyOk.Q w F) r) := by
 obtain ⟨s0, rfl, kp0, z⟩ := Xm w F
 have A0_0 := fl_of h0_0
 refine Xd (args := [(.agg #[(iI a0.Kind), (iI a0.N), w0_0, w0_1])]) func93 ntmps93 rfl rfl m ?_
 unfold impl_KeyOk.f
 refine sr (bx (cs := [(iI a0.Kind), (iI a0.N), w0_0, w0_1]) 40 rfl rfl rfl rfl rfl rfl (fun b2 s2 p2 B2 => ?_))
 refine Xb rfl (dn (sr (Xw (es := [(iI a0.Kind), (iI a0.N), w0_0, w0_1]) B2 u26 z26 rfl ?_)))
 have K4 := kp0.st p2 rfl
 refine clV 41 rfl func26 rfl (impl_ItemOk.calls a0 s2.w (mm [0] s2) w0_0 w0_1 ((Xh (s := s2) A0_0).sub (D := [0]) rfl) ((z.rd h0_1).kp K4)) (fun r6 s7 p7 n7 => ?_)
 refine Xb rfl (jy [5, 6, 7, 8, 9] [7, 8, 9, 10, 11, 12, 13, 14, 15, 16, 17, 18] 9 (.bool (r6 && (a0.Kind != (0 : Int)))) rfl (fun Kg8 => ?_) (fun j8 => ?_))
 ·
  rcases bft r6 with hb8 | hb8
  ·
   refine sbT hb8 (Xs fa26_0 rfl ?_)
   exact ld' (B2.st p7 rfl) u3 rfl (Xb rfl (Xb rfl (Kg8 _ (Ag.put ((Ag.put ((Ag.put ((Ag.put (Ag.base rfl) rfl)) rfl)) rfl)) rfl) (by rw [hb8]; rfl))))
  exact sbT hb8 (Xi rfl (Xi rfl (Xi rfl (Xb rfl (Kg8 _ (Ag.put ((Ag.put ((Ag.put ((Ag.put (Ag.base rfl) rfl)) rfl)) rfl)) rfl) (by rw [hb8]; rfl))))))
 refine Xb rfl (jy [10, 11, 12, 13, 14, 15, 16, 17, 18, 19, 20] [18] 20 (.bool ((r6 && (a0.Kind != (0 : Int))) && ((fcmp .f64 a0.F (0 : Nat) != some .eq) || ((a0.F : Int) == 0)))) rfl (fun Kg10 => ?_) (fun j10 => ?_))
 ·
  rcases bft (r6 && (a0.Kind != (0 : Int))) with hb10 | hb10
  ·
   refine sbT hb10 (Xs fa26_2 rfl ?_)
   have A11 := B2.st p7 rfl
   refine ld' A11 u24 rfl (fq_' A0_0 (Xl rfl) rfl (Xb rfl (jy [14, 15, 16, 17, 18, 19] [17, 18] 19 (.bool ((fcmp .f64 a0.F (0 : Nat) != some .eq) || ((a0.F : Int) == 0))) rfl (fun Kg12 => ?_) (fun j12 => ?_))))
   ·
    rcases bft (fcmp .f64 a0.F (0 : Nat) != some .eq) with hb12 | hb12
    ·
     exact sbT hb12 (Xi rfl (Xi rfl (Xi rfl (Xi rfl (Xb rfl (Kg12 _ (Ag.put ((Ag.put ((Ag.put ((Ag.put ((Ag.put (Ag.base rfl) rfl)) rfl)) rfl)) rfl)) rfl) (by rw [hb12]; rfl)))))))
    refine sbT hb12 (Xs fa26_2 rfl (ld' A11 u24 rfl (fbu A0_0 rfl rfl rfl rfl rfl func61 rfl rfl xn61 xf61 rfl (fun b13 A13 => ?_))))
    exact fz0 A13 rfl rfl rfl rfl rfl rfl rfl (Xb rfl (Kg12 _ (Ag.put ((Ag.put ((Ag.put ((Ag.put ((Ag.put (Ag.base rfl) rfl)) rfl)) rfl)) rfl)) rfl) (by rw [hb12]; rfl)))
   exact Xb rfl (Kg10 _ (Ag.put ((Ag.put ((Ag.ov ((Ag.put ((Ag.put ((Ag.put ((Ag.put (Ag.base rfl) rfl)) rfl)) rfl)) rfl)) rfl)) rfl)) rfl) (by rw [hb10]; rfl))
  exact sbT hb10 (Xi rfl (Xi rfl (Xi rfl (Xi rfl (Xi rfl (Xi rfl (Xi rfl (Xi rfl (Xi rfl (Xb rfl (Kg10 _ (Ag.put ((Ag.put ((Ag.put ((Ag.put ((Ag.put ((Ag.put ((Ag.put ((Ag.put ((Ag.put ((Ag.put (Ag.base rfl) rfl)) rfl)) rfl)) rfl)) rfl)) rfl)) rfl)) rfl)) rfl)) rfl) (by rw [hb10]; rfl))))))))))))
 refine Xb rfl (dn ?_)
 exact re rfl func93 rfl (Xv rfl Xg) rfl ⟨_, rfl, rfl, z.ky (K4.st p7 rfl)⟩
def impl_isClean.f (a0 : Item) : Option (Bool) :=
 ((impl_ItemClean.f a0).bind fun r6 => ((impl_KeyOk.f r6).bind fun r9 => (some r9)))
def impl_isClean.Q (w : World) (F : Nat → Prop) (r : Bool) (v : Value) (w' : World) : Prop :=
 v = (.bool r) ∧ Ky [] w w'
theorem impl_isClean.calls (a0 : Item) (w : World) (F : Nat → Prop) (w0_0 : Value) (w0_1 : Value) (h0_0 : Kd.flt.rd w [w0_0] a0.F F) (h0_1 : Xx.rd w [w0_1] a0.T F) (r : Bool) (m : impl_isClean.f a0 = some r) :
  Calls prog 70 #[(.agg #[(iI a0.Kind), (iI a0.N), w0_0, w0_1])] w (RT (impl_isClean.Q w F) r) := by
 obtain ⟨s0, rfl, kp0, z⟩ := Xm w F
 refine Xd (args := [(.agg #[(iI a0.Kind), (iI a0.N), w0_0, w0_1])]) func70 ntmps70 rfl rfl m ?_
 unfold impl_isClean.f
 refine sr (bx (cs := [(iI a0.Kind), (iI a0.N), w0_0, w0_1]) 40 rfl rfl rfl rfl rfl rfl (fun b2 s2 p2 B2 => ?_))
 refine Xb rfl (dn (sr (Xw (es := [(iI a0.Kind), (iI a0.N), w0_0, w0_1]) B2 u26 z26 rfl ?_)))
 have K4 := kp0.st p2 rfl
 refine cl' rfl func94 rfl (impl_ItemClean.calls a0 s2.w (mm [0] s2) w0_0 w0_1 ((Xh (s := s2) (fl_of h0_0)).sub (D := [0]) rfl) ((z.rd h0_1).kp K4)) ?_
 rintro r6 _ w6 m6 ⟨v6_0, v6_1, rfl, f6_0, ky6⟩
 obtain ⟨s7, rfl, p7, n7⟩ := nwx s2 w6 41 ky6
 obtain ⟨hu6_0_0, Au6_0_1⟩ := ap26 (f6_0.c n7)
 refine clV 42 rfl func93 rfl (impl_KeyOk.calls r6 s7.w (mm [41] s7) v6_0 v6_1 ((Xh (s := s7) hu6_0_0).sub (D := [41]) rfl) Au6_0_1.rd) (fun r9 s10 p10 n10 => ?_)
 refine Xb rfl (dn ?_)
 exact re rfl func70 rfl (Xv rfl Xg) rfl ⟨_, rfl, rfl, z.ky (K4.st (Xo p7 p10) rfl)⟩
def impl_isValue.f (a0 : Item) : Option (Bool) :=
 ((impl_ItemOk.f a0).bind fun r6 => (some (r6 && (a0.Kind != (0 : Int)))))
def impl_isValue.Q (w : World) (F : Nat → Prop) (r : Bool) (v : Value) (w' : World) : Prop :=
 v = (.bool r) ∧ Ky [] w w'
theorem impl_isValue.calls (a0 : Item) (w : World) (F : Nat → Prop) (w0_0 : Value) (w0_1 : Value) (h0_0 : Kd.flt.rd w [w0_0] a0.F F) (h0_1 : Xx.rd w [w0_1] a0.T F) (r : Bool) (m : impl_isValue.f a0 = some r) :
  Calls prog 71 #[(.agg #[(iI a0.Kind), (iI a0.N), w0_0, w0_1])] w (RT (impl_isValue.Q w F) r) := by
 obtain ⟨s0, rfl, kp0, z⟩ := Xm w F
 refine Xd (args := [(.agg #[(iI a0.Kind), (iI a0.N), w0_0, w0_1])]) func71 ntmps71 rfl rfl m ?_
 unfold impl_isValue.f
 refine sr (bx (cs := [(iI a0.Kind), (iI a0.N), w0_0, w0_1]) 40 rfl rfl rfl rfl rfl rfl (fun b2 s2 p2 B2 => ?_))
 refine Xb rfl (dn (sr (Xw (es := [(iI a0.Kind), (iI a0.N), w0_0, w0_1]) B2 u26 z26 rfl ?_)))
 have K4 := kp0.st p2 rfl
 refine clV 41 rfl func26 rfl (impl_ItemOk.calls a0 s2.w (mm [0] s2) w0_0 w0_1 ((Xh (s := s2) (fl_of h0_0)).sub (D := [0]) rfl) ((z.rd h0_1).kp K4)) (fun r6 s7 p7 n7 => ?_)
 refine Xb rfl (jy [5, 6, 7, 8, 9] [7] 9 (.bool (r6 && (a0.Kind != (0 : Int)))) rfl (fun Kg8 => ?_) (fun j8 => ?_))
 ·
  rcases bft r6 with hb8 | hb8
  ·
   refine sbT hb8 (Xs fa26_0 rfl ?_)
   exact ld' (B2.st p7 rfl) u3 rfl (Xb rfl (Xb rfl (Kg8 _ (Ag.put ((Ag.put ((Ag.put ((Ag.put (Ag.base rfl) rfl)) rfl)) rfl)) rfl) (by rw [hb8]; rfl))))
  exact sbT hb8 (Xi rfl (Xi rfl (Xi rfl (Xb rfl (Kg8 _ (Ag.put ((Ag.put ((Ag.put ((Ag.put (Ag.base rfl) rfl)) rfl)) rfl)) rfl) (by rw [hb8]; rfl))))))
 refine Xb rfl (dn ?_)
 exact re rfl func71 rfl (Xv rfl Xg) rfl ⟨_, rfl, rfl, z.ky (K4.st p7 rfl)⟩
def impl_OpOk.f (a0 : Op) : Option (Bool) :=
 ((if (decide (a0.Kind ≤ (8 : Int))) = true then ((impl_within.f a0.Seat (0 : Int) (7 : Int)).bind fun r8 => (some (!r8))) else (some false)).bind fun y7 => (if y7 = true then (some false) else (if (a0.Kind == (1 : Int)) = true then ((impl_within.f a0.Level (0 : Int) (1 : Int)).bind fun r17 => (some r17)) else ((if (a0.Kind == (2 : Int)) = true then (some (a0.Kind == (2 : Int))) else (some (a0.Kind == (4 : Int)))).bind fun y20 => (if y20 = true then ((impl_isClean.f a0.Key).bind fun r26 => (some r26)) else (if (a0.Kind == (3 : Int)) = true then ((impl_isClean.f a0.Key).bind fun r31 => ((if r31 = true then ((impl_isValue.f a0.Value).bind fun r37 => (some r37)) else (some false)).bind fun y33 => (some y33))) else (if (a0.Kind == (5 : Int)) = true then ((impl_isClean.f a0.Key).bind fun r44 => ((if r44 = true then ((impl_isClean.f a0.To).bind fun r50 => (some r50)) else (some false)).bind fun y46 => ((if y46 = true then ((impl_within.f a0.N (0 : Int) (50 : Int)).bind fun r59 => (some r59)) else (some false)).bind fun y58 => (some y58)))) else (if (a0.Kind == (6 : Int)) = true then ((impl_isClean.f a0.Key).bind fun r65 => ((if r65 = true then ((impl_isClean.f a0.To).bind fun r71 => (some r71)) else (some false)).bind fun y67 => (some y67))) else (if (a0.Kind == (11 : Int)) = true then ((impl_within.f a0.N (0 : Int) (15 : Int)).bind fun r77 => (some r77)) else (if (a0.Kind == (12 : Int)) = true then (some (decide (a0.N ≥ (0 : Int)))) else (if (a0.Kind == (13 : Int)) = true then (some (decide ((a0.Keep.length : Int) ≤ (600 : Int)))) else ((impl_within.f a0.Kind (1 : Int) (13 : Int)).bind fun r83 => (some r83)))))))))))))
def impl_OpOk.Q (w : World) (F : Nat → Prop) (r : Bool) (v : Value) (w' : World) : Prop :=
 v = (.bool r) ∧ Ky [] w w'
theorem impl_OpOk.calls (a0 : Op) (w : World) (F : Nat → Prop) (w0_0 : Value) (w0_1 : Value) (w0_2 : Value) (w0_3 : Value) (w0_4 : Value) (w0_5 : Value) (w0_6 : Value) (h0_0 : Kd.flt.rd w [w0_0] a0.Key.F F) (h0_1 : Xx.rd w [w0_1] a0.Key.T F) (h0_2 : Kd.flt.rd w [w0_2] a0.To.F F) (h0_3 : Xx.rd w [w0_3] a0.To.T F) (h0_4 : Kd.flt.rd w [w0_4] a0.Value.F F) (h0_5 : Xx.rd w [w0_5] a0.Value.T F) (h0_6 : (Kd.sl 4 Kd.bool).rd w [w0_6] a0.Keep F) (r : Bool) (m : impl_OpOk.f a0 = some r) :
  Calls prog 33 #[(.agg #[(iI a0.Kind), (iI a0.Seat), (iI a0.Level), (iI a0.N), (iI a0.Key.Kind), (iI a0.Key.N), w0_0, w0_1, (iI a0.To.Kind), (iI a0.To.N), w0_2, w0_3, (iI a0.Value.Kind), (iI a0.Value.N), w0_4, w0_5, w0_6])] w (RT (impl_OpOk.Q w F) r) := by
 obtain ⟨s0, rfl, kp0, z⟩ := Xm w F
 have A0_0 := fl_of h0_0
 have A0_1 := z.rd h0_1
 have A0_2 := fl_of h0_2
 have A0_3 := z.rd h0_3
 refine Xd (args := [(.agg #[(iI a0.Kind), (iI a0.Seat), (iI a0.Level), (iI a0.N), (iI a0.Key.Kind), (iI a0.Key.N), w0_0, w0_1, (iI a0.To.Kind), (iI a0.To.N), w0_2, w0_3, (iI a0.Value.Kind), (iI a0.Value.N), w0_4, w0_5, w0_6])]) func33 ntmps33 rfl rfl m ?_
 unfold impl_OpOk.f
 refine sr (bx (cs := [(iI a0.Kind), (iI a0.Seat), (iI a0.Level), (iI a0.N), (iI a0.Key.Kind), (iI a0.Key.N), w0_0, w0_1, (iI a0.To.Kind), (iI a0.To.N), w0_2, w0_3, (iI a0.Value.Kind), (iI a0.Value.N), w0_4, w0_5, w0_6]) 40 rfl rfl rfl rfl rfl rfl (fun b5 s5 p5 B5 => ?_))
 refine Xb rfl (dn (sq (sr (Xs fa35_0 rfl (ld' B5 u3 rfl (Xb rfl (Xb rfl (ji [] (fun (y7 : Bool) e w => ∃ (s : St) (e0 : Env), w = s.w ∧ e = upd (upd e0 1 (pB b5)) 11 (.bool y7) ∧ Kp s0 s ∧ BlF s b5 35 [(iI a0.Kind), (iI a0.Seat), (iI a0.Level), (iI a0.N), (iI a0.Key.Kind), (iI a0.Key.N), w0_0, w0_1, (iI a0.To.Kind), (iI a0.To.N), w0_2, w0_3, (iI a0.Value.Kind), (iI a0.Value.N), w0_4, w0_5, w0_6] 40) (fun Gj7 Kj7 => ?_) ?_))))))))
 ·
  rcases bft (decide (a0.Kind ≤ (8 : Int))) with hb7 | hb7
  ·
   refine sbT hb7 ?_
   rw [if_pos hb7]
   refine Xs fa35_1 rfl (ld' B5 u3 rfl (clV 41 rfl func38 rfl (impl_within.calls a0.Seat (0 : Int) (7 : Int) s5.w (mm [] s5)) (fun r8 s9 p9 n9 => ?_)))
   refine Xb rfl (Xb rfl ?_)
   exact Kj7 _ _ _ ⟨s9, _, rfl, (ue (ue rfl rfl) rfl), (kp0.st (Xo p5 p9) rfl), (B5.st p9 rfl)⟩
  refine sbT hb7 ?_
  rw [if_neg (by rw [hb7]; decide)]
  refine Xi rfl (Xi rfl (Xi rfl (Xi rfl (Xb rfl ?_))))
  exact Kj7 _ _ _ ⟨s5, _, rfl, (ue (ue rfl rfl) rfl), (kp0.st p5 rfl), B5⟩
 rintro y7 _ _ ⟨s13, _, rfl, rfl, Ky7, By7_b5⟩
 refine dn (cd rfl (fun h15 => ?_) (fun h15 => ?_))
 ·
  exact sr (Xb rfl (dn (re rfl func33 rfl (Xv rfl Xg) rfl ⟨_, rfl, rfl, z.ky Ky7⟩)))
 refine sk (sq (sr (Xs fa35_0 rfl (ld' By7_b5 u3 rfl (dn (bl (sr (Xb rfl (Xb rfl (dn (cd rfl (fun h16 => ?_) (fun h16 => ?_))))))))))))
 ·
  refine sr (Xs fa35_2 rfl (ld' By7_b5 u3 rfl (clV 42 rfl func38 rfl (impl_within.calls a0.Level (0 : Int) (1 : Int) s13.w (mm [] s13)) (fun r17 s18 p18 n18 => ?_))))
  refine Xb rfl (dn ?_)
  exact re rfl func33 rfl (Xv rfl Xg) rfl ⟨_, rfl, rfl, z.ky (Ky7.st p18 rfl)⟩
 refine sq (sr (Xb rfl (Xb rfl (dn (jc (fun (y20 : Bool) e w => ∃ (s : St) (e0 : Env), w = s.w ∧ e = upd (upd (upd e0 1 (pB b5)) 13 (iI a0.Kind)) 19 (.bool y20) ∧ Kp s0 s ∧ BlF s b5 35 [(iI a0.Kind), (iI a0.Seat), (iI a0.Level), (iI a0.N), (iI a0.Key.Kind), (iI a0.Key.N), w0_0, w0_1, (iI a0.To.Kind), (iI a0.To.N), w0_2, w0_3, (iI a0.Value.Kind), (iI a0.Value.N), w0_4, w0_5, w0_6] 40) (fun Gj20 Kj20 => ?_) ?_)))))
 ·
  refine cd rfl (fun h21 => ?_) (fun h21 => ?_)
  ·
   exact sk (Kj20 _ _ _ ⟨s13, _, rfl, (ue (ue (ue rfl rfl) rfl) rfl), Ky7, By7_b5⟩)
  exact rg (Xb rfl (Xb rfl (dn (Kj20 _ _ _ ⟨s13, _, rfl, (ue (ue (ue rfl rfl) rfl) rfl), Ky7, By7_b5⟩))))
 rintro y20 _ _ ⟨s22, _, rfl, rfl, Ky20, By20_b5⟩
 refine cd rfl (fun h24 => ?_) (fun h24 => ?_)
 ·
  refine sr (Xs fa35_4 rfl (Xw (es := [(iI a0.Key.Kind), (iI a0.Key.N), w0_0, w0_1]) By20_b5 u26 z26 rfl ?_))
  refine clV 43 rfl func70 rfl (impl_isClean.calls a0.Key s22.w (mm [0] s22) w0_0 w0_1 ((Xh (s := s22) A0_0).sub (D := [0]) rfl) (A0_1.kp Ky20)) (fun r26 s27 p27 n27 => ?_)
  refine Xb rfl (dn ?_)
  exact re rfl func33 rfl (Xv rfl Xg) rfl ⟨_, rfl, rfl, z.ky (Ky20.st p27 rfl)⟩
 refine sr (Xb rfl (Xb rfl (dn (cd rfl (fun h29 => ?_) (fun h29 => ?_)))))
 ·
  refine sr (Xs fa35_4 rfl (Xw (es := [(iI a0.Key.Kind), (iI a0.Key.N), w0_0, w0_1]) By20_b5 u26 z26 rfl ?_))
  refine clV 44 rfl func70 rfl (impl_isClean.calls a0.Key s22.w (mm [0] s22) w0_0 w0_1 ((Xh (s := s22) A0_0).sub (D := [0]) rfl) (A0_1.kp Ky20)) (fun r31 s32 p32 n32 => ?_)
  refine Xb rfl (ji [8] (fun (y33 : Bool) e w => ∃ (s : St) (e0 : Env), w = s.w ∧ e = upd e0 34 (.bool y33) ∧ Kp s0 s) (fun Gj33 Kj33 => ?_) ?_)
  ·
   rcases bft r31 with hb33 | hb33
   ·
    refine sbT hb33 ?_
    rw [if_pos hb33]
    refine Xs fa35_6 rfl (Xw (es := [(iI a0.Value.Kind), (iI a0.Value.N), w0_4, w0_5]) (By20_b5.st p32 rfl) u26 z26 rfl ?_)
    have K35 := Ky20.st p32 rfl
    refine clV 45 rfl func71 rfl (impl_isValue.calls a0.Value s32.w (mm [0] s32) w0_4 w0_5 ((Xh (s := s32) (fl_of h0_4)).sub (D := [0]) rfl) ((z.rd h0_5).kp K35)) (fun r37 s38 p38 n38 => ?_)
    exact Xb rfl (Kj33 _ _ _ ⟨s38, _, rfl, (ue rfl rfl), (K35.st p38 rfl)⟩)
   refine sbT hb33 ?_
   rw [if_neg (by rw [hb33]; decide)]
   refine Xi rfl (Xi rfl (Xi rfl (Xb rfl ?_)))
   exact Kj33 _ _ _ ⟨s32, _, rfl, (ue rfl rfl), (Ky20.st p32 rfl)⟩
  rintro y33 _ _ ⟨s41, _, rfl, rfl, Ky33⟩
  exact Xb rfl (dn (re rfl func33 rfl (Xv rfl Xg) rfl ⟨_, rfl, rfl, z.ky Ky33⟩))
 refine sr (Xb rfl (Xb rfl (dn (cd rfl (fun h42 => ?_) (fun h42 => ?_)))))
 ·
  refine sr (Xs fa35_4 rfl (Xw (es := [(iI a0.Key.Kind), (iI a0.Key.N), w0_0, w0_1]) By20_b5 u26 z26 rfl ?_))
  refine clV 46 rfl func70 rfl (impl_isClean.calls a0.Key s22.w (mm [0] s22) w0_0 w0_1 ((Xh (s := s22) A0_0).sub (D := [0]) rfl) (A0_1.kp Ky20)) (fun r44 s45 p45 n45 => ?_)
  refine Xb rfl (ji [8, 9, 10, 11, 12, 13] (fun (y46 : Bool) e w => ∃ (s : St) (e0 : Env), w = s.w ∧ e = upd (upd e0 1 (pB b5)) 44 (.bool y46) ∧ Kp s0 s ∧ BlF s b5 35 [(iI a0.Kind), (iI a0.Seat), (iI a0.Level), (iI a0.N), (iI a0.Key.Kind), (iI a0.Key.N), w0_0, w0_1, (iI a0.To.Kind), (iI a0.To.N), w0_2, w0_3, (iI a0.Value.Kind), (iI a0.Value.N), w0_4, w0_5, w0_6] 40) (fun Gj46 Kj46 => ?_) ?_)
  ·
   rcases bft r44 with hb46 | hb46
   ·
    refine sbT hb46 ?_
    rw [if_pos hb46]
    refine Xs fa35_5 rfl ?_
    have A47 := By20_b5.st p45 rfl
    refine Xw (es := [(iI a0.To.Kind), (iI a0.To.N), w0_2, w0_3]) A47 u26 z26 rfl ?_
    have K48 := Ky20.st p45 rfl
    refine clV 47 rfl func70 rfl (impl_isClean.calls a0.To s45.w (mm [0] s45) w0_2 w0_3 ((Xh (s := s45) A0_2).sub (D := [0]) rfl) (A0_3.kp K48)) (fun r50 s51 p51 n51 => ?_)
    exact Xb rfl (Kj46 _ _ _ ⟨s51, _, rfl, (ue (ue rfl rfl) rfl), (K48.st p51 rfl), (A47.st p51 rfl)⟩)
   refine sbT hb46 ?_
   rw [if_neg (by rw [hb46]; decide)]
   refine Xi rfl (Xi rfl (Xi rfl (Xb rfl ?_)))
   exact Kj46 _ _ _ ⟨s45, _, rfl, (ue (ue rfl rfl) rfl), (Ky20.st p45 rfl), (By20_b5.st p45 rfl)⟩
  rintro y46 _ _ ⟨s56, _, rfl, rfl, Ky46, By46_b5⟩
  refine Xb rfl (ji [13] (fun (y58 : Bool) e w => ∃ (s : St) (e0 : Env), w = s.w ∧ e = upd e0 49 (.bool y58) ∧ Kp s0 s) (fun Gj58 Kj58 => ?_) ?_)
  ·
   rcases bft y46 with hb58 | hb58
   ·
    refine sbT hb58 ?_
    rw [if_pos hb58]
    refine Xs fa35_3 rfl (ld' By46_b5 u3 rfl (clV 48 rfl func38 rfl (impl_within.calls a0.N (0 : Int) (50 : Int) s56.w (mm [] s56)) (fun r59 s60 p60 n60 => ?_)))
    exact Xb rfl (Kj58 _ _ _ ⟨s60, _, rfl, (ue rfl rfl), (Ky46.st p60 rfl)⟩)
   refine sbT hb58 ?_
   rw [if_neg (by rw [hb58]; decide)]
   exact Xi rfl (Xi rfl (Xi rfl (Xb rfl (Kj58 _ _ _ ⟨s56, _, rfl, (ue rfl rfl), Ky46⟩))))
  rintro y58 _ _ ⟨s62, _, rfl, rfl, Ky58⟩
  exact Xb rfl (dn (re rfl func33 rfl (Xv rfl Xg) rfl ⟨_, rfl, rfl, z.ky Ky58⟩))
 refine sr (Xb rfl (Xb rfl (dn (cd rfl (fun h63 => ?_) (fun h63 => ?_)))))
 ·
  refine sr (Xs fa35_4 rfl (Xw (es := [(iI a0.Key.Kind), (iI a0.Key.N), w0_0, w0_1]) By20_b5 u26 z26 rfl ?_))
  refine clV 49 rfl func70 rfl (impl_isClean.calls a0.Key s22.w (mm [0] s22) w0_0 w0_1 ((Xh (s := s22) A0_0).sub (D := [0]) rfl) (A0_1.kp Ky20)) (fun r65 s66 p66 n66 => ?_)
  refine Xb rfl (ji [8] (fun (y67 : Bool) e w => ∃ (s : St) (e0 : Env), w = s.w ∧ e = upd e0 59 (.bool y67) ∧ Kp s0 s) (fun Gj67 Kj67 => ?_) ?_)
  ·
   rcases bft r65 with hb67 | hb67
   ·
    refine sbT hb67 ?_
    rw [if_pos hb67]
    refine Xs fa35_5 rfl (Xw (es := [(iI a0.To.Kind), (iI a0.To.N), w0_2, w0_3]) (By20_b5.st p66 rfl) u26 z26 rfl ?_)
    have K69 := Ky20.st p66 rfl
    refine clV 50 rfl func70 rfl (impl_isClean.calls a0.To s66.w (mm [0] s66) w0_2 w0_3 ((Xh (s := s66) A0_2).sub (D := [0]) rfl) (A0_3.kp K69)) (fun r71 s72 p72 n72 => ?_)
    exact Xb rfl (Kj67 _ _ _ ⟨s72, _, rfl, (ue rfl rfl), (K69.st p72 rfl)⟩)
   refine sbT hb67 ?_
   rw [if_neg (by rw [hb67]; decide)]
   refine Xi rfl (Xi rfl (Xi rfl (Xb rfl ?_)))
   exact Kj67 _ _ _ ⟨s66, _, rfl, (ue rfl rfl), (Ky20.st p66 rfl)⟩
  rintro y67 _ _ ⟨s75, _, rfl, rfl, Ky67⟩
  exact Xb rfl (dn (re rfl func33 rfl (Xv rfl Xg) rfl ⟨_, rfl, rfl, z.ky Ky67⟩))
 refine sr (Xb rfl (Xb rfl (dn (cd rfl (fun h76 => ?_) (fun h76 => ?_)))))
 ·
  refine sr (Xs fa35_3 rfl (ld' By20_b5 u3 rfl (clV 51 rfl func38 rfl (impl_within.calls a0.N (0 : Int) (15 : Int) s22.w (mm [] s22)) (fun r77 s78 p78 n78 => ?_))))
  refine Xb rfl (dn ?_)
  exact re rfl func33 rfl (Xv rfl Xg) rfl ⟨_, rfl, rfl, z.ky (Ky20.st p78 rfl)⟩
 refine sr (Xb rfl (Xb rfl (dn (cd rfl (fun h80 => ?_) (fun h80 => ?_)))))
 ·
  exact sr (Xs fa35_3 rfl (ld' By20_b5 u3 rfl (Xb rfl (Xb rfl (dn (re rfl func33 rfl (Xv rfl Xg) rfl ⟨_, rfl, rfl, z.ky Ky20⟩))))))
 refine sr (Xb rfl (Xb rfl (dn (cd rfl (fun h81 => ?_) (fun h81 => ?_)))))
 ·
  refine sr (Xs fa35_7 rfl (ld' By20_b5 u33 rfl ?_))
  exact ln' ((z.rd h0_6).kp Ky20) u33 rfl (Xb rfl (Xb rfl (dn (re rfl func33 rfl (Xv rfl Xg) rfl ⟨_, rfl, rfl, z.ky Ky20⟩))))
 refine sk (ib (sr (Xs fa35_0 rfl (ld' By20_b5 u3 rfl (clV 52 rfl func38 rfl (impl_within.calls a0.Kind (1 : Int) (13 : Int) s22.w (mm [] s22)) (fun r83 s84 p84 n84 => ?_))))))
 refine Xb rfl (dn ?_)
 exact re rfl func33 rfl (Xv rfl Xg) rfl ⟨_, rfl, rfl, z.ky (Ky20.st p84 rfl)⟩
def impl_opNames.f  : Option ((List ByteArray)) :=
 (some ([(⟨#[]⟩ : ByteArray), (⟨#[98, 101, 103, 105, 110]⟩ : ByteArray), (⟨#[103, 101, 116]⟩ : ByteArray), (⟨#[112, 117, 116]⟩ : ByteArray), (⟨#[100, 101, 108, 101, 116, 101]⟩ : ByteArray), (⟨#[115, 99, 97, 110]⟩ : ByteArray), (⟨#[116, 111, 116, 97, 108]⟩ : ByteArray), (⟨#[99, 111, 109, 109, 105, 116]⟩ : ByteArray), (⟨#[97, 98, 111, 114, 116]⟩ : ByteArray), (⟨#[118, 97, 99, 117, 117, 109]⟩ : ByteArray), (⟨#[99, 104, 101, 99, 107, 112, 111, 105, 110, 116]⟩ : ByteArray), (⟨#[101, 118, 105, 99, 116]⟩ : ByteArray), (⟨#[102, 117, 115, 101]⟩ : ByteArray), (⟨#[99, 114, 97, 115, 104]⟩ : ByteArray)]))
def impl_opNames.Q (w : World) (F : Nat → Prop) (r : (List ByteArray)) (v : Value) (w' : World) : Prop :=
 FO (Kd.sl 9 Kd.str) w w' [v] r ∧ Ky [] w w'
theorem impl_opNames.calls  (w : World) (F : Nat → Prop)   (r : (List ByteArray)) (m : impl_opNames.f  = some r) :
  Calls prog 37 #[] w (RT (impl_opNames.Q w F) r) := by
 obtain ⟨s0, rfl, kp0, z⟩ := Xm w F
 refine Xd (args := []) func37 ntmps37 rfl rfl m ?_
 unfold impl_opNames.f
 refine sr (Xb rfl (dn (sr (ltF' (K := Kd.str) (cells := [(.string (⟨#[]⟩ : ByteArray)), (.string (⟨#[98, 101, 103, 105, 110]⟩ : ByteArray)), (.string (⟨#[103, 101, 116]⟩ : ByteArray)), (.string (⟨#[112, 117, 116]⟩ : ByteArray)), (.string (⟨#[100, 101, 108, 101, 116, 101]⟩ : ByteArray)), (.string (⟨#[115, 99, 97, 110]⟩ : ByteArray)), (.string (⟨#[116, 111, 116, 97, 108]⟩ : ByteArray)), (.string (⟨#[99, 111, 109, 109, 105, 116]⟩ : ByteArray)), (.string (⟨#[97, 98, 111, 114, 116]⟩ : ByteArray)), (.string (⟨#[118, 97, 99, 117, 117, 109]⟩ : ByteArray)), (.string (⟨#[99, 104, 101, 99, 107, 112, 111, 105, 110, 116]⟩ : ByteArray)), (.string (⟨#[101, 118, 105, 99, 116]⟩ : ByteArray)), (.string (⟨#[102, 117, 115, 101]⟩ : ByteArray)), (.string (⟨#[99, 114, 97, 115, 104]⟩ : ByteArray))]) [(⟨#[]⟩ : ByteArray), (⟨#[98, 101, 103, 105, 110]⟩ : ByteArray), (⟨#[103, 101, 116]⟩ : ByteArray), (⟨#[112, 117, 116]⟩ : ByteArray), (⟨#[100, 101, 108, 101, 116, 101]⟩ : ByteArray), (⟨#[115, 99, 97, 110]⟩ : ByteArray), (⟨#[116, 111, 116, 97, 108]⟩ : ByteArray), (⟨#[99, 111, 109, 109, 105, 116]⟩ : ByteArray), (⟨#[97, 98, 111, 114, 116]⟩ : ByteArray), (⟨#[118, 97, 99, 117, 117, 109]⟩ : ByteArray), (⟨#[99, 104, 101, 99, 107, 112, 111, 105, 110, 116]⟩ : ByteArray), (⟨#[101, 118, 105, 99, 116]⟩ : ByteArray), (⟨#[102, 117, 115, 101]⟩ : ByteArray), (⟨#[99, 114, 97, 115, 104]⟩ : ByteArray)] 40 fl_str u59 z9 o9 (fun w => (Xj _ _ _)) rfl (lfill_c rfl rfl rfl rfl rfl) (fun v1 s1 p1 A1 => ?_)))))
 refine Xq v1 rfl (dn ?_)
 have K3 := kp0.st p1 rfl
 exact re rfl func37 rfl (Xv rfl Xg) rfl ⟨_, rfl, A1.fo K3 rfl z.l, z.ky K3⟩
def impl_keepText.b0 (a0 : (List Bool)) (x6 : (List Int) × Int) : Option (((List Int) × Int) ⊕ ByteArray) :=
 (if (decide (x6.2 < (a0.length : Int))) = true then (if 0 ≤ x6.2 ∧ x6.2 < (a0.length : Int) then (if 0 ≤ x6.2 ∧ x6.2 < (x6.1.length : Int) then ((if (at_ a0 x6.2) = true then (if 0 ≤ x6.2 ∧ x6.2 < ((x6.1.set (x6.2).toNat (48 : Int)).length : Int) then (some ((x6.1.set (x6.2).toNat (48 : Int)).set (x6.2).toNat (49 : Int))) else none) else (some (x6.1.set (x6.2).toNat (48 : Int)))).bind fun y17 => (some (Sum.inl (y17, (IntKind.wrap .i64 (x6.2 + (1 : Int))))))) else none) else none) else ((some (str x6.1)).bind fun o => some (Sum.inr o)))
def impl_keepText.f (a0 : (List Bool)) : Option (ByteArray) :=
 (if 0 ≤ (a0.length : Int) ∧ (a0.length : Int) ≤ (Lim : Int) then (iter (impl_keepText.b0 a0) ((List.replicate ((a0.length : Int)).toNat (0 : Int)), (0 : Int))) else none)
def impl_keepText.Q (w : World) (F : Nat → Prop) (r : ByteArray) (v : Value) (w' : World) : Prop :=
 v = (.string r) ∧ Ky [] w w'
theorem impl_keepText.calls (a0 : (List Bool)) (w : World) (F : Nat → Prop) (w0_0 : Value) (h0_0 : (Kd.sl 4 Kd.bool).rd w [w0_0] a0 F) (r : ByteArray) (m : impl_keepText.f a0 = some r) :
  Calls prog 72 #[w0_0] w (RT (impl_keepText.Q w F) r) := by
 obtain ⟨s0, rfl, kp0, z⟩ := Xm w F
 have A0_0 := z.rd h0_0
 refine Xd (args := [w0_0]) func72 ntmps72 rfl rfl m ?_
 unfold impl_keepText.f
 refine sr (Xb rfl (dn (sr (Xp w0_0 rfl (ln' A0_0 u33 rfl (mk (x0 := (0 : Int)) (K := (Kd.int .u8)) 40 sl22 o5 (fun _ => ⟨rfl, rfl⟩) rfl rfl rfl rfl rfl rfl rfl (fun v2 s2 p2 A2 => ?_)))))))
 refine Xq v2 rfl (dn (sq (sr (Xp w0_0 rfl ?_))))
 have K4 := kp0.st p2 rfl
 refine ln' (A0_0.kp K4) u33 rfl (Xb rfl (dn (bl (lpI (fun (x6 : (List Int) × Int) e w => ∃ (s : St) (e0 : Env), w = s.w ∧ e = upd (upd (upd (upd e0 3 v2) 9 w0_0) 10 (iI (a0.length : Int))) 11 (iI x6.2) ∧ Kp s0 s ∧ OwF Xx s [v2] x6.1 40) ⟨s2, _, rfl, (ue (ue (ue (ue rfl rfl) rfl) rfl) rfl), K4, A2⟩ (fun g6 ih6 => ?_)))))
 rintro x6 _ _ ⟨s7, _, rfl, rfl, Kx6, Ax6_0⟩
 unfold impl_keepText.b0
 refine sr (Xb rfl (dn (sq (cd rfl (fun h9 => ?_) (fun h9 => ?_)))))
 ·
  refine sk (sq (bl (sr (Xb rfl ?_))))
  refine ix' (A0_0.kp Kx6) u33 z4 rfl (fun ad11 es11 h0_11 h1_11 he11 ce11 ia11 => ?_)
  obtain rfl := he11
  refine lc0' ce11 u4 rfl (Xb rfl (Xb rfl (dn (sr (Xp v2 rfl (Xb rfl (ix' Ax6_0.rd u22 z5 rfl (fun ad13 es13 h0_13 h1_13 he13 ce13 ia13 => ?_))))))))
  obtain rfl := he13
  refine so (x' := (48 : Int)) Ax6_0 ia13 h0_13 h1_13 cs_flat z5 rfl rfl rfl rfl rfl rfl (fun s15 p15 A15 => ?_)
  refine dn (sr (Xb rfl (dn (jc (fun (y17 : (List Int)) e w => ∃ (s : St) (e0 : Env), w = s.w ∧ e = upd (upd (upd (upd e0 3 v2) 9 w0_0) 10 (iI (a0.length : Int))) 11 (iI x6.2) ∧ Kp s0 s ∧ OwF Xx s [v2] y17 40) (fun Gj17 Kj17 => ?_) ?_))))
  ·
   refine cd rfl (fun h18 => ?_) (fun h18 => ?_)
   ·
    refine rg (Xp v2 rfl (Xb rfl (ix' A15.rd u22 z5 rfl (fun ad19 es19 h0_19 h1_19 he19 ce19 ia19 => ?_))))
    obtain rfl := he19
    refine so (x' := (49 : Int)) A15 ia19 h0_19 h1_19 cs_flat z5 rfl rfl rfl rfl rfl rfl (fun s21 p21 A21 => ?_)
    exact dn (Kj17 _ _ _ ⟨s21, _, rfl, (ue (ue (ue (ue rfl rfl) rfl) rfl) rfl), (Kx6.st (Xo p15 p21) rfl), A21⟩)
   exact sk (Kj17 _ _ _ ⟨s15, _, rfl, (ue (ue (ue (ue rfl rfl) rfl) rfl) rfl), (Kx6.st p15 rfl), A15⟩)
  rintro y17 _ _ ⟨s25, _, rfl, rfl, Ky17, Ay17_0⟩
  exact ib (rg (Xb rfl (Xb rfl (dn (lb ih6 ⟨s25, _, rfl, (ue (ue (ue (ue rfl rfl) rfl) rfl) rfl), Ky17, Ay17_0⟩)))))
 exact xt rfl (sgb (sr (Xp v2 rfl (b2s Ax6_0.rd u22 u9 u5 rfl rfl rfl rfl rfl rfl (Xb rfl (dn (re rfl func72 rfl (Xv rfl Xg) rfl ⟨_, rfl, rfl, z.ky Kx6⟩)))))))
section
open Go.Shelf
shelf_lay Lays.n156 Nm 156 at Tryz as lay_join
theorem join_extra : Builder.Extra Tryz.prog lay_join_ren where
  sizeBuilder := by kernel_rfl
  liesBuilder := by kernel_rfl
  t5 := Tryz.underlying5
  a5 := Tryz.isAgg5
  z5 := Tryz.sizeOf5
  v5 := Tryz.zeroValue5
  infoByte := by kernel_rfl
  cellsByte := by kernel_rfl
  sizeByte := by kernel_rfl
  neB5 := by decide
def strings_Join.f (a0 : (List ByteArray)) (a1 : ByteArray) : Option (ByteArray) := if a0.length ≤ Lim ∧ (Lib.join (a0.map (·.data.toList)) a1.data.toList).length ≤ Lim then some ⟨(Lib.join (a0.map (·.data.toList)) a1.data.toList).toArray⟩ else none
def strings_Join.Q (w : World) (F : Nat → Prop) (r : ByteArray) (v : Value) (w' : World) : Prop := v = (.string r) ∧ Ky [] w w'
theorem strings_Join.calls (a0 : (List ByteArray)) (a1 : ByteArray) (w : World) (F : Nat → Prop) (w0_0 : Value) (h0_0 : (Kd.sl 9 Kd.str).rd w [w0_0] a0 F) (r : ByteArray) (m : strings_Join.f a0 a1 = some r) :
    Calls Tryz.prog 73 #[w0_0, .string a1] w (RT (strings_Join.Q w F) r) := by
  unfold strings_Join.f at m
  split at m
  · rename_i h
    cases m
    obtain ⟨v1, e1, B, cap, cells, hv, hcap, hels, hc⟩ := h0_0
    obtain rfl : w0_0 = v1 := by simpa using e1
    subst hv
    have hcs := els_strs hels
    cases a0 with
    | nil => exact Calls.mono (Any.strings_Join_none lay_join join_extra B cap a1 w) fun e w' ⟨he, hw⟩ => ⟨_, he, rfl, by rw [hw]; exact Ky.refl w⟩
    | cons x xs =>
      obtain ⟨ad, rfl, _, hcell⟩ := hc (by rw [hcs]; simp)
      have h0 := hcell 0 (.string x) (by rw [hcs]; rfl)
      obtain ⟨bk, o, sp⟩ := ad
      have hsp : sp = none := by
        cases sp with
        | none => rfl
        | some q => simp [World.cell?, Addr.add] at h0; split at h0 <;> cases h0
      subst hsp
      have hj : ∀ (j : Nat) y, (x :: xs)[j]? = some y → w.cell? ⟨bk, o + j, none⟩ = some (.string y) := fun j y hy => by
        have h1 := hcell j (.string y) (by rw [hcs, List.getElem?_map, hy]; rfl)
        rwa [Addr.add_lit] at h1
      have hbk : bk < w.heap.size := by
        have := World.block_lt_of_cell? w _ h0
        simpa [Addr.add] using this
      exact Calls.mono (Any.strings_Join lay_join join_extra bk o cap (x :: xs) a1 w hj hbk (by have := h.1; unfold Lim at this; omega) hcap (by have := h.2; unfold Lim at this; omega)) fun e w' ⟨he, hw⟩ => ⟨_, he, rfl, Ky.of_below hw⟩
  · cases m
end

def impl_opText.f (a0 : Op) : Option (ByteArray) :=
 ((impl_opNames.f).bind fun r13 => (if 0 ≤ a0.Kind ∧ a0.Kind < (r13.length : Int) then ((if (decide (a0.Kind ≤ (8 : Int))) = true then ((strconv_Itoa.f a0.Seat).bind fun r26 => (if ([(at_ r13 a0.Kind)]).length + ([r26]).length ≤ Lim then (some ([(at_ r13 a0.Kind)] ++ [r26])) else none)) else (some ([(at_ r13 a0.Kind)]))).bind fun y23 => ((if (a0.Kind == (1 : Int)) = true then ((strconv_Itoa.f a0.Level).bind fun r41 => (if y23.length + ([r41]).length ≤ Lim then (some (y23 ++ [r41])) else none)) else ((if (a0.Kind == (2 : Int)) = true then (some (a0.Kind == (2 : Int))) else (some (a0.Kind == (4 : Int)))).bind fun y49 => ((if y49 = true then ((impl_itemText.f a0.Key).bind fun r56 => (if y23.length + ([r56]).length ≤ Lim then (some (y23 ++ [r56])) else none)) else ((if (a0.Kind == (3 : Int)) = true then ((impl_itemText.f a0.Key).bind fun r79 => ((impl_itemText.f a0.Value).bind fun r86 => (if y23.length + ([r79, r86]).length ≤ Lim then (some (y23 ++ [r79, r86])) else none))) else ((if (a0.Kind == (5 : Int)) = true then ((impl_itemText.f a0.Key).bind fun r116 => ((impl_itemText.f a0.To).bind fun r124 => ((strconv_Itoa.f a0.N).bind fun r130 => (if y23.length + ([r116, r124, r130]).length ≤ Lim then (some (y23 ++ [r116, r124, r130])) else none)))) else ((if (a0.Kind == (6 : Int)) = true then ((impl_itemText.f a0.Key).bind fun r156 => ((impl_itemText.f a0.To).bind fun r163 => (if y23.length + ([r156, r163]).length ≤ Lim then (some (y23 ++ [r156, r163])) else none))) else ((if (a0.Kind == (11 : Int)) = true then (some (a0.Kind == (11 : Int))) else (some (a0.Kind == (12 : Int)))).bind fun y174 => ((if y174 = true then ((strconv_Itoa.f a0.N).bind fun r180 => (if y23.length + ([r180]).length ≤ Lim then (some (y23 ++ [r180])) else none)) else ((if (a0.Kind == (13 : Int)) = true then ((if (decide ((a0.Keep.length : Int) > (0 : Int))) = true then ((impl_keepText.f a0.Keep).bind fun r193 => (if y23.length + ([r193]).length ≤ Lim then (some (y23 ++ [r193])) else none)) else (some y23)).bind fun y191 => (some y191)) else (some y23)).bind fun y188 => (some y188))).bind fun y178 => (some y178)))).bind fun y141 => (some y141))).bind fun y97 => (some y97))).bind fun y64 => (some y64))).bind fun y53 => (some y53)))).bind fun y39 => ((strings_Join.f y39 (⟨#[32]⟩ : ByteArray)).bind fun r217 => (some r217)))) else none))
def impl_opText.Q (w : World) (F : Nat → Prop) (r : ByteArray) (v : Value) (w' : World) : Prop :=
 v = (.string r) ∧ Ky [] w w'
theorem impl_opText.calls (a0 : Op) (w : World) (F : Nat → Prop) (w0_0 : Value) (w0_1 : Value) (w0_2 : Value) (w0_3 : Value) (w0_4 : Value) (w0_5 : Value) (w0_6 : Value) (hG : GT.rd w [] () F) (h0_0 : Kd.flt.rd w [w0_0] a0.Key.F F) (h0_1 : Xx.rd w [w0_1] a0.Key.T F) (h0_2 : Kd.flt.rd w [w0_2] a0.To.F F) (h0_3 : Xx.rd w [w0_3] a0.To.T F) (h0_4 : Kd.flt.rd w [w0_4] a0.Value.F F) (h0_5 : Xx.rd w [w0_5] a0.Value.T F) (h0_6 : (Kd.sl 4 Kd.bool).rd w [w0_6] a0.Keep F) (r : ByteArray) (m : impl_opText.f a0 = some r) :
  Calls prog 34 #[(.agg #[(iI a0.Kind), (iI a0.Seat), (iI a0.Level), (iI a0.N), (iI a0.Key.Kind), (iI a0.Key.N), w0_0, w0_1, (iI a0.To.Kind), (iI a0.To.N), w0_2, w0_3, (iI a0.Value.Kind), (iI a0.Value.N), w0_4, w0_5, w0_6])] w (RT (impl_opText.Q w F) r) := by
 obtain ⟨s0, rfl, kp0, z⟩ := Xm w F
 have A0_0 := fl_of h0_0
 have A0_1 := z.rd h0_1
 have A0_2 := fl_of h0_2
 have A0_3 := z.rd h0_3
 have AG := z.rd hG
 refine Xd (args := [(.agg #[(iI a0.Kind), (iI a0.Seat), (iI a0.Level), (iI a0.N), (iI a0.Key.Kind), (iI a0.Key.N), w0_0, w0_1, (iI a0.To.Kind), (iI a0.To.N), w0_2, w0_3, (iI a0.Value.Kind), (iI a0.Value.N), w0_4, w0_5, w0_6])]) func34 ntmps34 rfl rfl m ?_
 unfold impl_opText.f
 refine sr (bx (cs := [(iI a0.Kind), (iI a0.Seat), (iI a0.Level), (iI a0.N), (iI a0.Key.Kind), (iI a0.Key.N), w0_0, w0_1, (iI a0.To.Kind), (iI a0.To.N), w0_2, w0_3, (iI a0.Value.Kind), (iI a0.Value.N), w0_4, w0_5, w0_6]) 40 rfl rfl rfl rfl rfl rfl (fun b5 s5 p5 B5 => ?_))
 refine Xb rfl (dn (sq (zdraw [[], [], [1], [0, 2], [3], [4], [5, 0, 0, 1, 2, 3, 4, 5]] [some 4, some 5, some 6, some 7, some 8, some 9, some 3] [[], [1], [5], [4, 6], [7], [8], [9]] [0, 1, 2, 3, 4, 5, 6] ⟨by kernel_rfl, by kernel_rfl, by kernel_rfl⟩ (by kernel_rfl) (fun s7 p7 l7 tb7 zd7 => ?_))))
 refine zstep 0 [some 6, some 5] tb7 ((zd7.add 1 5 (pB b5) rfl).add 2 6 (iI a0.Kind) rfl) (Xc (ld_q (B5.st p7 rfl) u3 rfl rfl rfl rfl rfl rfl rfl rfl) rfl (Xc (fa_q fa35_0 rfl rfl rfl rfl rfl rfl) rfl Xt)) (by kernel_rfl) rfl (fun l11 e11 zd11 => ?_)
 refine clO 41 rfl func37 rfl (impl_opNames.calls  s7.w (mm [] s7)) (fun r13 v13_0 s14 p14 A13_0 => ?_)
 refine zdone (L' := [2, 1]) (D' := [0]) zd11 rfl rfl rfl (fun zd16 => ?_)
 refine zfin [3, 4, 5, 6] tb7 zd16 (Xc (ld_q (B5.st (Xo p7 p14) rfl) u3 rfl rfl rfl rfl rfl rfl rfl rfl) rfl (Xc (fa_q fa35_0 rfl rfl rfl rfl rfl rfl) rfl Xt)) (by kernel_rfl) (by decide) (ix' A13_0.rd u59 z9 rfl (fun ad18 es18 h0_18 h1_18 he18 ce18 ia18 => ?_))
 obtain rfl := he18
 refine lc0' ce18 u9 rfl (ltF' (K := Kd.str) (cells := [(.string (at_ r13 a0.Kind))]) [(at_ r13 a0.Kind)] 42 fl_str u59 z9 o9 (fun w => (Xj _ _ _)) rfl rfl (fun v20 s20 p20 A20 => ?_))
 refine Xq v20 rfl (dn (sq (sr (Xs fa35_0 rfl ?_))))
 have A22 := B5.st (tr3 p7 p14 p20) rfl
 refine ld' A22 u3 rfl (Xb rfl (dn (jc (fun (y23 : (List ByteArray)) e w => ∃ (s : St) (e0 : Env) (vy23_0 : Value), w = s.w ∧ e = upd (upd e0 1 (pB b5)) 3 vy23_0 ∧ Kp s0 s ∧ OwF (Kd.sl 9 Kd.str) s [vy23_0] y23 42 ∧ BlF s b5 35 [(iI a0.Kind), (iI a0.Seat), (iI a0.Level), (iI a0.N), (iI a0.Key.Kind), (iI a0.Key.N), w0_0, w0_1, (iI a0.To.Kind), (iI a0.To.N), w0_2, w0_3, (iI a0.Value.Kind), (iI a0.Value.N), w0_4, w0_5, w0_6] 40) (fun Gj23 Kj23 => ?_) ?_)))
 ·
  refine cd rfl (fun h24 => ?_) (fun h24 => ?_)
  ·
   refine rg (Xp v20 rfl (Xs fa35_1 rfl (ld' A22 u3 rfl ?_)))
   have K25 := kp0.st (tr4 p5 p7 p14 p20) rfl
   refine clV 43 rfl func62 rfl (strconv_Itoa.calls a0.Seat s20.w (mm [0] s20) (AG.kp K25)) (fun r26 s27 p27 n27 => ?_)
   refine ltF' (K := Kd.str) (cells := [(.string r26)]) [r26] 44 fl_str u59 z9 o9 (fun w => (Xj _ _ _)) rfl rfl (fun v28 s28 p28 A28 => ?_)
   refine apF' fl_str sl59 (A20.st (Xo p27 p28) rfl) A28.rd rfl (fun v31 s31 p31 A31 => ?_)
   refine Xq v31 rfl (dn ?_)
   exact Kj23 _ _ _ ⟨s31, _, v31, rfl, (ue (ue rfl rfl) rfl), (K25.st (tr3 p27 p28 p31) rfl), A31, (A22.st (tr3 p27 p28 p31) rfl)⟩
  exact sk (Kj23 _ _ _ ⟨s20, _, v20, rfl, (ue (ue rfl rfl) rfl), (kp0.st (tr4 p5 p7 p14 p20) rfl), A20, A22⟩)
 rintro y23 _ _ ⟨s36, _, vy23_0, rfl, rfl, Ky23, Ay23_0, By23_b5⟩
 refine sq (sr (Xs fa35_0 rfl (ld' By23_b5 u3 rfl (dn (bl (sr (Xb rfl (Xb rfl (dn (jc (fun (y39 : (List ByteArray)) e w => ∃ (s : St) (e0 : Env) (vy39_0 : Value), w = s.w ∧ e = upd e0 3 vy39_0 ∧ Kp s0 s ∧ OwF (Kd.sl 9 Kd.str) s [vy39_0] y39 42) (fun Gj39 Kj39 => ?_) ?_))))))))))
 ·
  refine cd rfl (fun h40 => ?_) (fun h40 => ?_)
  ·
   refine rg (Xp vy23_0 rfl (Xs fa35_2 rfl (ld' By23_b5 u3 rfl (clV 45 rfl func62 rfl (strconv_Itoa.calls a0.Level s36.w (mm [0] s36) (AG.kp Ky23)) (fun r41 s42 p42 n42 => ?_)))))
   refine ltF' (K := Kd.str) (cells := [(.string r41)]) [r41] 46 fl_str u59 z9 o9 (fun w => (Xj _ _ _)) rfl rfl (fun v43 s43 p43 A43 => ?_)
   refine apF' fl_str sl59 (Ay23_0.st (Xo p42 p43) rfl) A43.rd rfl (fun v46 s46 p46 A46 => ?_)
   refine Xq v46 rfl (dn ?_)
   exact Kj39 _ _ _ ⟨s46, _, v46, rfl, (ue rfl rfl), (Ky23.st (tr3 p42 p43 p46) rfl), A46⟩
  refine sq (sr (Xb rfl (Xb rfl (dn (jc (fun (y49 : Bool) e w => ∃ (s : St) (e0 : Env), w = s.w ∧ e = upd (upd (upd (upd e0 1 (pB b5)) 3 vy23_0) 20 (iI a0.Kind)) 29 (.bool y49) ∧ Kp s0 s ∧ BlF s b5 35 [(iI a0.Kind), (iI a0.Seat), (iI a0.Level), (iI a0.N), (iI a0.Key.Kind), (iI a0.Key.N), w0_0, w0_1, (iI a0.To.Kind), (iI a0.To.N), w0_2, w0_3, (iI a0.Value.Kind), (iI a0.Value.N), w0_4, w0_5, w0_6] 40 ∧ OwF (Kd.sl 9 Kd.str) s [vy23_0] y23 42) (fun Gj49 Kj49 => ?_) ?_)))))
  ·
   refine cd rfl (fun h50 => ?_) (fun h50 => ?_)
   ·
    exact sk (Kj49 _ _ _ ⟨s36, _, rfl, (ue (ue (ue (ue rfl rfl) rfl) rfl) rfl), Ky23, By23_b5, Ay23_0⟩)
   exact rg (Xb rfl (Xb rfl (dn (Kj49 _ _ _ ⟨s36, _, rfl, (ue (ue (ue (ue rfl rfl) rfl) rfl) rfl), Ky23, By23_b5, Ay23_0⟩))))
  rintro y49 _ _ ⟨s51, _, rfl, rfl, Ky49, By49_b5, Cy49_37⟩
  refine jc (fun (y53 : (List ByteArray)) e w => ∃ (s : St) (e0 : Env) (vy53_0 : Value), w = s.w ∧ e = upd e0 3 vy53_0 ∧ Kp s0 s ∧ OwF (Kd.sl 9 Kd.str) s [vy53_0] y53 42) (fun Gj53 Kj53 => ?_) ?_
  ·
   refine cd rfl (fun h54 => ?_) (fun h54 => ?_)
   ·
    refine rg (Xp vy23_0 rfl (Xs fa35_4 rfl (Xw (es := [(iI a0.Key.Kind), (iI a0.Key.N), w0_0, w0_1]) By49_b5 u26 z26 rfl ?_)))
    refine clV 47 rfl func27 rfl (impl_itemText.calls a0.Key s51.w (mm [0] s51) w0_0 w0_1 (AG.kp Ky49) ((Xh (s := s51) A0_0).sub (D := [0]) rfl) (A0_1.kp Ky49)) (fun r56 s57 p57 n57 => ?_)
    refine ltF' (K := Kd.str) (cells := [(.string r56)]) [r56] 48 fl_str u59 z9 o9 (fun w => (Xj _ _ _)) rfl rfl (fun v58 s58 p58 A58 => ?_)
    refine apF' fl_str sl59 (Cy49_37.st (Xo p57 p58) rfl) A58.rd rfl (fun v61 s61 p61 A61 => ?_)
    refine Xq v61 rfl (dn ?_)
    exact Kj53 _ _ _ ⟨s61, _, v61, rfl, (ue rfl rfl), (Ky49.st (tr3 p57 p58 p61) rfl), A61⟩
   refine sr (Xb rfl (Xb rfl (dn (jc (fun (y64 : (List ByteArray)) e w => ∃ (s : St) (e0 : Env) (vy64_0 : Value), w = s.w ∧ e = upd e0 3 vy64_0 ∧ Kp s0 s ∧ OwF (Kd.sl 9 Kd.str) s [vy64_0] y64 42) (fun Gj64 Kj64 => ?_) ?_))))
   ·
    refine cd rfl (fun h65 => ?_) (fun h65 => ?_)
    ·
     refine zdraw [[], [], [1], [2], [], [4], [5, 3], [3, 6], [0, 7, 6], [8, 8, 0, 1, 2, 3, 4, 5, 6, 7, 8]] [some 40, some 41, some 42, some 43, some 44, some 45, some 46, some 47, some 48, some 3] [[3], [1], [41], [42], [1], [44], [45], [43, 46], [40, 47], [48]] [0, 1, 2, 3, 4, 5, 6, 7, 8, 9] ⟨by kernel_rfl, by kernel_rfl, by kernel_rfl⟩ (by kernel_rfl) (fun s66 p66 l66 tb66 zd66 => ?_)
     refine zstep 3 [some 45, some 44, some 40] tb66 (((((zd66.add 0 40 vy23_0 rfl).add 1 41 (pO b5 4) rfl).add 2 42 (.agg #[(iI a0.Key.Kind), (iI a0.Key.N), w0_0, w0_1]) rfl).add 4 44 (pO b5 12) rfl).add 5 45 (.agg #[(iI a0.Value.Kind), (iI a0.Value.N), w0_4, w0_5]) rfl) (Xc (lda_q (es := [(iI a0.Value.Kind), (iI a0.Value.N), w0_4, w0_5]) (By49_b5.st p66 rfl) u26 z26 rfl rfl rfl rfl rfl rfl rfl rfl) rfl (Xc (fa_q fa35_6 rfl rfl rfl rfl rfl rfl) rfl (Xc (lda_q (es := [(iI a0.Key.Kind), (iI a0.Key.N), w0_0, w0_1]) (By49_b5.st p66 rfl) u26 z26 rfl rfl rfl rfl rfl rfl rfl rfl) rfl (Xc (fa_q fa35_4 rfl rfl rfl rfl rfl rfl) rfl (Xc (mv_q' vy23_0 rfl) rfl Xt))))) (by kernel_rfl) rfl (fun l74 e74 zd74 => ?_)
     have K77 := Ky49.st p66 rfl
     refine clV 49 rfl func27 rfl (impl_itemText.calls a0.Key s66.w (mm [0] s66) w0_0 w0_1 (AG.kp K77) ((Xh (s := s66) A0_0).sub (D := [0]) rfl) (A0_1.kp K77)) (fun r79 s80 p80 n80 => ?_)
     refine zdone (L' := [5, 4, 0]) (D' := [1, 2, 3]) zd74 rfl rfl rfl (fun zd81 => ?_)
     refine zstep 6 [some 40] tb66 zd81 (Xc (lda_q (es := [(iI a0.Value.Kind), (iI a0.Value.N), w0_4, w0_5]) (By49_b5.st (Xo p66 p80) rfl) u26 z26 rfl rfl rfl rfl rfl rfl rfl rfl) rfl (Xc (fa_q fa35_6 rfl rfl rfl rfl rfl rfl) rfl (Xc (mv_q' vy23_0 rfl) rfl Xt))) (by kernel_rfl) rfl (fun l82 e82 zd82 => ?_)
     have K84 := K77.st p80 rfl
     refine clV 50 rfl func27 rfl (impl_itemText.calls a0.Value s80.w (mm [0] s80) w0_4 w0_5 (AG.kp K84) ((Xh (s := s80) (fl_of h0_4)).sub (D := [0]) rfl) ((z.rd h0_5).kp K84)) (fun r86 s87 p87 n87 => ?_)
     refine zdone (L' := [0]) (D' := [4, 5, 6, 1, 2, 3]) zd82 rfl rfl rfl (fun zd88 => ?_)
     refine zstep 7 [some 40] tb66 zd88 (Xc (mv_q' vy23_0 rfl) rfl Xt) (by kernel_rfl) rfl (fun l89 e89 zd89 => ?_)
     refine ltF' (K := Kd.str) (cells := [(.string r79), (.string r86)]) [r79, r86] 51 fl_str u59 z9 o9 (fun w => (Xj _ _ _)) rfl rfl (fun v90 s90 p90 A90 => ?_)
     refine zdone (L' := [0]) (D' := [7, 4, 5, 6, 1, 2, 3]) zd89 rfl rfl rfl (fun zd92 => ?_)
     refine zfin [8, 9] tb66 zd92 (Xc (mv_q' vy23_0 rfl) rfl Xt) (by kernel_rfl) (by decide) (apF' fl_str sl59 (Cy49_37.st (tr4 p66 p80 p87 p90) rfl) A90.rd rfl (fun v94 s94 p94 A94 => ?_))
     refine Xq v94 rfl (dn ?_)
     exact Kj64 _ _ _ ⟨s94, _, v94, rfl, (ue rfl rfl), (K84.st (tr3 p87 p90 p94) rfl), A94⟩
    refine sr (Xb rfl (Xb rfl (dn (jc (fun (y97 : (List ByteArray)) e w => ∃ (s : St) (e0 : Env) (vy97_0 : Value), w = s.w ∧ e = upd e0 3 vy97_0 ∧ Kp s0 s ∧ OwF (Kd.sl 9 Kd.str) s [vy97_0] y97 42) (fun Gj97 Kj97 => ?_) ?_))))
    ·
     refine cd rfl (fun h98 => ?_) (fun h98 => ?_)
     ·
      refine zdraw [[], [], [1], [2], [], [4], [5, 3], [], [7], [8, 6], [3, 6, 9], [0, 10, 9], [11, 11, 0, 1, 2, 3, 4, 5, 6, 7, 8, 9, 10, 11]] [some 51, some 52, some 53, some 54, some 55, some 56, some 57, some 58, some 59, some 60, some 61, some 62, some 3] [[3], [1], [52], [53], [1], [55], [56], [1], [58], [59], [54, 57, 60], [51, 61], [62]] [0, 1, 2, 3, 4, 5, 6, 7, 8, 9, 10, 11, 12] ⟨by kernel_rfl, by kernel_rfl, by kernel_rfl⟩ (by kernel_rfl) (fun s99 p99 l99 tb99 zd99 => ?_)
      refine zstep 3 [some 59, some 58, some 56, some 55, some 51] tb99 (((((((zd99.add 0 51 vy23_0 rfl).add 1 52 (pO b5 4) rfl).add 2 53 (.agg #[(iI a0.Key.Kind), (iI a0.Key.N), w0_0, w0_1]) rfl).add 4 55 (pO b5 8) rfl).add 5 56 (.agg #[(iI a0.To.Kind), (iI a0.To.N), w0_2, w0_3]) rfl).add 7 58 (pO b5 3) rfl).add 8 59 (iI a0.N) rfl) (Xc (ld_q (By49_b5.st p99 rfl) u3 rfl rfl rfl rfl rfl rfl rfl rfl) rfl (Xc (fa_q fa35_3 rfl rfl rfl rfl rfl rfl) rfl (Xc (lda_q (es := [(iI a0.To.Kind), (iI a0.To.N), w0_2, w0_3]) (By49_b5.st p99 rfl) u26 z26 rfl rfl rfl rfl rfl rfl rfl rfl) rfl (Xc (fa_q fa35_5 rfl rfl rfl rfl rfl rfl) rfl (Xc (lda_q (es := [(iI a0.Key.Kind), (iI a0.Key.N), w0_0, w0_1]) (By49_b5.st p99 rfl) u26 z26 rfl rfl rfl rfl rfl rfl rfl rfl) rfl (Xc (fa_q fa35_4 rfl rfl rfl rfl rfl rfl) rfl (Xc (mv_q' vy23_0 rfl) rfl Xt))))))) (by kernel_rfl) rfl (fun l110 e110 zd110 => ?_)
      have K114 := Ky49.st p99 rfl
      refine clV 52 rfl func27 rfl (impl_itemText.calls a0.Key s99.w (mm [0] s99) w0_0 w0_1 (AG.kp K114) ((Xh (s := s99) A0_0).sub (D := [0]) rfl) (A0_1.kp K114)) (fun r116 s117 p117 n117 => ?_)
      refine zdone (L' := [8, 7, 5, 4, 0]) (D' := [1, 2, 3]) zd110 rfl rfl rfl (fun zd118 => ?_)
      refine zstep 6 [some 59, some 58, some 51] tb99 zd118 (Xc (ld_q (By49_b5.st (Xo p99 p117) rfl) u3 rfl rfl rfl rfl rfl rfl rfl rfl) rfl (Xc (fa_q fa35_3 rfl rfl rfl rfl rfl rfl) rfl (Xc (lda_q (es := [(iI a0.To.Kind), (iI a0.To.N), w0_2, w0_3]) (By49_b5.st (Xo p99 p117) rfl) u26 z26 rfl rfl rfl rfl rfl rfl rfl rfl) rfl (Xc (fa_q fa35_5 rfl rfl rfl rfl rfl rfl) rfl (Xc (mv_q' vy23_0 rfl) rfl Xt))))) (by kernel_rfl) rfl (fun l119 e119 zd119 => ?_)
      have K122 := K114.st p117 rfl
      refine clV 53 rfl func27 rfl (impl_itemText.calls a0.To s117.w (mm [0] s117) w0_2 w0_3 (AG.kp K122) ((Xh (s := s117) A0_2).sub (D := [0]) rfl) (A0_3.kp K122)) (fun r124 s125 p125 n125 => ?_)
      refine zdone (L' := [8, 7, 0]) (D' := [4, 5, 6, 1, 2, 3]) zd119 rfl rfl rfl (fun zd126 => ?_)
      refine zstep 9 [some 51] tb99 zd126 (Xc (ld_q (By49_b5.st (tr3 p99 p117 p125) rfl) u3 rfl rfl rfl rfl rfl rfl rfl rfl) rfl (Xc (fa_q fa35_3 rfl rfl rfl rfl rfl rfl) rfl (Xc (mv_q' vy23_0 rfl) rfl Xt))) (by kernel_rfl) rfl (fun l127 e127 zd127 => ?_)
      have K129 := K122.st p125 rfl
      refine clV 54 rfl func62 rfl (strconv_Itoa.calls a0.N s125.w (mm [0] s125) (AG.kp K129)) (fun r130 s131 p131 n131 => ?_)
      refine zdone (L' := [0]) (D' := [7, 8, 9, 4, 5, 6, 1, 2, 3]) zd127 rfl rfl rfl (fun zd132 => ?_)
      refine zstep 10 [some 51] tb99 zd132 (Xc (mv_q' vy23_0 rfl) rfl Xt) (by kernel_rfl) rfl (fun l133 e133 zd133 => ?_)
      refine ltF' (K := Kd.str) (cells := [(.string r116), (.string r124), (.string r130)]) [r116, r124, r130] 55 fl_str u59 z9 o9 (fun w => (Xj _ _ _)) rfl rfl (fun v134 s134 p134 A134 => ?_)
      refine zdone (L' := [0]) (D' := [10, 7, 8, 9, 4, 5, 6, 1, 2, 3]) zd133 rfl rfl rfl (fun zd136 => ?_)
      refine zfin [11, 12] tb99 zd136 (Xc (mv_q' vy23_0 rfl) rfl Xt) (by kernel_rfl) (by decide) (apF' fl_str sl59 (Cy49_37.st (tr5 p99 p117 p125 p131 p134) rfl) A134.rd rfl (fun v138 s138 p138 A138 => ?_))
      refine Xq v138 rfl (dn ?_)
      exact Kj97 _ _ _ ⟨s138, _, v138, rfl, (ue rfl rfl), (K129.st (tr3 p131 p134 p138) rfl), A138⟩
     refine sr (Xb rfl (Xb rfl (dn (jc (fun (y141 : (List ByteArray)) e w => ∃ (s : St) (e0 : Env) (vy141_0 : Value), w = s.w ∧ e = upd e0 3 vy141_0 ∧ Kp s0 s ∧ OwF (Kd.sl 9 Kd.str) s [vy141_0] y141 42) (fun Gj141 Kj141 => ?_) ?_))))
     ·
      refine cd rfl (fun h142 => ?_) (fun h142 => ?_)
      ·
       refine zdraw [[], [], [1], [2], [], [4], [5, 3], [3, 6], [0, 7, 6], [8, 8, 0, 1, 2, 3, 4, 5, 6, 7, 8]] [some 65, some 66, some 67, some 68, some 69, some 70, some 71, some 72, some 73, some 3] [[3], [1], [66], [67], [1], [69], [70], [68, 71], [65, 72], [73]] [0, 1, 2, 3, 4, 5, 6, 7, 8, 9] ⟨by kernel_rfl, by kernel_rfl, by kernel_rfl⟩ (by kernel_rfl) (fun s143 p143 l143 tb143 zd143 => ?_)
       refine zstep 3 [some 70, some 69, some 65] tb143 (((((zd143.add 0 65 vy23_0 rfl).add 1 66 (pO b5 4) rfl).add 2 67 (.agg #[(iI a0.Key.Kind), (iI a0.Key.N), w0_0, w0_1]) rfl).add 4 69 (pO b5 8) rfl).add 5 70 (.agg #[(iI a0.To.Kind), (iI a0.To.N), w0_2, w0_3]) rfl) (Xc (lda_q (es := [(iI a0.To.Kind), (iI a0.To.N), w0_2, w0_3]) (By49_b5.st p143 rfl) u26 z26 rfl rfl rfl rfl rfl rfl rfl rfl) rfl (Xc (fa_q fa35_5 rfl rfl rfl rfl rfl rfl) rfl (Xc (lda_q (es := [(iI a0.Key.Kind), (iI a0.Key.N), w0_0, w0_1]) (By49_b5.st p143 rfl) u26 z26 rfl rfl rfl rfl rfl rfl rfl rfl) rfl (Xc (fa_q fa35_4 rfl rfl rfl rfl rfl rfl) rfl (Xc (mv_q' vy23_0 rfl) rfl Xt))))) (by kernel_rfl) rfl (fun l151 e151 zd151 => ?_)
       have K154 := Ky49.st p143 rfl
       refine clV 56 rfl func27 rfl (impl_itemText.calls a0.Key s143.w (mm [0] s143) w0_0 w0_1 (AG.kp K154) ((Xh (s := s143) A0_0).sub (D := [0]) rfl) (A0_1.kp K154)) (fun r156 s157 p157 n157 => ?_)
       refine zdone (L' := [5, 4, 0]) (D' := [1, 2, 3]) zd151 rfl rfl rfl (fun zd158 => ?_)
       refine zstep 6 [some 65] tb143 zd158 (Xc (lda_q (es := [(iI a0.To.Kind), (iI a0.To.N), w0_2, w0_3]) (By49_b5.st (Xo p143 p157) rfl) u26 z26 rfl rfl rfl rfl rfl rfl rfl rfl) rfl (Xc (fa_q fa35_5 rfl rfl rfl rfl rfl rfl) rfl (Xc (mv_q' vy23_0 rfl) rfl Xt))) (by kernel_rfl) rfl (fun l159 e159 zd159 => ?_)
       have K161 := K154.st p157 rfl
       refine clV 57 rfl func27 rfl (impl_itemText.calls a0.To s157.w (mm [0] s157) w0_2 w0_3 (AG.kp K161) ((Xh (s := s157) A0_2).sub (D := [0]) rfl) (A0_3.kp K161)) (fun r163 s164 p164 n164 => ?_)
       refine zdone (L' := [0]) (D' := [4, 5, 6, 1, 2, 3]) zd159 rfl rfl rfl (fun zd165 => ?_)
       refine zstep 7 [some 65] tb143 zd165 (Xc (mv_q' vy23_0 rfl) rfl Xt) (by kernel_rfl) rfl (fun l166 e166 zd166 => ?_)
       refine ltF' (K := Kd.str) (cells := [(.string r156), (.string r163)]) [r156, r163] 58 fl_str u59 z9 o9 (fun w => (Xj _ _ _)) rfl rfl (fun v167 s167 p167 A167 => ?_)
       refine zdone (L' := [0]) (D' := [7, 4, 5, 6, 1, 2, 3]) zd166 rfl rfl rfl (fun zd169 => ?_)
       refine zfin [8, 9] tb143 zd169 (Xc (mv_q' vy23_0 rfl) rfl Xt) (by kernel_rfl) (by decide) (apF' fl_str sl59 (Cy49_37.st (tr4 p143 p157 p164 p167) rfl) A167.rd rfl (fun v171 s171 p171 A171 => ?_))
       refine Xq v171 rfl (dn ?_)
       exact Kj141 _ _ _ ⟨s171, _, v171, rfl, (ue rfl rfl), (K161.st (tr3 p164 p167 p171) rfl), A171⟩
      refine sq (sr (Xb rfl (Xb rfl (dn (jc (fun (y174 : Bool) e w => ∃ (s : St) (e0 : Env), w = s.w ∧ e = upd (upd (upd (upd e0 1 (pB b5)) 3 vy23_0) 20 (iI a0.Kind)) 74 (.bool y174) ∧ Kp s0 s ∧ BlF s b5 35 [(iI a0.Kind), (iI a0.Seat), (iI a0.Level), (iI a0.N), (iI a0.Key.Kind), (iI a0.Key.N), w0_0, w0_1, (iI a0.To.Kind), (iI a0.To.N), w0_2, w0_3, (iI a0.Value.Kind), (iI a0.Value.N), w0_4, w0_5, w0_6] 40 ∧ OwF (Kd.sl 9 Kd.str) s [vy23_0] y23 42) (fun Gj174 Kj174 => ?_) ?_)))))
      ·
       refine cd rfl (fun h175 => ?_) (fun h175 => ?_)
       ·
        exact sk (Kj174 _ _ _ ⟨s51, _, rfl, (ue (ue (ue (ue rfl rfl) rfl) rfl) rfl), Ky49, By49_b5, Cy49_37⟩)
       exact rg (Xb rfl (Xb rfl (dn (Kj174 _ _ _ ⟨s51, _, rfl, (ue (ue (ue (ue rfl rfl) rfl) rfl) rfl), Ky49, By49_b5, Cy49_37⟩))))
      rintro y174 _ _ ⟨s176, _, rfl, rfl, Ky174, By174_b5, Cy174_37⟩
      refine jc (fun (y178 : (List ByteArray)) e w => ∃ (s : St) (e0 : Env) (vy178_0 : Value), w = s.w ∧ e = upd e0 3 vy178_0 ∧ Kp s0 s ∧ OwF (Kd.sl 9 Kd.str) s [vy178_0] y178 42) (fun Gj178 Kj178 => ?_) ?_
      ·
       refine cd rfl (fun h179 => ?_) (fun h179 => ?_)
       ·
        refine rg (Xp vy23_0 rfl (Xs fa35_3 rfl (ld' By174_b5 u3 rfl (clV 59 rfl func62 rfl (strconv_Itoa.calls a0.N s176.w (mm [0] s176) (AG.kp Ky174)) (fun r180 s181 p181 n181 => ?_)))))
        refine ltF' (K := Kd.str) (cells := [(.string r180)]) [r180] 60 fl_str u59 z9 o9 (fun w => (Xj _ _ _)) rfl rfl (fun v182 s182 p182 A182 => ?_)
        refine apF' fl_str sl59 (Cy174_37.st (Xo p181 p182) rfl) A182.rd rfl (fun v185 s185 p185 A185 => ?_)
        refine Xq v185 rfl (dn ?_)
        exact Kj178 _ _ _ ⟨s185, _, v185, rfl, (ue rfl rfl), (Ky174.st (tr3 p181 p182 p185) rfl), A185⟩
       refine sr (Xb rfl (Xb rfl (dn (jc (fun (y188 : (List ByteArray)) e w => ∃ (s : St) (e0 : Env) (vy188_0 : Value), w = s.w ∧ e = upd e0 3 vy188_0 ∧ Kp s0 s ∧ OwF (Kd.sl 9 Kd.str) s [vy188_0] y188 42) (fun Gj188 Kj188 => ?_) ?_))))
       ·
        refine cd rfl (fun h189 => ?_) (fun h189 => ?_)
        ·
         refine sr (Xs fa35_7 rfl (ld' By174_b5 u33 rfl ?_))
         have A190 := (z.rd h0_6).kp Ky174
         refine ln' A190 u33 rfl (Xb rfl (dn (jc (fun (y191 : (List ByteArray)) e w => ∃ (s : St) (e0 : Env) (vy191_0 : Value), w = s.w ∧ e = upd e0 3 vy191_0 ∧ Kp s0 s ∧ OwF (Kd.sl 9 Kd.str) s [vy191_0] y191 42) (fun Gj191 Kj191 => ?_) ?_)))
         ·
          refine cd rfl (fun h192 => ?_) (fun h192 => ?_)
          ·
           refine rg (Xp vy23_0 rfl (Xs fa35_7 rfl (ld' By174_b5 u33 rfl (clV 61 rfl func72 rfl (impl_keepText.calls a0.Keep s176.w (mm [0] s176) w0_6 A190) (fun r193 s194 p194 n194 => ?_)))))
           refine ltF' (K := Kd.str) (cells := [(.string r193)]) [r193] 62 fl_str u59 z9 o9 (fun w => (Xj _ _ _)) rfl rfl (fun v195 s195 p195 A195 => ?_)
           refine apF' fl_str sl59 (Cy174_37.st (Xo p194 p195) rfl) A195.rd rfl (fun v198 s198 p198 A198 => ?_)
           refine Xq v198 rfl (dn ?_)
           exact Kj191 _ _ _ ⟨s198, _, v198, rfl, (ue rfl rfl), (Ky174.st (tr3 p194 p195 p198) rfl), A198⟩
          exact sk (Kj191 _ _ _ ⟨s176, _, vy23_0, rfl, (ue rfl rfl), Ky174, Cy174_37⟩)
         rintro y191 _ _ ⟨s201, _, vy191_0, rfl, rfl, Ky191, Ay191_0⟩
         exact Kj188 _ _ _ ⟨s201, _, vy191_0, rfl, (ue rfl rfl), Ky191, Ay191_0⟩
        exact sk (Kj188 _ _ _ ⟨s176, _, vy23_0, rfl, (ue rfl rfl), Ky174, Cy174_37⟩)
       rintro y188 _ _ ⟨s203, _, vy188_0, rfl, rfl, Ky188, Ay188_0⟩
       exact Kj178 _ _ _ ⟨s203, _, vy188_0, rfl, (ue rfl rfl), Ky188, Ay188_0⟩
      rintro y178 _ _ ⟨s205, _, vy178_0, rfl, rfl, Ky178, Ay178_0⟩
      exact Kj141 _ _ _ ⟨s205, _, vy178_0, rfl, (ue rfl rfl), Ky178, Ay178_0⟩
     rintro y141 _ _ ⟨s207, _, vy141_0, rfl, rfl, Ky141, Ay141_0⟩
     exact Kj97 _ _ _ ⟨s207, _, vy141_0, rfl, (ue rfl rfl), Ky141, Ay141_0⟩
    rintro y97 _ _ ⟨s209, _, vy97_0, rfl, rfl, Ky97, Ay97_0⟩
    exact Kj64 _ _ _ ⟨s209, _, vy97_0, rfl, (ue rfl rfl), Ky97, Ay97_0⟩
   rintro y64 _ _ ⟨s211, _, vy64_0, rfl, rfl, Ky64, Ay64_0⟩
   exact Kj53 _ _ _ ⟨s211, _, vy64_0, rfl, (ue rfl rfl), Ky64, Ay64_0⟩
  rintro y53 _ _ ⟨s213, _, vy53_0, rfl, rfl, Ky53, Ay53_0⟩
  exact Kj39 _ _ _ ⟨s213, _, vy53_0, rfl, (ue rfl rfl), Ky53, Ay53_0⟩
 rintro y39 _ _ ⟨s215, _, vy39_0, rfl, rfl, Ky39, Ay39_0⟩
 refine ib (sr (Xp vy39_0 rfl (clV 63 rfl func73 rfl (strings_Join.calls y39 (⟨#[32]⟩ : ByteArray) s215.w (mm [42] s215) vy39_0 Ay39_0.rd) (fun r217 s218 p218 n218 => ?_))))
 refine Xb rfl (dn ?_)
 exact re rfl func34 rfl (Xv rfl Xg) rfl ⟨_, rfl, rfl, z.ky (Ky39.st p218 rfl)⟩
section
open Go.Shelf
shelf_lay Lays.n146 Nm 146 at Tryz as lay_split
theorem split_max : lay_split_ren.g 1 = gMax := by kernel_rfl
theorem split_info : (Tryz.prog.info? (lay_split_ren.t 9)).map (fun i => (i.zero, i.size, i.bytes)) = some (some (.string ByteArray.empty), 1, 16) := by kernel_rfl
def strings_Split.f (a0 a1 : ByteArray) : Option (List ByteArray) := if a0.size < 4294967281 ∧ 1 ≤ a1.size then some (Lib.splitB a1 0 (Lib.countB a0 a1) a0) else none
def strings_Split.Q (w : World) (F : Nat → Prop) (r : List ByteArray) (v : Value) (w' : World) : Prop := FO (Kd.sl 9 Kd.str) w w' [v] r ∧ Ky [] w w'
theorem strings_Split.calls (a0 a1 : ByteArray) (w : World) (F : Nat → Prop) (hG : GV.rd w [] () F) (r : List ByteArray) (m : strings_Split.f a0 a1 = some r) :
    Calls Tryz.prog 35 #[.string a0, .string a1] w (RT (strings_Split.Q w F) r) := by
  unfold strings_Split.f at m
  split at m
  · rename_i h
    obtain ⟨_, ⟨_, mm, hm⟩, _⟩ := hG
    cases m
    have hle := Lib.countB_le a1 h.2 a0.size a0 (Nat.le_refl _)
    have hlen := Lib.splitB_all a1 h.2 0 _ a0 rfl
    refine Calls.mono (Any.strings_Split lay_split split_info a0 a1 mm w h.1 (by rw [split_max]; exact hm) h.2) fun e w' ⟨he, hw⟩ => ⟨_, he, ?_⟩
    rw [hw]
    exact fo_strs w _ _ hlen (by simp only [maxLen]; omega)
  · cases m
end

def slices_Index_string_string.b0 (a0 : (List ByteArray)) (a1 : ByteArray) (x2 : Int) : Option (Int ⊕ Int) :=
 (if (decide (x2 < (a0.length : Int))) = true then (if 0 ≤ x2 ∧ x2 < (a0.length : Int) then (if (a1.toList == (at_ a0 x2).toList) = true then (some (Sum.inr x2)) else (some (Sum.inl (IntKind.wrap .i64 (x2 + (1 : Int)))))) else none) else ((some (-1 : Int)).bind fun o => some (Sum.inr o)))
def slices_Index_string_string.f (a0 : (List ByteArray)) (a1 : ByteArray) : Option (Int) :=
 (iter (slices_Index_string_string.b0 a0 a1) (0 : Int))
def slices_Index_string_string.Q (w : World) (F : Nat → Prop) (r : Int) (v : Value) (w' : World) : Prop :=
 v = (iI r) ∧ Ky [] w w'
theorem slices_Index_string_string.calls (a0 : (List ByteArray)) (a1 : ByteArray) (w : World) (F : Nat → Prop) (w0_0 : Value) (h0_0 : (Kd.sl 9 Kd.str).rd w [w0_0] a0 F) (r : Int) (m : slices_Index_string_string.f a0 a1 = some r) :
  Calls prog 36 #[w0_0, (.string a1)] w (RT (slices_Index_string_string.Q w F) r) := by
 obtain ⟨s0, rfl, kp0, z⟩ := Xm w F
 have A0_0 := z.rd h0_0
 refine Xd (args := [w0_0, (.string a1)]) func36 ntmps36 rfl rfl m ?_
 unfold slices_Index_string_string.f
 refine sr (Xb rfl (dn (sq (sr (Xp w0_0 rfl (ln' A0_0 u59 rfl (Xb rfl (dn (bl (lpI (fun (x2 : Int) e w => ∃ (s : St) (e0 : Env), w = s.w ∧ e = upd (upd (upd (upd e0 0 w0_0) 1 (.string a1)) 7 (iI (a0.length : Int))) 8 (iI x2) ∧ Kp s0 s) ⟨s0, _, rfl, (ue (ue (ue (ue rfl rfl) rfl) rfl) rfl), kp0⟩ (fun g2 ih2 => ?_)))))))))))
 rintro x2 _ _ ⟨s3, _, rfl, rfl, Kx2⟩
 unfold slices_Index_string_string.b0
 refine sr (Xb rfl (dn (sq (cd rfl (fun h4 => ?_) (fun h4 => ?_)))))
 ·
  refine sk (sq (bl (sr (Xb rfl (Xb rfl (dn (sr (Xb rfl (Xp w0_0 rfl (Xb rfl ?_))))))))))
  refine ix' (A0_0.kp Kx2) u59 z9 rfl (fun ad6 es6 h0_6 h1_6 he6 ce6 ia6 => ?_)
  obtain rfl := he6
  refine lc0' ce6 u9 rfl (Xb rfl (dn (cd rfl (fun h8 => ?_) (fun h8 => ?_))))
  ·
   exact sr (Xb rfl (Xb rfl (dn (sgi (re rfl func36 rfl (Xv rfl Xg) rfl ⟨_, rfl, rfl, z.ky Kx2⟩)))))
  exact sk (ib (rg (Xb rfl (Xb rfl (dn (lb ih2 ⟨s3, _, rfl, (ue (ue (ue (ue rfl rfl) rfl) rfl) rfl), Kx2⟩))))))
 exact xt rfl (sgb (sr (Xb rfl (dn (re rfl func36 rfl (Xv rfl Xg) rfl ⟨_, rfl, rfl, z.ky Kx2⟩)))))
def impl_opWords_next.f (a0 : opWords) : Option (ByteArray × opWords) :=
 (if ((a0.list.length : Int) == (0 : Int)) = true then (some ((⟨#[]⟩ : ByteArray), (opWords.mk a0.list true))) else (if 0 ≤ (0 : Int) ∧ (0 : Int) < (a0.list.length : Int) then (if 0 ≤ (1 : Int) ∧ (1 : Int) ≤ (a0.list.length : Int) then (some ((at_ a0.list (0 : Int)), (opWords.mk (a0.list.drop ((1 : Int)).toNat) a0.bad))) else none) else none))
def impl_opWords_next.Q (w : World) (F : Nat → Prop) (p0 : Nat) (w0_0 : Value) (r : ByteArray × opWords) (v : Value) (w' : World) : Prop :=
 ∃ (u0_0 : Value), v = (.string r.1) ∧ BlW w' p0 65 [u0_0, (.bool r.2.bad)] ∧ FRF (Kd.sl 9 Kd.str) F w w' [u0_0] r.2.list ∧ Ky [p0] w w'
theorem impl_opWords_next.calls (a0 : opWords) (w : World) (F : Nat → Prop) (p0 : Nat) (w0_0 : Value) (h0_0 : (Kd.sl 9 Kd.str).rd w [w0_0] a0.list F) (hb0 : BlW w p0 65 [w0_0, (.bool a0.bad)]) (hF : ∀ b, F b → b ∉ [p0]) (r : ByteArray × opWords) (m : impl_opWords_next.f a0 = some r) :
  Calls prog 75 #[(pB p0)] w (RT (impl_opWords_next.Q w F p0 w0_0) r) := by
 obtain ⟨s0, rfl, kp0, z⟩ := start1 w F [p0] hF
 have A0_0 := z.rd h0_0
 have B0 := z.bl hb0 (by simp)
 refine Xd (args := [(pB p0)]) func75 ntmps75 rfl rfl m ?_
 unfold impl_opWords_next.f
 refine sr (Xb rfl (dn (sq (sr (Xb rfl (Xb rfl (Xs fa65_0 rfl (ld' B0 u59 rfl (ln' A0_0 u59 rfl (Xb rfl (dn (cd rfl (fun h3 => ?_) (fun h3 => ?_)))))))))))))
 ·
  refine sr (Xb rfl (Xb rfl (Xs fa65_1 rfl (sv B0 z4 rfl rfl rfl rfl rfl rfl rfl rfl (fun s4 p4 B4 => ?_)))))
  refine dn (sr (Xb rfl (dn ?_)))
  have K6 := kp0.st p4 rfl
  exact re rfl func75 rfl (Xv rfl Xg) rfl ⟨_, rfl, w0_0, rfl, B4.w, (z.rf K6 A0_0), z.ky K6⟩
 refine sk (sr (Xb rfl (Xb rfl (Xs fa65_0 rfl (ld' B0 u59 rfl (ix' A0_0 u59 z9 rfl (fun ad7 es7 h0_7 h1_7 he7 ce7 ia7 => ?_)))))))
 obtain rfl := he7
 refine lc0' ce7 u9 rfl (Xb rfl (dn (sr (Xb rfl (Xb rfl (Xb rfl (Xs fa65_0 rfl (ld' B0 u59 rfl (slaF A0_0 (z.rf kp0 A0_0) u59 z9 rfl rfl rfl rfl rfl rfl rfl (fun v9 A9 G9 => ?_))))))))))
 refine Xb rfl (Xs fa65_0 rfl (sv B0 z59 rfl rfl rfl rfl rfl rfl A9.one rfl (fun s11 p11 B11 => ?_)))
 refine dn (sr (Xb rfl (Xb rfl (dn ?_))))
 have K13 := kp0.st p11 rfl
 exact re rfl func75 rfl (Xv rfl Xg) rfl ⟨_, rfl, v9, rfl, B11.w, (FRF.kp G9 (fun b => (z.z b).1) kp0 K13), z.ky K13⟩
def impl_opWords_number.f (a0 : opWords) : Option (Int × opWords) :=
 ((impl_opWords_next.f a0).bind fun r3 => ((strconv_Atoi.f r3.1).bind fun r8 => (some (r8.1, (opWords.mk r3.2.list (r3.2.bad || (!r8.2)))))))
def impl_opWords_number.Q (w : World) (F : Nat → Prop) (p0 : Nat) (w0_0 : Value) (r : Int × opWords) (v : Value) (w' : World) : Prop :=
 ∃ (u0_0 : Value), v = (iI r.1) ∧ BlW w' p0 65 [u0_0, (.bool r.2.bad)] ∧ FRF (Kd.sl 9 Kd.str) F w w' [u0_0] r.2.list ∧ Ky [p0] w w'
theorem impl_opWords_number.calls (a0 : opWords) (w : World) (F : Nat → Prop) (p0 : Nat) (w0_0 : Value) (hG : GU.rd w [] () F) (h0_0 : (Kd.sl 9 Kd.str).rd w [w0_0] a0.list F) (hb0 : BlW w p0 65 [w0_0, (.bool a0.bad)]) (hF : ∀ b, F b → b ∉ [p0]) (r : Int × opWords) (m : impl_opWords_number.f a0 = some r) :
  Calls prog 39 #[(pB p0)] w (RT (impl_opWords_number.Q w F p0 w0_0) r) := by
 obtain ⟨s0, rfl, kp0, z⟩ := start1 w F [p0] hF
 have B0 := z.bl hb0 (by simp)
 refine Xd (args := [(pB p0)]) func39 ntmps39 rfl rfl m ?_
 unfold impl_opWords_number.f
 refine sr (Xb rfl (dn (sr (Xb rfl (cl' rfl func75 rfl (impl_opWords_next.calls a0 s0.w (fun b => F b ∧ b < s0.w.heap.size) p0 w0_0 (z.rf kp0 (z.rd h0_0)) B0.w (fun b hb => hF b hb.1)) ?_)))))
 rintro r3 _ w3 m3 ⟨u3_0, rfl, bw3, uf3_0, ky3⟩
 obtain ⟨s4, rfl, p4, n4, g4⟩ := nwb 40 B0 ky3
 have K7 := kp0.st p4 rfl
 refine cl' rfl func65 rfl (strconv_Atoi.calls r3.1 s4.w (mm [0] s4) ((z.rd hG).kp K7)) ?_
 rintro r8 _ w8 m8 ⟨v8_0, rfl, f8_0, ky8⟩
 obtain ⟨s9, rfl, p9, n9⟩ := nwx s4 w8 41 ky8
 refine Xb rfl (Xb (v := (iI r8.1)) rfl (Xb (v := v8_0) rfl (Xb rfl (Xq v8_0 rfl (dn (sr (Xb rfl (Xb rfl (Xb rfl (Xs fa65_1 rfl ?_))))))))))
 have A10 := BlF.st (blf_mk bw3 g4) p9 rfl
 refine ld' A10 u4 rfl (Xb rfl (jy [16, 17, 18, 19] [9, 10, 11] 19 (.bool (r3.2.bad || (!r8.2))) rfl (fun Kg11 => ?_) (fun j11 => ?_)))
 ·
  rcases bft r3.2.bad with hb11 | hb11
  ·
   exact sbT hb11 (Xi rfl (Xi rfl (Xb rfl (Kg11 _ (Ag.put ((Ag.put ((Ag.put (Ag.base rfl) rfl)) rfl)) rfl) (by rw [hb11]; rfl)))))
  exact sbT hb11 (Xp v8_0 rfl (ernon f8_0 u87 rfl rfl rfl rfl rfl rfl rfl (Xb rfl (Kg11 _ (Ag.put ((Ag.put ((Ag.put (Ag.base rfl) rfl)) rfl)) rfl) (by rw [hb11]; rfl)))))
 refine Xb rfl (Xs fa65_1 rfl (sv A10 z4 rfl rfl rfl rfl rfl rfl rfl rfl (fun s12 p12 B12 => ?_)))
 refine dn (sr (Xb rfl (Xb rfl (dn ?_))))
 have K14 := K7.st (Xo p9 p12) rfl
 exact re rfl func39 rfl (Xv rfl Xg) rfl ⟨_, rfl, u3_0, rfl, B12.w, (FRF.kp (FRF.up uf3_0) (fun b => (z.z b).1) K7 K14), z.ky K14⟩
def impl_opWords_item.f (a0 : opWords) : Option (Item × opWords) :=
 ((impl_opWords_next.f a0).bind fun r7 => ((impl_readText.f r7.1).bind fun r13 => (some (r13.1, (opWords.mk r7.2.list (r7.2.bad || (!r13.2)))))))
def impl_opWords_item.Q (w : World) (F : Nat → Prop) (p0 : Nat) (w0_0 : Value) (r : Item × opWords) (v : Value) (w' : World) : Prop :=
 ∃ (v0 : Value) (v1 : Value) (u0_0 : Value), v = (.agg #[(iI r.1.Kind), (iI r.1.N), v0, v1]) ∧ FO kd26 w w' [(iI r.1.Kind), (iI r.1.N), v0, v1] r.1 ∧ BlW w' p0 65 [u0_0, (.bool r.2.bad)] ∧ FRF (Kd.sl 9 Kd.str) F w w' [u0_0] r.2.list ∧ Ky [p0] w w'
theorem impl_opWords_item.calls (a0 : opWords) (w : World) (F : Nat → Prop) (p0 : Nat) (w0_0 : Value) (hG : GU.rd w [] () F) (h0_0 : (Kd.sl 9 Kd.str).rd w [w0_0] a0.list F) (hb0 : BlW w p0 65 [w0_0, (.bool a0.bad)]) (hF : ∀ b, F b → b ∉ [p0]) (r : Item × opWords) (m : impl_opWords_item.f a0 = some r) :
  Calls prog 40 #[(pB p0)] w (RT (impl_opWords_item.Q w F p0 w0_0) r) := by
 obtain ⟨s0, rfl, kp0, z⟩ := start1 w F [p0] hF
 refine Xd (args := [(pB p0)]) func40 ntmps40 rfl rfl m ?_
 unfold impl_opWords_item.f
 refine sr (al (cs := [(iI 0), (iI 0), (.float .f64 0), (.slice none 0 0)]) 40 rfl rfl rfl rfl rfl o26 rfl (fun b3 s3 p3 B3 => ?_))
 refine dn (sr (Xb rfl ?_))
 have K5 := kp0.st p3 rfl
 have A8 := BlF.st (z.bl hb0 (by simp)) p3 rfl
 refine cl' rfl func75 rfl (impl_opWords_next.calls a0 s3.w (fun b => F b ∧ b < s0.w.heap.size) p0 w0_0 (z.rf K5 (z.rd h0_0)) A8.w (fun b hb => hF b hb.1)) ?_
 rintro r7 _ w7 m7 ⟨u7_0, rfl, bw7, uf7_0, ky7⟩
 obtain ⟨s9, rfl, p9, n9, g9⟩ := nwb 41 A8 ky7
 have K12 := K5.st p9 rfl
 refine cl' rfl func28 rfl (impl_readText.calls r7.1 s9.w (mm [0] s9) ((z.rd hG).kp K12)) ?_
 rintro r13 _ w13 m13 ⟨v13_0, v13_1, rfl, f13_0, ky13⟩
 obtain ⟨s14, rfl, p14, n14⟩ := nwx s9 w13 42 ky13
 obtain ⟨hu13_0_0, Au13_0_1⟩ := ap26 (f13_0.c n14)
 refine Xb rfl (Xb (v := (.agg #[(iI r13.1.Kind), (iI r13.1.N), v13_0, v13_1])) rfl (Xb (v := (.bool r13.2)) rfl (al (cs := [(iI 0), (iI 0), (.float .f64 0), (.slice none 0 0)]) 43 rfl rfl rfl rfl rfl o26 rfl (fun b16 s16 p16 B16 => ?_))))
 have A18 := Au13_0_1.st p16 rfl
 refine sva' (vs := [(iI r13.1.Kind), (iI r13.1.N), v13_0, v13_1]) B16 z26 rfl (Xa rfl (Xa rfl (Xa (FL.one hu13_0_0) (Xa A18.rd.one Xr)))) rfl (fun s19 p19 B19 => ?_)
 refine Xb rfl (dn (sr (Xb rfl (Xb rfl (Xb rfl (Xs fa65_1 rfl ?_))))))
 have A21 := BlF.st (blf_mk bw7 g9) (tr3 p14 p16 p19) rfl
 refine ld' A21 u4 rfl (Xb rfl (jy [16, 17, 18, 19] [9, 10, 11] 19 (.bool (r7.2.bad || (!r13.2))) rfl (fun Kg22 => ?_) (fun j22 => ?_)))
 ·
  rcases bft r7.2.bad with hb22 | hb22
  ·
   exact sbT hb22 (Xi rfl (Xi rfl (Xb rfl (Kg22 _ (Ag.put ((Ag.put ((Ag.put (Ag.base rfl) rfl)) rfl)) rfl) (by rw [hb22]; rfl)))))
  exact sbT hb22 (Xb rfl (Xb rfl (Xb rfl (Kg22 _ (Ag.put ((Ag.put ((Ag.put (Ag.base rfl) rfl)) rfl)) rfl) (by rw [hb22]; rfl)))))
 refine Xb rfl (Xs fa65_1 rfl (sv A21 z4 rfl rfl rfl rfl rfl rfl rfl rfl (fun s23 p23 B23 => ?_)))
 refine dn (sr ?_)
 refine Xw (es := [(iI r13.1.Kind), (iI r13.1.N), v13_0, v13_1]) (B19.st p23 rfl) u26 z26 rfl ?_
 have A27 := A18.st (Xo p19 p23) rfl
 refine sva' (vs := [(iI r13.1.Kind), (iI r13.1.N), v13_0, v13_1]) (B3.st (tr5 p9 p14 p16 p19 p23) rfl) z26 rfl (Xa rfl (Xa rfl (Xa (FL.one hu13_0_0) (Xa A27.rd.one Xr)))) rfl (fun s28 p28 B28 => ?_)
 refine dn ?_
 have A30 : OwF kd26 s28 [(iI r13.1.Kind), (iI r13.1.N), v13_0, v13_1] r13.1 42 := (ow_isoz (fun x : Item => (x.Kind, x.N, x.F, x.T)) r13.1 (ow_l (Xf .i64 r13.1.Kind) (ow_l (Xf .i64 r13.1.N) (ow_l (Xu hu13_0_0) (A27.st p28 rfl)))))
 have K33 := K12.st (tr5 p14 p16 p19 p23 p28) rfl
 exact re rfl func40 rfl (r_b B28 u26 rfl z26 rfl Xg) rfl ⟨_, rfl, v13_0, v13_1, u7_0, rfl, A30.fo K33 rfl z.l, (BlF.w (B23.st p28 rfl)), (FRF.kp (FRF.up uf7_0) (fun b => (z.z b).1) K12 K33), z.ky K33⟩
def impl_opWords_keep.b0 (r4 : ByteArray × opWords) (x11 : (List Bool) × Nat) : Option (((List Bool) × Nat) ⊕ ((List Bool) × opWords)) :=
 (if (decide (x11.2 < r4.1.size)) = true then (if x11.2 < r4.1.size then (if x11.1.length + ([((((Utf8.decode r4.1 x11.2).1 : Nat) : Int) == (49 : Int))]).length ≤ Lim then (some (Sum.inl ((x11.1 ++ [((((Utf8.decode r4.1 x11.2).1 : Nat) : Int) == (49 : Int))]), (nxo r4.1 x11.2)))) else none) else none) else ((some (x11.1, r4.2)).bind fun o => some (Sum.inr o)))
def impl_opWords_keep.f (a0 : opWords) : Option ((List Bool) × opWords) :=
 (if ((a0.list.length : Int) == (0 : Int)) = true then (some (([] : (List Bool)), a0)) else ((impl_opWords_next.f a0).bind fun r4 => (iter (impl_opWords_keep.b0 r4) (([] : (List Bool)), (0 : Nat)))))
def impl_opWords_keep.Q (w : World) (F : Nat → Prop) (p0 : Nat) (w0_0 : Value) (r : (List Bool) × opWords) (v : Value) (w' : World) : Prop :=
 ∃ (u0_0 : Value), FO (Kd.sl 4 Kd.bool) w w' [v] r.1 ∧ BlW w' p0 65 [u0_0, (.bool r.2.bad)] ∧ FRF (Kd.sl 9 Kd.str) F w w' [u0_0] r.2.list ∧ Ky [p0] w w'
theorem impl_opWords_keep.calls (a0 : opWords) (w : World) (F : Nat → Prop) (p0 : Nat) (w0_0 : Value) (h0_0 : (Kd.sl 9 Kd.str).rd w [w0_0] a0.list F) (hb0 : BlW w p0 65 [w0_0, (.bool a0.bad)]) (hF : ∀ b, F b → b ∉ [p0]) (r : (List Bool) × opWords) (m : impl_opWords_keep.f a0 = some r) :
  Calls prog 41 #[(pB p0)] w (RT (impl_opWords_keep.Q w F p0 w0_0) r) := by
 obtain ⟨s0, rfl, kp0, z⟩ := start1 w F [p0] hF
 have A0_0 := z.rd h0_0
 have B0 := z.bl hb0 (by simp)
 refine Xd (args := [(pB p0)]) func41 ntmps41 rfl rfl m ?_
 unfold impl_opWords_keep.f
 refine sr (Xb rfl (dn (sq (sr (Xb rfl (Xb rfl (Xs fa65_0 rfl (ld' B0 u59 rfl (ln' A0_0 u59 rfl (Xb rfl (dn (cd rfl (fun h3 => ?_) (fun h3 => ?_)))))))))))))
 ·
  exact sr (Xb rfl (dn (re rfl func41 rfl (Xv rfl Xg) rfl ⟨_, rfl, w0_0, (Xk 4 Kd.bool s0 40).fo kp0 rfl z.l, B0.w, (z.rf kp0 A0_0), z.ky kp0⟩)))
 refine sk (sr (Xb rfl (dn (sq (sr (Xb rfl (cl' rfl func75 rfl (impl_opWords_next.calls a0 s0.w (fun b => F b ∧ b < s0.w.heap.size) p0 w0_0 (z.rf kp0 A0_0) B0.w (fun b hb => hF b hb.1)) ?_)))))))
 rintro r4 _ w4 m4 ⟨u4_0, rfl, bw4, uf4_0, ky4⟩
 obtain ⟨s5, rfl, p5, n5, g5⟩ := nwb 40 B0 ky4
 have Gu5_0 := FRF.up uf4_0
 have K8 := kp0.st p5 rfl
 refine mks 41 u9 rfl rfl rfl rfl rfl rfl (fun b9 s9 p9 B9 => ?_)
 refine dn (bl ?_)
 have K13 := K8.st p9 rfl
 refine lpI (fun (x11 : (List Bool) × Nat) e w => ∃ (s : St) (e0 : Env) (vx11_0 : Value), w = s.w ∧ e = upd (upd e0 3 vx11_0) 14 (pB b9) ∧ Kp s0 s ∧ OwF (Kd.sl 4 Kd.bool) s [vx11_0] x11.1 43 ∧ BlF s p0 65 [u4_0, (.bool r4.2.bad)] 2 ∧ SitF s b9 r4.1 x11.2 41 ∧ RdF (Kd.sl 9 Kd.str) s [u4_0] r4.2.list [0]) ⟨s9, _, (.slice none 0 0), rfl, (ue (ue rfl rfl) rfl), K13, (Xk 4 Kd.bool _ 43), (BlF.st (blf_mk bw4 g5) p9 rfl), B9, (FRF.rd (FRF.kp Gu5_0 (fun b => (z.z b).1) K8 K13) (fun b => (z.z b).1) K13)⟩ (fun g11 ih11 => ?_)
 rintro x11 _ _ ⟨s15, _, vx11_0, rfl, rfl, Kx11, Ax11_0, Bx11_p0, Bx11_b9, Cx11_7⟩
 unfold impl_opWords_keep.b0
 refine sr (nxs Bx11_b9 rfl rfl rfl rfl rfl rfl rfl (fun v19 s19 p19 N19 B19 => ?_))
 refine ex0 N19 rfl rfl rfl rfl rfl rfl (dn (sq (cd rfl (fun h21 => ?_) (fun h21 => ?_))))
 ·
  refine sk (bl (sr (ex2 N19 rfl rfl rfl rfl rfl rfl (Xb rfl (dn (rg (Xp vx11_0 rfl (Xb rfl (Xb rfl (ltF' (K := Kd.bool) (cells := [(.bool ((((Utf8.decode r4.1 x11.2).1 : Nat) : Int) == (49 : Int)))]) [((((Utf8.decode r4.1 x11.2).1 : Nat) : Int) == (49 : Int))] 44 fl_bool u33 z4 o4 (fun w => (Xj _ _ _)) rfl rfl (fun v22 s22 p22 A22 => ?_)))))))))))
  refine apF' fl_bool sl33 (Ax11_0.st (Xo p19 p22) rfl) A22.rd rfl (fun v25 s25 p25 A25 => ?_)
  refine Xq v25 rfl (dn (ib ?_))
  have K29 := Kx11.st (tr3 p19 p22 p25) rfl
  exact lb ih11 ⟨s25, _, v25, rfl, (ue (ue rfl rfl) rfl), K29, A25, (Bx11_p0.st (tr3 p19 p22 p25) rfl), (SitF.st (SitF.st B19 p22 rfl) p25 rfl), (FRF.rd (FRF.kp Gu5_0 (fun b => (z.z b).1) K8 K29) (fun b => (z.z b).1) K29)⟩
 refine xt rfl (sgb (sr (Xp vx11_0 rfl (Xq vx11_0 rfl (dn ?_)))))
 have K32 := Kx11.st p19 rfl
 exact re rfl func41 rfl (Xv rfl Xg) rfl ⟨_, rfl, u4_0, (Ax11_0.st p19 rfl).fo K32 rfl z.l, (BlF.w (Bx11_p0.st p19 rfl)), (FRF.kp Gu5_0 (fun b => (z.z b).1) K8 K32), z.ky K32⟩
def impl_OpRead.f (a0 : (List Int)) : Option (Op × Bool) :=
 (if (decide ((a0.length : Int) > (20000 : Int))) = true then (some ((Op.mk (0 : Int) (0 : Int) (0 : Int) (0 : Int) (Item.mk (0 : Int) (0 : Int) (0 : Nat) ([] : (List Int))) (Item.mk (0 : Int) (0 : Int) (0 : Nat) ([] : (List Int))) (Item.mk (0 : Int) (0 : Int) (0 : Nat) ([] : (List Int))) ([] : (List Bool))), false)) else ((strings_Split.f (str a0) (⟨#[32]⟩ : ByteArray)).bind fun r12 => (if 0 ≤ (0 : Int) ∧ (0 : Int) < (r12.length : Int) then (((impl_opNames.f).bind fun r25 => ((slices_Index_string_string.f r25 (at_ r12 (0 : Int))).bind fun r33 => (some r33))).bind fun y22 => (if 0 ≤ (1 : Int) ∧ (1 : Int) ≤ (r12.length : Int) then ((impl_within.f y22 (1 : Int) (13 : Int)).bind fun r97 => (if (!r97) = true then (some ((Op.mk (0 : Int) (0 : Int) (0 : Int) (0 : Int) (Item.mk (0 : Int) (0 : Int) (0 : Nat) ([] : (List Int))) (Item.mk (0 : Int) (0 : Int) (0 : Nat) ([] : (List Int))) (Item.mk (0 : Int) (0 : Int) (0 : Nat) ([] : (List Int))) ([] : (List Bool))), false)) else ((if (decide (y22 ≤ (8 : Int))) = true then ((impl_opWords_number.f (opWords.mk (r12.drop ((1 : Int)).toNat) false)).bind fun r111 => (some (r111.2.list, r111.2.bad, r111.1))) else (some ((r12.drop ((1 : Int)).toNat), false, (0 : Int)))).bind fun y107 => ((if (y22 == (1 : Int)) = true then ((impl_opWords_number.f (opWords.mk y107.1 y107.2.1)).bind fun r134 => (some (r134.2.list, r134.2.bad, r134.1, (0 : Int), (0 : Int), (0 : Int), (0 : Nat), ([] : (List Int)), (0 : Int), (0 : Int), (0 : Nat), ([] : (List Int)), (0 : Int), (0 : Int), (0 : Nat), ([] : (List Int)), ([] : (List Bool))))) else ((if (y22 == (2 : Int)) = true then (some (y22 == (2 : Int))) else (some (y22 == (4 : Int)))).bind fun y145 => ((if y145 = true then ((impl_opWords_item.f (opWords.mk y107.1 y107.2.1)).bind fun r153 => (some (r153.2.list, r153.2.bad, (0 : Int), r153.1.Kind, r153.1.N, r153.1.F, r153.1.T, (0 : Int), (0 : Int), (0 : Nat), ([] : (List Int)), (0 : Int), (0 : Int), (0 : Nat), ([] : (List Int)), ([] : (List Bool))))) else ((if (y22 == (3 : Int)) = true then ((impl_opWords_item.f (opWords.mk y107.1 y107.2.1)).bind fun r170 => ((impl_opWords_item.f r170.2).bind fun r176 => (some (r176.2.list, r176.2.bad, (0 : Int), r170.1.Kind, r170.1.N, r170.1.F, r170.1.T, (0 : Int), (0 : Int), (0 : Nat), ([] : (List Int)), r176.1.Kind, r176.1.N, r176.1.F, r176.1.T, ([] : (List Bool)))))) else ((if (y22 == (5 : Int)) = true then ((impl_opWords_item.f (opWords.mk y107.1 y107.2.1)).bind fun r200 => ((impl_opWords_item.f r200.2).bind fun r206 => ((impl_opWords_number.f r206.2).bind fun r212 => (some (r212.2.list, r212.2.bad, r212.1, r200.1.Kind, r200.1.N, r200.1.F, r200.1.T, r206.1.Kind, r206.1.N, r206.1.F, r206.1.T, ([] : (List Bool))))))) else ((if (y22 == (6 : Int)) = true then ((impl_opWords_item.f (opWords.mk y107.1 y107.2.1)).bind fun r237 => ((impl_opWords_item.f r237.2).bind fun r243 => (some (r243.2.list, r243.2.bad, (0 : Int), r237.1.Kind, r237.1.N, r237.1.F, r237.1.T, r243.1.Kind, r243.1.N, r243.1.F, r243.1.T, ([] : (List Bool)))))) else ((if (y22 == (11 : Int)) = true then (some (y22 == (11 : Int))) else (some (y22 == (12 : Int)))).bind fun y261 => ((if y261 = true then ((impl_opWords_number.f (opWords.mk y107.1 y107.2.1)).bind fun r269 => (some (r269.2.list, r269.2.bad, r269.1, ([] : (List Bool))))) else ((if (y22 == (13 : Int)) = true then ((impl_opWords_keep.f (opWords.mk y107.1 y107.2.1)).bind fun r282 => (some (r282.2.list, r282.2.bad, r282.1))) else (some (y107.1, y107.2.1, ([] : (List Bool))))).bind fun y280 => (some (y280.1, y280.2.1, (0 : Int), y280.2.2)))).bind fun y267 => (some (y267.1, y267.2.1, y267.2.2.1, (0 : Int), (0 : Int), (0 : Nat), ([] : (List Int)), (0 : Int), (0 : Int), (0 : Nat), ([] : (List Int)), y267.2.2.2))))).bind fun y235 => (some (y235.1, y235.2.1, y235.2.2.1, y235.2.2.2.1, y235.2.2.2.2.1, y235.2.2.2.2.2.1, y235.2.2.2.2.2.2.1, y235.2.2.2.2.2.2.2.1, y235.2.2.2.2.2.2.2.2.1, y235.2.2.2.2.2.2.2.2.2.1, y235.2.2.2.2.2.2.2.2.2.2.1, y235.2.2.2.2.2.2.2.2.2.2.2)))).bind fun y198 => (some (y198.1, y198.2.1, y198.2.2.1, y198.2.2.2.1, y198.2.2.2.2.1, y198.2.2.2.2.2.1, y198.2.2.2.2.2.2.1, y198.2.2.2.2.2.2.2.1, y198.2.2.2.2.2.2.2.2.1, y198.2.2.2.2.2.2.2.2.2.1, y198.2.2.2.2.2.2.2.2.2.2.1, (0 : Int), (0 : Int), (0 : Nat), ([] : (List Int)), y198.2.2.2.2.2.2.2.2.2.2.2)))).bind fun y168 => (some (y168.1, y168.2.1, y168.2.2.1, y168.2.2.2.1, y168.2.2.2.2.1, y168.2.2.2.2.2.1, y168.2.2.2.2.2.2.1, y168.2.2.2.2.2.2.2.1, y168.2.2.2.2.2.2.2.2.1, y168.2.2.2.2.2.2.2.2.2.1, y168.2.2.2.2.2.2.2.2.2.2.1, y168.2.2.2.2.2.2.2.2.2.2.2.1, y168.2.2.2.2.2.2.2.2.2.2.2.2.1, y168.2.2.2.2.2.2.2.2.2.2.2.2.2.1, y168.2.2.2.2.2.2.2.2.2.2.2.2.2.2.1, y168.2.2.2.2.2.2.2.2.2.2.2.2.2.2.2)))).bind fun y151 => (some (y151.1, y151.2.1, (0 : Int), y151.2.2.1, y151.2.2.2.1, y151.2.2.2.2.1, y151.2.2.2.2.2.1, y151.2.2.2.2.2.2.1, y151.2.2.2.2.2.2.2.1, y151.2.2.2.2.2.2.2.2.1, y151.2.2.2.2.2.2.2.2.2.1, y151.2.2.2.2.2.2.2.2.2.2.1, y151.2.2.2.2.2.2.2.2.2.2.2.1, y151.2.2.2.2.2.2.2.2.2.2.2.2.1, y151.2.2.2.2.2.2.2.2.2.2.2.2.2.1, y151.2.2.2.2.2.2.2.2.2.2.2.2.2.2.1, y151.2.2.2.2.2.2.2.2.2.2.2.2.2.2.2))))).bind fun y132 => ((if y132.2.1 = true then (some true) else ((impl_OpOk.f (Op.mk y22 y107.2.2 y132.2.2.1 y132.2.2.2.1 (Item.mk y132.2.2.2.2.1 y132.2.2.2.2.2.1 y132.2.2.2.2.2.2.1 y132.2.2.2.2.2.2.2.1) (Item.mk y132.2.2.2.2.2.2.2.2.1 y132.2.2.2.2.2.2.2.2.2.1 y132.2.2.2.2.2.2.2.2.2.2.1 y132.2.2.2.2.2.2.2.2.2.2.2.1) (Item.mk y132.2.2.2.2.2.2.2.2.2.2.2.2.1 y132.2.2.2.2.2.2.2.2.2.2.2.2.2.1 y132.2.2.2.2.2.2.2.2.2.2.2.2.2.2.1 y132.2.2.2.2.2.2.2.2.2.2.2.2.2.2.2.1) y132.2.2.2.2.2.2.2.2.2.2.2.2.2.2.2.2)).bind fun r390 => (some (!r390)))).bind fun y389 => ((if y389 = true then (some true) else ((impl_opText.f (Op.mk y22 y107.2.2 y132.2.2.1 y132.2.2.2.1 (Item.mk y132.2.2.2.2.1 y132.2.2.2.2.2.1 y132.2.2.2.2.2.2.1 y132.2.2.2.2.2.2.2.1) (Item.mk y132.2.2.2.2.2.2.2.2.1 y132.2.2.2.2.2.2.2.2.2.1 y132.2.2.2.2.2.2.2.2.2.2.1 y132.2.2.2.2.2.2.2.2.2.2.2.1) (Item.mk y132.2.2.2.2.2.2.2.2.2.2.2.2.1 y132.2.2.2.2.2.2.2.2.2.2.2.2.2.1 y132.2.2.2.2.2.2.2.2.2.2.2.2.2.2.1 y132.2.2.2.2.2.2.2.2.2.2.2.2.2.2.2.1) y132.2.2.2.2.2.2.2.2.2.2.2.2.2.2.2.2)).bind fun r403 => (some (!(r403.toList == (str a0).toList))))).bind fun y402 => (if y402 = true then (some ((Op.mk (0 : Int) (0 : Int) (0 : Int) (0 : Int) (Item.mk (0 : Int) (0 : Int) (0 : Nat) ([] : (List Int))) (Item.mk (0 : Int) (0 : Int) (0 : Nat) ([] : (List Int))) (Item.mk (0 : Int) (0 : Int) (0 : Nat) ([] : (List Int))) ([] : (List Bool))), false)) else (some ((Op.mk y22 y107.2.2 y132.2.2.1 y132.2.2.2.1 (Item.mk y132.2.2.2.2.1 y132.2.2.2.2.2.1 y132.2.2.2.2.2.2.1 y132.2.2.2.2.2.2.2.1) (Item.mk y132.2.2.2.2.2.2.2.2.1 y132.2.2.2.2.2.2.2.2.2.1 y132.2.2.2.2.2.2.2.2.2.2.1 y132.2.2.2.2.2.2.2.2.2.2.2.1) (Item.mk y132.2.2.2.2.2.2.2.2.2.2.2.2.1 y132.2.2.2.2.2.2.2.2.2.2.2.2.2.1 y132.2.2.2.2.2.2.2.2.2.2.2.2.2.2.1 y132.2.2.2.2.2.2.2.2.2.2.2.2.2.2.2.1) y132.2.2.2.2.2.2.2.2.2.2.2.2.2.2.2.2), true))))))))) else none)) else none)))
def impl_OpRead.Q (w : World) (F : Nat → Prop) (r : Op × Bool) (v : Value) (w' : World) : Prop :=
 ∃ (v0 : Value) (v1 : Value) (v2 : Value) (v3 : Value) (v4 : Value) (v5 : Value) (v6 : Value), v = .tuple #[(.agg #[(iI r.1.Kind), (iI r.1.Seat), (iI r.1.Level), (iI r.1.N), (iI r.1.Key.Kind), (iI r.1.Key.N), v0, v1, (iI r.1.To.Kind), (iI r.1.To.N), v2, v3, (iI r.1.Value.Kind), (iI r.1.Value.N), v4, v5, v6]), (.bool r.2)] ∧ FO kd35 w w' [(iI r.1.Kind), (iI r.1.Seat), (iI r.1.Level), (iI r.1.N), (iI r.1.Key.Kind), (iI r.1.Key.N), v0, v1, (iI r.1.To.Kind), (iI r.1.To.N), v2, v3, (iI r.1.Value.Kind), (iI r.1.Value.N), v4, v5, v6] r.1 ∧ Ky [] w w'
theorem impl_OpRead.calls (a0 : (List Int)) (w : World) (F : Nat → Prop) (w0_0 : Value) (hG : GV.rd w [] () F) (h0_0 : Xx.rd w [w0_0] a0 F) (r : Op × Bool) (m : impl_OpRead.f a0 = some r) :
  Calls prog 13 #[w0_0] w (RT (impl_OpRead.Q w F) r) := by
 obtain ⟨s0, rfl, kp0, z⟩ := Xm w F
 have AG := z.rd hG
 refine Xd (args := [w0_0]) func13 ntmps13 rfl rfl m ?_
 unfold impl_OpRead.f
 refine sr (al (cs := [(iI 0), (iI 0), (iI 0), (iI 0), (iI 0), (iI 0), (.float .f64 0), (.slice none 0 0), (iI 0), (iI 0), (.float .f64 0), (.slice none 0 0), (iI 0), (iI 0), (.float .f64 0), (.slice none 0 0), (.slice none 0 0)]) 40 rfl rfl rfl rfl rfl o35 rfl (fun b2 s2 p2 B2 => ?_))
 refine Xb rfl (dn (sq (sr (Xp w0_0 rfl ?_))))
 have K4 := kp0.st p2 rfl
 have A5 := (z.rd h0_0).kp K4
 refine ln' A5 u22 rfl (Xb rfl (dn (cd rfl (fun h6 => ?_) (fun h6 => ?_))))
 ·
  refine sr (bd (cells := [(iI 0), (iI 0), (iI 0), (iI 0), (iI 0), (iI 0), (.float .f64 0), (.slice none 0 0), (iI 0), (iI 0), (.float .f64 0), (.slice none 0 0), (iI 0), (iI 0), (.float .f64 0), (.slice none 0 0), (.slice none 0 0)]) pl35 o35 rfl rfl rfl rfl rfl rfl (sva' (vs := [(iI 0), (iI 0), (iI 0), (iI 0), (iI 0), (iI 0), (.float .f64 0), (.slice none 0 0), (iI 0), (iI 0), (.float .f64 0), (.slice none 0 0), (iI 0), (iI 0), (.float .f64 0), (.slice none 0 0), (.slice none 0 0)]) B2 z35 rfl (Xa rfl (Xa rfl (Xa rfl (Xa rfl (Xa rfl (Xa rfl (Xa (FL.one (Xl rfl)) (Xa rfl (Xa rfl (Xa rfl (Xa (FL.one (Xl rfl)) (Xa rfl (Xa rfl (Xa rfl (Xa (FL.one (Xl rfl)) (Xa rfl (Xa rfl Xr))))))))))))))))) rfl (fun s7 p7 B7 => ?_)))
  replace B7 : BlF s7 b2 35 [(iI 0), (iI 0), (iI 0), (iI 0), (iI 0), (iI 0), (.float .f64 0), (.slice none 0 0), (iI 0), (iI 0), (.float .f64 0), (.slice none 0 0), (iI 0), (iI 0), (.float .f64 0), (.slice none 0 0), (.slice none 0 0)] 40 := B7
  refine Xb rfl (dn ?_)
  have A9 : OwF kd35 s7 [(iI 0), (iI 0), (iI 0), (iI 0), (iI 0), (iI 0), (.float .f64 0), (.slice none 0 0), (iI 0), (iI 0), (.float .f64 0), (.slice none 0 0), (iI 0), (iI 0), (.float .f64 0), (.slice none 0 0), (.slice none 0 0)] (Op.mk (0 : Int) (0 : Int) (0 : Int) (0 : Int) (Item.mk (0 : Int) (0 : Int) (0 : Nat) ([] : (List Int))) (Item.mk (0 : Int) (0 : Int) (0 : Nat) ([] : (List Int))) (Item.mk (0 : Int) (0 : Int) (0 : Nat) ([] : (List Int))) ([] : (List Bool))) 41 := ow_z _ _ (fz_iso (fun x : Op => (x.Kind, x.Seat, x.Level, x.N, x.Key, x.To, x.Value, x.Keep)) (Op.mk (0 : Int) (0 : Int) (0 : Int) (0 : Int) (Item.mk (0 : Int) (0 : Int) (0 : Nat) ([] : (List Int))) (Item.mk (0 : Int) (0 : Int) (0 : Nat) ([] : (List Int))) (Item.mk (0 : Int) (0 : Int) (0 : Nat) ([] : (List Int))) ([] : (List Bool))) (Xe (Xf .i64 (0 : Int)) (Xe (Xf .i64 (0 : Int)) (Xe (Xf .i64 (0 : Int)) (Xe (Xf .i64 (0 : Int)) (Xe (fz_iso (fun x : Item => (x.Kind, x.N, x.F, x.T)) (Item.mk (0 : Int) (0 : Int) (0 : Nat) ([] : (List Int))) (Xe (Xf .i64 (0 : Int)) (Xe (Xf .i64 (0 : Int)) (Xe (Xu (Xl rfl)) (fz_nil 5 (Kd.int .u8)))))) (Xe (fz_iso (fun x : Item => (x.Kind, x.N, x.F, x.T)) (Item.mk (0 : Int) (0 : Int) (0 : Nat) ([] : (List Int))) (Xe (Xf .i64 (0 : Int)) (Xe (Xf .i64 (0 : Int)) (Xe (Xu (Xl rfl)) (fz_nil 5 (Kd.int .u8)))))) (Xe (fz_iso (fun x : Item => (x.Kind, x.N, x.F, x.T)) (Item.mk (0 : Int) (0 : Int) (0 : Nat) ([] : (List Int))) (Xe (Xf .i64 (0 : Int)) (Xe (Xf .i64 (0 : Int)) (Xe (Xu (Xl rfl)) (fz_nil 5 (Kd.int .u8)))))) (fz_nil 4 Kd.bool)))))))))
  have K11 := K4.st p7 rfl
  exact re rfl func13 rfl (r_b B7 u35 rfl z35 rfl (Xv rfl Xg)) rfl ⟨_, rfl, (.float .f64 0), (.slice none 0 0), (.float .f64 0), (.slice none 0 0), (.float .f64 0), (.slice none 0 0), (.slice none 0 0), rfl, A9.fo K11 rfl z.l, z.ky K11⟩
 refine sk (sr (Xp w0_0 rfl (b2s A5 u22 u9 u5 rfl rfl rfl rfl rfl rfl (Xb rfl (dn (sr (Xb rfl (cl' rfl func35 rfl (strings_Split.calls (str a0) (⟨#[32]⟩ : ByteArray) s2.w (mm [0] s2) (AG.kp K4)) ?_))))))))
 rintro r12 v12_0 w12 m12 ⟨f12_0, ky12⟩
 obtain ⟨s13, rfl, p13, n13⟩ := nwx s2 w12 42 ky12
 refine Xq v12_0 rfl (dn (sq (zdraw [[], [], [1], [2], [0, 3, 0], [4], [], [6, 5, 4, 0, 1, 2, 3, 4, 5, 6]] [some 16, some 17, some 18, some 19, some 20, some 21, some 6, none] [[], [5], [17], [18], [16, 19], [20], [], [6, 21]] [0, 1, 2, 3, 4, 5, 6, 7] ⟨by kernel_rfl, by kernel_rfl, by kernel_rfl⟩ (by kernel_rfl) (fun s15 p15 l15 tb15 zd15 => ?_))))
 have A17 := (f12_0.c n13).st p15 rfl
 refine mg fun hg18 => ?_
 obtain ⟨ad18, es18, he18, ce18, ia18⟩ := ix_e A17.rd rfl hg18.1 hg18.2
 obtain rfl := he18
 refine ji [7] (fun (y22 : Int) e w => ∃ (s : St) (e0 : Env) (by22_0 : Nat), w = s.w ∧ e = upd (upd (upd (upd (upd e0 2 (pB b2)) 4 (.string (str a0))) 5 v12_0) 6 (pB by22_0)) 21 (.agg #[(iI y22), (iI 0), (iI 0), (iI 0), (iI 0), (iI 0), (.float .f64 0), (.slice none 0 0), (iI 0), (iI 0), (.float .f64 0), (.slice none 0 0), (iI 0), (iI 0), (.float .f64 0), (.slice none 0 0), (.slice none 0 0)]) ∧ Kp s0 s ∧ BlF s b2 35 [(iI 0), (iI 0), (iI 0), (iI 0), (iI 0), (iI 0), (.float .f64 0), (.slice none 0 0), (iI 0), (iI 0), (.float .f64 0), (.slice none 0 0), (iI 0), (iI 0), (.float .f64 0), (.slice none 0 0), (.slice none 0 0)] 40 ∧ BlF s by22_0 35 [(iI 0), (iI 0), (iI 0), (iI 0), (iI 0), (iI 0), (.float .f64 0), (.slice none 0 0), (iI 0), (iI 0), (.float .f64 0), (.slice none 0 0), (iI 0), (iI 0), (.float .f64 0), (.slice none 0 0), (.slice none 0 0)] 43 ∧ OwF (Kd.sl 9 Kd.str) s [v12_0] r12 42) (fun Gj22 Kj22 => ?_) ?_
 ·
  refine zstep2 0 6 [some 19, some 18, some 17] [some 19, some 18, some 17] tb15 (((zd15.add 1 17 v12_0 rfl).add 2 18 (.pointer (some ad18)) rfl).add 3 19 (.string (at_ r12 (0 : Int))) rfl) (Xc (lc0_q ce18 u9 rfl rfl rfl rfl rfl rfl rfl rfl) rfl (Xc (ix_q A17.rd u59 z9 hg18.1 hg18.2 ia18 rfl rfl rfl rfl rfl rfl rfl) rfl (Xc (mv_q' v12_0 rfl) rfl Xt))) (by kernel_rfl) (by kernel_rfl) (fun l23 e23 zd23 => ?_) (fun l24 e24 zd24 => ?_)
  ·
   refine clO 44 rfl func37 rfl (impl_opNames.calls  s15.w (mm [] s15)) (fun r25 v25_0 s26 p26 A25_0 => ?_)
   refine zdone (L' := [3, 2, 1]) (D' := [0]) zd23 rfl rfl rfl (fun zd28 => ?_)
   have A31 := A17.st p26 rfl
   refine zstep2 4 6 [] [some 19, some 18, some 17] tb15 zd28 (Xc (lc0_q (ce18.st p26 rfl rfl) u9 rfl rfl rfl rfl rfl rfl rfl rfl) rfl (Xc (ix_q A31.rd u59 z9 hg18.1 hg18.2 ia18 rfl rfl rfl rfl rfl rfl rfl) rfl (Xc (mv_q' v12_0 rfl) rfl Xt))) (by kernel_rfl) (by kernel_rfl) (fun l29 e29 zd29 => ?_) (fun l30 e30 zd30 => ?_)
   ·
    refine clV 45 rfl func36 rfl (slices_Index_string_string.calls r25 (at_ r12 (0 : Int)) s26.w (mm [44] s26) v25_0 A25_0.rd) (fun r33 s34 p34 n34 => ?_)
    refine zdone (L' := []) (D' := [1, 2, 3, 4, 0]) zd29 rfl rfl rfl (fun zd35 => ?_)
    refine zstep 6 [some 21] tb15 (zd35.add 5 21 (.agg #[(iI r33), (iI 0), (iI 0), (iI 0), (iI 0), (iI 0), (.float .f64 0), (.slice none 0 0), (iI 0), (iI 0), (.float .f64 0), (.slice none 0 0), (iI 0), (iI 0), (.float .f64 0), (.slice none 0 0), (.slice none 0 0)]) rfl) (Xc (bd_q (cells := [(iI r33), (iI 0), (iI 0), (iI 0), (iI 0), (iI 0), (.float .f64 0), (.slice none 0 0), (iI 0), (iI 0), (.float .f64 0), (.slice none 0 0), (iI 0), (iI 0), (.float .f64 0), (.slice none 0 0), (.slice none 0 0)]) pl35 o35 rfl rfl rfl rfl rfl rfl) rfl Xt) (by kernel_rfl) rfl (fun l37 e37 zd37 => ?_)
    refine al (cs := [(iI 0), (iI 0), (iI 0), (iI 0), (iI 0), (iI 0), (.float .f64 0), (.slice none 0 0), (iI 0), (iI 0), (.float .f64 0), (.slice none 0 0), (iI 0), (iI 0), (.float .f64 0), (.slice none 0 0), (.slice none 0 0)]) 46 rfl rfl rfl rfl rfl o35 rfl (fun b38 s38 p38 B38 => ?_)
    refine zdone (L' := [5]) (D' := [6, 1, 2, 3, 4, 0]) zd37 rfl rfl rfl (fun zd40 => ?_)
    refine zfin [7] tb15 zd40 (Xc (bd_q (cells := [(iI r33), (iI 0), (iI 0), (iI 0), (iI 0), (iI 0), (.float .f64 0), (.slice none 0 0), (iI 0), (iI 0), (.float .f64 0), (.slice none 0 0), (iI 0), (iI 0), (.float .f64 0), (.slice none 0 0), (.slice none 0 0)]) pl35 o35 rfl rfl rfl rfl rfl rfl) rfl Xt) (by kernel_rfl) (by decide) ?_
    obtain ⟨s41, hw41, p41, D41⟩ := BlF.rc B38 43 rfl
    rw [hw41]
    exact Kj22 _ _ _ ⟨s41, _, b38, rfl, (ue (ue (ue (ue (ue rfl rfl) rfl) rfl) rfl) rfl), (K4.st (tr6 p13 p15 p26 p34 p38 p41) rfl), (B2.st (tr6 p13 p15 p26 p34 p38 p41) rfl), D41, (A31.st (tr3 p34 p38 p41) rfl)⟩
   refine al (cs := [(iI 0), (iI 0), (iI 0), (iI 0), (iI 0), (iI 0), (.float .f64 0), (.slice none 0 0), (iI 0), (iI 0), (.float .f64 0), (.slice none 0 0), (iI 0), (iI 0), (.float .f64 0), (.slice none 0 0), (.slice none 0 0)]) 47 rfl rfl rfl rfl rfl o35 rfl (fun b46 s46 p46 B46 => ?_)
   refine zdone (L' := [3, 2, 1]) (D' := [6, 0]) zd30 rfl rfl rfl (fun zd48 => ?_)
   have A50 := A31.st p46 rfl
   refine zstep 4 [] tb15 zd48 (Xc (lc0_q (ce18.st (Xo p26 p46) rfl rfl) u9 rfl rfl rfl rfl rfl rfl rfl rfl) rfl (Xc (ix_q A50.rd u59 z9 hg18.1 hg18.2 ia18 rfl rfl rfl rfl rfl rfl rfl) rfl (Xc (mv_q' v12_0 rfl) rfl Xt))) (by kernel_rfl) rfl (fun l49 e49 zd49 => ?_)
   refine clV 48 rfl func36 rfl (slices_Index_string_string.calls r25 (at_ r12 (0 : Int)) s46.w (mm [44] s46) v25_0 (A25_0.st p46 rfl).rd) (fun r53 s54 p54 n54 => ?_)
   refine zdone (L' := []) (D' := [1, 2, 3, 4, 6, 0]) zd49 rfl rfl rfl (fun zd55 => ?_)
   refine zfin [7] tb15 (zd55.add 5 21 (.agg #[(iI r53), (iI 0), (iI 0), (iI 0), (iI 0), (iI 0), (.float .f64 0), (.slice none 0 0), (iI 0), (iI 0), (.float .f64 0), (.slice none 0 0), (iI 0), (iI 0), (.float .f64 0), (.slice none 0 0), (.slice none 0 0)]) rfl) (Xc (bd_q (cells := [(iI r53), (iI 0), (iI 0), (iI 0), (iI 0), (iI 0), (.float .f64 0), (.slice none 0 0), (iI 0), (iI 0), (.float .f64 0), (.slice none 0 0), (iI 0), (iI 0), (.float .f64 0), (.slice none 0 0), (.slice none 0 0)]) pl35 o35 rfl rfl rfl rfl rfl rfl) rfl Xt) (by kernel_rfl) (by decide) ?_
   obtain ⟨s58, hw58, p58, D58⟩ := BlF.rc (B46.st p54 rfl) 43 rfl
   rw [hw58]
   exact Kj22 _ _ _ ⟨s58, _, b46, rfl, (ue (ue (ue (ue (ue rfl rfl) rfl) rfl) rfl) rfl), (K4.st (tr6 p13 p15 p26 p46 p54 p58) rfl), (B2.st (tr6 p13 p15 p26 p46 p54 p58) rfl), D58, (A50.st (Xo p54 p58) rfl)⟩
  refine al (cs := [(iI 0), (iI 0), (iI 0), (iI 0), (iI 0), (iI 0), (.float .f64 0), (.slice none 0 0), (iI 0), (iI 0), (.float .f64 0), (.slice none 0 0), (iI 0), (iI 0), (.float .f64 0), (.slice none 0 0), (.slice none 0 0)]) 49 rfl rfl rfl rfl rfl o35 rfl (fun b63 s63 p63 B63 => ?_)
  refine zdone (L' := [3, 2, 1]) (D' := [6]) zd24 rfl rfl rfl (fun zd65 => ?_)
  have A67 := A17.st p63 rfl
  refine zstep 0 [some 19, some 18, some 17] tb15 zd65 (Xc (lc0_q (ce18.st p63 rfl rfl) u9 rfl rfl rfl rfl rfl rfl rfl rfl) rfl (Xc (ix_q A67.rd u59 z9 hg18.1 hg18.2 ia18 rfl rfl rfl rfl rfl rfl rfl) rfl (Xc (mv_q' v12_0 rfl) rfl Xt))) (by kernel_rfl) rfl (fun l66 e66 zd66 => ?_)
  refine clO 50 rfl func37 rfl (impl_opNames.calls  s63.w (mm [] s63)) (fun r69 v69_0 s70 p70 A69_0 => ?_)
  refine zdone (L' := [3, 2, 1]) (D' := [0, 6]) zd66 rfl rfl rfl (fun zd72 => ?_)
  have A74 := A67.st p70 rfl
  refine zstep 4 [] tb15 zd72 (Xc (lc0_q (ce18.st (Xo p63 p70) rfl rfl) u9 rfl rfl rfl rfl rfl rfl rfl rfl) rfl (Xc (ix_q A74.rd u59 z9 hg18.1 hg18.2 ia18 rfl rfl rfl rfl rfl rfl rfl) rfl (Xc (mv_q' v12_0 rfl) rfl Xt))) (by kernel_rfl) rfl (fun l73 e73 zd73 => ?_)
  refine clV 51 rfl func36 rfl (slices_Index_string_string.calls r69 (at_ r12 (0 : Int)) s70.w (mm [50] s70) v69_0 A69_0.rd) (fun r76 s77 p77 n77 => ?_)
  refine zdone (L' := []) (D' := [1, 2, 3, 4, 0, 6]) zd73 rfl rfl rfl (fun zd78 => ?_)
  refine zfin [7] tb15 (zd78.add 5 21 (.agg #[(iI r76), (iI 0), (iI 0), (iI 0), (iI 0), (iI 0), (.float .f64 0), (.slice none 0 0), (iI 0), (iI 0), (.float .f64 0), (.slice none 0 0), (iI 0), (iI 0), (.float .f64 0), (.slice none 0 0), (.slice none 0 0)]) rfl) (Xc (bd_q (cells := [(iI r76), (iI 0), (iI 0), (iI 0), (iI 0), (iI 0), (.float .f64 0), (.slice none 0 0), (iI 0), (iI 0), (.float .f64 0), (.slice none 0 0), (iI 0), (iI 0), (.float .f64 0), (.slice none 0 0), (.slice none 0 0)]) pl35 o35 rfl rfl rfl rfl rfl rfl) rfl Xt) (by kernel_rfl) (by decide) ?_
  obtain ⟨s81, hw81, p81, D81⟩ := BlF.rc (B63.st (Xo p70 p77) rfl) 43 rfl
  rw [hw81]
  exact Kj22 _ _ _ ⟨s81, _, b63, rfl, (ue (ue (ue (ue (ue rfl rfl) rfl) rfl) rfl) rfl), (K4.st (tr6 p13 p15 p63 p70 p77 p81) rfl), (B2.st (tr6 p13 p15 p63 p70 p77 p81) rfl), D81, (A74.st (Xo p77 p81) rfl)⟩
 rintro y22 _ _ ⟨s86, _, by22_0, rfl, rfl, Ky22, By22_b2, Dy22_0, Cy22_14⟩
 refine sva' (vs := [(iI y22), (iI 0), (iI 0), (iI 0), (iI 0), (iI 0), (.float .f64 0), (.slice none 0 0), (iI 0), (iI 0), (.float .f64 0), (.slice none 0 0), (iI 0), (iI 0), (.float .f64 0), (.slice none 0 0), (.slice none 0 0)]) Dy22_0 z35 rfl (Xa rfl (Xa rfl (Xa rfl (Xa rfl (Xa rfl (Xa rfl (Xa (FL.one (Xl rfl)) (Xa rfl (Xa rfl (Xa rfl (Xa (FL.one (Xl rfl)) (Xa rfl (Xa rfl (Xa rfl (Xa (FL.one (Xl rfl)) (Xa rfl (Xa rfl Xr))))))))))))))))) rfl (fun s89 p89 B89 => ?_)
 replace B89 : BlF s89 by22_0 35 [(iI y22), (iI 0), (iI 0), (iI 0), (iI 0), (iI 0), (.float .f64 0), (.slice none 0 0), (iI 0), (iI 0), (.float .f64 0), (.slice none 0 0), (iI 0), (iI 0), (.float .f64 0), (.slice none 0 0), (.slice none 0 0)] 43 := B89
 refine dn (sr (Xp v12_0 rfl ?_))
 refine sla (Cy22_14.st p89 rfl).rd u59 z9 rfl rfl rfl rfl rfl rfl rfl (fun v92 A92 => ?_)
 refine bd (cells := [v92, (.bool false)]) pl65 o65 rfl rfl rfl rfl rfl (lfill_pc (pc_c (oc A92.one) pc_n) rfl) (bx (cs := [v92, (.bool false)]) 52 rfl rfl rfl rfl rfl rfl (fun b94 s94 p94 B94 => ?_))
 refine Xb rfl (dn (sq (sr (Xs fa35_0 rfl ?_))))
 have A96 := B89.st p94 rfl
 refine ld' A96 u3 rfl (clV 53 rfl func38 rfl (impl_within.calls y22 (1 : Int) (13 : Int) s94.w (mm [] s94)) (fun r97 s98 p98 n98 => ?_))
 refine Xb rfl (dn (cd rfl (fun h99 => ?_) (fun h99 => ?_)))
 ·
  refine sr (bd (cells := [(iI 0), (iI 0), (iI 0), (iI 0), (iI 0), (iI 0), (.float .f64 0), (.slice none 0 0), (iI 0), (iI 0), (.float .f64 0), (.slice none 0 0), (iI 0), (iI 0), (.float .f64 0), (.slice none 0 0), (.slice none 0 0)]) pl35 o35 rfl rfl rfl rfl rfl rfl ?_)
  refine sva' (vs := [(iI 0), (iI 0), (iI 0), (iI 0), (iI 0), (iI 0), (.float .f64 0), (.slice none 0 0), (iI 0), (iI 0), (.float .f64 0), (.slice none 0 0), (iI 0), (iI 0), (.float .f64 0), (.slice none 0 0), (.slice none 0 0)]) (By22_b2.st (tr3 p89 p94 p98) rfl) z35 rfl (Xa rfl (Xa rfl (Xa rfl (Xa rfl (Xa rfl (Xa rfl (Xa (FL.one (Xl rfl)) (Xa rfl (Xa rfl (Xa rfl (Xa (FL.one (Xl rfl)) (Xa rfl (Xa rfl (Xa rfl (Xa (FL.one (Xl rfl)) (Xa rfl (Xa rfl Xr))))))))))))))))) rfl (fun s101 p101 B101 => ?_)
  replace B101 : BlF s101 b2 35 [(iI 0), (iI 0), (iI 0), (iI 0), (iI 0), (iI 0), (.float .f64 0), (.slice none 0 0), (iI 0), (iI 0), (.float .f64 0), (.slice none 0 0), (iI 0), (iI 0), (.float .f64 0), (.slice none 0 0), (.slice none 0 0)] 40 := B101
  refine Xb rfl (dn ?_)
  have A103 : OwF kd35 s101 [(iI 0), (iI 0), (iI 0), (iI 0), (iI 0), (iI 0), (.float .f64 0), (.slice none 0 0), (iI 0), (iI 0), (.float .f64 0), (.slice none 0 0), (iI 0), (iI 0), (.float .f64 0), (.slice none 0 0), (.slice none 0 0)] (Op.mk (0 : Int) (0 : Int) (0 : Int) (0 : Int) (Item.mk (0 : Int) (0 : Int) (0 : Nat) ([] : (List Int))) (Item.mk (0 : Int) (0 : Int) (0 : Nat) ([] : (List Int))) (Item.mk (0 : Int) (0 : Int) (0 : Nat) ([] : (List Int))) ([] : (List Bool))) 54 := ow_z _ _ (fz_iso (fun x : Op => (x.Kind, x.Seat, x.Level, x.N, x.Key, x.To, x.Value, x.Keep)) (Op.mk (0 : Int) (0 : Int) (0 : Int) (0 : Int) (Item.mk (0 : Int) (0 : Int) (0 : Nat) ([] : (List Int))) (Item.mk (0 : Int) (0 : Int) (0 : Nat) ([] : (List Int))) (Item.mk (0 : Int) (0 : Int) (0 : Nat) ([] : (List Int))) ([] : (List Bool))) (Xe (Xf .i64 (0 : Int)) (Xe (Xf .i64 (0 : Int)) (Xe (Xf .i64 (0 : Int)) (Xe (Xf .i64 (0 : Int)) (Xe (fz_iso (fun x : Item => (x.Kind, x.N, x.F, x.T)) (Item.mk (0 : Int) (0 : Int) (0 : Nat) ([] : (List Int))) (Xe (Xf .i64 (0 : Int)) (Xe (Xf .i64 (0 : Int)) (Xe (Xu (Xl rfl)) (fz_nil 5 (Kd.int .u8)))))) (Xe (fz_iso (fun x : Item => (x.Kind, x.N, x.F, x.T)) (Item.mk (0 : Int) (0 : Int) (0 : Nat) ([] : (List Int))) (Xe (Xf .i64 (0 : Int)) (Xe (Xf .i64 (0 : Int)) (Xe (Xu (Xl rfl)) (fz_nil 5 (Kd.int .u8)))))) (Xe (fz_iso (fun x : Item => (x.Kind, x.N, x.F, x.T)) (Item.mk (0 : Int) (0 : Int) (0 : Nat) ([] : (List Int))) (Xe (Xf .i64 (0 : Int)) (Xe (Xf .i64 (0 : Int)) (Xe (Xu (Xl rfl)) (fz_nil 5 (Kd.int .u8)))))) (fz_nil 4 Kd.bool)))))))))
  have K105 := Ky22.st (tr4 p89 p94 p98 p101) rfl
  exact re rfl func13 rfl (r_b B101 u35 rfl z35 rfl (Xv rfl Xg)) rfl ⟨_, rfl, (.float .f64 0), (.slice none 0 0), (.float .f64 0), (.slice none 0 0), (.float .f64 0), (.slice none 0 0), (.slice none 0 0), rfl, A103.fo K105 rfl z.l, z.ky K105⟩
 refine sk (sq (sr (Xs fa35_0 rfl ?_)))
 have A106 := A96.st p98 rfl
 refine ld' A106 u3 rfl (Xb rfl (dn (jc (fun (y107 : (List ByteArray) × Bool × Int) e w => ∃ (s : St) (e0 : Env) (vy107_0 : Value), w = s.w ∧ e = upd (upd (upd (upd e0 2 (pB b2)) 4 (.string (str a0))) 6 (pB by22_0)) 7 (pB b94) ∧ Kp s0 s ∧ RdF (Kd.sl 9 Kd.str) s [vy107_0] y107.1 [42, 0] ∧ BlF s b94 65 [vy107_0, (.bool y107.2.1)] 52 ∧ BlF s by22_0 35 [(iI y22), (iI y107.2.2), (iI 0), (iI 0), (iI 0), (iI 0), (.float .f64 0), (.slice none 0 0), (iI 0), (iI 0), (.float .f64 0), (.slice none 0 0), (iI 0), (iI 0), (.float .f64 0), (.slice none 0 0), (.slice none 0 0)] 43 ∧ BlF s b2 35 [(iI 0), (iI 0), (iI 0), (iI 0), (iI 0), (iI 0), (.float .f64 0), (.slice none 0 0), (iI 0), (iI 0), (.float .f64 0), (.slice none 0 0), (iI 0), (iI 0), (.float .f64 0), (.slice none 0 0), (.slice none 0 0)] 40) (fun Gj107 Kj107 => ?_) ?_)))
 ·
  refine cd rfl (fun h108 => ?_) (fun h108 => ?_)
  ·
   refine rg (Xb rfl ?_)
   have K110 := Ky22.st (tr3 p89 p94 p98) rfl
   have A112 := B94.st p98 rfl
   refine cl' rfl func39 rfl (impl_opWords_number.calls (opWords.mk (r12.drop ((1 : Int)).toNat) false) s98.w (mm [42, 0] s98) b94 v92 ((gv_gu (AG.kp K110)).sub (D := [42, 0]) rfl) ((A92.st (Xo p94 p98) rfl).sub (D := [42, 0]) rfl) A112.w (A112.apart rfl)) ?_
   rintro r111 _ w111 m111 ⟨u111_0, rfl, bw111, uf111_0, ky111⟩
   obtain ⟨s113, rfl, p113, n113, g113⟩ := nwb 55 A112 ky111
   have B113 := blf_mk bw111 g113
   have Au113_0 := FRF.c uf111_0 n113
   refine Xs fa35_1 rfl (sv (A106.st p113 rfl) z3 rfl rfl rfl rfl rfl rfl rfl rfl (fun s117 p117 B117 => ?_))
   replace B117 : BlF s117 by22_0 35 [(iI y22), (iI r111.1), (iI 0), (iI 0), (iI 0), (iI 0), (.float .f64 0), (.slice none 0 0), (iI 0), (iI 0), (.float .f64 0), (.slice none 0 0), (iI 0), (iI 0), (.float .f64 0), (.slice none 0 0), (.slice none 0 0)] 43 := B117
   exact dn (Kj107 _ _ _ ⟨s117, _, u111_0, rfl, (ue (ue (ue (ue rfl rfl) rfl) rfl) rfl), (K110.st (Xo p113 p117) rfl), (Au113_0.st p117 rfl), (B113.st p117 rfl), B117, (By22_b2.st (tr5 p89 p94 p98 p113 p117) rfl)⟩)
  exact sk (Kj107 _ _ _ ⟨s98, _, v92, rfl, (ue (ue (ue (ue rfl rfl) rfl) rfl) rfl), (Ky22.st (tr3 p89 p94 p98) rfl), ((A92.st (Xo p94 p98) rfl).sub rfl), (B94.st p98 rfl), A106, (By22_b2.st (tr3 p89 p94 p98) rfl)⟩)
 rintro y107 _ _ ⟨s127, _, vy107_0, rfl, rfl, Ky107, Ay107_0, By107_b94, By107_by22_0, By107_b2⟩
 refine sq (sr (Xs fa35_0 rfl (ld' By107_by22_0 u3 rfl (dn (bl (sr (Xb rfl (Xb rfl (dn (jc (fun (y132 : (List ByteArray) × Bool × Int × Int × Int × Int × Nat × (List Int) × Int × Int × Nat × (List Int) × Int × Int × Nat × (List Int) × (List Bool)) e w => ∃ (s : St) (e0 : Env) (vy132_0 vy132_1 vy132_2 vy132_3 vy132_4 uy132_0 uy132_1 uy132_2 : Value), w = s.w ∧ e = upd (upd (upd (upd e0 2 (pB b2)) 4 (.string (str a0))) 6 (pB by22_0)) 7 (pB b94) ∧ Kp s0 s ∧ RdF (Kd.sl 9 Kd.str) s [vy132_0] y132.1 [42, 0] ∧ OwF Xx s [vy132_1] y132.2.2.2.2.2.2.2.1 57 ∧ OwF Xx s [vy132_2] y132.2.2.2.2.2.2.2.2.2.2.2.1 61 ∧ OwF Xx s [vy132_3] y132.2.2.2.2.2.2.2.2.2.2.2.2.2.2.2.1 59 ∧ OwF (Kd.sl 4 Kd.bool) s [vy132_4] y132.2.2.2.2.2.2.2.2.2.2.2.2.2.2.2.2 66 ∧ FL uy132_0 y132.2.2.2.2.2.2.1 ∧ FL uy132_1 y132.2.2.2.2.2.2.2.2.2.2.1 ∧ FL uy132_2 y132.2.2.2.2.2.2.2.2.2.2.2.2.2.2.1 ∧ BlF s b94 65 [vy132_0, (.bool y132.2.1)] 52 ∧ BlF s by22_0 35 [(iI y22), (iI y107.2.2), (iI y132.2.2.1), (iI y132.2.2.2.1), (iI y132.2.2.2.2.1), (iI y132.2.2.2.2.2.1), uy132_0, vy132_1, (iI y132.2.2.2.2.2.2.2.2.1), (iI y132.2.2.2.2.2.2.2.2.2.1), uy132_1, vy132_2, (iI y132.2.2.2.2.2.2.2.2.2.2.2.2.1), (iI y132.2.2.2.2.2.2.2.2.2.2.2.2.2.1), uy132_2, vy132_3, vy132_4] 43 ∧ BlF s b2 35 [(iI 0), (iI 0), (iI 0), (iI 0), (iI 0), (iI 0), (.float .f64 0), (.slice none 0 0), (iI 0), (iI 0), (.float .f64 0), (.slice none 0 0), (iI 0), (iI 0), (.float .f64 0), (.slice none 0 0), (.slice none 0 0)] 40) (fun Gj132 Kj132 => ?_) ?_))))))))))
 ·
  refine cd rfl (fun h133 => ?_) (fun h133 => ?_)
  ·
   refine rg (Xb rfl (cl' rfl func39 rfl (impl_opWords_number.calls (opWords.mk y107.1 y107.2.1) s127.w (mm [42, 0] s127) b94 vy107_0 ((gv_gu (AG.kp Ky107)).sub (D := [42, 0]) rfl) Ay107_0 By107_b94.w (By107_b94.apart rfl)) ?_))
   rintro r134 _ w134 m134 ⟨u134_0, rfl, bw134, uf134_0, ky134⟩
   obtain ⟨s135, rfl, p135, n135, g135⟩ := nwb 56 By107_b94 ky134
   have B135 := blf_mk bw134 g135
   have Au135_0 := FRF.c uf134_0 n135
   refine Xs fa35_2 rfl (sv (By107_by22_0.st p135 rfl) z3 rfl rfl rfl rfl rfl rfl rfl rfl (fun s139 p139 B139 => ?_))
   replace B139 : BlF s139 by22_0 35 [(iI y22), (iI y107.2.2), (iI r134.1), (iI 0), (iI 0), (iI 0), (.float .f64 0), (.slice none 0 0), (iI 0), (iI 0), (.float .f64 0), (.slice none 0 0), (iI 0), (iI 0), (.float .f64 0), (.slice none 0 0), (.slice none 0 0)] 43 := B139
   exact dn (Kj132 _ _ _ ⟨s139, _, u134_0, (.slice none 0 0), (.slice none 0 0), (.slice none 0 0), (.slice none 0 0), (.float .f64 0), (.float .f64 0), (.float .f64 0), rfl, (ue (ue (ue (ue rfl rfl) rfl) rfl) rfl), (Ky107.st (Xo p135 p139) rfl), (Au135_0.st p139 rfl), (Xk 5 (Kd.int .u8) _ 57), (Xk 5 (Kd.int .u8) _ 61), (Xk 5 (Kd.int .u8) _ 59), (Xk 4 Kd.bool _ 66), (Xl rfl), (Xl rfl), (Xl rfl), (B135.st p139 rfl), B139, (By107_b2.st (Xo p135 p139) rfl)⟩)
  refine sq (sr (Xb rfl (Xb rfl (dn (jc (fun (y145 : Bool) e w => ∃ (s : St) (e0 : Env), w = s.w ∧ e = upd (upd (upd (upd (upd (upd e0 2 (pB b2)) 4 (.string (str a0))) 6 (pB by22_0)) 7 (pB b94)) 38 (iI y22)) 44 (.bool y145) ∧ Kp s0 s ∧ BlF s b94 65 [vy107_0, (.bool y107.2.1)] 52 ∧ BlF s by22_0 35 [(iI y22), (iI y107.2.2), (iI 0), (iI 0), (iI 0), (iI 0), (.float .f64 0), (.slice none 0 0), (iI 0), (iI 0), (.float .f64 0), (.slice none 0 0), (iI 0), (iI 0), (.float .f64 0), (.slice none 0 0), (.slice none 0 0)] 43 ∧ BlF s b2 35 [(iI 0), (iI 0), (iI 0), (iI 0), (iI 0), (iI 0), (.float .f64 0), (.slice none 0 0), (iI 0), (iI 0), (.float .f64 0), (.slice none 0 0), (iI 0), (iI 0), (.float .f64 0), (.slice none 0 0), (.slice none 0 0)] 40 ∧ RdF (Kd.sl 9 Kd.str) s [vy107_0] y107.1 [42, 0]) (fun Gj145 Kj145 => ?_) ?_)))))
  ·
   refine cd rfl (fun h146 => ?_) (fun h146 => ?_)
   ·
    exact sk (Kj145 _ _ _ ⟨s127, _, rfl, (ue (ue (ue (ue (ue (ue rfl rfl) rfl) rfl) rfl) rfl) rfl), Ky107, By107_b94, By107_by22_0, By107_b2, Ay107_0⟩)
   exact rg (Xb rfl (Xb rfl (dn (Kj145 _ _ _ ⟨s127, _, rfl, (ue (ue (ue (ue (ue (ue rfl rfl) rfl) rfl) rfl) rfl) rfl), Ky107, By107_b94, By107_by22_0, By107_b2, Ay107_0⟩))))
  rintro y145 _ _ ⟨s147, _, rfl, rfl, Ky145, By145_b94, By145_by22_0, By145_b2, Cy145_128⟩
  refine jc (fun (y151 : (List ByteArray) × Bool × Int × Int × Int × Nat × (List Int) × Int × Int × Nat × (List Int) × Int × Int × Nat × (List Int) × (List Bool)) e w => ∃ (s : St) (e0 : Env) (vy151_0 vy151_1 vy151_2 vy151_3 vy151_4 uy151_0 uy151_1 uy151_2 : Value), w = s.w ∧ e = upd (upd (upd (upd e0 2 (pB b2)) 4 (.string (str a0))) 6 (pB by22_0)) 7 (pB b94) ∧ Kp s0 s ∧ RdF (Kd.sl 9 Kd.str) s [vy151_0] y151.1 [42, 0] ∧ OwF Xx s [vy151_1] y151.2.2.2.2.2.2.1 57 ∧ OwF Xx s [vy151_2] y151.2.2.2.2.2.2.2.2.2.2.1 61 ∧ OwF Xx s [vy151_3] y151.2.2.2.2.2.2.2.2.2.2.2.2.2.2.1 59 ∧ OwF (Kd.sl 4 Kd.bool) s [vy151_4] y151.2.2.2.2.2.2.2.2.2.2.2.2.2.2.2 66 ∧ FL uy151_0 y151.2.2.2.2.2.1 ∧ FL uy151_1 y151.2.2.2.2.2.2.2.2.2.1 ∧ FL uy151_2 y151.2.2.2.2.2.2.2.2.2.2.2.2.2.1 ∧ BlF s b94 65 [vy151_0, (.bool y151.2.1)] 52 ∧ BlF s by22_0 35 [(iI y22), (iI y107.2.2), (iI 0), (iI y151.2.2.1), (iI y151.2.2.2.1), (iI y151.2.2.2.2.1), uy151_0, vy151_1, (iI y151.2.2.2.2.2.2.2.1), (iI y151.2.2.2.2.2.2.2.2.1), uy151_1, vy151_2, (iI y151.2.2.2.2.2.2.2.2.2.2.2.1), (iI y151.2.2.2.2.2.2.2.2.2.2.2.2.1), uy151_2, vy151_3, vy151_4] 43 ∧ BlF s b2 35 [(iI 0), (iI 0), (iI 0), (iI 0), (iI 0), (iI 0), (.float .f64 0), (.slice none 0 0), (iI 0), (iI 0), (.float .f64 0), (.slice none 0 0), (iI 0), (iI 0), (.float .f64 0), (.slice none 0 0), (.slice none 0 0)] 40) (fun Gj151 Kj151 => ?_) ?_
  ·
   refine cd rfl (fun h152 => ?_) (fun h152 => ?_)
   ·
    refine rg (Xb rfl (cl' rfl func40 rfl (impl_opWords_item.calls (opWords.mk y107.1 y107.2.1) s147.w (mm [42, 0] s147) b94 vy107_0 ((gv_gu (AG.kp Ky145)).sub (D := [42, 0]) rfl) Cy145_128 By145_b94.w (By145_b94.apart rfl)) ?_))
    rintro r153 _ w153 m153 ⟨v153_0, v153_1, u153_0, rfl, f153_0, bw153, uf153_0, ky153⟩
    obtain ⟨s154, rfl, p154, n154, g154⟩ := nwb 58 By145_b94 ky153
    obtain ⟨hu153_0_0, Au153_0_1⟩ := ap26 (f153_0.c n154)
    have B154 := blf_mk bw153 g154
    have Au154_0 := FRF.c uf153_0 n154
    refine Xs fa35_4 rfl (sva' (vs := [(iI r153.1.Kind), (iI r153.1.N), v153_0, v153_1]) (By145_by22_0.st p154 rfl) z26 rfl (Xa rfl (Xa rfl (Xa (FL.one hu153_0_0) (Xa Au153_0_1.rd.one Xr)))) rfl (fun s159 p159 B159 => ?_))
    replace B159 : BlF s159 by22_0 35 [(iI y22), (iI y107.2.2), (iI 0), (iI 0), (iI r153.1.Kind), (iI r153.1.N), v153_0, v153_1, (iI 0), (iI 0), (.float .f64 0), (.slice none 0 0), (iI 0), (iI 0), (.float .f64 0), (.slice none 0 0), (.slice none 0 0)] 43 := B159
    refine dn ?_
    obtain ⟨s162, hw162, p162, A162⟩ := (Au153_0_1.st p159 rfl).rc 57 rfl
    rw [hw162]
    exact Kj151 _ _ _ ⟨s162, _, u153_0, v153_1, (.slice none 0 0), (.slice none 0 0), (.slice none 0 0), v153_0, (.float .f64 0), (.float .f64 0), rfl, (ue (ue (ue (ue rfl rfl) rfl) rfl) rfl), (Ky145.st (tr3 p154 p159 p162) rfl), (Au154_0.st (Xo p159 p162) rfl), A162, (Xk 5 (Kd.int .u8) _ 61), (Xk 5 (Kd.int .u8) _ 59), (Xk 4 Kd.bool _ 66), hu153_0_0, (Xl rfl), (Xl rfl), (B154.st (Xo p159 p162) rfl), (B159.st p162 rfl), (By145_b2.st (tr3 p154 p159 p162) rfl)⟩
   refine sr (Xb rfl (Xb rfl (dn (jc (fun (y168 : (List ByteArray) × Bool × Int × Int × Int × Nat × (List Int) × Int × Int × Nat × (List Int) × Int × Int × Nat × (List Int) × (List Bool)) e w => ∃ (s : St) (e0 : Env) (vy168_0 vy168_1 vy168_2 vy168_3 vy168_4 uy168_0 uy168_1 uy168_2 : Value), w = s.w ∧ e = upd (upd (upd (upd e0 2 (pB b2)) 4 (.string (str a0))) 6 (pB by22_0)) 7 (pB b94) ∧ Kp s0 s ∧ RdF (Kd.sl 9 Kd.str) s [vy168_0] y168.1 [42, 0] ∧ OwF Xx s [vy168_1] y168.2.2.2.2.2.2.1 59 ∧ OwF Xx s [vy168_2] y168.2.2.2.2.2.2.2.2.2.2.1 62 ∧ OwF Xx s [vy168_3] y168.2.2.2.2.2.2.2.2.2.2.2.2.2.2.1 60 ∧ OwF (Kd.sl 4 Kd.bool) s [vy168_4] y168.2.2.2.2.2.2.2.2.2.2.2.2.2.2.2 67 ∧ FL uy168_0 y168.2.2.2.2.2.1 ∧ FL uy168_1 y168.2.2.2.2.2.2.2.2.2.1 ∧ FL uy168_2 y168.2.2.2.2.2.2.2.2.2.2.2.2.2.1 ∧ BlF s b94 65 [vy168_0, (.bool y168.2.1)] 52 ∧ BlF s by22_0 35 [(iI y22), (iI y107.2.2), (iI 0), (iI y168.2.2.1), (iI y168.2.2.2.1), (iI y168.2.2.2.2.1), uy168_0, vy168_1, (iI y168.2.2.2.2.2.2.2.1), (iI y168.2.2.2.2.2.2.2.2.1), uy168_1, vy168_2, (iI y168.2.2.2.2.2.2.2.2.2.2.2.1), (iI y168.2.2.2.2.2.2.2.2.2.2.2.2.1), uy168_2, vy168_3, vy168_4] 43 ∧ BlF s b2 35 [(iI 0), (iI 0), (iI 0), (iI 0), (iI 0), (iI 0), (.float .f64 0), (.slice none 0 0), (iI 0), (iI 0), (.float .f64 0), (.slice none 0 0), (iI 0), (iI 0), (.float .f64 0), (.slice none 0 0), (.slice none 0 0)] 40) (fun Gj168 Kj168 => ?_) ?_))))
   ·
    refine cd rfl (fun h169 => ?_) (fun h169 => ?_)
    ·
     refine rg (Xb rfl (cl' rfl func40 rfl (impl_opWords_item.calls (opWords.mk y107.1 y107.2.1) s147.w (mm [42, 0] s147) b94 vy107_0 ((gv_gu (AG.kp Ky145)).sub (D := [42, 0]) rfl) Cy145_128 By145_b94.w (By145_b94.apart rfl)) ?_))
     rintro r170 _ w170 m170 ⟨v170_0, v170_1, u170_0, rfl, f170_0, bw170, uf170_0, ky170⟩
     obtain ⟨s171, rfl, p171, n171, g171⟩ := nwb 60 By145_b94 ky170
     obtain ⟨hu170_0_0, Au170_0_1⟩ := ap26 (f170_0.c n171)
     have B171 := blf_mk bw170 g171
     refine Xb rfl ?_
     have K175 := Ky145.st p171 rfl
     refine cl' rfl func40 rfl (impl_opWords_item.calls r170.2 s171.w (mm [42, 0] s171) b94 u170_0 ((gv_gu (AG.kp K175)).sub (D := [42, 0]) rfl) (FRF.c uf170_0 n171) B171.w (B171.apart rfl)) ?_
     rintro r176 _ w176 m176 ⟨v176_0, v176_1, u176_0, rfl, f176_0, bw176, uf176_0, ky176⟩
     obtain ⟨s177, rfl, p177, n177, g177⟩ := nwb 61 B171 ky176
     obtain ⟨hu176_0_0, Au176_0_1⟩ := ap26 (f176_0.c n177)
     have B177 := blf_mk bw176 g177
     have Au177_0 := FRF.c uf176_0 n177
     refine Xs fa35_4 rfl ?_
     have A182 := Au170_0_1.st p177 rfl
     refine sva' (vs := [(iI r170.1.Kind), (iI r170.1.N), v170_0, v170_1]) (By145_by22_0.st (Xo p171 p177) rfl) z26 rfl (Xa rfl (Xa rfl (Xa (FL.one hu170_0_0) (Xa A182.rd.one Xr)))) rfl (fun s183 p183 B183 => ?_)
     replace B183 : BlF s183 by22_0 35 [(iI y22), (iI y107.2.2), (iI 0), (iI 0), (iI r170.1.Kind), (iI r170.1.N), v170_0, v170_1, (iI 0), (iI 0), (.float .f64 0), (.slice none 0 0), (iI 0), (iI 0), (.float .f64 0), (.slice none 0 0), (.slice none 0 0)] 43 := B183
     refine Xs fa35_6 rfl ?_
     have A185 := Au176_0_1.st p183 rfl
     refine sva' (vs := [(iI r176.1.Kind), (iI r176.1.N), v176_0, v176_1]) B183 z26 rfl (Xa rfl (Xa rfl (Xa (FL.one hu176_0_0) (Xa A185.rd.one Xr)))) rfl (fun s186 p186 B186 => ?_)
     replace B186 : BlF s186 by22_0 35 [(iI y22), (iI y107.2.2), (iI 0), (iI 0), (iI r170.1.Kind), (iI r170.1.N), v170_0, v170_1, (iI 0), (iI 0), (.float .f64 0), (.slice none 0 0), (iI r176.1.Kind), (iI r176.1.N), v176_0, v176_1, (.slice none 0 0)] 43 := B186
     refine dn ?_
     obtain ⟨s189, hw189, p189, A189⟩ := (A182.st (Xo p183 p186) rfl).rc 59 rfl
     rw [hw189]
     obtain ⟨s191, hw191, p191, A191⟩ := (A185.st (Xo p186 p189) rfl).rc 60 rfl
     rw [hw191]
     exact Kj168 _ _ _ ⟨s191, _, u176_0, v170_1, (.slice none 0 0), v176_1, (.slice none 0 0), v170_0, (.float .f64 0), v176_0, rfl, (ue (ue (ue (ue rfl rfl) rfl) rfl) rfl), (K175.st (tr5 p177 p183 p186 p189 p191) rfl), (Au177_0.st (tr4 p183 p186 p189 p191) rfl), (A189.st p191 rfl), (Xk 5 (Kd.int .u8) _ 62), A191, (Xk 4 Kd.bool _ 67), hu170_0_0, (Xl rfl), hu176_0_0, (B177.st (tr4 p183 p186 p189 p191) rfl), (B186.st (Xo p189 p191) rfl), (By145_b2.st (tr6 p171 p177 p183 p186 p189 p191) rfl)⟩
    refine sr (Xb rfl (Xb rfl (dn (jc (fun (y198 : (List ByteArray) × Bool × Int × Int × Int × Nat × (List Int) × Int × Int × Nat × (List Int) × (List Bool)) e w => ∃ (s : St) (e0 : Env) (vy198_0 vy198_1 vy198_2 vy198_3 uy198_0 uy198_1 : Value), w = s.w ∧ e = upd (upd (upd (upd e0 2 (pB b2)) 4 (.string (str a0))) 6 (pB by22_0)) 7 (pB b94) ∧ Kp s0 s ∧ RdF (Kd.sl 9 Kd.str) s [vy198_0] y198.1 [42, 0] ∧ OwF Xx s [vy198_1] y198.2.2.2.2.2.2.1 62 ∧ OwF Xx s [vy198_2] y198.2.2.2.2.2.2.2.2.2.2.1 63 ∧ OwF (Kd.sl 4 Kd.bool) s [vy198_3] y198.2.2.2.2.2.2.2.2.2.2.2 68 ∧ FL uy198_0 y198.2.2.2.2.2.1 ∧ FL uy198_1 y198.2.2.2.2.2.2.2.2.2.1 ∧ BlF s b94 65 [vy198_0, (.bool y198.2.1)] 52 ∧ BlF s by22_0 35 [(iI y22), (iI y107.2.2), (iI 0), (iI y198.2.2.1), (iI y198.2.2.2.1), (iI y198.2.2.2.2.1), uy198_0, vy198_1, (iI y198.2.2.2.2.2.2.2.1), (iI y198.2.2.2.2.2.2.2.2.1), uy198_1, vy198_2, (iI 0), (iI 0), (.float .f64 0), (.slice none 0 0), vy198_3] 43 ∧ BlF s b2 35 [(iI 0), (iI 0), (iI 0), (iI 0), (iI 0), (iI 0), (.float .f64 0), (.slice none 0 0), (iI 0), (iI 0), (.float .f64 0), (.slice none 0 0), (iI 0), (iI 0), (.float .f64 0), (.slice none 0 0), (.slice none 0 0)] 40) (fun Gj198 Kj198 => ?_) ?_))))
    ·
     refine cd rfl (fun h199 => ?_) (fun h199 => ?_)
     ·
      refine rg (Xb rfl (cl' rfl func40 rfl (impl_opWords_item.calls (opWords.mk y107.1 y107.2.1) s147.w (mm [42, 0] s147) b94 vy107_0 ((gv_gu (AG.kp Ky145)).sub (D := [42, 0]) rfl) Cy145_128 By145_b94.w (By145_b94.apart rfl)) ?_))
      rintro r200 _ w200 m200 ⟨v200_0, v200_1, u200_0, rfl, f200_0, bw200, uf200_0, ky200⟩
      obtain ⟨s201, rfl, p201, n201, g201⟩ := nwb 64 By145_b94 ky200
      obtain ⟨hu200_0_0, Au200_0_1⟩ := ap26 (f200_0.c n201)
      have B201 := blf_mk bw200 g201
      refine Xb rfl ?_
      have K205 := Ky145.st p201 rfl
      refine cl' rfl func40 rfl (impl_opWords_item.calls r200.2 s201.w (mm [42, 0] s201) b94 u200_0 ((gv_gu (AG.kp K205)).sub (D := [42, 0]) rfl) (FRF.c uf200_0 n201) B201.w (B201.apart rfl)) ?_
      rintro r206 _ w206 m206 ⟨v206_0, v206_1, u206_0, rfl, f206_0, bw206, uf206_0, ky206⟩
      obtain ⟨s207, rfl, p207, n207, g207⟩ := nwb 65 B201 ky206
      obtain ⟨hu206_0_0, Au206_0_1⟩ := ap26 (f206_0.c n207)
      have B207 := blf_mk bw206 g207
      refine Xb rfl ?_
      have K211 := K205.st p207 rfl
      refine cl' rfl func39 rfl (impl_opWords_number.calls r206.2 s207.w (mm [42, 0] s207) b94 u206_0 ((gv_gu (AG.kp K211)).sub (D := [42, 0]) rfl) (FRF.c uf206_0 n207) B207.w (B207.apart rfl)) ?_
      rintro r212 _ w212 m212 ⟨u212_0, rfl, bw212, uf212_0, ky212⟩
      obtain ⟨s213, rfl, p213, n213, g213⟩ := nwb 66 B207 ky212
      have B213 := blf_mk bw212 g213
      have Au213_0 := FRF.c uf212_0 n213
      refine Xs fa35_4 rfl ?_
      have A217 := Au200_0_1.st (Xo p207 p213) rfl
      refine sva' (vs := [(iI r200.1.Kind), (iI r200.1.N), v200_0, v200_1]) (By145_by22_0.st (tr3 p201 p207 p213) rfl) z26 rfl (Xa rfl (Xa rfl (Xa (FL.one hu200_0_0) (Xa A217.rd.one Xr)))) rfl (fun s218 p218 B218 => ?_)
      replace B218 : BlF s218 by22_0 35 [(iI y22), (iI y107.2.2), (iI 0), (iI 0), (iI r200.1.Kind), (iI r200.1.N), v200_0, v200_1, (iI 0), (iI 0), (.float .f64 0), (.slice none 0 0), (iI 0), (iI 0), (.float .f64 0), (.slice none 0 0), (.slice none 0 0)] 43 := B218
      refine Xs fa35_5 rfl ?_
      have A220 := Au206_0_1.st (Xo p213 p218) rfl
      refine sva' (vs := [(iI r206.1.Kind), (iI r206.1.N), v206_0, v206_1]) B218 z26 rfl (Xa rfl (Xa rfl (Xa (FL.one hu206_0_0) (Xa A220.rd.one Xr)))) rfl (fun s221 p221 B221 => ?_)
      replace B221 : BlF s221 by22_0 35 [(iI y22), (iI y107.2.2), (iI 0), (iI 0), (iI r200.1.Kind), (iI r200.1.N), v200_0, v200_1, (iI r206.1.Kind), (iI r206.1.N), v206_0, v206_1, (iI 0), (iI 0), (.float .f64 0), (.slice none 0 0), (.slice none 0 0)] 43 := B221
      refine Xs fa35_3 rfl (sv B221 z3 rfl rfl rfl rfl rfl rfl rfl rfl (fun s223 p223 B223 => ?_))
      replace B223 : BlF s223 by22_0 35 [(iI y22), (iI y107.2.2), (iI 0), (iI r212.1), (iI r200.1.Kind), (iI r200.1.N), v200_0, v200_1, (iI r206.1.Kind), (iI r206.1.N), v206_0, v206_1, (iI 0), (iI 0), (.float .f64 0), (.slice none 0 0), (.slice none 0 0)] 43 := B223
      refine dn ?_
      obtain ⟨s226, hw226, p226, A226⟩ := (A217.st (tr3 p218 p221 p223) rfl).rc 62 rfl
      rw [hw226]
      obtain ⟨s228, hw228, p228, A228⟩ := (A220.st (tr3 p221 p223 p226) rfl).rc 63 rfl
      rw [hw228]
      exact Kj198 _ _ _ ⟨s228, _, u212_0, v200_1, v206_1, (.slice none 0 0), v200_0, v206_0, rfl, (ue (ue (ue (ue rfl rfl) rfl) rfl) rfl), (K211.st (tr6 p213 p218 p221 p223 p226 p228) rfl), (Au213_0.st (tr5 p218 p221 p223 p226 p228) rfl), (A226.st p228 rfl), A228, (Xk 4 Kd.bool _ 68), hu200_0_0, hu206_0_0, (B213.st (tr5 p218 p221 p223 p226 p228) rfl), (B223.st (Xo p226 p228) rfl), (By145_b2.st (tr8 p201 p207 p213 p218 p221 p223 p226 p228) rfl)⟩
     refine sr (Xb rfl (Xb rfl (dn (jc (fun (y235 : (List ByteArray) × Bool × Int × Int × Int × Nat × (List Int) × Int × Int × Nat × (List Int) × (List Bool)) e w => ∃ (s : St) (e0 : Env) (vy235_0 vy235_1 vy235_2 vy235_3 uy235_0 uy235_1 : Value), w = s.w ∧ e = upd (upd (upd (upd e0 2 (pB b2)) 4 (.string (str a0))) 6 (pB by22_0)) 7 (pB b94) ∧ Kp s0 s ∧ RdF (Kd.sl 9 Kd.str) s [vy235_0] y235.1 [42, 0] ∧ OwF Xx s [vy235_1] y235.2.2.2.2.2.2.1 67 ∧ OwF Xx s [vy235_2] y235.2.2.2.2.2.2.2.2.2.2.1 68 ∧ OwF (Kd.sl 4 Kd.bool) s [vy235_3] y235.2.2.2.2.2.2.2.2.2.2.2 70 ∧ FL uy235_0 y235.2.2.2.2.2.1 ∧ FL uy235_1 y235.2.2.2.2.2.2.2.2.2.1 ∧ BlF s b94 65 [vy235_0, (.bool y235.2.1)] 52 ∧ BlF s by22_0 35 [(iI y22), (iI y107.2.2), (iI 0), (iI y235.2.2.1), (iI y235.2.2.2.1), (iI y235.2.2.2.2.1), uy235_0, vy235_1, (iI y235.2.2.2.2.2.2.2.1), (iI y235.2.2.2.2.2.2.2.2.1), uy235_1, vy235_2, (iI 0), (iI 0), (.float .f64 0), (.slice none 0 0), vy235_3] 43 ∧ BlF s b2 35 [(iI 0), (iI 0), (iI 0), (iI 0), (iI 0), (iI 0), (.float .f64 0), (.slice none 0 0), (iI 0), (iI 0), (.float .f64 0), (.slice none 0 0), (iI 0), (iI 0), (.float .f64 0), (.slice none 0 0), (.slice none 0 0)] 40) (fun Gj235 Kj235 => ?_) ?_))))
     ·
      refine cd rfl (fun h236 => ?_) (fun h236 => ?_)
      ·
       refine rg (Xb rfl (cl' rfl func40 rfl (impl_opWords_item.calls (opWords.mk y107.1 y107.2.1) s147.w (mm [42, 0] s147) b94 vy107_0 ((gv_gu (AG.kp Ky145)).sub (D := [42, 0]) rfl) Cy145_128 By145_b94.w (By145_b94.apart rfl)) ?_))
       rintro r237 _ w237 m237 ⟨v237_0, v237_1, u237_0, rfl, f237_0, bw237, uf237_0, ky237⟩
       obtain ⟨s238, rfl, p238, n238, g238⟩ := nwb 67 By145_b94 ky237
       obtain ⟨hu237_0_0, Au237_0_1⟩ := ap26 (f237_0.c n238)
       have B238 := blf_mk bw237 g238
       refine Xb rfl ?_
       have K242 := Ky145.st p238 rfl
       refine cl' rfl func40 rfl (impl_opWords_item.calls r237.2 s238.w (mm [42, 0] s238) b94 u237_0 ((gv_gu (AG.kp K242)).sub (D := [42, 0]) rfl) (FRF.c uf237_0 n238) B238.w (B238.apart rfl)) ?_
       rintro r243 _ w243 m243 ⟨v243_0, v243_1, u243_0, rfl, f243_0, bw243, uf243_0, ky243⟩
       obtain ⟨s244, rfl, p244, n244, g244⟩ := nwb 68 B238 ky243
       obtain ⟨hu243_0_0, Au243_0_1⟩ := ap26 (f243_0.c n244)
       have B244 := blf_mk bw243 g244
       have Au244_0 := FRF.c uf243_0 n244
       refine Xs fa35_4 rfl ?_
       have A249 := Au237_0_1.st p244 rfl
       refine sva' (vs := [(iI r237.1.Kind), (iI r237.1.N), v237_0, v237_1]) (By145_by22_0.st (Xo p238 p244) rfl) z26 rfl (Xa rfl (Xa rfl (Xa (FL.one hu237_0_0) (Xa A249.rd.one Xr)))) rfl (fun s250 p250 B250 => ?_)
       replace B250 : BlF s250 by22_0 35 [(iI y22), (iI y107.2.2), (iI 0), (iI 0), (iI r237.1.Kind), (iI r237.1.N), v237_0, v237_1, (iI 0), (iI 0), (.float .f64 0), (.slice none 0 0), (iI 0), (iI 0), (.float .f64 0), (.slice none 0 0), (.slice none 0 0)] 43 := B250
       refine Xs fa35_5 rfl ?_
       have A252 := Au243_0_1.st p250 rfl
       refine sva' (vs := [(iI r243.1.Kind), (iI r243.1.N), v243_0, v243_1]) B250 z26 rfl (Xa rfl (Xa rfl (Xa (FL.one hu243_0_0) (Xa A252.rd.one Xr)))) rfl (fun s253 p253 B253 => ?_)
       replace B253 : BlF s253 by22_0 35 [(iI y22), (iI y107.2.2), (iI 0), (iI 0), (iI r237.1.Kind), (iI r237.1.N), v237_0, v237_1, (iI r243.1.Kind), (iI r243.1.N), v243_0, v243_1, (iI 0), (iI 0), (.float .f64 0), (.slice none 0 0), (.slice none 0 0)] 43 := B253
       exact dn (Kj235 _ _ _ ⟨s253, _, u243_0, v237_1, v243_1, (.slice none 0 0), v237_0, v243_0, rfl, (ue (ue (ue (ue rfl rfl) rfl) rfl) rfl), (K242.st (tr3 p244 p250 p253) rfl), (Au244_0.st (Xo p250 p253) rfl), (A249.st (Xo p250 p253) rfl), (A252.st p253 rfl), (Xk 4 Kd.bool _ 70), hu237_0_0, hu243_0_0, (B244.st (Xo p250 p253) rfl), B253, (By145_b2.st (tr4 p238 p244 p250 p253) rfl)⟩)
      refine sq (sr (Xb rfl (Xb rfl (dn (jc (fun (y261 : Bool) e w => ∃ (s : St) (e0 : Env), w = s.w ∧ e = upd (upd (upd (upd (upd (upd e0 2 (pB b2)) 4 (.string (str a0))) 6 (pB by22_0)) 7 (pB b94)) 38 (iI y22)) 77 (.bool y261) ∧ Kp s0 s ∧ BlF s b94 65 [vy107_0, (.bool y107.2.1)] 52 ∧ BlF s by22_0 35 [(iI y22), (iI y107.2.2), (iI 0), (iI 0), (iI 0), (iI 0), (.float .f64 0), (.slice none 0 0), (iI 0), (iI 0), (.float .f64 0), (.slice none 0 0), (iI 0), (iI 0), (.float .f64 0), (.slice none 0 0), (.slice none 0 0)] 43 ∧ BlF s b2 35 [(iI 0), (iI 0), (iI 0), (iI 0), (iI 0), (iI 0), (.float .f64 0), (.slice none 0 0), (iI 0), (iI 0), (.float .f64 0), (.slice none 0 0), (iI 0), (iI 0), (.float .f64 0), (.slice none 0 0), (.slice none 0 0)] 40 ∧ RdF (Kd.sl 9 Kd.str) s [vy107_0] y107.1 [42, 0]) (fun Gj261 Kj261 => ?_) ?_)))))
      ·
       refine cd rfl (fun h262 => ?_) (fun h262 => ?_)
       ·
        exact sk (Kj261 _ _ _ ⟨s147, _, rfl, (ue (ue (ue (ue (ue (ue rfl rfl) rfl) rfl) rfl) rfl) rfl), Ky145, By145_b94, By145_by22_0, By145_b2, Cy145_128⟩)
       exact rg (Xb rfl (Xb rfl (dn (Kj261 _ _ _ ⟨s147, _, rfl, (ue (ue (ue (ue (ue (ue rfl rfl) rfl) rfl) rfl) rfl) rfl), Ky145, By145_b94, By145_by22_0, By145_b2, Cy145_128⟩))))
      rintro y261 _ _ ⟨s263, _, rfl, rfl, Ky261, By261_b94, By261_by22_0, By261_b2, Cy261_128⟩
      refine jc (fun (y267 : (List ByteArray) × Bool × Int × (List Bool)) e w => ∃ (s : St) (e0 : Env) (vy267_0 vy267_1 : Value), w = s.w ∧ e = upd (upd (upd (upd e0 2 (pB b2)) 4 (.string (str a0))) 6 (pB by22_0)) 7 (pB b94) ∧ Kp s0 s ∧ RdF (Kd.sl 9 Kd.str) s [vy267_0] y267.1 [42, 0] ∧ OwF (Kd.sl 4 Kd.bool) s [vy267_1] y267.2.2.2 70 ∧ BlF s b94 65 [vy267_0, (.bool y267.2.1)] 52 ∧ BlF s by22_0 35 [(iI y22), (iI y107.2.2), (iI 0), (iI y267.2.2.1), (iI 0), (iI 0), (.float .f64 0), (.slice none 0 0), (iI 0), (iI 0), (.float .f64 0), (.slice none 0 0), (iI 0), (iI 0), (.float .f64 0), (.slice none 0 0), vy267_1] 43 ∧ BlF s b2 35 [(iI 0), (iI 0), (iI 0), (iI 0), (iI 0), (iI 0), (.float .f64 0), (.slice none 0 0), (iI 0), (iI 0), (.float .f64 0), (.slice none 0 0), (iI 0), (iI 0), (.float .f64 0), (.slice none 0 0), (.slice none 0 0)] 40) (fun Gj267 Kj267 => ?_) ?_
      ·
       refine cd rfl (fun h268 => ?_) (fun h268 => ?_)
       ·
        refine rg (Xb rfl (cl' rfl func39 rfl (impl_opWords_number.calls (opWords.mk y107.1 y107.2.1) s263.w (mm [42, 0] s263) b94 vy107_0 ((gv_gu (AG.kp Ky261)).sub (D := [42, 0]) rfl) Cy261_128 By261_b94.w (By261_b94.apart rfl)) ?_))
        rintro r269 _ w269 m269 ⟨u269_0, rfl, bw269, uf269_0, ky269⟩
        obtain ⟨s270, rfl, p270, n270, g270⟩ := nwb 69 By261_b94 ky269
        have B270 := blf_mk bw269 g270
        have Au270_0 := FRF.c uf269_0 n270
        refine Xs fa35_3 rfl (sv (By261_by22_0.st p270 rfl) z3 rfl rfl rfl rfl rfl rfl rfl rfl (fun s274 p274 B274 => ?_))
        replace B274 : BlF s274 by22_0 35 [(iI y22), (iI y107.2.2), (iI 0), (iI r269.1), (iI 0), (iI 0), (.float .f64 0), (.slice none 0 0), (iI 0), (iI 0), (.float .f64 0), (.slice none 0 0), (iI 0), (iI 0), (.float .f64 0), (.slice none 0 0), (.slice none 0 0)] 43 := B274
        exact dn (Kj267 _ _ _ ⟨s274, _, u269_0, (.slice none 0 0), rfl, (ue (ue (ue (ue rfl rfl) rfl) rfl) rfl), (Ky261.st (Xo p270 p274) rfl), (Au270_0.st p274 rfl), (Xk 4 Kd.bool _ 70), (B270.st p274 rfl), B274, (By261_b2.st (Xo p270 p274) rfl)⟩)
       refine sr (Xb rfl (Xb rfl (dn (jc (fun (y280 : (List ByteArray) × Bool × (List Bool)) e w => ∃ (s : St) (e0 : Env) (vy280_0 vy280_1 : Value), w = s.w ∧ e = upd (upd (upd (upd e0 2 (pB b2)) 4 (.string (str a0))) 6 (pB by22_0)) 7 (pB b94) ∧ Kp s0 s ∧ RdF (Kd.sl 9 Kd.str) s [vy280_0] y280.1 [42, 0] ∧ OwF (Kd.sl 4 Kd.bool) s [vy280_1] y280.2.2 70 ∧ BlF s b94 65 [vy280_0, (.bool y280.2.1)] 52 ∧ BlF s by22_0 35 [(iI y22), (iI y107.2.2), (iI 0), (iI 0), (iI 0), (iI 0), (.float .f64 0), (.slice none 0 0), (iI 0), (iI 0), (.float .f64 0), (.slice none 0 0), (iI 0), (iI 0), (.float .f64 0), (.slice none 0 0), vy280_1] 43 ∧ BlF s b2 35 [(iI 0), (iI 0), (iI 0), (iI 0), (iI 0), (iI 0), (.float .f64 0), (.slice none 0 0), (iI 0), (iI 0), (.float .f64 0), (.slice none 0 0), (iI 0), (iI 0), (.float .f64 0), (.slice none 0 0), (.slice none 0 0)] 40) (fun Gj280 Kj280 => ?_) ?_))))
       ·
        refine cd rfl (fun h281 => ?_) (fun h281 => ?_)
        ·
         refine rg (Xb rfl (cl' rfl func41 rfl (impl_opWords_keep.calls (opWords.mk y107.1 y107.2.1) s263.w (mm [42, 0] s263) b94 vy107_0 Cy261_128 By261_b94.w (By261_b94.apart rfl)) ?_))
         rintro r282 v282_0 w282 m282 ⟨u282_0, f282_0, bw282, uf282_0, ky282⟩
         obtain ⟨s283, rfl, p283, n283, g283⟩ := nwb 70 By261_b94 ky282
         have A282_0 := f282_0.c n283
         have B283 := blf_mk bw282 g283
         have Au283_0 := FRF.c uf282_0 n283
         refine Xs fa35_7 rfl (sv (By261_by22_0.st p283 rfl) z33 rfl rfl rfl rfl rfl rfl A282_0.rd.one rfl (fun s288 p288 B288 => ?_))
         replace B288 : BlF s288 by22_0 35 [(iI y22), (iI y107.2.2), (iI 0), (iI 0), (iI 0), (iI 0), (.float .f64 0), (.slice none 0 0), (iI 0), (iI 0), (.float .f64 0), (.slice none 0 0), (iI 0), (iI 0), (.float .f64 0), (.slice none 0 0), v282_0] 43 := B288
         exact dn (Kj280 _ _ _ ⟨s288, _, u282_0, v282_0, rfl, (ue (ue (ue (ue rfl rfl) rfl) rfl) rfl), (Ky261.st (Xo p283 p288) rfl), (Au283_0.st p288 rfl), (A282_0.st p288 rfl), (B283.st p288 rfl), B288, (By261_b2.st (Xo p283 p288) rfl)⟩)
        exact sk (Kj280 _ _ _ ⟨s263, _, vy107_0, (.slice none 0 0), rfl, (ue (ue (ue (ue rfl rfl) rfl) rfl) rfl), Ky261, Cy261_128, (Xk 4 Kd.bool _ 70), By261_b94, By261_by22_0, By261_b2⟩)
       rintro y280 _ _ ⟨s295, _, vy280_0, vy280_1, rfl, rfl, Ky280, Ay280_0, Ay280_1, By280_b94, By280_by22_0, By280_b2⟩
       exact Kj267 _ _ _ ⟨s295, _, vy280_0, vy280_1, rfl, (ue (ue (ue (ue rfl rfl) rfl) rfl) rfl), Ky280, Ay280_0, Ay280_1, By280_b94, By280_by22_0, By280_b2⟩
      rintro y267 _ _ ⟨s301, _, vy267_0, vy267_1, rfl, rfl, Ky267, Ay267_0, Ay267_1, By267_b94, By267_by22_0, By267_b2⟩
      exact Kj235 _ _ _ ⟨s301, _, vy267_0, (.slice none 0 0), (.slice none 0 0), vy267_1, (.float .f64 0), (.float .f64 0), rfl, (ue (ue (ue (ue rfl rfl) rfl) rfl) rfl), Ky267, Ay267_0, (Xk 5 (Kd.int .u8) _ 67), (Xk 5 (Kd.int .u8) _ 68), Ay267_1, (Xl rfl), (Xl rfl), By267_b94, By267_by22_0, By267_b2⟩
     rintro y235 _ _ ⟨s307, _, vy235_0, vy235_1, vy235_2, vy235_3, uy235_0, uy235_1, rfl, rfl, Ky235, Ay235_0, Ay235_1, Ay235_2, Ay235_3, Fy235_0, Fy235_1, By235_b94, By235_by22_0, By235_b2⟩
     obtain ⟨s315, hw315, p315, A315⟩ := Ay235_1.rc 62 rfl
     rw [hw315]
     obtain ⟨s317, hw317, p317, A317⟩ := (Ay235_2.st p315 rfl).rc 63 rfl
     rw [hw317]
     obtain ⟨s319, hw319, p319, A319⟩ := (Ay235_3.st (Xo p315 p317) rfl).rc 68 rfl
     rw [hw319]
     exact Kj198 _ _ _ ⟨s319, _, vy235_0, vy235_1, vy235_2, vy235_3, uy235_0, uy235_1, rfl, (ue (ue (ue (ue rfl rfl) rfl) rfl) rfl), (Ky235.st (tr3 p315 p317 p319) rfl), (Ay235_0.st (tr3 p315 p317 p319) rfl), (A315.st (Xo p317 p319) rfl), (A317.st p319 rfl), A319, Fy235_0, Fy235_1, (By235_b94.st (tr3 p315 p317 p319) rfl), (By235_by22_0.st (tr3 p315 p317 p319) rfl), (By235_b2.st (tr3 p315 p317 p319) rfl)⟩
    rintro y198 _ _ ⟨s327, _, vy198_0, vy198_1, vy198_2, vy198_3, uy198_0, uy198_1, rfl, rfl, Ky198, Ay198_0, Ay198_1, Ay198_2, Ay198_3, Fy198_0, Fy198_1, By198_b94, By198_by22_0, By198_b2⟩
    obtain ⟨s335, hw335, p335, A335⟩ := Ay198_1.rc 59 rfl
    rw [hw335]
    obtain ⟨s337, hw337, p337, A337⟩ := (Ay198_2.st p335 rfl).rc 62 rfl
    rw [hw337]
    obtain ⟨s339, hw339, p339, A339⟩ := (Ay198_3.st (Xo p335 p337) rfl).rc 67 rfl
    rw [hw339]
    exact Kj168 _ _ _ ⟨s339, _, vy198_0, vy198_1, vy198_2, (.slice none 0 0), vy198_3, uy198_0, uy198_1, (.float .f64 0), rfl, (ue (ue (ue (ue rfl rfl) rfl) rfl) rfl), (Ky198.st (tr3 p335 p337 p339) rfl), (Ay198_0.st (tr3 p335 p337 p339) rfl), (A335.st (Xo p337 p339) rfl), (A337.st p339 rfl), (Xk 5 (Kd.int .u8) _ 60), A339, Fy198_0, Fy198_1, (Xl rfl), (By198_b94.st (tr3 p335 p337 p339) rfl), (By198_by22_0.st (tr3 p335 p337 p339) rfl), (By198_b2.st (tr3 p335 p337 p339) rfl)⟩
   rintro y168 _ _ ⟨s347, _, vy168_0, vy168_1, vy168_2, vy168_3, vy168_4, uy168_0, uy168_1, uy168_2, rfl, rfl, Ky168, Ay168_0, Ay168_1, Ay168_2, Ay168_3, Ay168_4, Fy168_0, Fy168_1, Fy168_2, By168_b94, By168_by22_0, By168_b2⟩
   obtain ⟨s356, hw356, p356, A356⟩ := Ay168_1.rc 57 rfl
   rw [hw356]
   obtain ⟨s358, hw358, p358, A358⟩ := (Ay168_2.st p356 rfl).rc 61 rfl
   rw [hw358]
   obtain ⟨s360, hw360, p360, A360⟩ := (Ay168_3.st (Xo p356 p358) rfl).rc 59 rfl
   rw [hw360]
   obtain ⟨s362, hw362, p362, A362⟩ := (Ay168_4.st (tr3 p356 p358 p360) rfl).rc 66 rfl
   rw [hw362]
   exact Kj151 _ _ _ ⟨s362, _, vy168_0, vy168_1, vy168_2, vy168_3, vy168_4, uy168_0, uy168_1, uy168_2, rfl, (ue (ue (ue (ue rfl rfl) rfl) rfl) rfl), (Ky168.st (tr4 p356 p358 p360 p362) rfl), (Ay168_0.st (tr4 p356 p358 p360 p362) rfl), (A356.st (tr3 p358 p360 p362) rfl), (A358.st (Xo p360 p362) rfl), (A360.st p362 rfl), A362, Fy168_0, Fy168_1, Fy168_2, (By168_b94.st (tr4 p356 p358 p360 p362) rfl), (By168_by22_0.st (tr4 p356 p358 p360 p362) rfl), (By168_b2.st (tr4 p356 p358 p360 p362) rfl)⟩
  rintro y151 _ _ ⟨s371, _, vy151_0, vy151_1, vy151_2, vy151_3, vy151_4, uy151_0, uy151_1, uy151_2, rfl, rfl, Ky151, Ay151_0, Ay151_1, Ay151_2, Ay151_3, Ay151_4, Fy151_0, Fy151_1, Fy151_2, By151_b94, By151_by22_0, By151_b2⟩
  exact Kj132 _ _ _ ⟨s371, _, vy151_0, vy151_1, vy151_2, vy151_3, vy151_4, uy151_0, uy151_1, uy151_2, rfl, (ue (ue (ue (ue rfl rfl) rfl) rfl) rfl), Ky151, Ay151_0, Ay151_1, Ay151_2, Ay151_3, Ay151_4, Fy151_0, Fy151_1, Fy151_2, By151_b94, By151_by22_0, By151_b2⟩
 rintro y132 _ _ ⟨s380, _, vy132_0, vy132_1, vy132_2, vy132_3, vy132_4, uy132_0, uy132_1, uy132_2, rfl, rfl, Ky132, Ay132_0, Ay132_1, Ay132_2, Ay132_3, Ay132_4, Fy132_0, Fy132_1, Fy132_2, By132_b94, By132_by22_0, By132_b2⟩
 refine ib (sq (sr (Xb rfl (Xb rfl (Xs fa65_1 rfl (ld' By132_b94 u4 rfl (Xb rfl (ji [9, 10, 11, 12, 13, 14] (fun (y389 : Bool) e w => ∃ (s : St) (e0 : Env), w = s.w ∧ e = upd (upd (upd (upd e0 2 (pB b2)) 4 (.string (str a0))) 6 (pB by22_0)) 96 (.bool y389) ∧ Kp s0 s ∧ BlF s by22_0 35 [(iI y22), (iI y107.2.2), (iI y132.2.2.1), (iI y132.2.2.2.1), (iI y132.2.2.2.2.1), (iI y132.2.2.2.2.2.1), uy132_0, vy132_1, (iI y132.2.2.2.2.2.2.2.2.1), (iI y132.2.2.2.2.2.2.2.2.2.1), uy132_1, vy132_2, (iI y132.2.2.2.2.2.2.2.2.2.2.2.2.1), (iI y132.2.2.2.2.2.2.2.2.2.2.2.2.2.1), uy132_2, vy132_3, vy132_4] 43 ∧ BlF s b2 35 [(iI 0), (iI 0), (iI 0), (iI 0), (iI 0), (iI 0), (.float .f64 0), (.slice none 0 0), (iI 0), (iI 0), (.float .f64 0), (.slice none 0 0), (iI 0), (iI 0), (.float .f64 0), (.slice none 0 0), (.slice none 0 0)] 40 ∧ OwF Xx s [vy132_1] y132.2.2.2.2.2.2.2.1 57 ∧ OwF Xx s [vy132_2] y132.2.2.2.2.2.2.2.2.2.2.2.1 61 ∧ OwF Xx s [vy132_3] y132.2.2.2.2.2.2.2.2.2.2.2.2.2.2.2.1 59 ∧ OwF (Kd.sl 4 Kd.bool) s [vy132_4] y132.2.2.2.2.2.2.2.2.2.2.2.2.2.2.2.2 66) (fun Gj389 Kj389 => ?_) ?_))))))))
 ·
  rcases bft y132.2.1 with hb389 | hb389
  ·
   refine sbT hb389 ?_
   rw [if_pos hb389]
   exact Xi rfl (Xi rfl (Xi rfl (Xb rfl (Kj389 _ _ _ ⟨s380, _, rfl, (ue (ue (ue (ue rfl rfl) rfl) rfl) rfl), Ky132, By132_by22_0, By132_b2, Ay132_1, Ay132_2, Ay132_3, Ay132_4⟩))))
  refine sbT hb389 ?_
  rw [if_neg (by rw [hb389]; decide)]
  refine Xw (es := [(iI y22), (iI y107.2.2), (iI y132.2.2.1), (iI y132.2.2.2.1), (iI y132.2.2.2.2.1), (iI y132.2.2.2.2.2.1), uy132_0, vy132_1, (iI y132.2.2.2.2.2.2.2.2.1), (iI y132.2.2.2.2.2.2.2.2.2.1), uy132_1, vy132_2, (iI y132.2.2.2.2.2.2.2.2.2.2.2.2.1), (iI y132.2.2.2.2.2.2.2.2.2.2.2.2.2.1), uy132_2, vy132_3, vy132_4]) By132_by22_0 u35 z35 rfl (clV 71 rfl func33 rfl (impl_OpOk.calls (Op.mk y22 y107.2.2 y132.2.2.1 y132.2.2.2.1 (Item.mk y132.2.2.2.2.1 y132.2.2.2.2.2.1 y132.2.2.2.2.2.2.1 y132.2.2.2.2.2.2.2.1) (Item.mk y132.2.2.2.2.2.2.2.2.1 y132.2.2.2.2.2.2.2.2.2.1 y132.2.2.2.2.2.2.2.2.2.2.1 y132.2.2.2.2.2.2.2.2.2.2.2.1) (Item.mk y132.2.2.2.2.2.2.2.2.2.2.2.2.1 y132.2.2.2.2.2.2.2.2.2.2.2.2.2.1 y132.2.2.2.2.2.2.2.2.2.2.2.2.2.2.1 y132.2.2.2.2.2.2.2.2.2.2.2.2.2.2.2.1) y132.2.2.2.2.2.2.2.2.2.2.2.2.2.2.2.2) s380.w (mm [57, 61, 59, 66] s380) uy132_0 vy132_1 uy132_1 vy132_2 uy132_2 vy132_3 vy132_4 ((Xh (s := s380) Fy132_0).sub (D := [57, 61, 59, 66]) rfl) (Ay132_1.rd.sub (D := [57, 61, 59, 66]) rfl) ((Xh (s := s380) Fy132_1).sub (D := [57, 61, 59, 66]) rfl) (Ay132_2.rd.sub (D := [57, 61, 59, 66]) rfl) ((Xh (s := s380) Fy132_2).sub (D := [57, 61, 59, 66]) rfl) (Ay132_3.rd.sub (D := [57, 61, 59, 66]) rfl) (Ay132_4.rd.sub (D := [57, 61, 59, 66]) rfl)) (fun r390 s391 p391 n391 => ?_))
  refine Xb rfl (Xb rfl ?_)
  exact Kj389 _ _ _ ⟨s391, _, rfl, (ue (ue (ue (ue rfl rfl) rfl) rfl) rfl), (Ky132.st p391 rfl), (By132_by22_0.st p391 rfl), (By132_b2.st p391 rfl), (Ay132_1.st p391 rfl), (Ay132_2.st p391 rfl), (Ay132_3.st p391 rfl), (Ay132_4.st p391 rfl)⟩
 rintro y389 _ _ ⟨s399, _, rfl, rfl, Ky389, By389_by22_0, By389_b2, Cy389_382, Cy389_383, Cy389_384, Cy389_385⟩
 refine Xb rfl (ji [] (fun (y402 : Bool) e w => ∃ (s : St) (e0 : Env), w = s.w ∧ e = upd (upd (upd e0 2 (pB b2)) 6 (pB by22_0)) 102 (.bool y402) ∧ Kp s0 s ∧ BlF s by22_0 35 [(iI y22), (iI y107.2.2), (iI y132.2.2.1), (iI y132.2.2.2.1), (iI y132.2.2.2.2.1), (iI y132.2.2.2.2.2.1), uy132_0, vy132_1, (iI y132.2.2.2.2.2.2.2.2.1), (iI y132.2.2.2.2.2.2.2.2.2.1), uy132_1, vy132_2, (iI y132.2.2.2.2.2.2.2.2.2.2.2.2.1), (iI y132.2.2.2.2.2.2.2.2.2.2.2.2.2.1), uy132_2, vy132_3, vy132_4] 43 ∧ BlF s b2 35 [(iI 0), (iI 0), (iI 0), (iI 0), (iI 0), (iI 0), (.float .f64 0), (.slice none 0 0), (iI 0), (iI 0), (.float .f64 0), (.slice none 0 0), (iI 0), (iI 0), (.float .f64 0), (.slice none 0 0), (.slice none 0 0)] 40 ∧ OwF Xx s [vy132_1] y132.2.2.2.2.2.2.2.1 57 ∧ OwF Xx s [vy132_2] y132.2.2.2.2.2.2.2.2.2.2.2.1 61 ∧ OwF Xx s [vy132_3] y132.2.2.2.2.2.2.2.2.2.2.2.2.2.2.2.1 59 ∧ OwF (Kd.sl 4 Kd.bool) s [vy132_4] y132.2.2.2.2.2.2.2.2.2.2.2.2.2.2.2.2 66) (fun Gj402 Kj402 => ?_) ?_)
 ·
  rcases bft y389 with hb402 | hb402
  ·
   refine sbT hb402 ?_
   rw [if_pos hb402]
   exact Xi rfl (Xi rfl (Xi rfl (Xi rfl (Xb rfl (Kj402 _ _ _ ⟨s399, _, rfl, (ue (ue (ue rfl rfl) rfl) rfl), Ky389, By389_by22_0, By389_b2, Cy389_382, Cy389_383, Cy389_384, Cy389_385⟩)))))
  refine sbT hb402 ?_
  rw [if_neg (by rw [hb402]; decide)]
  refine Xw (es := [(iI y22), (iI y107.2.2), (iI y132.2.2.1), (iI y132.2.2.2.1), (iI y132.2.2.2.2.1), (iI y132.2.2.2.2.2.1), uy132_0, vy132_1, (iI y132.2.2.2.2.2.2.2.2.1), (iI y132.2.2.2.2.2.2.2.2.2.1), uy132_1, vy132_2, (iI y132.2.2.2.2.2.2.2.2.2.2.2.2.1), (iI y132.2.2.2.2.2.2.2.2.2.2.2.2.2.1), uy132_2, vy132_3, vy132_4]) By389_by22_0 u35 z35 rfl (clV 72 rfl func34 rfl (impl_opText.calls (Op.mk y22 y107.2.2 y132.2.2.1 y132.2.2.2.1 (Item.mk y132.2.2.2.2.1 y132.2.2.2.2.2.1 y132.2.2.2.2.2.2.1 y132.2.2.2.2.2.2.2.1) (Item.mk y132.2.2.2.2.2.2.2.2.1 y132.2.2.2.2.2.2.2.2.2.1 y132.2.2.2.2.2.2.2.2.2.2.1 y132.2.2.2.2.2.2.2.2.2.2.2.1) (Item.mk y132.2.2.2.2.2.2.2.2.2.2.2.2.1 y132.2.2.2.2.2.2.2.2.2.2.2.2.2.1 y132.2.2.2.2.2.2.2.2.2.2.2.2.2.2.1 y132.2.2.2.2.2.2.2.2.2.2.2.2.2.2.2.1) y132.2.2.2.2.2.2.2.2.2.2.2.2.2.2.2.2) s399.w (mm [57, 61, 59, 66, 0] s399) uy132_0 vy132_1 uy132_1 vy132_2 uy132_2 vy132_3 vy132_4 ((gu_gt (gv_gu (AG.kp Ky389))).sub (D := [57, 61, 59, 66, 0]) rfl) ((Xh (s := s399) Fy132_0).sub (D := [57, 61, 59, 66, 0]) rfl) (Cy389_382.rd.sub (D := [57, 61, 59, 66, 0]) rfl) ((Xh (s := s399) Fy132_1).sub (D := [57, 61, 59, 66, 0]) rfl) (Cy389_383.rd.sub (D := [57, 61, 59, 66, 0]) rfl) ((Xh (s := s399) Fy132_2).sub (D := [57, 61, 59, 66, 0]) rfl) (Cy389_384.rd.sub (D := [57, 61, 59, 66, 0]) rfl) (Cy389_385.rd.sub (D := [57, 61, 59, 66, 0]) rfl)) (fun r403 s404 p404 n404 => ?_))
  refine Xb rfl (Xb rfl (Xb rfl ?_))
  exact Kj402 _ _ _ ⟨s404, _, rfl, (ue (ue (ue rfl rfl) rfl) rfl), (Ky389.st p404 rfl), (By389_by22_0.st p404 rfl), (By389_b2.st p404 rfl), (Cy389_382.st p404 rfl), (Cy389_383.st p404 rfl), (Cy389_384.st p404 rfl), (Cy389_385.st p404 rfl)⟩
 rintro y402 _ _ ⟨s412, _, rfl, rfl, Ky402, By402_by22_0, By402_b2, Cy402_382, Cy402_383, Cy402_384, Cy402_385⟩
 refine dn (cd rfl (fun h415 => ?_) (fun h415 => ?_))
 ·
  refine sr (bd (cells := [(iI 0), (iI 0), (iI 0), (iI 0), (iI 0), (iI 0), (.float .f64 0), (.slice none 0 0), (iI 0), (iI 0), (.float .f64 0), (.slice none 0 0), (iI 0), (iI 0), (.float .f64 0), (.slice none 0 0), (.slice none 0 0)]) pl35 o35 rfl rfl rfl rfl rfl rfl (sva' (vs := [(iI 0), (iI 0), (iI 0), (iI 0), (iI 0), (iI 0), (.float .f64 0), (.slice none 0 0), (iI 0), (iI 0), (.float .f64 0), (.slice none 0 0), (iI 0), (iI 0), (.float .f64 0), (.slice none 0 0), (.slice none 0 0)]) By402_b2 z35 rfl (Xa rfl (Xa rfl (Xa rfl (Xa rfl (Xa rfl (Xa rfl (Xa (FL.one (Xl rfl)) (Xa rfl (Xa rfl (Xa rfl (Xa (FL.one (Xl rfl)) (Xa rfl (Xa rfl (Xa rfl (Xa (FL.one (Xl rfl)) (Xa rfl (Xa rfl Xr))))))))))))))))) rfl (fun s416 p416 B416 => ?_)))
  replace B416 : BlF s416 b2 35 [(iI 0), (iI 0), (iI 0), (iI 0), (iI 0), (iI 0), (.float .f64 0), (.slice none 0 0), (iI 0), (iI 0), (.float .f64 0), (.slice none 0 0), (iI 0), (iI 0), (.float .f64 0), (.slice none 0 0), (.slice none 0 0)] 40 := B416
  refine Xb rfl (dn ?_)
  have A418 : OwF kd35 s416 [(iI 0), (iI 0), (iI 0), (iI 0), (iI 0), (iI 0), (.float .f64 0), (.slice none 0 0), (iI 0), (iI 0), (.float .f64 0), (.slice none 0 0), (iI 0), (iI 0), (.float .f64 0), (.slice none 0 0), (.slice none 0 0)] (Op.mk (0 : Int) (0 : Int) (0 : Int) (0 : Int) (Item.mk (0 : Int) (0 : Int) (0 : Nat) ([] : (List Int))) (Item.mk (0 : Int) (0 : Int) (0 : Nat) ([] : (List Int))) (Item.mk (0 : Int) (0 : Int) (0 : Nat) ([] : (List Int))) ([] : (List Bool))) 73 := ow_z _ _ (fz_iso (fun x : Op => (x.Kind, x.Seat, x.Level, x.N, x.Key, x.To, x.Value, x.Keep)) (Op.mk (0 : Int) (0 : Int) (0 : Int) (0 : Int) (Item.mk (0 : Int) (0 : Int) (0 : Nat) ([] : (List Int))) (Item.mk (0 : Int) (0 : Int) (0 : Nat) ([] : (List Int))) (Item.mk (0 : Int) (0 : Int) (0 : Nat) ([] : (List Int))) ([] : (List Bool))) (Xe (Xf .i64 (0 : Int)) (Xe (Xf .i64 (0 : Int)) (Xe (Xf .i64 (0 : Int)) (Xe (Xf .i64 (0 : Int)) (Xe (fz_iso (fun x : Item => (x.Kind, x.N, x.F, x.T)) (Item.mk (0 : Int) (0 : Int) (0 : Nat) ([] : (List Int))) (Xe (Xf .i64 (0 : Int)) (Xe (Xf .i64 (0 : Int)) (Xe (Xu (Xl rfl)) (fz_nil 5 (Kd.int .u8)))))) (Xe (fz_iso (fun x : Item => (x.Kind, x.N, x.F, x.T)) (Item.mk (0 : Int) (0 : Int) (0 : Nat) ([] : (List Int))) (Xe (Xf .i64 (0 : Int)) (Xe (Xf .i64 (0 : Int)) (Xe (Xu (Xl rfl)) (fz_nil 5 (Kd.int .u8)))))) (Xe (fz_iso (fun x : Item => (x.Kind, x.N, x.F, x.T)) (Item.mk (0 : Int) (0 : Int) (0 : Nat) ([] : (List Int))) (Xe (Xf .i64 (0 : Int)) (Xe (Xf .i64 (0 : Int)) (Xe (Xu (Xl rfl)) (fz_nil 5 (Kd.int .u8)))))) (fz_nil 4 Kd.bool)))))))))
  have K420 := Ky402.st p416 rfl
  exact re rfl func13 rfl (r_b B416 u35 rfl z35 rfl (Xv rfl Xg)) rfl ⟨_, rfl, (.float .f64 0), (.slice none 0 0), (.float .f64 0), (.slice none 0 0), (.float .f64 0), (.slice none 0 0), (.slice none 0 0), rfl, A418.fo K420 rfl z.l, z.ky K420⟩
 refine sk (sr (Xw (es := [(iI y22), (iI y107.2.2), (iI y132.2.2.1), (iI y132.2.2.2.1), (iI y132.2.2.2.2.1), (iI y132.2.2.2.2.2.1), uy132_0, vy132_1, (iI y132.2.2.2.2.2.2.2.2.1), (iI y132.2.2.2.2.2.2.2.2.2.1), uy132_1, vy132_2, (iI y132.2.2.2.2.2.2.2.2.2.2.2.2.1), (iI y132.2.2.2.2.2.2.2.2.2.2.2.2.2.1), uy132_2, vy132_3, vy132_4]) By402_by22_0 u35 z35 rfl (sva' (vs := [(iI y22), (iI y107.2.2), (iI y132.2.2.1), (iI y132.2.2.2.1), (iI y132.2.2.2.2.1), (iI y132.2.2.2.2.2.1), uy132_0, vy132_1, (iI y132.2.2.2.2.2.2.2.2.1), (iI y132.2.2.2.2.2.2.2.2.2.1), uy132_1, vy132_2, (iI y132.2.2.2.2.2.2.2.2.2.2.2.2.1), (iI y132.2.2.2.2.2.2.2.2.2.2.2.2.2.1), uy132_2, vy132_3, vy132_4]) By402_b2 z35 rfl (Xa rfl (Xa rfl (Xa rfl (Xa rfl (Xa rfl (Xa rfl (Xa (FL.one Fy132_0) (Xa Cy402_382.rd.one (Xa rfl (Xa rfl (Xa (FL.one Fy132_1) (Xa Cy402_383.rd.one (Xa rfl (Xa rfl (Xa (FL.one Fy132_2) (Xa Cy402_384.rd.one (Xa Cy402_385.rd.one Xr))))))))))))))))) rfl (fun s421 p421 B421 => ?_))))
 replace B421 : BlF s421 b2 35 [(iI y22), (iI y107.2.2), (iI y132.2.2.1), (iI y132.2.2.2.1), (iI y132.2.2.2.2.1), (iI y132.2.2.2.2.2.1), uy132_0, vy132_1, (iI y132.2.2.2.2.2.2.2.2.1), (iI y132.2.2.2.2.2.2.2.2.2.1), uy132_1, vy132_2, (iI y132.2.2.2.2.2.2.2.2.2.2.2.2.1), (iI y132.2.2.2.2.2.2.2.2.2.2.2.2.2.1), uy132_2, vy132_3, vy132_4] 40 := B421
 refine Xb rfl (dn ?_)
 obtain ⟨s425, hw425, p425, A425⟩ := ow_2 (ow_isoz (fun x : Item => (x.Kind, x.N, x.F, x.T)) (Item.mk y132.2.2.2.2.2.2.2.2.2.2.2.2.1 y132.2.2.2.2.2.2.2.2.2.2.2.2.2.1 y132.2.2.2.2.2.2.2.2.2.2.2.2.2.2.1 y132.2.2.2.2.2.2.2.2.2.2.2.2.2.2.2.1) (ow_l (Xf .i64 y132.2.2.2.2.2.2.2.2.2.2.2.2.1) (ow_l (Xf .i64 y132.2.2.2.2.2.2.2.2.2.2.2.2.2.1) (ow_l (Xu Fy132_2) (Cy402_384.st p421 rfl))))) (Cy402_385.st p421 rfl) rfl rfl
 rw [hw425]
 obtain ⟨s428, hw428, p428, A428⟩ := ow_2 (ow_isoz (fun x : Item => (x.Kind, x.N, x.F, x.T)) (Item.mk y132.2.2.2.2.2.2.2.2.1 y132.2.2.2.2.2.2.2.2.2.1 y132.2.2.2.2.2.2.2.2.2.2.1 y132.2.2.2.2.2.2.2.2.2.2.2.1) (ow_l (Xf .i64 y132.2.2.2.2.2.2.2.2.1) (ow_l (Xf .i64 y132.2.2.2.2.2.2.2.2.2.1) (ow_l (Xu Fy132_1) (Cy402_383.st (Xo p421 p425) rfl))))) A425 rfl rfl
 rw [hw428]
 obtain ⟨s431, hw431, p431, A431⟩ := ow_2 (ow_isoz (fun x : Item => (x.Kind, x.N, x.F, x.T)) (Item.mk y132.2.2.2.2.1 y132.2.2.2.2.2.1 y132.2.2.2.2.2.2.1 y132.2.2.2.2.2.2.2.1) (ow_l (Xf .i64 y132.2.2.2.2.1) (ow_l (Xf .i64 y132.2.2.2.2.2.1) (ow_l (Xu Fy132_0) (Cy402_382.st (tr3 p421 p425 p428) rfl))))) A428 rfl rfl
 rw [hw431]
 have A433 : OwF kd35 s431 [(iI y22), (iI y107.2.2), (iI y132.2.2.1), (iI y132.2.2.2.1), (iI y132.2.2.2.2.1), (iI y132.2.2.2.2.2.1), uy132_0, vy132_1, (iI y132.2.2.2.2.2.2.2.2.1), (iI y132.2.2.2.2.2.2.2.2.2.1), uy132_1, vy132_2, (iI y132.2.2.2.2.2.2.2.2.2.2.2.2.1), (iI y132.2.2.2.2.2.2.2.2.2.2.2.2.2.1), uy132_2, vy132_3, vy132_4] (Op.mk y22 y107.2.2 y132.2.2.1 y132.2.2.2.1 (Item.mk y132.2.2.2.2.1 y132.2.2.2.2.2.1 y132.2.2.2.2.2.2.1 y132.2.2.2.2.2.2.2.1) (Item.mk y132.2.2.2.2.2.2.2.2.1 y132.2.2.2.2.2.2.2.2.2.1 y132.2.2.2.2.2.2.2.2.2.2.1 y132.2.2.2.2.2.2.2.2.2.2.2.1) (Item.mk y132.2.2.2.2.2.2.2.2.2.2.2.2.1 y132.2.2.2.2.2.2.2.2.2.2.2.2.2.1 y132.2.2.2.2.2.2.2.2.2.2.2.2.2.2.1 y132.2.2.2.2.2.2.2.2.2.2.2.2.2.2.2.1) y132.2.2.2.2.2.2.2.2.2.2.2.2.2.2.2.2) 57 := (ow_isoz (fun x : Op => (x.Kind, x.Seat, x.Level, x.N, x.Key, x.To, x.Value, x.Keep)) (Op.mk y22 y107.2.2 y132.2.2.1 y132.2.2.2.1 (Item.mk y132.2.2.2.2.1 y132.2.2.2.2.2.1 y132.2.2.2.2.2.2.1 y132.2.2.2.2.2.2.2.1) (Item.mk y132.2.2.2.2.2.2.2.2.1 y132.2.2.2.2.2.2.2.2.2.1 y132.2.2.2.2.2.2.2.2.2.2.1 y132.2.2.2.2.2.2.2.2.2.2.2.1) (Item.mk y132.2.2.2.2.2.2.2.2.2.2.2.2.1 y132.2.2.2.2.2.2.2.2.2.2.2.2.2.1 y132.2.2.2.2.2.2.2.2.2.2.2.2.2.2.1 y132.2.2.2.2.2.2.2.2.2.2.2.2.2.2.2.1) y132.2.2.2.2.2.2.2.2.2.2.2.2.2.2.2.2) (ow_l (Xf .i64 y22) (ow_l (Xf .i64 y107.2.2) (ow_l (Xf .i64 y132.2.2.1) (ow_l (Xf .i64 y132.2.2.2.1) A431)))))
 have K436 := Ky402.st (tr4 p421 p425 p428 p431) rfl
 exact re rfl func13 rfl (r_b (B421.st (tr3 p425 p428 p431) rfl) u35 rfl z35 rfl (Xv rfl Xg)) rfl ⟨_, rfl, uy132_0, vy132_1, uy132_1, vy132_2, uy132_2, vy132_3, vy132_4, rfl, A433.fo K436 rfl z.l, z.ky K436⟩
def spec_l5in.f (a0 : Int) (a1 : Int) (a2 : Int) : Option (Bool) :=
 (some ((decide (a0 ≥ a1)) && (decide (a0 ≤ a2))))
def spec_l5in.Q (w : World) (F : Nat → Prop) (r : Bool) (v : Value) (w' : World) : Prop :=
 v = (.bool r) ∧ Ky [] w w'
theorem spec_l5in.calls (a0 : Int) (a1 : Int) (a2 : Int) (w : World) (F : Nat → Prop)   (r : Bool) (m : spec_l5in.f a0 a1 a2 = some r) :
  Calls prog 42 #[(iI a0), (iI a1), (iI a2)] w (RT (spec_l5in.Q w F) r) := by
 obtain ⟨s0, rfl, kp0, z⟩ := Xm w F
 refine Xd (args := [(iI a0), (iI a1), (iI a2)]) func42 ntmps42 rfl rfl m ?_
 unfold spec_l5in.f
 refine sr (Xb rfl (dn (sr (Xb rfl (Xb rfl (Xb rfl (Xb rfl (jy [10, 11, 12, 13, 14] [8] 14 (.bool ((decide (a0 ≥ a1)) && (decide (a0 ≤ a2)))) rfl (fun Kg1 => ?_) (fun j1 => ?_)))))))))
 ·
  rcases bft (decide (a0 ≥ a1)) with hb1 | hb1
  ·
   exact sbT hb1 (Xb rfl (Xb rfl (Xb rfl (Xb rfl (Kg1 _ (Ag.put ((Ag.put ((Ag.put ((Ag.put (Ag.base rfl) rfl)) rfl)) rfl)) rfl) (by rw [hb1]; rfl))))))
  exact sbT hb1 (Xi rfl (Xi rfl (Xi rfl (Xb rfl (Kg1 _ (Ag.put ((Ag.put ((Ag.put ((Ag.put (Ag.base rfl) rfl)) rfl)) rfl)) rfl) (by rw [hb1]; rfl))))))
 exact Xb rfl (dn (re rfl func42 rfl (Xv rfl Xg) rfl ⟨_, rfl, rfl, z.ky kp0⟩))
def spec_KeyOk.f (a0 : Item) : Option (Bool) :=
 ((spec_ItemOk.f a0).bind fun r6 => ((if (r6 && (a0.Kind != (0 : Int))) = true then ((if (fcmp .f64 a0.F (0 : Nat) == some .eq) = true then ((spec_FloatBits.f a0.F).bind fun r13 => (some (r13 != (0 : Int)))) else (some false)).bind fun y12 => (some (!y12))) else (some false)).bind fun y10 => (some y10)))
def spec_KeyOk.Q (w : World) (F : Nat → Prop) (r : Bool) (v : Value) (w' : World) : Prop :=
 v = (.bool r) ∧ Ky [] w w'
theorem spec_KeyOk.calls (a0 : Item) (w : World) (F : Nat → Prop) (w0_0 : Value) (w0_1 : Value) (h0_0 : Kd.flt.rd w [w0_0] a0.F F) (h0_1 : Xx.rd w [w0_1] a0.T F) (r : Bool) (m : spec_KeyOk.f a0 = some r) :
  Calls prog 43 #[(.agg #[(iI a0.Kind), (iI a0.N), w0_0, w0_1])] w (RT (spec_KeyOk.Q w F) r) := by
 obtain ⟨s0, rfl, kp0, z⟩ := Xm w F
 have A0_0 := fl_of h0_0
 refine Xd (args := [(.agg #[(iI a0.Kind), (iI a0.N), w0_0, w0_1])]) func43 ntmps43 rfl rfl m ?_
 unfold spec_KeyOk.f
 refine sr (bx (cs := [(iI a0.Kind), (iI a0.N), w0_0, w0_1]) 40 rfl rfl rfl rfl rfl rfl (fun b2 s2 p2 B2 => ?_))
 refine Xb rfl (dn (sr (Xw (es := [(iI a0.Kind), (iI a0.N), w0_0, w0_1]) B2 u26 z26 rfl ?_)))
 have K4 := kp0.st p2 rfl
 refine clV 41 rfl func9 rfl (spec_ItemOk.calls a0 s2.w (mm [0] s2) w0_0 w0_1 ((Xh (s := s2) A0_0).sub (D := [0]) rfl) ((z.rd h0_1).kp K4)) (fun r6 s7 p7 n7 => ?_)
 refine Xb rfl (jy [5, 6, 7, 8, 9] [7, 8, 9, 10, 11, 12, 13, 14, 15, 16, 17, 18, 19] 9 (.bool (r6 && (a0.Kind != (0 : Int)))) rfl (fun Kg8 => ?_) (fun j8 => ?_))
 ·
  rcases bft r6 with hb8 | hb8
  ·
   refine sbT hb8 (Xs fa26_0 rfl ?_)
   exact ld' (B2.st p7 rfl) u3 rfl (Xb rfl (Xb rfl (Kg8 _ (Ag.put ((Ag.put ((Ag.put ((Ag.put (Ag.base rfl) rfl)) rfl)) rfl)) rfl) (by rw [hb8]; rfl))))
  exact sbT hb8 (Xi rfl (Xi rfl (Xi rfl (Xb rfl (Kg8 _ (Ag.put ((Ag.put ((Ag.put ((Ag.put (Ag.base rfl) rfl)) rfl)) rfl)) rfl) (by rw [hb8]; rfl))))))
 refine Xb rfl (ji [19] (fun (y10 : Bool) e w => ∃ (s : St) (e0 : Env), w = s.w ∧ e = upd e0 21 (.bool y10) ∧ Kp s0 s) (fun Gj10 Kj10 => ?_) ?_)
 ·
  rcases bft (r6 && (a0.Kind != (0 : Int))) with hb10 | hb10
  ·
   refine sbT hb10 ?_
   rw [if_pos hb10]
   refine Xs fa26_2 rfl ?_
   have A11 := B2.st p7 rfl
   refine ld' A11 u24 rfl (fq_' A0_0 (Xl rfl) rfl (Xb rfl (ji [17, 18, 19] (fun (y12 : Bool) e w => ∃ (s : St) (e0 : Env), w = s.w ∧ e = upd (upd e0 10 (.bool true)) 19 (.bool y12) ∧ Kp s0 s) (fun Gj12 Kj12 => ?_) ?_)))
   ·
    rcases bft (fcmp .f64 a0.F (0 : Nat) == some .eq) with hb12 | hb12
    ·
     refine sbT hb12 ?_
     rw [if_pos hb12]
     refine Xs fa26_2 rfl (ld' A11 u24 rfl (clV 42 rfl func29 rfl (spec_FloatBits.calls a0.F s7.w (mm [] s7) w0_0 (Xh (s := s7) A0_0)) (fun r13 s14 p14 n14 => ?_)))
     refine Xb rfl (Xb rfl ?_)
     exact Kj12 _ _ _ ⟨s14, _, rfl, (ue (ue rfl rfl) rfl), (K4.st (Xo p7 p14) rfl)⟩
    refine sbT hb12 ?_
    rw [if_neg (by rw [hb12]; decide)]
    refine Xi rfl (Xi rfl (Xi rfl (Xi rfl (Xb rfl ?_))))
    exact Kj12 _ _ _ ⟨s7, _, rfl, (ue (ue rfl rfl) rfl), (K4.st p7 rfl)⟩
   rintro y12 _ _ ⟨s17, _, rfl, rfl, Ky12⟩
   exact Xb rfl (Xb rfl (Kj10 _ _ _ ⟨s17, _, rfl, (ue rfl rfl), Ky12⟩))
  refine sbT hb10 ?_
  rw [if_neg (by rw [hb10]; decide)]
  refine Xi rfl (Xi rfl (Xi rfl (Xi rfl (Xi rfl (Xi rfl (Xi rfl (Xi rfl (Xi rfl (Xi rfl (Xb rfl ?_))))))))))
  exact Kj10 _ _ _ ⟨s7, _, rfl, (ue rfl rfl), (K4.st p7 rfl)⟩
 rintro y10 _ _ ⟨s19, _, rfl, rfl, Ky10⟩
 exact Xb rfl (dn (re rfl func43 rfl (Xv rfl Xg) rfl ⟨_, rfl, rfl, z.ky Ky10⟩))
def spec_OpOk.f (a0 : Op) : Option (Bool) :=
 ((spec_l5in.f a0.Kind (1 : Int) (13 : Int)).bind fun r7 => ((if (!r7) = true then (some true) else ((if (decide (a0.Kind ≤ (8 : Int))) = true then ((spec_l5in.f a0.Seat (0 : Int) (7 : Int)).bind fun r14 => (some (!r14))) else (some false)).bind fun y13 => (some y13))).bind fun y9 => (if y9 = true then (some false) else ((if ((decide (a0.Kind ≥ (2 : Int))) && (decide (a0.Kind ≤ (6 : Int)))) = true then ((spec_ItemClean.f a0.Key).bind fun r27 => ((spec_KeyOk.f r27).bind fun r30 => (some (!r30)))) else (some false)).bind fun y25 => (if y25 = true then (some false) else (if (a0.Kind == (1 : Int)) = true then ((spec_l5in.f a0.Level (0 : Int) (1 : Int)).bind fun r38 => (some r38)) else (if (a0.Kind == (3 : Int)) = true then ((spec_ItemOk.f a0.Value).bind fun r43 => (some (r43 && (a0.Value.Kind != (0 : Int))))) else (if (a0.Kind == (5 : Int)) = true then ((spec_ItemClean.f a0.To).bind fun r50 => ((spec_KeyOk.f r50).bind fun r53 => ((if r53 = true then ((spec_l5in.f a0.N (0 : Int) (50 : Int)).bind fun r57 => (some r57)) else (some false)).bind fun y55 => (some y55)))) else (if (a0.Kind == (6 : Int)) = true then ((spec_ItemClean.f a0.To).bind fun r64 => ((spec_KeyOk.f r64).bind fun r67 => (some r67))) else (if (a0.Kind == (11 : Int)) = true then ((spec_l5in.f a0.N (0 : Int) (15 : Int)).bind fun r71 => (some r71)) else (if (a0.Kind == (12 : Int)) = true then (some (decide (a0.N ≥ (0 : Int)))) else (if (a0.Kind == (13 : Int)) = true then (some (decide ((a0.Keep.length : Int) ≤ (600 : Int)))) else (some true)))))))))))))
def spec_OpOk.Q (w : World) (F : Nat → Prop) (r : Bool) (v : Value) (w' : World) : Prop :=
 v = (.bool r) ∧ Ky [] w w'
theorem spec_OpOk.calls (a0 : Op) (w : World) (F : Nat → Prop) (w0_0 : Value) (w0_1 : Value) (w0_2 : Value) (w0_3 : Value) (w0_4 : Value) (w0_5 : Value) (w0_6 : Value) (h0_0 : Kd.flt.rd w [w0_0] a0.Key.F F) (h0_1 : Xx.rd w [w0_1] a0.Key.T F) (h0_2 : Kd.flt.rd w [w0_2] a0.To.F F) (h0_3 : Xx.rd w [w0_3] a0.To.T F) (h0_4 : Kd.flt.rd w [w0_4] a0.Value.F F) (h0_5 : Xx.rd w [w0_5] a0.Value.T F) (h0_6 : (Kd.sl 4 Kd.bool).rd w [w0_6] a0.Keep F) (r : Bool) (m : spec_OpOk.f a0 = some r) :
  Calls prog 14 #[(.agg #[(iI a0.Kind), (iI a0.Seat), (iI a0.Level), (iI a0.N), (iI a0.Key.Kind), (iI a0.Key.N), w0_0, w0_1, (iI a0.To.Kind), (iI a0.To.N), w0_2, w0_3, (iI a0.Value.Kind), (iI a0.Value.N), w0_4, w0_5, w0_6])] w (RT (spec_OpOk.Q w F) r) := by
 obtain ⟨s0, rfl, kp0, z⟩ := Xm w F
 have A0_2 := fl_of h0_2
 have A0_3 := z.rd h0_3
 refine Xd (args := [(.agg #[(iI a0.Kind), (iI a0.Seat), (iI a0.Level), (iI a0.N), (iI a0.Key.Kind), (iI a0.Key.N), w0_0, w0_1, (iI a0.To.Kind), (iI a0.To.N), w0_2, w0_3, (iI a0.Value.Kind), (iI a0.Value.N), w0_4, w0_5, w0_6])]) func14 ntmps14 rfl rfl m ?_
 unfold spec_OpOk.f
 refine sr (bx (cs := [(iI a0.Kind), (iI a0.Seat), (iI a0.Level), (iI a0.N), (iI a0.Key.Kind), (iI a0.Key.N), w0_0, w0_1, (iI a0.To.Kind), (iI a0.To.N), w0_2, w0_3, (iI a0.Value.Kind), (iI a0.Value.N), w0_4, w0_5, w0_6]) 40 rfl rfl rfl rfl rfl rfl (fun b5 s5 p5 B5 => ?_))
 refine Xb rfl (dn (sq (sr (Xs fa35_0 rfl (ld' B5 u3 rfl (clV 41 rfl func42 rfl (spec_l5in.calls a0.Kind (1 : Int) (13 : Int) s5.w (mm [] s5)) (fun r7 s8 p8 n8 => ?_)))))))
 refine Xb rfl (Xb rfl (ji [] (fun (y9 : Bool) e w => ∃ (s : St) (e0 : Env), w = s.w ∧ e = upd (upd e0 1 (pB b5)) 18 (.bool y9) ∧ Kp s0 s ∧ BlF s b5 35 [(iI a0.Kind), (iI a0.Seat), (iI a0.Level), (iI a0.N), (iI a0.Key.Kind), (iI a0.Key.N), w0_0, w0_1, (iI a0.To.Kind), (iI a0.To.N), w0_2, w0_3, (iI a0.Value.Kind), (iI a0.Value.N), w0_4, w0_5, w0_6] 40) (fun Gj9 Kj9 => ?_) ?_))
 ·
  rcases bft (!r7) with hb9 | hb9
  ·
   refine sbT hb9 ?_
   rw [if_pos hb9]
   refine Xi rfl (Xi rfl (Xi rfl (Xi rfl (Xi rfl (Xi rfl (Xi rfl (Xi rfl (Xi rfl (Xb rfl ?_)))))))))
   exact Kj9 _ _ _ ⟨s8, _, rfl, (ue (ue rfl rfl) rfl), (kp0.st (Xo p5 p8) rfl), (B5.st p8 rfl)⟩
  refine sbT hb9 ?_
  rw [if_neg (by rw [hb9]; decide)]
  refine Xs fa35_0 rfl ?_
  have A12 := B5.st p8 rfl
  refine ld' A12 u3 rfl (Xb rfl (Xb rfl (ji [14] (fun (y13 : Bool) e w => ∃ (s : St) (e0 : Env), w = s.w ∧ e = upd (upd (upd e0 1 (pB b5)) 8 (.bool false)) 17 (.bool y13) ∧ Kp s0 s ∧ BlF s b5 35 [(iI a0.Kind), (iI a0.Seat), (iI a0.Level), (iI a0.N), (iI a0.Key.Kind), (iI a0.Key.N), w0_0, w0_1, (iI a0.To.Kind), (iI a0.To.N), w0_2, w0_3, (iI a0.Value.Kind), (iI a0.Value.N), w0_4, w0_5, w0_6] 40) (fun Gj13 Kj13 => ?_) ?_)))
  ·
   rcases bft (decide (a0.Kind ≤ (8 : Int))) with hb13 | hb13
   ·
    refine sbT hb13 ?_
    rw [if_pos hb13]
    refine Xs fa35_1 rfl (ld' A12 u3 rfl (clV 42 rfl func42 rfl (spec_l5in.calls a0.Seat (0 : Int) (7 : Int) s8.w (mm [] s8)) (fun r14 s15 p15 n15 => ?_)))
    refine Xb rfl (Xb rfl ?_)
    exact Kj13 _ _ _ ⟨s15, _, rfl, (ue (ue (ue rfl rfl) rfl) rfl), (kp0.st (tr3 p5 p8 p15) rfl), (A12.st p15 rfl)⟩
   refine sbT hb13 ?_
   rw [if_neg (by rw [hb13]; decide)]
   refine Xi rfl (Xi rfl (Xi rfl (Xi rfl (Xb rfl ?_))))
   exact Kj13 _ _ _ ⟨s8, _, rfl, (ue (ue (ue rfl rfl) rfl) rfl), (kp0.st (Xo p5 p8) rfl), A12⟩
  rintro y13 _ _ ⟨s19, _, rfl, rfl, Ky13, By13_b5⟩
  exact Xb rfl (Kj9 _ _ _ ⟨s19, _, rfl, (ue (ue rfl rfl) rfl), Ky13, By13_b5⟩)
 rintro y9 _ _ ⟨s21, _, rfl, rfl, Ky9, By9_b5⟩
 refine dn (cd rfl (fun h23 => ?_) (fun h23 => ?_))
 ·
  exact sr (Xb rfl (dn (re rfl func14 rfl (Xv rfl Xg) rfl ⟨_, rfl, rfl, z.ky Ky9⟩)))
 refine sk (sr (Xs fa35_0 rfl (ld' By9_b5 u3 rfl (Xb rfl (Xb rfl (jy [22, 23, 24, 25, 26] [8] 26 (.bool ((decide (a0.Kind ≥ (2 : Int))) && (decide (a0.Kind ≤ (6 : Int))))) rfl (fun Kg24 => ?_) (fun j24 => ?_)))))))
 ·
  rcases bft (decide (a0.Kind ≥ (2 : Int))) with hb24 | hb24
  ·
   exact sbT hb24 (Xs fa35_0 rfl (ld' By9_b5 u3 rfl (Xb rfl (Xb rfl (Kg24 _ (Ag.put ((Ag.put ((Ag.put ((Ag.put (Ag.base rfl) rfl)) rfl)) rfl)) rfl) (by rw [hb24]; rfl))))))
  exact sbT hb24 (Xi rfl (Xi rfl (Xi rfl (Xb rfl (Kg24 _ (Ag.put ((Ag.put ((Ag.put ((Ag.put (Ag.base rfl) rfl)) rfl)) rfl)) rfl) (by rw [hb24]; rfl))))))
 refine Xb rfl (dn (sq (sr (Xb rfl (Xb rfl (ji [] (fun (y25 : Bool) e w => ∃ (s : St) (e0 : Env), w = s.w ∧ e = upd (upd e0 1 (pB b5)) 34 (.bool y25) ∧ Kp s0 s ∧ BlF s b5 35 [(iI a0.Kind), (iI a0.Seat), (iI a0.Level), (iI a0.N), (iI a0.Key.Kind), (iI a0.Key.N), w0_0, w0_1, (iI a0.To.Kind), (iI a0.To.N), w0_2, w0_3, (iI a0.Value.Kind), (iI a0.Value.N), w0_4, w0_5, w0_6] 40) (fun Gj25 Kj25 => ?_) ?_))))))
 ·
  rcases bft ((decide (a0.Kind ≥ (2 : Int))) && (decide (a0.Kind ≤ (6 : Int)))) with hb25 | hb25
  ·
   refine sbT hb25 ?_
   rw [if_pos hb25]
   refine Xs fa35_4 rfl (Xw (es := [(iI a0.Key.Kind), (iI a0.Key.N), w0_0, w0_1]) By9_b5 u26 z26 rfl ?_)
   refine cl' rfl func44 rfl (spec_ItemClean.calls a0.Key s21.w (mm [0] s21) w0_0 w0_1 ((Xh (s := s21) (fl_of h0_0)).sub (D := [0]) rfl) ((z.rd h0_1).kp Ky9)) ?_
   rintro r27 _ w27 m27 ⟨v27_0, v27_1, rfl, f27_0, ky27⟩
   obtain ⟨s28, rfl, p28, n28⟩ := nwx s21 w27 43 ky27
   obtain ⟨hu27_0_0, Au27_0_1⟩ := ap26 (f27_0.c n28)
   refine clV 44 rfl func43 rfl (spec_KeyOk.calls r27 s28.w (mm [43] s28) v27_0 v27_1 ((Xh (s := s28) hu27_0_0).sub (D := [43]) rfl) Au27_0_1.rd) (fun r30 s31 p31 n31 => ?_)
   refine Xb rfl (Xb rfl ?_)
   exact Kj25 _ _ _ ⟨s31, _, rfl, (ue (ue rfl rfl) rfl), (Ky9.st (Xo p28 p31) rfl), (By9_b5.st (Xo p28 p31) rfl)⟩
  refine sbT hb25 ?_
  rw [if_neg (by rw [hb25]; decide)]
  exact Xi rfl (Xi rfl (Xi rfl (Xi rfl (Xi rfl (Xb rfl (Kj25 _ _ _ ⟨s21, _, rfl, (ue (ue rfl rfl) rfl), Ky9, By9_b5⟩))))))
 rintro y25 _ _ ⟨s34, _, rfl, rfl, Ky25, By25_b5⟩
 refine dn (cd rfl (fun h36 => ?_) (fun h36 => ?_))
 ·
  exact sr (Xb rfl (dn (re rfl func14 rfl (Xv rfl Xg) rfl ⟨_, rfl, rfl, z.ky Ky25⟩)))
 refine sk (sq (sr (Xs fa35_0 rfl (ld' By25_b5 u3 rfl (dn (bl (sr (Xb rfl (Xb rfl (dn (cd rfl (fun h37 => ?_) (fun h37 => ?_))))))))))))
 ·
  refine sr (Xs fa35_2 rfl (ld' By25_b5 u3 rfl (clV 45 rfl func42 rfl (spec_l5in.calls a0.Level (0 : Int) (1 : Int) s34.w (mm [] s34)) (fun r38 s39 p39 n39 => ?_))))
  refine Xb rfl (dn ?_)
  exact re rfl func14 rfl (Xv rfl Xg) rfl ⟨_, rfl, rfl, z.ky (Ky25.st p39 rfl)⟩
 refine sr (Xb rfl (Xb rfl (dn (cd rfl (fun h41 => ?_) (fun h41 => ?_)))))
 ·
  refine sr (Xs fa35_6 rfl (Xw (es := [(iI a0.Value.Kind), (iI a0.Value.N), w0_4, w0_5]) By25_b5 u26 z26 rfl ?_))
  refine clV 46 rfl func9 rfl (spec_ItemOk.calls a0.Value s34.w (mm [0] s34) w0_4 w0_5 ((Xh (s := s34) (fl_of h0_4)).sub (D := [0]) rfl) ((z.rd h0_5).kp Ky25)) (fun r43 s44 p44 n44 => ?_)
  refine Xb rfl (jy [47, 48, 49, 50, 51, 52] [9] 52 (.bool (r43 && (a0.Value.Kind != (0 : Int)))) rfl (fun Kg45 => ?_) (fun j45 => ?_))
  ·
   rcases bft r43 with hb45 | hb45
   ·
    refine sbT hb45 (Xs fa35_6 rfl (Xs fa26_0 rfl ?_))
    exact ld' (By25_b5.st p44 rfl) u3 rfl (Xb rfl (Xb rfl (Kg45 _ (Ag.put ((Ag.put ((Ag.put ((Ag.put ((Ag.put (Ag.base rfl) rfl)) rfl)) rfl)) rfl)) rfl) (by rw [hb45]; rfl))))
   exact sbT hb45 (Xi rfl (Xi rfl (Xi rfl (Xi rfl (Xb rfl (Kg45 _ (Ag.put ((Ag.put ((Ag.put ((Ag.put ((Ag.put (Ag.base rfl) rfl)) rfl)) rfl)) rfl)) rfl) (by rw [hb45]; rfl)))))))
  refine Xb rfl (dn ?_)
  exact re rfl func14 rfl (Xv rfl Xg) rfl ⟨_, rfl, rfl, z.ky (Ky25.st p44 rfl)⟩
 refine sr (Xb rfl (Xb rfl (dn (cd rfl (fun h48 => ?_) (fun h48 => ?_)))))
 ·
  refine sr (Xs fa35_5 rfl (Xw (es := [(iI a0.To.Kind), (iI a0.To.N), w0_2, w0_3]) By25_b5 u26 z26 rfl ?_))
  refine cl' rfl func44 rfl (spec_ItemClean.calls a0.To s34.w (mm [0] s34) w0_2 w0_3 ((Xh (s := s34) A0_2).sub (D := [0]) rfl) (A0_3.kp Ky25)) ?_
  rintro r50 _ w50 m50 ⟨v50_0, v50_1, rfl, f50_0, ky50⟩
  obtain ⟨s51, rfl, p51, n51⟩ := nwx s34 w50 47 ky50
  obtain ⟨hu50_0_0, Au50_0_1⟩ := ap26 (f50_0.c n51)
  refine clV 48 rfl func43 rfl (spec_KeyOk.calls r50 s51.w (mm [47] s51) v50_0 v50_1 ((Xh (s := s51) hu50_0_0).sub (D := [47]) rfl) Au50_0_1.rd) (fun r53 s54 p54 n54 => ?_)
  refine Xb rfl (ji [9] (fun (y55 : Bool) e w => ∃ (s : St) (e0 : Env), w = s.w ∧ e = upd e0 63 (.bool y55) ∧ Kp s0 s) (fun Gj55 Kj55 => ?_) ?_)
  ·
   rcases bft r53 with hb55 | hb55
   ·
    refine sbT hb55 ?_
    rw [if_pos hb55]
    refine Xs fa35_3 rfl (ld' (By25_b5.st (Xo p51 p54) rfl) u3 rfl (clV 49 rfl func42 rfl (spec_l5in.calls a0.N (0 : Int) (50 : Int) s54.w (mm [] s54)) (fun r57 s58 p58 n58 => ?_)))
    exact Xb rfl (Kj55 _ _ _ ⟨s58, _, rfl, (ue rfl rfl), (Ky25.st (tr3 p51 p54 p58) rfl)⟩)
   refine sbT hb55 ?_
   rw [if_neg (by rw [hb55]; decide)]
   refine Xi rfl (Xi rfl (Xi rfl (Xb rfl ?_)))
   exact Kj55 _ _ _ ⟨s54, _, rfl, (ue rfl rfl), (Ky25.st (Xo p51 p54) rfl)⟩
  rintro y55 _ _ ⟨s61, _, rfl, rfl, Ky55⟩
  exact Xb rfl (dn (re rfl func14 rfl (Xv rfl Xg) rfl ⟨_, rfl, rfl, z.ky Ky55⟩))
 refine sr (Xb rfl (Xb rfl (dn (cd rfl (fun h62 => ?_) (fun h62 => ?_)))))
 ·
  refine sr (Xs fa35_5 rfl (Xw (es := [(iI a0.To.Kind), (iI a0.To.N), w0_2, w0_3]) By25_b5 u26 z26 rfl ?_))
  refine cl' rfl func44 rfl (spec_ItemClean.calls a0.To s34.w (mm [0] s34) w0_2 w0_3 ((Xh (s := s34) A0_2).sub (D := [0]) rfl) (A0_3.kp Ky25)) ?_
  rintro r64 _ w64 m64 ⟨v64_0, v64_1, rfl, f64_0, ky64⟩
  obtain ⟨s65, rfl, p65, n65⟩ := nwx s34 w64 50 ky64
  obtain ⟨hu64_0_0, Au64_0_1⟩ := ap26 (f64_0.c n65)
  refine clV 51 rfl func43 rfl (spec_KeyOk.calls r64 s65.w (mm [50] s65) v64_0 v64_1 ((Xh (s := s65) hu64_0_0).sub (D := [50]) rfl) Au64_0_1.rd) (fun r67 s68 p68 n68 => ?_)
  refine Xb rfl (dn ?_)
  exact re rfl func14 rfl (Xv rfl Xg) rfl ⟨_, rfl, rfl, z.ky (Ky25.st (Xo p65 p68) rfl)⟩
 refine sr (Xb rfl (Xb rfl (dn (cd rfl (fun h70 => ?_) (fun h70 => ?_)))))
 ·
  refine sr (Xs fa35_3 rfl (ld' By25_b5 u3 rfl (clV 52 rfl func42 rfl (spec_l5in.calls a0.N (0 : Int) (15 : Int) s34.w (mm [] s34)) (fun r71 s72 p72 n72 => ?_))))
  refine Xb rfl (dn ?_)
  exact re rfl func14 rfl (Xv rfl Xg) rfl ⟨_, rfl, rfl, z.ky (Ky25.st p72 rfl)⟩
 refine sr (Xb rfl (Xb rfl (dn (cd rfl (fun h74 => ?_) (fun h74 => ?_)))))
 ·
  exact sr (Xs fa35_3 rfl (ld' By25_b5 u3 rfl (Xb rfl (Xb rfl (dn (re rfl func14 rfl (Xv rfl Xg) rfl ⟨_, rfl, rfl, z.ky Ky25⟩))))))
 refine sr (Xb rfl (Xb rfl (dn (cd rfl (fun h75 => ?_) (fun h75 => ?_)))))
 ·
  refine sr (Xs fa35_7 rfl (ld' By25_b5 u33 rfl ?_))
  exact ln' ((z.rd h0_6).kp Ky25) u33 rfl (Xb rfl (Xb rfl (dn (re rfl func14 rfl (Xv rfl Xg) rfl ⟨_, rfl, rfl, z.ky Ky25⟩))))
 exact sk (ib (sr (Xb rfl (dn (re rfl func14 rfl (Xv rfl Xg) rfl ⟨_, rfl, rfl, z.ky Ky25⟩)))))
def laws_toByteS.b0 (a0 : (List Int)) (x4 : (List Int) × Int) : Option (((List Int) × Int) ⊕ (List Int)) :=
 (if (decide (x4.2 < (a0.length : Int))) = true then (if 0 ≤ x4.2 ∧ x4.2 < (a0.length : Int) then (if 0 ≤ x4.2 ∧ x4.2 < (x4.1.length : Int) then (some (Sum.inl ((x4.1.set (x4.2).toNat (at_ a0 x4.2)), (IntKind.wrap .i64 (x4.2 + (1 : Int)))))) else none) else none) else ((some x4.1).bind fun o => some (Sum.inr o)))
def laws_toByteS.f (a0 : (List Int)) : Option ((List Int)) :=
 (if 0 ≤ (a0.length : Int) ∧ (a0.length : Int) ≤ (Lim : Int) then (iter (laws_toByteS.b0 a0) ((List.replicate ((a0.length : Int)).toNat (0 : Int)), (0 : Int))) else none)
def laws_toByteS.Q (w : World) (F : Nat → Prop) (r : (List Int)) (v : Value) (w' : World) : Prop :=
 FO Xx w w' [v] r ∧ Ky [] w w'
theorem laws_toByteS.calls (a0 : (List Int)) (w : World) (F : Nat → Prop) (w0_0 : Value) (h0_0 : Xx.rd w [w0_0] a0 F) (r : (List Int)) (m : laws_toByteS.f a0 = some r) :
  Calls prog 16 #[w0_0] w (RT (laws_toByteS.Q w F) r) := by
 obtain ⟨s0, rfl, kp0, z⟩ := Xm w F
 have A0_0 := z.rd h0_0
 refine Xd (args := [w0_0]) func16 ntmps16 rfl rfl m ?_
 unfold laws_toByteS.f
 refine sr (Xb rfl (dn (sr (Xp w0_0 rfl (ln' A0_0 u22 rfl (mk (x0 := (0 : Int)) (K := (Kd.int .u8)) 40 sl22 o5 (fun _ => ⟨rfl, rfl⟩) rfl rfl rfl rfl rfl rfl rfl (fun v2 s2 p2 A2 => ?_)))))))
 refine Xq v2 rfl (dn (sq (sr (Xb rfl (dn (bl ?_))))))
 refine lpI (fun (x4 : (List Int) × Int) e w => ∃ (s : St) (e0 : Env), w = s.w ∧ e = upd (upd (upd e0 0 w0_0) 3 v2) 4 (iI x4.2) ∧ Kp s0 s ∧ OwF Xx s [v2] x4.1 40) ⟨s2, _, rfl, (ue (ue (ue rfl rfl) rfl) rfl), (kp0.st p2 rfl), A2⟩ (fun g4 ih4 => ?_)
 rintro x4 _ _ ⟨s6, _, rfl, rfl, Kx4, Ax4_0⟩
 unfold laws_toByteS.b0
 refine sq (sr (Xb rfl (Xp w0_0 rfl ?_)))
 have A8 := A0_0.kp Kx4
 refine ln' A8 u22 rfl (Xb rfl (dn (cd rfl (fun h9 => ?_) (fun h9 => ?_))))
 ·
  refine sk (sq (bl (rg (Xp v2 rfl (Xb rfl (Xp w0_0 rfl (Xb rfl (ix' A8 u22 z5 rfl (fun ad10 es10 h0_10 h1_10 he10 ce10 ia10 => ?_)))))))))
  obtain rfl := he10
  refine lc0' ce10 u5 rfl (ix' Ax4_0.rd u22 z5 rfl (fun ad12 es12 h0_12 h1_12 he12 ce12 ia12 => ?_))
  obtain rfl := he12
  refine so (x' := (at_ a0 x4.2)) Ax4_0 ia12 h0_12 h1_12 cs_flat z5 rfl rfl rfl rfl rfl rfl (fun s14 p14 A14 => ?_)
  refine dn (ib (rg (Xb rfl (Xb rfl (Xb rfl (dn ?_))))))
  exact lb ih4 ⟨s14, _, rfl, (ue (ue (ue rfl rfl) rfl) rfl), (Kx4.st p14 rfl), A14⟩
 exact xt rfl (sgb (sr (Xp v2 rfl (Xq v2 rfl (dn (re rfl func16 rfl (Xv rfl Xg) rfl ⟨_, rfl, Ax4_0.fo Kx4 rfl z.l, z.ky Kx4⟩))))))
def spec_l18split.b0 (a0 : (List Int)) (a1 : Int) (x2 : (List (List Int)) × (List Int) × Int) : Option (((List (List Int)) × (List Int) × Int) ⊕ (List (List Int))) :=
 (if (decide (x2.2.2 < (a0.length : Int))) = true then (if 0 ≤ x2.2.2 ∧ x2.2.2 < (a0.length : Int) then ((if ((at_ a0 x2.2.2) == a1) = true then (if x2.1.length + ([x2.2.1]).length ≤ Lim then (some ((x2.1 ++ [x2.2.1]), ([] : (List Int)))) else none) else (if 0 ≤ x2.2.2 ∧ x2.2.2 < (a0.length : Int) then (if x2.2.1.length + ([(at_ a0 x2.2.2)]).length ≤ Lim then (some (x2.1, (x2.2.1 ++ [(at_ a0 x2.2.2)]))) else none) else none)).bind fun y10 => (some (Sum.inl (y10.1, y10.2, (IntKind.wrap .i64 (x2.2.2 + (1 : Int))))))) else none) else ((if x2.1.length + ([x2.2.1]).length ≤ Lim then (some (x2.1 ++ [x2.2.1])) else none).bind fun o => some (Sum.inr o)))
def spec_l18split.f (a0 : (List Int)) (a1 : Int) : Option ((List (List Int))) :=
 (iter (spec_l18split.b0 a0 a1) (([] : (List (List Int))), ([] : (List Int)), (0 : Int)))
def spec_l18split.Q (w : World) (F : Nat → Prop) (r : (List (List Int))) (v : Value) (w' : World) : Prop :=
 FO (Kd.sl 22 Xx) w w' [v] r ∧ Ky [] w w'
theorem spec_l18split.calls (a0 : (List Int)) (a1 : Int) (w : World) (F : Nat → Prop) (w0_0 : Value) (h0_0 : Xx.rd w [w0_0] a0 F) (r : (List (List Int))) (m : spec_l18split.f a0 a1 = some r) :
  Calls prog 45 #[w0_0, (.int .u8 a1)] w (RT (spec_l18split.Q w F) r) := by
 obtain ⟨s0, rfl, kp0, z⟩ := Xm w F
 refine Xd (args := [w0_0, (.int .u8 a1)]) func45 ntmps45 rfl rfl m ?_
 unfold spec_l18split.f
 refine sr (Xb rfl (dn (sr (Xb rfl (dn (sr (Xb rfl (dn (sq (sr (Xb rfl (dn (bl (lpI (fun (x2 : (List (List Int)) × (List Int) × Int) e w => ∃ (s : St) (e0 : Env) (vx2_0 vx2_1 : Value), w = s.w ∧ e = upd (upd (upd (upd (upd e0 0 w0_0) 1 (.int .u8 a1)) 5 vx2_0) 6 vx2_1) 7 (iI x2.2.2) ∧ Kp s0 s ∧ OwF (Kd.sl 22 Xx) s [vx2_0] x2.1 42 ∧ OwF Xx s [vx2_1] x2.2.1 43) ⟨s0, _, (.slice none 0 0), (.slice none 0 0), rfl, (ue (ue (ue (ue (ue rfl rfl) rfl) rfl) rfl) rfl), kp0, (Xk 22 Xx _ 42), (Xk 5 (Kd.int .u8) _ 43)⟩ (fun g2 ih2 => ?_)))))))))))))))
 rintro x2 _ _ ⟨s3, _, vx2_0, vx2_1, rfl, rfl, Kx2, Ax2_0, Ax2_1⟩
 unfold spec_l18split.b0
 refine sq (sr (Xb rfl (Xp w0_0 rfl ?_)))
 have A6 := (z.rd h0_0).kp Kx2
 refine ln' A6 u22 rfl (Xb rfl (dn (cd rfl (fun h7 => ?_) (fun h7 => ?_))))
 ·
  refine sk (sq (bl (sr (Xp w0_0 rfl (Xb rfl (ix' A6 u22 z5 rfl (fun ad8 es8 h0_8 h1_8 he8 ce8 ia8 => ?_)))))))
  obtain rfl := he8
  refine lc0' ce8 u5 rfl (Xb rfl (Xb rfl (dn (jc (fun (y10 : (List (List Int)) × (List Int)) e w => ∃ (s : St) (e0 : Env) (vy10_0 vy10_1 : Value), w = s.w ∧ e = upd (upd (upd (upd (upd e0 0 w0_0) 1 (.int .u8 a1)) 5 vy10_0) 6 vy10_1) 7 (iI x2.2.2) ∧ Kp s0 s ∧ OwF (Kd.sl 22 Xx) s [vy10_0] y10.1 42 ∧ OwF Xx s [vy10_1] y10.2 43) (fun Gj10 Kj10 => ?_) ?_))))
  ·
   refine cd rfl (fun h11 => ?_) (fun h11 => ?_)
   ·
    refine sr (Xp vx2_0 rfl (Xp vx2_1 rfl ?_))
    refine ltO (K := Xx) (cells := [vx2_1]) [x2.2.1] 43 u71 z22 o22 (lo_one Ax2_1) rfl rfl rfl rfl rfl rfl rfl rfl rfl (lfill_pc (pc_c (oc Ax2_1.rd.one) pc_n) rfl) (fun v13 s13 p13 A13 => ?_)
    refine apO sl71 (Ax2_0.st p13 rfl) A13 rfl rfl rfl rfl rfl rfl rfl rfl rfl (fun v16 s16 p16 A16 => ?_)
    refine Xq v16 rfl (dn (rg (Xb rfl (dn ?_))))
    exact Kj10 _ _ _ ⟨s16, _, v16, (.slice none 0 0), rfl, (ue (ue (ue (ue (ue rfl rfl) rfl) rfl) rfl) rfl), (Kx2.st (Xo p13 p16) rfl), A16, (Xk 5 (Kd.int .u8) _ 43)⟩
   refine rg (Xp vx2_1 rfl (Xp w0_0 rfl (Xb rfl (ix' A6 u22 z5 rfl (fun ad19 es19 h0_19 h1_19 he19 ce19 ia19 => ?_)))))
   obtain rfl := he19
   refine lc0' ce19 u5 rfl (ltF' (K := (Kd.int .u8)) (cells := [(.int .u8 (at_ a0 x2.2.2))]) [(at_ a0 x2.2.2)] 45 Xn u22 z5 o5 (fun w => (Xj _ _ _)) rfl rfl (fun v21 s21 p21 A21 => ?_))
   refine apF' Xn sl22 (Ax2_1.st p21 rfl) A21.rd rfl (fun v24 s24 p24 A24 => ?_)
   refine Xq v24 rfl (dn ?_)
   exact Kj10 _ _ _ ⟨s24, _, vx2_0, v24, rfl, (ue (ue (ue (ue (ue rfl rfl) rfl) rfl) rfl) rfl), (Kx2.st (Xo p21 p24) rfl), (Ax2_0.st (Xo p21 p24) rfl), A24⟩
  rintro y10 _ _ ⟨s28, _, vy10_0, vy10_1, rfl, rfl, Ky10, Ay10_0, Ay10_1⟩
  exact ib (rg (Xb rfl (Xb rfl (Xb rfl (dn (lb ih2 ⟨s28, _, vy10_0, vy10_1, rfl, (ue (ue (ue (ue (ue rfl rfl) rfl) rfl) rfl) rfl), Ky10, Ay10_0, Ay10_1⟩))))))
 refine xt rfl (sgb (sr (Xp vx2_0 rfl (Xp vx2_1 rfl ?_))))
 refine ltO (K := Xx) (cells := [vx2_1]) [x2.2.1] 43 u71 z22 o22 (lo_one Ax2_1) rfl rfl rfl rfl rfl rfl rfl rfl rfl (lfill_pc (pc_c (oc Ax2_1.rd.one) pc_n) rfl) (fun v32 s32 p32 A32 => ?_)
 refine apO sl71 (Ax2_0.st p32 rfl) A32 rfl rfl rfl rfl rfl rfl rfl rfl rfl (fun v35 s35 p35 A35 => ?_)
 refine Xq v35 rfl (dn ?_)
 have K37 := Kx2.st (Xo p32 p35) rfl
 exact re rfl func45 rfl (Xv rfl Xg) rfl ⟨_, rfl, A35.fo K37 rfl z.l, z.ky K37⟩
def spec_l18names.f  : Option ((List ByteArray)) :=
 (some ([(⟨#[]⟩ : ByteArray), (⟨#[98, 101, 103, 105, 110]⟩ : ByteArray), (⟨#[103, 101, 116]⟩ : ByteArray), (⟨#[112, 117, 116]⟩ : ByteArray), (⟨#[100, 101, 108, 101, 116, 101]⟩ : ByteArray), (⟨#[115, 99, 97, 110]⟩ : ByteArray), (⟨#[116, 111, 116, 97, 108]⟩ : ByteArray), (⟨#[99, 111, 109, 109, 105, 116]⟩ : ByteArray), (⟨#[97, 98, 111, 114, 116]⟩ : ByteArray), (⟨#[118, 97, 99, 117, 117, 109]⟩ : ByteArray), (⟨#[99, 104, 101, 99, 107, 112, 111, 105, 110, 116]⟩ : ByteArray), (⟨#[101, 118, 105, 99, 116]⟩ : ByteArray), (⟨#[102, 117, 115, 101]⟩ : ByteArray), (⟨#[99, 114, 97, 115, 104]⟩ : ByteArray)]))
def spec_l18names.Q (w : World) (F : Nat → Prop) (r : (List ByteArray)) (v : Value) (w' : World) : Prop :=
 FO (Kd.sl 9 Kd.str) w w' [v] r ∧ Ky [] w w'
theorem spec_l18names.calls  (w : World) (F : Nat → Prop)   (r : (List ByteArray)) (m : spec_l18names.f  = some r) :
  Calls prog 46 #[] w (RT (spec_l18names.Q w F) r) := by
 obtain ⟨s0, rfl, kp0, z⟩ := Xm w F
 refine Xd (args := []) func46 ntmps46 rfl rfl m ?_
 unfold spec_l18names.f
 refine sr (Xb rfl (dn (sr (ltF' (K := Kd.str) (cells := [(.string (⟨#[]⟩ : ByteArray)), (.string (⟨#[98, 101, 103, 105, 110]⟩ : ByteArray)), (.string (⟨#[103, 101, 116]⟩ : ByteArray)), (.string (⟨#[112, 117, 116]⟩ : ByteArray)), (.string (⟨#[100, 101, 108, 101, 116, 101]⟩ : ByteArray)), (.string (⟨#[115, 99, 97, 110]⟩ : ByteArray)), (.string (⟨#[116, 111, 116, 97, 108]⟩ : ByteArray)), (.string (⟨#[99, 111, 109, 109, 105, 116]⟩ : ByteArray)), (.string (⟨#[97, 98, 111, 114, 116]⟩ : ByteArray)), (.string (⟨#[118, 97, 99, 117, 117, 109]⟩ : ByteArray)), (.string (⟨#[99, 104, 101, 99, 107, 112, 111, 105, 110, 116]⟩ : ByteArray)), (.string (⟨#[101, 118, 105, 99, 116]⟩ : ByteArray)), (.string (⟨#[102, 117, 115, 101]⟩ : ByteArray)), (.string (⟨#[99, 114, 97, 115, 104]⟩ : ByteArray))]) [(⟨#[]⟩ : ByteArray), (⟨#[98, 101, 103, 105, 110]⟩ : ByteArray), (⟨#[103, 101, 116]⟩ : ByteArray), (⟨#[112, 117, 116]⟩ : ByteArray), (⟨#[100, 101, 108, 101, 116, 101]⟩ : ByteArray), (⟨#[115, 99, 97, 110]⟩ : ByteArray), (⟨#[116, 111, 116, 97, 108]⟩ : ByteArray), (⟨#[99, 111, 109, 109, 105, 116]⟩ : ByteArray), (⟨#[97, 98, 111, 114, 116]⟩ : ByteArray), (⟨#[118, 97, 99, 117, 117, 109]⟩ : ByteArray), (⟨#[99, 104, 101, 99, 107, 112, 111, 105, 110, 116]⟩ : ByteArray), (⟨#[101, 118, 105, 99, 116]⟩ : ByteArray), (⟨#[102, 117, 115, 101]⟩ : ByteArray), (⟨#[99, 114, 97, 115, 104]⟩ : ByteArray)] 40 fl_str u59 z9 o9 (fun w => (Xj _ _ _)) rfl (lfill_c rfl rfl rfl rfl rfl) (fun v1 s1 p1 A1 => ?_)))))
 refine Xq v1 rfl (dn ?_)
 have K3 := kp0.st p1 rfl
 exact re rfl func46 rfl (Xv rfl Xg) rfl ⟨_, rfl, A1.fo K3 rfl z.l, z.ky K3⟩
end Go.Proofs.YtdhefendaopcbaaGreatDoor
