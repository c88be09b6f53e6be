/- The functions as models, and that the calls come to what the models tell. -/
import Derived.Test.YtiofnjnnocjbhaaDoorGt
import Derived.Shelf.Strconv.Itoa3
import Derived.Shelf.Lay
import Derived.Ground.NamesProg
import Derived.Shelf.Strconv.ErrVarAll
import Derived.Shelf.Strconv.AtoiAll
import Derived.Shelf.Small.Strs
set_option linter.unusedVariables false
set_option linter.unusedSimpArgs false
set_option maxHeartbeats 4000000
set_option maxRecDepth 100000
noncomputable section
namespace Go.Proofs.YtiofnjnnocjbhaaDoor
open Go V Tryd
def laws_toByteS.b0 (a0 : (List Int)) (x4 : (List Int) × Int) : Option (((List Int) × Int) ⊕ (List Int)) :=
 (if (decide (x4.2 < (a0.length : Int))) = true then (if 0 ≤ x4.2 ∧ x4.2 < (a0.length : Int) then (if 0 ≤ x4.2 ∧ x4.2 < (x4.1.length : Int) then (some (Sum.inl ((x4.1.set (x4.2).toNat (at_ a0 x4.2)), (IntKind.wrap .i64 (x4.2 + (1 : Int)))))) else none) else none) else ((some x4.1).bind fun o => some (Sum.inr o)))
def laws_toByteS.f (a0 : (List Int)) : Option ((List Int)) :=
 (if 0 ≤ (a0.length : Int) ∧ (a0.length : Int) ≤ (Lim : Int) then (iter (laws_toByteS.b0 a0) ((List.replicate ((a0.length : Int)).toNat (0 : Int)), (0 : Int))) else none)
def laws_toByteS.Q (w : World) (F : Nat → Prop) (r : (List Int)) (v : Value) (w' : World) : Prop :=
 FO Xk w w' [v] r ∧ Ky [] w w'
theorem laws_toByteS.calls (a0 : (List Int)) (w : World) (F : Nat → Prop) (w0_0 : Value) (h0_0 : Xk.rd w [w0_0] a0 F) (r : (List Int)) (m : laws_toByteS.f a0 = some r) :
  Calls prog 29 #[w0_0] w (RT (laws_toByteS.Q w F) r) := by
 obtain ⟨s0, rfl, kp0, z⟩ := Xi w F
 have A0_0 := z.rd h0_0
 refine Xc (args := [w0_0]) func29 ntmps29 rfl rfl m ?_
 unfold laws_toByteS.f
 refine sr (Xa rfl (dn (sr (Xj w0_0 rfl (ln' A0_0 u23 rfl (mk (x0 := (0 : Int)) (K := (Kd.int .u8)) 40 sl23 o5 (fun _ => ⟨rfl, rfl⟩) rfl rfl rfl rfl rfl rfl rfl (fun v2 s2 p2 A2 => ?_)))))))
 refine asg' v2 rfl (dn (sq (sr (Xa rfl (dn (bl ?_))))))
 refine lpI (fun (x4 : (List Int) × Int) e w => ∃ (s : St) (e0 : Env), w = s.w ∧ e = upd (upd (upd e0 0 w0_0) 3 v2) 4 (iI x4.2) ∧ Kp s0 s ∧ OwF Xk s [v2] x4.1 40) ⟨s2, _, rfl, (ue (ue (ue rfl rfl) rfl) rfl), (kp0.st p2 rfl), A2⟩ (fun g4 ih4 => ?_)
 rintro x4 _ _ ⟨s6, _, rfl, rfl, Kx4, Ax4_0⟩
 unfold laws_toByteS.b0
 refine sq (sr (Xa rfl (Xj w0_0 rfl ?_)))
 have A8 := A0_0.kp Kx4
 refine ln' A8 u23 rfl (Xa rfl (dn (cd rfl (fun h9 => ?_) (fun h9 => ?_))))
 ·
  refine sk (sq (bl (rg (Xj v2 rfl (Xa rfl (Xj w0_0 rfl (Xa rfl (ix' A8 u23 z5 rfl (fun ad10 es10 h0_10 h1_10 he10 ce10 ia10 => ?_)))))))))
  obtain rfl := he10
  refine lc0' ce10 u5 rfl (ix' Ax4_0.rd u23 z5 rfl (fun ad12 es12 h0_12 h1_12 he12 ce12 ia12 => ?_))
  obtain rfl := he12
  refine so (x' := (at_ a0 x4.2)) Ax4_0 ia12 h0_12 h1_12 cs_flat z5 rfl rfl rfl rfl rfl rfl (fun s14 p14 A14 => ?_)
  refine dn (ib (rg (Xa rfl (Xa rfl (Xa rfl (dn ?_))))))
  exact lb ih4 ⟨s14, _, rfl, (ue (ue (ue rfl rfl) rfl) rfl), (Kx4.st p14 rfl), A14⟩
 exact xt rfl (sgb (sr (Xj v2 rfl (asg' v2 rfl (dn (re rfl func29 rfl (r_t rfl Xd) rfl ⟨_, rfl, Ax4_0.fo Kx4 rfl z.l, z.ky Kx4⟩))))))
def spec_FloatBits.b1 (y8 : Int × Nat) (x19 : Nat × Int) : Option ((Nat × Int) ⊕ Int) :=
 (if ((fcmp .f64 x19.1 (4607182418800017408 : Nat) == some .lt) && (decide (x19.2 > (-1022 : Int)))) = true then (some (Sum.inl ((far .mul x19.1 (4611686018427387904 : Nat)), (IntKind.wrap .i64 (x19.2 - (1 : Int)))))) else ((if (fcmp .f64 x19.1 (4607182418800017408 : Nat) == some .lt) = true then ((floatToIntVal .f64 (far .mul x19.1 (4841369599423283200 : Nat)) .u64).bind fun r27 => (some (ior .u64 y8.1 r27))) else ((floatToIntVal .f64 (far .mul (far .sub x19.1 (4607182418800017408 : Nat)) (4841369599423283200 : Nat)) .u64).bind fun r31 => (some (ior .u64 (ior .u64 y8.1 (ishl .u64 (IntKind.wrap .u64 (IntKind.wrap .i64 (x19.2 + (1023 : Int)))) (52 : Int))) r31)))).bind fun o => some (Sum.inr o)))
def spec_FloatBits.b0 (y8 : Int × Nat) (x14 : Nat × Int) : Option ((Nat × Int) ⊕ Int) :=
 (if (fcmp .f64 x14.1 (4611686018427387904 : Nat) == some .gt || fcmp .f64 x14.1 (4611686018427387904 : Nat) == some .eq) = true then (some (Sum.inl ((far .quo x14.1 (4611686018427387904 : Nat)), (IntKind.wrap .i64 (x14.2 + (1 : Int)))))) else ((iter (spec_FloatBits.b1 y8) (x14.1, x14.2)).bind fun o => some (Sum.inr o)))
def spec_FloatBits.f (a0 : Nat) : Option (Int) :=
 (if (fcmp .f64 a0 a0 != some .eq) = true then (some (9221120237041090560 : Int)) else ((if (fcmp .f64 a0 (0 : Nat) == some .lt) = true then (some true) else ((if (fcmp .f64 a0 (0 : Nat) == some .eq) = true then (some (fcmp .f64 (far .quo (4607182418800017408 : Nat) a0) (0 : Nat) == some .lt)) else (some false)).bind fun y3 => (some y3))).bind fun y2 => ((if y2 = true then (some ((9223372036854775808 : Int), (fneg a0))) else (some ((0 : Int), a0))).bind fun y8 => (if (fcmp .f64 y8.2 (0 : Nat) == some .eq) = true then (some y8.1) else (if (fcmp .f64 y8.2 (9218868437227405311 : Nat) == some .gt) = true then (some (ior .u64 y8.1 (9218868437227405312 : Int))) else (iter (spec_FloatBits.b0 y8) (y8.2, (0 : Int))))))))
def spec_FloatBits.Q (w : World) (F : Nat → Prop) (r : Int) (v : Value) (w' : World) : Prop :=
 v = (.int .u64 r) ∧ Ky [] w w'
theorem spec_FloatBits.calls (a0 : Nat) (w : World) (F : Nat → Prop) (w0_0 : Value) (h0_0 : Kd.flt.rd w [w0_0] a0 F) (r : Int) (m : spec_FloatBits.f a0 = some r) :
  Calls prog 37 #[w0_0] w (RT (spec_FloatBits.Q w F) r) := by
 obtain ⟨s0, rfl, kp0, z⟩ := Xi w F
 have A0_0 := fl_of h0_0
 refine Xc (args := [w0_0]) func37 ntmps37 rfl rfl m ?_
 unfold spec_FloatBits.f
 refine sr (Xa rfl (dn (sq (sr (Xj w0_0 rfl (Xj w0_0 rfl (fq_' A0_0 A0_0 rfl (dn (cd rfl (fun h1 => ?_) (fun h1 => ?_))))))))))
 ·
  exact sr (Xa rfl (dn (re rfl func37 rfl (r_t rfl Xd) rfl ⟨_, rfl, rfl, z.ky kp0⟩)))
 refine sk (sr (Xa rfl (dn (sr (Xj w0_0 rfl (asg' w0_0 rfl (dn (sq (sr (Xj w0_0 rfl (fq_' A0_0 (fl_c rfl) rfl (Xa rfl (ji [] (fun (y2 : Bool) e w => ∃ (s : St) (e0 : Env), w = s.w ∧ e = upd (upd (upd (upd e0 0 w0_0) 3 (.int .u64 (0 : Int))) 4 w0_0) 20 (.bool y2) ∧ Kp s0 s) (fun Gj2 Kj2 => ?_) ?_)))))))))))))
 ·
  rcases bft (fcmp .f64 a0 (0 : Nat) == some .lt) with hb2 | hb2
  ·
   refine sbT hb2 ?_
   rw [if_pos hb2]
   exact Xg rfl (Xg rfl (Xg rfl (Xg rfl (Xg rfl (Xg rfl (Xg rfl (Xa rfl (Kj2 _ _ _ ⟨s0, _, rfl, (ue (ue (ue (ue rfl rfl) rfl) rfl) rfl), kp0⟩))))))))
  refine sbT hb2 ?_
  rw [if_neg (by rw [hb2]; decide)]
  refine Xj w0_0 rfl (fq_' A0_0 (fl_c rfl) rfl (Xa rfl (ji [10] (fun (y3 : Bool) e w => ∃ (s : St) (e0 : Env), w = s.w ∧ e = upd (upd (upd (upd (upd e0 0 w0_0) 3 (.int .u64 (0 : Int))) 4 w0_0) 12 (.bool false)) 19 (.bool y3) ∧ Kp s0 s) (fun Gj3 Kj3 => ?_) ?_)))
  ·
   rcases bft (fcmp .f64 a0 (0 : Nat) == some .eq) with hb3 | hb3
   ·
    refine sbT hb3 ?_
    rw [if_pos hb3]
    refine Xj w0_0 rfl (fa_ (fl_c rfl) A0_0 (by simp) rfl rfl rfl rfl rfl rfl rfl (fun v4 s4 p4 A4 => ?_))
    refine fq_' A4 (fl_c rfl) rfl (Xa rfl ?_)
    exact Kj3 _ _ _ ⟨s4, _, rfl, (ue (ue (ue (ue (ue rfl rfl) rfl) rfl) rfl) rfl), (kp0.st p4 rfl)⟩
   refine sbT hb3 ?_
   rw [if_neg (by rw [hb3]; decide)]
   exact Xg rfl (Xg rfl (Xg rfl (Xa rfl (Kj3 _ _ _ ⟨s0, _, rfl, (ue (ue (ue (ue (ue rfl rfl) rfl) rfl) rfl) rfl), kp0⟩))))
  rintro y3 _ _ ⟨s6, _, rfl, rfl, Ky3⟩
  exact Xa rfl (Kj2 _ _ _ ⟨s6, _, rfl, (ue (ue (ue (ue rfl rfl) rfl) rfl) rfl), Ky3⟩)
 rintro y2 _ _ ⟨s7, _, rfl, rfl, Ky2⟩
 refine dn (jc (fun (y8 : Int × Nat) e w => ∃ (s : St) (e0 : Env) (uy8_0 : Value), w = s.w ∧ e = upd (upd e0 3 (.int .u64 y8.1)) 4 uy8_0 ∧ Kp s0 s ∧ FL uy8_0 y8.2) (fun Gj8 Kj8 => ?_) ?_)
 ·
  refine cd rfl (fun h9 => ?_) (fun h9 => ?_)
  ·
   refine sr (Xa rfl (dn (rg (Xj w0_0 rfl (fng_ A0_0 rfl rfl rfl rfl rfl rfl (fun v10 A10 => ?_))))))
   exact asg' v10 rfl (dn (Kj8 _ _ _ ⟨s7, _, v10, rfl, (ue (ue rfl rfl) rfl), Ky2, A10⟩))
  exact sk (Kj8 _ _ _ ⟨s7, _, w0_0, rfl, (ue (ue rfl rfl) rfl), Ky2, A0_0⟩)
 rintro y8 _ _ ⟨s11, _, uy8_0, rfl, rfl, Ky8, Fy8_0⟩
 refine sq (sr (Xj uy8_0 rfl (fq_' Fy8_0 (fl_c rfl) rfl (dn (cd rfl (fun h12 => ?_) (fun h12 => ?_))))))
 ·
  exact sr (Xa rfl (Xa rfl (dn (re rfl func37 rfl (r_t rfl Xd) rfl ⟨_, rfl, rfl, z.ky Ky8⟩))))
 refine sk (sq (sr (Xj uy8_0 rfl (fq_' Fy8_0 (fl_c rfl) rfl (dn (cd rfl (fun h13 => ?_) (fun h13 => ?_)))))))
 ·
  exact sr (Xa rfl (Xa rfl (Xa rfl (dn (re rfl func37 rfl (r_t rfl Xd) rfl ⟨_, rfl, rfl, z.ky Ky8⟩)))))
 refine sk (sr (Xa rfl (dn (sq (bl (lpI (fun (x14 : Nat × Int) e w => ∃ (s : St) (e0 : Env) (ux14_0 : Value), w = s.w ∧ e = upd (upd (upd e0 3 (.int .u64 y8.1)) 4 ux14_0) 5 (iI x14.2) ∧ Kp s0 s ∧ FL ux14_0 x14.1) ⟨s11, _, uy8_0, rfl, (ue (ue (ue rfl rfl) rfl) rfl), Ky8, Fy8_0⟩ (fun g14 ih14 => ?_)))))))
 rintro x14 _ _ ⟨s15, _, ux14_0, rfl, rfl, Kx14, Fx14_0⟩
 unfold spec_FloatBits.b0
 refine sq (sr (Xj ux14_0 rfl (fq_' Fx14_0 (fl_c rfl) rfl (dn (cd rfl (fun h16 => ?_) (fun h16 => ?_))))))
 ·
  refine sk (bl (sr (Xj ux14_0 rfl (fa_ Fx14_0 (fl_c rfl) (by simp) rfl rfl rfl rfl rfl rfl rfl (fun v17 s17 p17 A17 => ?_)))))
  refine asg' v17 rfl (dn (rg (Xa rfl (Xa rfl (Xa rfl (dn (ib ?_)))))))
  exact lb ih14 ⟨s17, _, v17, rfl, (ue (ue (ue rfl rfl) rfl) rfl), (Kx14.st p17 rfl), A17⟩
 refine xt rfl (sgb (sq (bl (lpI (fun (x19 : Nat × Int) e w => ∃ (s : St) (e0 : Env) (ux19_0 : Value), w = s.w ∧ e = upd (upd (upd e0 3 (.int .u64 y8.1)) 4 ux19_0) 5 (iI x19.2) ∧ Kp s0 s ∧ FL ux19_0 x19.1) ⟨s15, _, ux14_0, rfl, (ue (ue (ue rfl rfl) rfl) rfl), Kx14, Fx14_0⟩ (fun g19 ih19 => ?_)))))
 rintro x19 _ _ ⟨s20, _, ux19_0, rfl, rfl, Kx19, Fx19_0⟩
 unfold spec_FloatBits.b1
 refine sq (sr (Xj ux19_0 rfl (fq_' Fx19_0 (fl_c rfl) rfl (Xa rfl (jy [38, 39, 40, 41] [] 41 (.bool ((fcmp .f64 x19.1 (4607182418800017408 : Nat) == some .lt) && (decide (x19.2 > (-1022 : Int))))) rfl (fun Kg21 => ?_) (fun j21 => ?_))))))
 ·
  rcases bft (fcmp .f64 x19.1 (4607182418800017408 : Nat) == some .lt) with hb21 | hb21
  ·
   exact sbT hb21 (Xa rfl (Xa rfl (Xa rfl (Kg21 _ (Ag.put ((Ag.put ((Ag.put (Ag.base rfl) rfl)) rfl)) rfl) (by rw [hb21]; rfl)))))
  exact sbT hb21 (Xg rfl (Xg rfl (Xa rfl (Kg21 _ (Ag.put ((Ag.put ((Ag.put (Ag.base rfl) rfl)) rfl)) rfl) (by rw [hb21]; rfl)))))
 refine dn (cd rfl (fun h22 => ?_) (fun h22 => ?_))
 ·
  refine sk (bl (sr (Xj ux19_0 rfl (fa_ Fx19_0 (fl_c rfl) (by simp) rfl rfl rfl rfl rfl rfl rfl (fun v23 s23 p23 A23 => ?_)))))
  refine asg' v23 rfl (dn (rg (Xa rfl (Xa rfl (Xa rfl (dn (ib ?_)))))))
  exact lb ih19 ⟨s23, _, v23, rfl, (ue (ue (ue rfl rfl) rfl) rfl), (Kx19.st p23 rfl), A23⟩
 refine xt rfl (sgb (sq (sr (Xj ux19_0 rfl (fq_' Fx19_0 (fl_c rfl) rfl (dn (cd rfl (fun h25 => ?_) (fun h25 => ?_))))))))
 ·
  refine sr (Xa rfl (Xj ux19_0 rfl (fa_ Fx19_0 (fl_c rfl) (by simp) rfl rfl rfl rfl rfl rfl rfl (fun v26 s26 p26 A26 => ?_))))
  refine f2i A26 u65 u22 rfl rfl rfl rfl rfl rfl (fun r27 m27 => ?_)
  refine Xa rfl (Xa rfl (dn ?_))
  exact re rfl func37 rfl (r_t rfl Xd) rfl ⟨_, rfl, rfl, z.ky (Kx19.st p26 rfl)⟩
 refine sk (sr (Xa rfl (Xa rfl (Xa rfl (cv u65 u3 rfl rfl rfl rfl rfl rfl (shlK rfl rfl rfl rfl rfl rfl rfl rfl (Xa rfl (Xj ux19_0 rfl (fa_ Fx19_0 (fl_c rfl) (by simp) rfl rfl rfl rfl rfl rfl rfl (fun v29 s29 p29 A29 => ?_))))))))))
 refine fa_ A29 (fl_c rfl) (by simp) rfl rfl rfl rfl rfl rfl rfl (fun v30 s30 p30 A30 => ?_)
 refine f2i A30 u65 u22 rfl rfl rfl rfl rfl rfl (fun r31 m31 => ?_)
 refine Xa rfl (Xa rfl (dn ?_))
 exact re rfl func37 rfl (r_t rfl Xd) rfl ⟨_, rfl, rfl, z.ky (Kx19.st (tr2 p29 p30) rfl)⟩
def spec_ItemOk.f (a0 : Item) : Option (Bool) :=
 (if (((decide (a0.Kind < (0 : Int))) || (decide (a0.Kind > (3 : Int)))) || (decide ((a0.T.length : Int) > (40 : Int)))) = true then (some false) else (if ((a0.Kind != (1 : Int)) && (a0.N != (0 : Int))) = true then (some false) else ((if (a0.Kind != (2 : Int)) = true then ((spec_FloatBits.f a0.F).bind fun r14 => (some (r14 != (0 : Int)))) else (some false)).bind fun y13 => (if y13 = true then (some false) else (some ((a0.Kind == (3 : Int)) || ((a0.T.length : Int) == (0 : Int))))))))
def spec_ItemOk.Q (w : World) (F : Nat → Prop) (r : Bool) (v : Value) (w' : World) : Prop :=
 v = (.bool r) ∧ Ky [] w w'
theorem spec_ItemOk.calls (a0 : Item) (w : World) (F : Nat → Prop) (w0_0 : Value) (w0_1 : Value) (h0_0 : Kd.flt.rd w [w0_0] a0.F F) (h0_1 : Xk.rd w [w0_1] a0.T F) (r : Bool) (m : spec_ItemOk.f a0 = some r) :
  Calls prog 33 #[(.agg #[(iI a0.Kind), (iI a0.N), w0_0, w0_1])] w (RT (spec_ItemOk.Q w F) r) := by
 obtain ⟨s0, rfl, kp0, z⟩ := Xi w F
 have A0_1 := z.rd h0_1
 refine Xc (args := [(.agg #[(iI a0.Kind), (iI a0.N), w0_0, w0_1])]) func33 ntmps33 rfl rfl m ?_
 unfold spec_ItemOk.f
 refine sr (bx (cs := [(iI a0.Kind), (iI a0.N), w0_0, w0_1]) 40 rfl rfl rfl rfl rfl rfl (fun b2 s2 p2 B2 => ?_))
 refine Xa rfl (dn (sq (sr (fa' fa28_0 rfl (ld' B2 u3 rfl (Xa rfl (Xa rfl (jy [6, 7, 8, 9, 10] [8, 9, 10, 11, 12, 13] 10 (.bool ((decide (a0.Kind < (0 : Int))) || (decide (a0.Kind > (3 : Int))))) rfl (fun Kg4 => ?_) (fun j4 => ?_)))))))))
 ·
  rcases bft (decide (a0.Kind < (0 : Int))) with hb4 | hb4
  ·
   exact sbT hb4 (Xg rfl (Xg rfl (Xg rfl (Xa rfl (Kg4 _ (Ag.put ((Ag.put ((Ag.put ((Ag.put (Ag.base rfl) rfl)) rfl)) rfl)) rfl) (by rw [hb4]; rfl))))))
  exact sbT hb4 (fa' fa28_0 rfl (ld' B2 u3 rfl (Xa rfl (Xa rfl (Kg4 _ (Ag.put ((Ag.put ((Ag.put ((Ag.put (Ag.base rfl) rfl)) rfl)) rfl)) rfl) (by rw [hb4]; rfl))))))
 refine Xa rfl (jy [11, 12, 13, 14, 15, 16] [] 16 (.bool (((decide (a0.Kind < (0 : Int))) || (decide (a0.Kind > (3 : Int)))) || (decide ((a0.T.length : Int) > (40 : Int))))) rfl (fun Kg5 => ?_) (fun j5 => ?_))
 ·
  rcases bft ((decide (a0.Kind < (0 : Int))) || (decide (a0.Kind > (3 : Int)))) with hb5 | hb5
  ·
   exact sbT hb5 (Xg rfl (Xg rfl (Xg rfl (Xg rfl (Xa rfl (Kg5 _ (Ag.put ((Ag.put ((Ag.put ((Ag.put ((Ag.put (Ag.base rfl) rfl)) rfl)) rfl)) rfl)) rfl) (by rw [hb5]; rfl)))))))
  refine sbT hb5 (fa' fa28_3 rfl (ld' B2 u23 rfl ?_))
  exact ln' (A0_1.kp (kp0.st p2 rfl)) u23 rfl (Xa rfl (Xa rfl (Kg5 _ (Ag.put ((Ag.put ((Ag.put ((Ag.put ((Ag.put (Ag.base rfl) rfl)) rfl)) rfl)) rfl)) rfl) (by rw [hb5]; rfl))))
 refine dn (cd rfl (fun h8 => ?_) (fun h8 => ?_))
 ·
  refine sr (Xa rfl (dn ?_))
  exact re rfl func33 rfl (r_t rfl Xd) rfl ⟨_, rfl, rfl, z.ky (kp0.st p2 rfl)⟩
 refine sk (sq (sr (fa' fa28_0 rfl (ld' B2 u3 rfl (Xa rfl (Xa rfl (jy [20, 21, 22, 23, 24] [] 24 (.bool ((a0.Kind != (1 : Int)) && (a0.N != (0 : Int)))) rfl (fun Kg10 => ?_) (fun j10 => ?_))))))))
 ·
  rcases bft (a0.Kind != (1 : Int)) with hb10 | hb10
  ·
   exact sbT hb10 (fa' fa28_1 rfl (ld' B2 u3 rfl (Xa rfl (Xa rfl (Kg10 _ (Ag.put ((Ag.put ((Ag.put ((Ag.put (Ag.base rfl) rfl)) rfl)) rfl)) rfl) (by rw [hb10]; rfl))))))
  exact sbT hb10 (Xg rfl (Xg rfl (Xg rfl (Xa rfl (Kg10 _ (Ag.put ((Ag.put ((Ag.put ((Ag.put (Ag.base rfl) rfl)) rfl)) rfl)) rfl) (by rw [hb10]; rfl))))))
 refine dn (cd rfl (fun h11 => ?_) (fun h11 => ?_))
 ·
  refine sr (Xa rfl (dn ?_))
  exact re rfl func33 rfl (r_t rfl Xd) rfl ⟨_, rfl, rfl, z.ky (kp0.st p2 rfl)⟩
 refine sk (sq (sr (fa' fa28_0 rfl (ld' B2 u3 rfl (Xa rfl (Xa rfl (ji [] (fun (y13 : Bool) e w => ∃ (s : St) (e0 : Env), w = s.w ∧ e = upd (upd e0 1 (pB b2)) 33 (.bool y13) ∧ Kp s0 s ∧ BlF s b2 28 [(iI a0.Kind), (iI a0.N), w0_0, w0_1] 40) (fun Gj13 Kj13 => ?_) ?_)))))))
 ·
  rcases bft (a0.Kind != (2 : Int)) with hb13 | hb13
  ·
   refine sbT hb13 ?_
   rw [if_pos hb13]
   refine fa' fa28_2 rfl (ld' B2 u22 rfl (clV 41 rfl func37 rfl (spec_FloatBits.calls a0.F s2.w (mm [] s2) w0_0 (fl_rdf (s := s2) (fl_of h0_0))) (fun r14 s15 p15 n15 => ?_)))
   refine Xa rfl (Xa rfl ?_)
   exact Kj13 _ _ _ ⟨s15, _, rfl, (ue (ue rfl rfl) rfl), (kp0.st (tr2 p2 p15) rfl), (B2.st p15 rfl)⟩
  refine sbT hb13 ?_
  rw [if_neg (by rw [hb13]; decide)]
  refine Xg rfl (Xg rfl (Xg rfl (Xg rfl (Xa rfl ?_))))
  exact Kj13 _ _ _ ⟨s2, _, rfl, (ue (ue rfl rfl) rfl), (kp0.st p2 rfl), B2⟩
 rintro y13 _ _ ⟨s19, _, rfl, rfl, Ky13, By13_b2⟩
 refine dn (cd rfl (fun h21 => ?_) (fun h21 => ?_))
 ·
  exact sr (Xa rfl (dn (re rfl func33 rfl (r_t rfl Xd) rfl ⟨_, rfl, rfl, z.ky Ky13⟩)))
 refine sk (sr (fa' fa28_0 rfl (ld' By13_b2 u3 rfl (Xa rfl (Xa rfl (jy [37, 38, 39, 40, 41, 42] [9] 42 (.bool ((a0.Kind == (3 : Int)) || ((a0.T.length : Int) == (0 : Int)))) rfl (fun Kg22 => ?_) (fun j22 => ?_)))))))
 ·
  rcases bft (a0.Kind == (3 : Int)) with hb22 | hb22
  ·
   exact sbT hb22 (Xg rfl (Xg rfl (Xg rfl (Xg rfl (Xa rfl (Kg22 _ (Ag.put ((Ag.put ((Ag.put ((Ag.put ((Ag.put (Ag.base rfl) rfl)) rfl)) rfl)) rfl)) rfl) (by rw [hb22]; rfl)))))))
  refine sbT hb22 (fa' fa28_3 rfl (ld' By13_b2 u23 rfl ?_))
  exact ln' (A0_1.kp Ky13) u23 rfl (Xa rfl (Xa rfl (Kg22 _ (Ag.put ((Ag.put ((Ag.put ((Ag.put ((Ag.put (Ag.base rfl) rfl)) rfl)) rfl)) rfl)) rfl) (by rw [hb22]; rfl))))
 exact Xa rfl (dn (re rfl func33 rfl (r_t rfl Xd) rfl ⟨_, rfl, rfl, z.ky Ky13⟩))
def spec_l18digits0.b1 (x12 : Int × (List Int)) (x27 : (List Int) × Int) : Option (((List Int) × Int) ⊕ (List Int)) :=
 (if (decide (x27.2 ≥ (0 : Int))) = true then (if 0 ≤ x27.2 ∧ x27.2 < ((x12.2 ++ [(IntKind.wrap .u8 (IntKind.wrap .i64 ((48 : Int) + x12.1)))]).length : Int) then (if x27.1.length + ([(at_ (x12.2 ++ [(IntKind.wrap .u8 (IntKind.wrap .i64 ((48 : Int) + x12.1)))]) x27.2)]).length ≤ Lim then (some (Sum.inl ((x27.1 ++ [(at_ (x12.2 ++ [(IntKind.wrap .u8 (IntKind.wrap .i64 ((48 : Int) + x12.1)))]) x27.2)]), (IntKind.wrap .i64 (x27.2 - (1 : Int)))))) else none) else none) else ((some x27.1).bind fun o => some (Sum.inr o)))
def spec_l18digits0.b0  (x12 : Int × (List Int)) : Option ((Int × (List Int)) ⊕ (List Int)) :=
 (if (decide (x12.1 > (9 : Int))) = true then (if x12.2.length + ([(IntKind.wrap .u8 (IntKind.wrap .i64 ((48 : Int) + (x12.1.tmod (10 : Int)))))]).length ≤ Lim then (some (Sum.inl ((IntKind.wrap .i64 (x12.1.tdiv (10 : Int))), (x12.2 ++ [(IntKind.wrap .u8 (IntKind.wrap .i64 ((48 : Int) + (x12.1.tmod (10 : Int)))))])))) else none) else ((if x12.2.length + ([(IntKind.wrap .u8 (IntKind.wrap .i64 ((48 : Int) + x12.1)))]).length ≤ Lim then (iter (spec_l18digits0.b1 x12) (([] : (List Int)), (IntKind.wrap .i64 (((x12.2 ++ [(IntKind.wrap .u8 (IntKind.wrap .i64 ((48 : Int) + x12.1)))]).length : Int) - (1 : Int))))) else none).bind fun o => some (Sum.inr o)))
def spec_l18digits0.f (a0 : Int) : Option ((List Int)) :=
 (if (a0 == (-9223372036854775808 : Int)) = true then (some ([(45 : Int), (57 : Int), (50 : Int), (50 : Int), (51 : Int), (51 : Int), (55 : Int), (50 : Int), (48 : Int), (51 : Int), (54 : Int), (56 : Int), (53 : Int), (52 : Int), (55 : Int), (55 : Int), (53 : Int), (56 : Int), (48 : Int), (56 : Int)])) else (if (decide (a0 < (0 : Int))) = true then none else (iter spec_l18digits0.b0 (a0, ([] : (List Int))))))
def spec_l18digits0.Q (w : World) (F : Nat → Prop) (r : (List Int)) (v : Value) (w' : World) : Prop :=
 FO Xk w w' [v] r ∧ Ky [] w w'
theorem spec_l18digits0.calls (a0 : Int) (w : World) (F : Nat → Prop)   (r : (List Int)) (m : spec_l18digits0.f a0 = some r) :
  Calls prog 34 #[(iI a0)] w (RT (spec_l18digits0.Q w F) r) := by
 obtain ⟨s0, rfl, kp0, z⟩ := Xi w F
 refine Xc (args := [(iI a0)]) func34 ntmps34 rfl rfl m ?_
 unfold spec_l18digits0.f
 refine sr (Xa rfl (dn (sq (sr (Xa rfl (Xa rfl (dn (cd rfl (fun h1 => ?_) (fun h1 => ?_)))))))))
 ·
  refine sr (ltF' (K := (Kd.int .u8)) (cells := [(.int .u8 (45 : Int)), (.int .u8 (57 : Int)), (.int .u8 (50 : Int)), (.int .u8 (50 : Int)), (.int .u8 (51 : Int)), (.int .u8 (51 : Int)), (.int .u8 (55 : Int)), (.int .u8 (50 : Int)), (.int .u8 (48 : Int)), (.int .u8 (51 : Int)), (.int .u8 (54 : Int)), (.int .u8 (56 : Int)), (.int .u8 (53 : Int)), (.int .u8 (52 : Int)), (.int .u8 (55 : Int)), (.int .u8 (55 : Int)), (.int .u8 (53 : Int)), (.int .u8 (56 : Int)), (.int .u8 (48 : Int)), (.int .u8 (56 : Int))]) [(45 : Int), (57 : Int), (50 : Int), (50 : Int), (51 : Int), (51 : Int), (55 : Int), (50 : Int), (48 : Int), (51 : Int), (54 : Int), (56 : Int), (53 : Int), (52 : Int), (55 : Int), (55 : Int), (53 : Int), (56 : Int), (48 : Int), (56 : Int)] 40 Xf u23 z5 o5 (fun w => (Xh _ _ _)) rfl (lfill_c rfl rfl rfl rfl rfl) (fun v2 s2 p2 A2 => ?_))
  refine cvm A2 rfl u23 u5 rfl rfl rfl rfl rfl rfl (fun s4 p4 A4 => ?_)
  refine asg' v2 rfl (dn ?_)
  have K6 := kp0.st (tr2 p2 p4) rfl
  exact re rfl func34 rfl (r_t rfl Xd) rfl ⟨_, rfl, A4.fo K6 rfl z.l, z.ky K6⟩
 refine sk (sq (sr (Xa rfl (Xa rfl (dn (cd rfl (fun h7 => ?_) (fun h7 => ?_)))))))
 ·
  refine sr (ltF' (K := (Kd.int .u8)) (cells := [(.int .u8 (45 : Int))]) [(45 : Int)] 41 Xf u23 z5 o5 (fun w => (Xh _ _ _)) rfl rfl (fun v8 s8 p8 A8 => ?_))
  refine cvm A8 rfl u23 u5 rfl rfl rfl rfl rfl rfl (fun s10 p10 A10 => ?_)
  exact Xa rfl (Xa rfl mn)
 refine sk (sr (Xa rfl (dn (sq (bl (lpI (fun (x12 : Int × (List Int)) e w => ∃ (s : St) (e0 : Env) (vx12_0 : Value), w = s.w ∧ e = upd (upd e0 0 (iI x12.1)) 3 vx12_0 ∧ Kp s0 s ∧ OwF Xk s [vx12_0] x12.2 42) ⟨s0, _, (.slice none 0 0), rfl, (ue (ue rfl rfl) rfl), kp0, (ow_nil 5 (Kd.int .u8) _ 42)⟩ (fun g12 ih12 => ?_)))))))
 rintro x12 _ _ ⟨s13, _, vx12_0, rfl, rfl, Kx12, Ax12_0⟩
 unfold spec_l18digits0.b0
 refine sq (sr (Xa rfl (Xa rfl (dn (cd rfl (fun h15 => ?_) (fun h15 => ?_))))))
 ·
  refine sk (bl (sr (Xj vx12_0 rfl (Xa rfl (remK rfl rfl rfl rfl rfl rfl rfl rfl (Xa rfl (cv u5 u3 rfl rfl rfl rfl rfl rfl (ltF' (K := (Kd.int .u8)) (cells := [(.int .u8 (IntKind.wrap .u8 (IntKind.wrap .i64 ((48 : Int) + (x12.1.tmod (10 : Int))))))]) [(IntKind.wrap .u8 (IntKind.wrap .i64 ((48 : Int) + (x12.1.tmod (10 : Int)))))] 43 Xf u23 z5 o5 (fun w => (Xh _ _ _)) rfl rfl (fun v16 s16 p16 A16 => ?_)))))))))
  refine apF Xf sl23 (Ax12_0.st p16 rfl) A16.rd rfl rfl rfl rfl rfl rfl rfl (fun v19 s19 p19 A19 => ?_)
  refine asg' v19 rfl (dn (rg (Xa rfl (quoK rfl rfl rfl rfl rfl rfl rfl rfl (Xa rfl (dn (ib ?_)))))))
  exact lb ih12 ⟨s19, _, v19, rfl, (ue (ue rfl rfl) rfl), (Kx12.st (tr2 p16 p19) rfl), A19⟩
 refine xt rfl (sgb (sr (Xj vx12_0 rfl (Xa rfl (Xa rfl (cv u5 u3 rfl rfl rfl rfl rfl rfl (ltF' (K := (Kd.int .u8)) (cells := [(.int .u8 (IntKind.wrap .u8 (IntKind.wrap .i64 ((48 : Int) + x12.1))))]) [(IntKind.wrap .u8 (IntKind.wrap .i64 ((48 : Int) + x12.1)))] 44 Xf u23 z5 o5 (fun w => (Xh _ _ _)) rfl rfl (fun v22 s22 p22 A22 => ?_))))))))
 refine apF Xf sl23 (Ax12_0.st p22 rfl) A22.rd rfl rfl rfl rfl rfl rfl rfl (fun v25 s25 p25 A25 => ?_)
 refine asg' v25 rfl (dn (sr (Xa rfl (dn (sq (sr (Xj v25 rfl (ln' A25.rd u23 rfl (Xa rfl (Xa rfl (dn (bl ?_))))))))))))
 refine lpI (fun (x27 : (List Int) × Int) e w => ∃ (s : St) (e0 : Env) (vx27_0 : Value), w = s.w ∧ e = upd (upd (upd e0 3 v25) 4 vx27_0) 5 (iI x27.2) ∧ Kp s0 s ∧ OwF Xk s [vx27_0] x27.1 45 ∧ OwF Xk s [v25] (x12.2 ++ [(IntKind.wrap .u8 (IntKind.wrap .i64 ((48 : Int) + x12.1)))]) 42) ⟨s25, _, (.slice none 0 0), rfl, (ue (ue (ue rfl rfl) rfl) rfl), (Kx12.st (tr2 p22 p25) rfl), (ow_nil 5 (Kd.int .u8) _ 45), A25⟩ (fun g27 ih27 => ?_)
 rintro x27 _ _ ⟨s29, _, vx27_0, rfl, rfl, Kx27, Ax27_0, Cx27_26⟩
 unfold spec_l18digits0.b1
 refine sq (sr (Xa rfl (Xa rfl (dn (cd rfl (fun h31 => ?_) (fun h31 => ?_))))))
 ·
  refine sk (sq (bl (rg (Xj vx27_0 rfl (Xj v25 rfl (Xa rfl (ix' Cx27_26.rd u23 z5 rfl (fun ad32 es32 h0_32 h1_32 he32 ce32 ia32 => ?_))))))))
  obtain rfl := he32
  refine lc0' ce32 u5 rfl (ltF' (K := (Kd.int .u8)) (cells := [(.int .u8 (at_ (x12.2 ++ [(IntKind.wrap .u8 (IntKind.wrap .i64 ((48 : Int) + x12.1)))]) x27.2))]) [(at_ (x12.2 ++ [(IntKind.wrap .u8 (IntKind.wrap .i64 ((48 : Int) + x12.1)))]) x27.2)] 46 Xf u23 z5 o5 (fun w => (Xh _ _ _)) rfl rfl (fun v34 s34 p34 A34 => ?_))
  refine apF Xf sl23 (Ax27_0.st p34 rfl) A34.rd rfl rfl rfl rfl rfl rfl rfl (fun v37 s37 p37 A37 => ?_)
  refine asg' v37 rfl (dn (ib (rg (Xa rfl (Xa rfl (Xa rfl (dn ?_)))))))
  exact lb ih27 ⟨s37, _, v37, rfl, (ue (ue (ue rfl rfl) rfl) rfl), (Kx27.st (tr2 p34 p37) rfl), A37, (Cx27_26.st (tr2 p34 p37) rfl)⟩
 exact xt rfl (sgb (sr (Xj vx27_0 rfl (asg' vx27_0 rfl (dn (re rfl func34 rfl (r_t rfl Xd) rfl ⟨_, rfl, Ax27_0.fo Kx27 rfl z.l, z.ky Kx27⟩))))))
def spec_l18digits.b1 (x19 : Int × (List Int)) (x34 : (List Int) × Int) : Option (((List Int) × Int) ⊕ (List Int)) :=
 (if (decide (x34.2 ≥ (0 : Int))) = true then (if 0 ≤ x34.2 ∧ x34.2 < ((x19.2 ++ [(IntKind.wrap .u8 (IntKind.wrap .i64 ((48 : Int) + x19.1)))]).length : Int) then (if x34.1.length + ([(at_ (x19.2 ++ [(IntKind.wrap .u8 (IntKind.wrap .i64 ((48 : Int) + x19.1)))]) x34.2)]).length ≤ Lim then (some (Sum.inl ((x34.1 ++ [(at_ (x19.2 ++ [(IntKind.wrap .u8 (IntKind.wrap .i64 ((48 : Int) + x19.1)))]) x34.2)]), (IntKind.wrap .i64 (x34.2 - (1 : Int)))))) else none) else none) else ((some x34.1).bind fun o => some (Sum.inr o)))
def spec_l18digits.b0  (x19 : Int × (List Int)) : Option ((Int × (List Int)) ⊕ (List Int)) :=
 (if (decide (x19.1 > (9 : Int))) = true then (if x19.2.length + ([(IntKind.wrap .u8 (IntKind.wrap .i64 ((48 : Int) + (x19.1.tmod (10 : Int)))))]).length ≤ Lim then (some (Sum.inl ((IntKind.wrap .i64 (x19.1.tdiv (10 : Int))), (x19.2 ++ [(IntKind.wrap .u8 (IntKind.wrap .i64 ((48 : Int) + (x19.1.tmod (10 : Int)))))])))) else none) else ((if x19.2.length + ([(IntKind.wrap .u8 (IntKind.wrap .i64 ((48 : Int) + x19.1)))]).length ≤ Lim then (iter (spec_l18digits.b1 x19) (([] : (List Int)), (IntKind.wrap .i64 (((x19.2 ++ [(IntKind.wrap .u8 (IntKind.wrap .i64 ((48 : Int) + x19.1)))]).length : Int) - (1 : Int))))) else none).bind fun o => some (Sum.inr o)))
def spec_l18digits.f (a0 : Int) : Option ((List Int)) :=
 (if (a0 == (-9223372036854775808 : Int)) = true then (some ([(45 : Int), (57 : Int), (50 : Int), (50 : Int), (51 : Int), (51 : Int), (55 : Int), (50 : Int), (48 : Int), (51 : Int), (54 : Int), (56 : Int), (53 : Int), (52 : Int), (55 : Int), (55 : Int), (53 : Int), (56 : Int), (48 : Int), (56 : Int)])) else (if (decide (a0 < (0 : Int))) = true then ((spec_l18digits0.f (IntKind.wrap .i64 (0 - a0))).bind fun r12 => (if ([(45 : Int)]).length + r12.length ≤ Lim then (some ([(45 : Int)] ++ r12)) else none)) else (iter spec_l18digits.b0 (a0, ([] : (List Int))))))
def spec_l18digits.Q (w : World) (F : Nat → Prop) (r : (List Int)) (v : Value) (w' : World) : Prop :=
 FO Xk w w' [v] r ∧ Ky [] w w'
theorem spec_l18digits.calls (a0 : Int) (w : World) (F : Nat → Prop)   (r : (List Int)) (m : spec_l18digits.f a0 = some r) :
  Calls prog 34 #[(iI a0)] w (RT (spec_l18digits.Q w F) r) := by
 obtain ⟨s0, rfl, kp0, z⟩ := Xi w F
 refine Xc (args := [(iI a0)]) func34 ntmps34 rfl rfl m ?_
 unfold spec_l18digits.f
 refine sr (Xa rfl (dn (sq (sr (Xa rfl (Xa rfl (dn (cd rfl (fun h1 => ?_) (fun h1 => ?_)))))))))
 ·
  refine sr (ltF' (K := (Kd.int .u8)) (cells := [(.int .u8 (45 : Int)), (.int .u8 (57 : Int)), (.int .u8 (50 : Int)), (.int .u8 (50 : Int)), (.int .u8 (51 : Int)), (.int .u8 (51 : Int)), (.int .u8 (55 : Int)), (.int .u8 (50 : Int)), (.int .u8 (48 : Int)), (.int .u8 (51 : Int)), (.int .u8 (54 : Int)), (.int .u8 (56 : Int)), (.int .u8 (53 : Int)), (.int .u8 (52 : Int)), (.int .u8 (55 : Int)), (.int .u8 (55 : Int)), (.int .u8 (53 : Int)), (.int .u8 (56 : Int)), (.int .u8 (48 : Int)), (.int .u8 (56 : Int))]) [(45 : Int), (57 : Int), (50 : Int), (50 : Int), (51 : Int), (51 : Int), (55 : Int), (50 : Int), (48 : Int), (51 : Int), (54 : Int), (56 : Int), (53 : Int), (52 : Int), (55 : Int), (55 : Int), (53 : Int), (56 : Int), (48 : Int), (56 : Int)] 40 Xf u23 z5 o5 (fun w => (Xh _ _ _)) rfl (lfill_c rfl rfl rfl rfl rfl) (fun v2 s2 p2 A2 => ?_))
  refine cvm A2 rfl u23 u5 rfl rfl rfl rfl rfl rfl (fun s4 p4 A4 => ?_)
  refine asg' v2 rfl (dn ?_)
  have K6 := kp0.st (tr2 p2 p4) rfl
  exact re rfl func34 rfl (r_t rfl Xd) rfl ⟨_, rfl, A4.fo K6 rfl z.l, z.ky K6⟩
 refine sk (sq (sr (Xa rfl (Xa rfl (dn (cd rfl (fun h7 => ?_) (fun h7 => ?_)))))))
 ·
  refine sr (ltF' (K := (Kd.int .u8)) (cells := [(.int .u8 (45 : Int))]) [(45 : Int)] 41 Xf u23 z5 o5 (fun w => (Xh _ _ _)) rfl rfl (fun v8 s8 p8 A8 => ?_))
  refine cvm A8 rfl u23 u5 rfl rfl rfl rfl rfl rfl (fun s10 p10 A10 => ?_)
  refine Xa rfl (Xa rfl (clO 42 rfl func34 rfl (spec_l18digits0.calls (IntKind.wrap .i64 (0 - a0)) s10.w (mm [] s10)) (fun r12 v12_0 s13 p13 A12_0 => ?_)))
  refine apF Xf sl23 (A10.st p13 rfl) A12_0.rd rfl rfl rfl rfl rfl rfl rfl (fun v16 s16 p16 A16 => ?_)
  refine asg' v16 rfl (dn ?_)
  have K18 := kp0.st (tr4 p8 p10 p13 p16) rfl
  exact re rfl func34 rfl (r_t rfl Xd) rfl ⟨_, rfl, A16.fo K18 rfl z.l, z.ky K18⟩
 refine sk (sr (Xa rfl (dn (sq (bl (lpI (fun (x19 : Int × (List Int)) e w => ∃ (s : St) (e0 : Env) (vx19_0 : Value), w = s.w ∧ e = upd (upd e0 0 (iI x19.1)) 3 vx19_0 ∧ Kp s0 s ∧ OwF Xk s [vx19_0] x19.2 43) ⟨s0, _, (.slice none 0 0), rfl, (ue (ue rfl rfl) rfl), kp0, (ow_nil 5 (Kd.int .u8) _ 43)⟩ (fun g19 ih19 => ?_)))))))
 rintro x19 _ _ ⟨s20, _, vx19_0, rfl, rfl, Kx19, Ax19_0⟩
 unfold spec_l18digits.b0
 refine sq (sr (Xa rfl (Xa rfl (dn (cd rfl (fun h22 => ?_) (fun h22 => ?_))))))
 ·
  refine sk (bl (sr (Xj vx19_0 rfl (Xa rfl (remK rfl rfl rfl rfl rfl rfl rfl rfl (Xa rfl (cv u5 u3 rfl rfl rfl rfl rfl rfl (ltF' (K := (Kd.int .u8)) (cells := [(.int .u8 (IntKind.wrap .u8 (IntKind.wrap .i64 ((48 : Int) + (x19.1.tmod (10 : Int))))))]) [(IntKind.wrap .u8 (IntKind.wrap .i64 ((48 : Int) + (x19.1.tmod (10 : Int)))))] 44 Xf u23 z5 o5 (fun w => (Xh _ _ _)) rfl rfl (fun v23 s23 p23 A23 => ?_)))))))))
  refine apF Xf sl23 (Ax19_0.st p23 rfl) A23.rd rfl rfl rfl rfl rfl rfl rfl (fun v26 s26 p26 A26 => ?_)
  refine asg' v26 rfl (dn (rg (Xa rfl (quoK rfl rfl rfl rfl rfl rfl rfl rfl (Xa rfl (dn (ib ?_)))))))
  exact lb ih19 ⟨s26, _, v26, rfl, (ue (ue rfl rfl) rfl), (Kx19.st (tr2 p23 p26) rfl), A26⟩
 refine xt rfl (sgb (sr (Xj vx19_0 rfl (Xa rfl (Xa rfl (cv u5 u3 rfl rfl rfl rfl rfl rfl (ltF' (K := (Kd.int .u8)) (cells := [(.int .u8 (IntKind.wrap .u8 (IntKind.wrap .i64 ((48 : Int) + x19.1))))]) [(IntKind.wrap .u8 (IntKind.wrap .i64 ((48 : Int) + x19.1)))] 45 Xf u23 z5 o5 (fun w => (Xh _ _ _)) rfl rfl (fun v29 s29 p29 A29 => ?_))))))))
 refine apF Xf sl23 (Ax19_0.st p29 rfl) A29.rd rfl rfl rfl rfl rfl rfl rfl (fun v32 s32 p32 A32 => ?_)
 refine asg' v32 rfl (dn (sr (Xa rfl (dn (sq (sr (Xj v32 rfl (ln' A32.rd u23 rfl (Xa rfl (Xa rfl (dn (bl ?_))))))))))))
 refine lpI (fun (x34 : (List Int) × Int) e w => ∃ (s : St) (e0 : Env) (vx34_0 : Value), w = s.w ∧ e = upd (upd (upd e0 3 v32) 4 vx34_0) 5 (iI x34.2) ∧ Kp s0 s ∧ OwF Xk s [vx34_0] x34.1 46 ∧ OwF Xk s [v32] (x19.2 ++ [(IntKind.wrap .u8 (IntKind.wrap .i64 ((48 : Int) + x19.1)))]) 43) ⟨s32, _, (.slice none 0 0), rfl, (ue (ue (ue rfl rfl) rfl) rfl), (Kx19.st (tr2 p29 p32) rfl), (ow_nil 5 (Kd.int .u8) _ 46), A32⟩ (fun g34 ih34 => ?_)
 rintro x34 _ _ ⟨s36, _, vx34_0, rfl, rfl, Kx34, Ax34_0, Cx34_33⟩
 unfold spec_l18digits.b1
 refine sq (sr (Xa rfl (Xa rfl (dn (cd rfl (fun h38 => ?_) (fun h38 => ?_))))))
 ·
  refine sk (sq (bl (rg (Xj vx34_0 rfl (Xj v32 rfl (Xa rfl (ix' Cx34_33.rd u23 z5 rfl (fun ad39 es39 h0_39 h1_39 he39 ce39 ia39 => ?_))))))))
  obtain rfl := he39
  refine lc0' ce39 u5 rfl (ltF' (K := (Kd.int .u8)) (cells := [(.int .u8 (at_ (x19.2 ++ [(IntKind.wrap .u8 (IntKind.wrap .i64 ((48 : Int) + x19.1)))]) x34.2))]) [(at_ (x19.2 ++ [(IntKind.wrap .u8 (IntKind.wrap .i64 ((48 : Int) + x19.1)))]) x34.2)] 47 Xf u23 z5 o5 (fun w => (Xh _ _ _)) rfl rfl (fun v41 s41 p41 A41 => ?_))
  refine apF Xf sl23 (Ax34_0.st p41 rfl) A41.rd rfl rfl rfl rfl rfl rfl rfl (fun v44 s44 p44 A44 => ?_)
  refine asg' v44 rfl (dn (ib (rg (Xa rfl (Xa rfl (Xa rfl (dn ?_)))))))
  exact lb ih34 ⟨s44, _, v44, rfl, (ue (ue (ue rfl rfl) rfl) rfl), (Kx34.st (tr2 p41 p44) rfl), A44, (Cx34_33.st (tr2 p41 p44) rfl)⟩
 exact xt rfl (sgb (sr (Xj vx34_0 rfl (asg' vx34_0 rfl (dn (re rfl func34 rfl (r_t rfl Xd) rfl ⟨_, rfl, Ax34_0.fo Kx34 rfl z.l, z.ky Kx34⟩))))))
def spec_l3high.b0 (a0 : Int) (x1 : (List Int) × Int) : Option (((List Int) × Int) ⊕ (List Int)) :=
 (if (decide (x1.2 ≥ (0 : Int))) = true then (if 0 ≤ (IntKind.wrap .u64 (IntKind.wrap .i64 ((8 : Int) * x1.2))) then (if x1.1.length + ([(IntKind.wrap .u8 (iand .u64 (ishr .u64 a0 (IntKind.wrap .u64 (IntKind.wrap .i64 ((8 : Int) * x1.2)))) (255 : Int)))]).length ≤ Lim then (some (Sum.inl ((x1.1 ++ [(IntKind.wrap .u8 (iand .u64 (ishr .u64 a0 (IntKind.wrap .u64 (IntKind.wrap .i64 ((8 : Int) * x1.2)))) (255 : Int)))]), (IntKind.wrap .i64 (x1.2 - (1 : Int)))))) else none) else none) else ((some x1.1).bind fun o => some (Sum.inr o)))
def spec_l3high.f (a0 : Int) : Option ((List Int)) :=
 (iter (spec_l3high.b0 a0) (([] : (List Int)), (7 : Int)))
def spec_l3high.Q (w : World) (F : Nat → Prop) (r : (List Int)) (v : Value) (w' : World) : Prop :=
 FO Xk w w' [v] r ∧ Ky [] w w'
theorem spec_l3high.calls (a0 : Int) (w : World) (F : Nat → Prop)   (r : (List Int)) (m : spec_l3high.f a0 = some r) :
  Calls prog 36 #[(.int .u64 a0)] w (RT (spec_l3high.Q w F) r) := by
 obtain ⟨s0, rfl, kp0, z⟩ := Xi w F
 refine Xc (args := [(.int .u64 a0)]) func36 ntmps36 rfl rfl m ?_
 unfold spec_l3high.f
 refine sr (Xa rfl (dn (sr (Xa rfl (dn (sq (sr (Xa rfl (dn (bl (lpI (fun (x1 : (List Int) × Int) e w => ∃ (s : St) (e0 : Env) (vx1_0 : Value), w = s.w ∧ e = upd (upd (upd e0 0 (.int .u64 a0)) 3 vx1_0) 4 (iI x1.2) ∧ Kp s0 s ∧ OwF Xk s [vx1_0] x1.1 40) ⟨s0, _, (.slice none 0 0), rfl, (ue (ue (ue rfl rfl) rfl) rfl), kp0, (ow_nil 5 (Kd.int .u8) _ 40)⟩ (fun g1 ih1 => ?_))))))))))))
 rintro x1 _ _ ⟨s2, _, vx1_0, rfl, rfl, Kx1, Ax1_0⟩
 unfold spec_l3high.b0
 refine sq (sr (Xa rfl (Xa rfl (dn (cd rfl (fun h4 => ?_) (fun h4 => ?_))))))
 ·
  refine sk (sq (bl (rg (Xj vx1_0 rfl (Xa rfl (Xa rfl (Xa rfl (cv u92 u3 rfl rfl rfl rfl rfl rfl (shr_ rfl rfl rfl rfl rfl rfl rfl (Xa rfl (cv u5 u65 rfl rfl rfl rfl rfl rfl (ltF' (K := (Kd.int .u8)) (cells := [(.int .u8 (IntKind.wrap .u8 (iand .u64 (ishr .u64 a0 (IntKind.wrap .u64 (IntKind.wrap .i64 ((8 : Int) * x1.2)))) (255 : Int))))]) [(IntKind.wrap .u8 (iand .u64 (ishr .u64 a0 (IntKind.wrap .u64 (IntKind.wrap .i64 ((8 : Int) * x1.2)))) (255 : Int)))] 41 Xf u23 z5 o5 (fun w => (Xh _ _ _)) rfl rfl (fun v5 s5 p5 A5 => ?_)))))))))))))
  refine apF Xf sl23 (Ax1_0.st p5 rfl) A5.rd rfl rfl rfl rfl rfl rfl rfl (fun v8 s8 p8 A8 => ?_)
  refine asg' v8 rfl (dn (ib (rg (Xa rfl (Xa rfl (Xa rfl (dn ?_)))))))
  exact lb ih1 ⟨s8, _, v8, rfl, (ue (ue (ue rfl rfl) rfl) rfl), (Kx1.st (tr2 p5 p8) rfl), A8⟩
 exact xt rfl (sgb (sr (Xj vx1_0 rfl (asg' vx1_0 rfl (dn (re rfl func36 rfl (r_t rfl Xd) rfl ⟨_, rfl, Ax1_0.fo Kx1 rfl z.l, z.ky Kx1⟩))))))
def spec_l18hex.b0 (a0 : (List Int)) (x6 : (List Int) × Int) : Option (((List Int) × Int) ⊕ (List Int)) :=
 (if (decide (x6.2 < (a0.length : Int))) = true then (if 0 ≤ x6.2 ∧ x6.2 < (a0.length : Int) then (if 0 ≤ (IntKind.wrap .u8 ((at_ a0 x6.2).tdiv (16 : Int))) ∧ (IntKind.wrap .u8 ((at_ a0 x6.2).tdiv (16 : Int))) < (([(48 : Int), (49 : Int), (50 : Int), (51 : Int), (52 : Int), (53 : Int), (54 : Int), (55 : Int), (56 : Int), (57 : Int), (97 : Int), (98 : Int), (99 : Int), (100 : Int), (101 : Int), (102 : Int)]).length : Int) then (if x6.1.length + ([(at_ ([(48 : Int), (49 : Int), (50 : Int), (51 : Int), (52 : Int), (53 : Int), (54 : Int), (55 : Int), (56 : Int), (57 : Int), (97 : Int), (98 : Int), (99 : Int), (100 : Int), (101 : Int), (102 : Int)]) (IntKind.wrap .u8 ((at_ a0 x6.2).tdiv (16 : Int))))]).length ≤ Lim then (if 0 ≤ x6.2 ∧ x6.2 < (a0.length : Int) then (if 0 ≤ ((at_ a0 x6.2).tmod (16 : Int)) ∧ ((at_ a0 x6.2).tmod (16 : Int)) < (([(48 : Int), (49 : Int), (50 : Int), (51 : Int), (52 : Int), (53 : Int), (54 : Int), (55 : Int), (56 : Int), (57 : Int), (97 : Int), (98 : Int), (99 : Int), (100 : Int), (101 : Int), (102 : Int)]).length : Int) then (if (x6.1 ++ [(at_ ([(48 : Int), (49 : Int), (50 : Int), (51 : Int), (52 : Int), (53 : Int), (54 : Int), (55 : Int), (56 : Int), (57 : Int), (97 : Int), (98 : Int), (99 : Int), (100 : Int), (101 : Int), (102 : Int)]) (IntKind.wrap .u8 ((at_ a0 x6.2).tdiv (16 : Int))))]).length + ([(at_ ([(48 : Int), (49 : Int), (50 : Int), (51 : Int), (52 : Int), (53 : Int), (54 : Int), (55 : Int), (56 : Int), (57 : Int), (97 : Int), (98 : Int), (99 : Int), (100 : Int), (101 : Int), (102 : Int)]) ((at_ a0 x6.2).tmod (16 : Int)))]).length ≤ Lim then (some (Sum.inl (((x6.1 ++ [(at_ ([(48 : Int), (49 : Int), (50 : Int), (51 : Int), (52 : Int), (53 : Int), (54 : Int), (55 : Int), (56 : Int), (57 : Int), (97 : Int), (98 : Int), (99 : Int), (100 : Int), (101 : Int), (102 : Int)]) (IntKind.wrap .u8 ((at_ a0 x6.2).tdiv (16 : Int))))]) ++ [(at_ ([(48 : Int), (49 : Int), (50 : Int), (51 : Int), (52 : Int), (53 : Int), (54 : Int), (55 : Int), (56 : Int), (57 : Int), (97 : Int), (98 : Int), (99 : Int), (100 : Int), (101 : Int), (102 : Int)]) ((at_ a0 x6.2).tmod (16 : Int)))]), (IntKind.wrap .i64 (x6.2 + (1 : Int)))))) else none) else none) else none) else none) else none) else none) else ((some x6.1).bind fun o => some (Sum.inr o)))
def spec_l18hex.f (a0 : (List Int)) : Option ((List Int)) :=
 (iter (spec_l18hex.b0 a0) (([] : (List Int)), (0 : Int)))
def spec_l18hex.Q (w : World) (F : Nat → Prop) (r : (List Int)) (v : Value) (w' : World) : Prop :=
 FO Xk w w' [v] r ∧ Ky [] w w'
theorem spec_l18hex.calls (a0 : (List Int)) (w : World) (F : Nat → Prop) (w0_0 : Value) (h0_0 : Xk.rd w [w0_0] a0 F) (r : (List Int)) (m : spec_l18hex.f a0 = some r) :
  Calls prog 35 #[w0_0] w (RT (spec_l18hex.Q w F) r) := by
 obtain ⟨s0, rfl, kp0, z⟩ := Xi w F
 have A0_0 := z.rd h0_0
 refine Xc (args := [w0_0]) func35 ntmps35 rfl rfl m ?_
 unfold spec_l18hex.f
 refine sr (Xa rfl (dn (sr (Xa rfl (dn (sr (ltF' (K := (Kd.int .u8)) (cells := [(.int .u8 (48 : Int)), (.int .u8 (49 : Int)), (.int .u8 (50 : Int)), (.int .u8 (51 : Int)), (.int .u8 (52 : Int)), (.int .u8 (53 : Int)), (.int .u8 (54 : Int)), (.int .u8 (55 : Int)), (.int .u8 (56 : Int)), (.int .u8 (57 : Int)), (.int .u8 (97 : Int)), (.int .u8 (98 : Int)), (.int .u8 (99 : Int)), (.int .u8 (100 : Int)), (.int .u8 (101 : Int)), (.int .u8 (102 : Int))]) [(48 : Int), (49 : Int), (50 : Int), (51 : Int), (52 : Int), (53 : Int), (54 : Int), (55 : Int), (56 : Int), (57 : Int), (97 : Int), (98 : Int), (99 : Int), (100 : Int), (101 : Int), (102 : Int)] 40 Xf u23 z5 o5 (fun w => (Xh _ _ _)) rfl (lfill_c rfl rfl rfl rfl rfl) (fun v2 s2 p2 A2 => ?_))))))))
 refine cvm A2 rfl u23 u5 rfl rfl rfl rfl rfl rfl (fun s4 p4 A4 => ?_)
 refine asg' v2 rfl (dn (sq (sr (Xa rfl (dn (bl ?_))))))
 refine lpI (fun (x6 : (List Int) × Int) e w => ∃ (s : St) (e0 : Env) (vx6_0 : Value), w = s.w ∧ e = upd (upd (upd (upd e0 0 w0_0) 3 vx6_0) 4 v2) 5 (iI x6.2) ∧ Kp s0 s ∧ OwF Xk s [vx6_0] x6.1 41 ∧ OwF Xk s [v2] ([(48 : Int), (49 : Int), (50 : Int), (51 : Int), (52 : Int), (53 : Int), (54 : Int), (55 : Int), (56 : Int), (57 : Int), (97 : Int), (98 : Int), (99 : Int), (100 : Int), (101 : Int), (102 : Int)]) 40) ⟨s4, _, (.slice none 0 0), rfl, (ue (ue (ue (ue rfl rfl) rfl) rfl) rfl), (kp0.st (tr2 p2 p4) rfl), (ow_nil 5 (Kd.int .u8) _ 41), A4⟩ (fun g6 ih6 => ?_)
 rintro x6 _ _ ⟨s8, _, vx6_0, rfl, rfl, Kx6, Ax6_0, Cx6_5⟩
 unfold spec_l18hex.b0
 refine sq (sr (Xa rfl (Xj w0_0 rfl ?_)))
 have A10 := A0_0.kp Kx6
 refine ln' A10 u23 rfl (Xa rfl (dn (cd rfl (fun h11 => ?_) (fun h11 => ?_))))
 ·
  refine sk (sq (bl (sr (Xj vx6_0 rfl (Xj v2 rfl (Xj w0_0 rfl (Xa rfl (ix' A10 u23 z5 rfl (fun ad12 es12 h0_12 h1_12 he12 ce12 ia12 => ?_)))))))))
  obtain rfl := he12
  refine lc0' ce12 u5 rfl (quoK rfl rfl rfl rfl rfl rfl rfl rfl (ix' Cx6_5.rd u23 z5 rfl (fun ad14 es14 h0_14 h1_14 he14 ce14 ia14 => ?_)))
  obtain rfl := he14
  refine lc0' ce14 u5 rfl (ltF' (K := (Kd.int .u8)) (cells := [(.int .u8 (at_ ([(48 : Int), (49 : Int), (50 : Int), (51 : Int), (52 : Int), (53 : Int), (54 : Int), (55 : Int), (56 : Int), (57 : Int), (97 : Int), (98 : Int), (99 : Int), (100 : Int), (101 : Int), (102 : Int)]) (IntKind.wrap .u8 ((at_ a0 x6.2).tdiv (16 : Int)))))]) [(at_ ([(48 : Int), (49 : Int), (50 : Int), (51 : Int), (52 : Int), (53 : Int), (54 : Int), (55 : Int), (56 : Int), (57 : Int), (97 : Int), (98 : Int), (99 : Int), (100 : Int), (101 : Int), (102 : Int)]) (IntKind.wrap .u8 ((at_ a0 x6.2).tdiv (16 : Int))))] 42 Xf u23 z5 o5 (fun w => (Xh _ _ _)) rfl rfl (fun v16 s16 p16 A16 => ?_))
  refine apF Xf sl23 (Ax6_0.st p16 rfl) A16.rd rfl rfl rfl rfl rfl rfl rfl (fun v19 s19 p19 A19 => ?_)
  refine asg' v19 rfl (dn (rg (Xj v19 rfl (Xj v2 rfl (Xj w0_0 rfl (Xa rfl ?_))))))
  have K21 := Kx6.st (tr2 p16 p19) rfl
  refine ix' (A0_0.kp K21) u23 z5 rfl (fun ad23 es23 h0_23 h1_23 he23 ce23 ia23 => ?_)
  obtain rfl := he23
  refine lc0' ce23 u5 rfl (remK rfl rfl rfl rfl rfl rfl rfl rfl ?_)
  have A25 := Cx6_5.st (tr2 p16 p19) rfl
  refine ix' A25.rd u23 z5 rfl (fun ad26 es26 h0_26 h1_26 he26 ce26 ia26 => ?_)
  obtain rfl := he26
  refine lc0' ce26 u5 rfl (ltF' (K := (Kd.int .u8)) (cells := [(.int .u8 (at_ ([(48 : Int), (49 : Int), (50 : Int), (51 : Int), (52 : Int), (53 : Int), (54 : Int), (55 : Int), (56 : Int), (57 : Int), (97 : Int), (98 : Int), (99 : Int), (100 : Int), (101 : Int), (102 : Int)]) ((at_ a0 x6.2).tmod (16 : Int))))]) [(at_ ([(48 : Int), (49 : Int), (50 : Int), (51 : Int), (52 : Int), (53 : Int), (54 : Int), (55 : Int), (56 : Int), (57 : Int), (97 : Int), (98 : Int), (99 : Int), (100 : Int), (101 : Int), (102 : Int)]) ((at_ a0 x6.2).tmod (16 : Int)))] 43 Xf u23 z5 o5 (fun w => (Xh _ _ _)) rfl rfl (fun v28 s28 p28 A28 => ?_))
  refine apF Xf sl23 (A19.st p28 rfl) A28.rd rfl rfl rfl rfl rfl rfl rfl (fun v31 s31 p31 A31 => ?_)
  refine asg' v31 rfl (dn (ib (rg (Xa rfl (Xa rfl (Xa rfl (dn ?_)))))))
  exact lb ih6 ⟨s31, _, v31, rfl, (ue (ue (ue (ue rfl rfl) rfl) rfl) rfl), (K21.st (tr2 p28 p31) rfl), A31, (A25.st (tr2 p28 p31) rfl)⟩
 exact xt rfl (sgb (sr (Xj vx6_0 rfl (asg' vx6_0 rfl (dn (re rfl func35 rfl (r_t rfl Xd) rfl ⟨_, rfl, Ax6_0.fo Kx6 rfl z.l, z.ky Kx6⟩))))))
def spec_ItemText.f (a0 : Item) : Option ((List Int)) :=
 ((spec_ItemOk.f a0).bind fun r6 => (if (!r6) = true then (some ([] : (List Int))) else (if (a0.Kind == (1 : Int)) = true then ((spec_l18digits.f a0.N).bind fun r17 => (if ([(105 : Int)]).length + r17.length ≤ Lim then (some ([(105 : Int)] ++ r17)) else none)) else (if (a0.Kind == (2 : Int)) = true then ((spec_FloatBits.f a0.F).bind fun r30 => ((spec_l3high.f r30).bind fun r32 => ((spec_l18hex.f r32).bind fun r35 => (if ([(102 : Int)]).length + r35.length ≤ Lim then (some ([(102 : Int)] ++ r35)) else none)))) else (if (a0.Kind == (3 : Int)) = true then ((spec_l18hex.f a0.T).bind fun r50 => (if ([(116 : Int)]).length + r50.length ≤ Lim then (some ([(116 : Int)] ++ r50)) else none)) else (some ([(45 : Int)])))))))
def spec_ItemText.Q (w : World) (F : Nat → Prop) (r : (List Int)) (v : Value) (w' : World) : Prop :=
 FO Xk w w' [v] r ∧ Ky [] w w'
theorem spec_ItemText.calls (a0 : Item) (w : World) (F : Nat → Prop) (w0_0 : Value) (w0_1 : Value) (h0_0 : Kd.flt.rd w [w0_0] a0.F F) (h0_1 : Xk.rd w [w0_1] a0.T F) (r : (List Int)) (m : spec_ItemText.f a0 = some r) :
  Calls prog 8 #[(.agg #[(iI a0.Kind), (iI a0.N), w0_0, w0_1])] w (RT (spec_ItemText.Q w F) r) := by
 obtain ⟨s0, rfl, kp0, z⟩ := Xi w F
 have A0_0 := fl_of h0_0
 have A0_1 := z.rd h0_1
 refine Xc (args := [(.agg #[(iI a0.Kind), (iI a0.N), w0_0, w0_1])]) func8 ntmps8 rfl rfl m ?_
 unfold spec_ItemText.f
 refine sr (bx (cs := [(iI a0.Kind), (iI a0.N), w0_0, w0_1]) 40 rfl rfl rfl rfl rfl rfl (fun b2 s2 p2 B2 => ?_))
 refine Xa rfl (dn (sq (sr (lda (es := [(iI a0.Kind), (iI a0.N), w0_0, w0_1]) B2 u28 z28 rfl rfl rfl rfl rfl rfl rfl rfl ?_))))
 have K4 := kp0.st p2 rfl
 refine clV 41 rfl func33 rfl (spec_ItemOk.calls a0 s2.w (mm [0] s2) w0_0 w0_1 ((fl_rdf (s := s2) A0_0).sub (D := [0]) rfl) (A0_1.kp K4)) (fun r6 s7 p7 n7 => ?_)
 refine Xa rfl (dn (cd rfl (fun h8 => ?_) (fun h8 => ?_)))
 ·
  refine sr (Xa rfl (dn ?_))
  have K9 := K4.st p7 rfl
  exact re rfl func8 rfl (r_t rfl Xd) rfl ⟨_, rfl, (ow_nil 5 (Kd.int .u8) s7 40).fo K9 rfl z.l, z.ky K9⟩
 refine sk (sq (sr (fa' fa28_0 rfl ?_)))
 have A10 := B2.st p7 rfl
 refine ld' A10 u3 rfl (dn (bl (sr (Xa rfl (Xa rfl (dn (cd rfl (fun h11 => ?_) (fun h11 => ?_))))))))
 ·
  refine sr (ltF' (K := (Kd.int .u8)) (cells := [(.int .u8 (105 : Int))]) [(105 : Int)] 42 Xf u23 z5 o5 (fun w => (Xh _ _ _)) rfl rfl (fun v12 s12 p12 A12 => ?_))
  refine cvm A12 rfl u23 u5 rfl rfl rfl rfl rfl rfl (fun s14 p14 A14 => ?_)
  refine fa' fa28_1 rfl (ld' (A10.st (tr2 p12 p14) rfl) u3 rfl (clO 43 rfl func34 rfl (spec_l18digits.calls a0.N s14.w (mm [] s14)) (fun r17 v17_0 s18 p18 A17_0 => ?_)))
  refine apF Xf sl23 (A14.st p18 rfl) A17_0.rd rfl rfl rfl rfl rfl rfl rfl (fun v21 s21 p21 A21 => ?_)
  refine asg' v21 rfl (dn ?_)
  have K23 := K4.st (tr5 p7 p12 p14 p18 p21) rfl
  exact re rfl func8 rfl (r_t rfl Xd) rfl ⟨_, rfl, A21.fo K23 rfl z.l, z.ky K23⟩
 refine sr (Xa rfl (Xa rfl (dn (cd rfl (fun h24 => ?_) (fun h24 => ?_)))))
 ·
  refine sr (ltF' (K := (Kd.int .u8)) (cells := [(.int .u8 (102 : Int))]) [(102 : Int)] 44 Xf u23 z5 o5 (fun w => (Xh _ _ _)) rfl rfl (fun v25 s25 p25 A25 => ?_))
  refine cvm A25 rfl u23 u5 rfl rfl rfl rfl rfl rfl (fun s27 p27 A27 => ?_)
  refine fa' fa28_2 rfl (ld' (A10.st (tr2 p25 p27) rfl) u22 rfl (clV 45 rfl func37 rfl (spec_FloatBits.calls a0.F s27.w (mm [] s27) w0_0 (fl_rdf (s := s27) A0_0)) (fun r30 s31 p31 n31 => ?_)))
  refine clO 46 rfl func36 rfl (spec_l3high.calls r30 s31.w (mm [] s31)) (fun r32 v32_0 s33 p33 A32_0 => ?_)
  refine clO 47 rfl func35 rfl (spec_l18hex.calls r32 s33.w (mm [46] s33) v32_0 A32_0.rd) (fun r35 v35_0 s36 p36 A35_0 => ?_)
  refine apF Xf sl23 (A27.st (tr3 p31 p33 p36) rfl) A35_0.rd rfl rfl rfl rfl rfl rfl rfl (fun v39 s39 p39 A39 => ?_)
  refine asg' v39 rfl (dn ?_)
  have K41 := K4.st (tr7 p7 p25 p27 p31 p33 p36 p39) rfl
  exact re rfl func8 rfl (r_t rfl Xd) rfl ⟨_, rfl, A39.fo K41 rfl z.l, z.ky K41⟩
 refine sr (Xa rfl (Xa rfl (dn (cd rfl (fun h42 => ?_) (fun h42 => ?_)))))
 ·
  refine sr (ltF' (K := (Kd.int .u8)) (cells := [(.int .u8 (116 : Int))]) [(116 : Int)] 48 Xf u23 z5 o5 (fun w => (Xh _ _ _)) rfl rfl (fun v43 s43 p43 A43 => ?_))
  refine cvm A43 rfl u23 u5 rfl rfl rfl rfl rfl rfl (fun s45 p45 A45 => ?_)
  refine fa' fa28_3 rfl (ld' (A10.st (tr2 p43 p45) rfl) u23 rfl ?_)
  have K48 := K4.st (tr3 p7 p43 p45) rfl
  refine clO 49 rfl func35 rfl (spec_l18hex.calls a0.T s45.w (mm [0] s45) w0_1 (A0_1.kp K48)) (fun r50 v50_0 s51 p51 A50_0 => ?_)
  refine apF Xf sl23 (A45.st p51 rfl) A50_0.rd rfl rfl rfl rfl rfl rfl rfl (fun v54 s54 p54 A54 => ?_)
  refine asg' v54 rfl (dn ?_)
  have K56 := K48.st (tr2 p51 p54) rfl
  exact re rfl func8 rfl (r_t rfl Xd) rfl ⟨_, rfl, A54.fo K56 rfl z.l, z.ky K56⟩
 refine sk (ib (sr (ltF' (K := (Kd.int .u8)) (cells := [(.int .u8 (45 : Int))]) [(45 : Int)] 50 Xf u23 z5 o5 (fun w => (Xh _ _ _)) rfl rfl (fun v57 s57 p57 A57 => ?_))))
 refine cvm A57 rfl u23 u5 rfl rfl rfl rfl rfl rfl (fun s59 p59 A59 => ?_)
 refine asg' v57 rfl (dn ?_)
 have K61 := K4.st (tr3 p7 p57 p59) rfl
 exact re rfl func8 rfl (r_t rfl Xd) rfl ⟨_, rfl, A59.fo K61 rfl z.l, z.ky K61⟩
def impl_within.f (a0 : Int) (a1 : Int) (a2 : Int) : Option (Bool) :=
 (some ((decide (a1 ≤ a0)) && (decide (a0 ≤ a2))))
def impl_within.Q (w : World) (F : Nat → Prop) (r : Bool) (v : Value) (w' : World) : Prop :=
 v = (.bool r) ∧ Ky [] w w'
theorem impl_within.calls (a0 : Int) (a1 : Int) (a2 : Int) (w : World) (F : Nat → Prop)   (r : Bool) (m : impl_within.f a0 a1 a2 = some r) :
  Calls prog 62 #[(iI a0), (iI a1), (iI a2)] w (RT (impl_within.Q w F) r) := by
 obtain ⟨s0, rfl, kp0, z⟩ := Xi w F
 refine Xc (args := [(iI a0), (iI a1), (iI a2)]) func62 ntmps62 rfl rfl m ?_
 unfold impl_within.f
 refine sr (Xa rfl (dn (sr (Xa rfl (Xa rfl (Xa rfl (Xa rfl (jy [10, 11, 12, 13, 14] [8] 14 (.bool ((decide (a1 ≤ a0)) && (decide (a0 ≤ a2)))) rfl (fun Kg1 => ?_) (fun j1 => ?_)))))))))
 ·
  rcases bft (decide (a1 ≤ a0)) with hb1 | hb1
  ·
   exact sbT hb1 (Xa rfl (Xa rfl (Xa rfl (Xa rfl (Kg1 _ (Ag.put ((Ag.put ((Ag.put ((Ag.put (Ag.base rfl) rfl)) rfl)) rfl)) rfl) (by rw [hb1]; rfl))))))
  exact sbT hb1 (Xg rfl (Xg rfl (Xg rfl (Xa rfl (Kg1 _ (Ag.put ((Ag.put ((Ag.put ((Ag.put (Ag.base rfl) rfl)) rfl)) rfl)) rfl) (by rw [hb1]; rfl))))))
 exact Xa rfl (dn (re rfl func62 rfl (r_t rfl Xd) rfl ⟨_, rfl, rfl, z.ky kp0⟩))
def impl_ItemOk.f (a0 : Item) : Option (Bool) :=
 ((impl_within.f a0.Kind (0 : Int) (3 : Int)).bind fun r4 => (some (((r4 && ((a0.N == (0 : Int)) || (a0.Kind == (1 : Int)))) && (((a0.F : Int) == 0) || (a0.Kind == (2 : Int)))) && (((a0.T.length : Int) == (0 : Int)) || ((a0.Kind == (3 : Int)) && (decide ((a0.T.length : Int) ≤ (40 : Int))))))))
def impl_ItemOk.Q (w : World) (F : Nat → Prop) (r : Bool) (v : Value) (w' : World) : Prop :=
 v = (.bool r) ∧ Ky [] w w'
theorem impl_ItemOk.calls (a0 : Item) (w : World) (F : Nat → Prop) (w0_0 : Value) (w0_1 : Value) (h0_0 : Kd.flt.rd w [w0_0] a0.F F) (h0_1 : Xk.rd w [w0_1] a0.T F) (r : Bool) (m : impl_ItemOk.f a0 = some r) :
  Calls prog 38 #[(.agg #[(iI a0.Kind), (iI a0.N), w0_0, w0_1])] w (RT (impl_ItemOk.Q w F) r) := by
 obtain ⟨s0, rfl, kp0, z⟩ := Xi w F
 refine Xc (args := [(.agg #[(iI a0.Kind), (iI a0.N), w0_0, w0_1])]) func38 ntmps38 rfl rfl m ?_
 unfold impl_ItemOk.f
 refine sr (bx (cs := [(iI a0.Kind), (iI a0.N), w0_0, w0_1]) 40 rfl rfl rfl rfl rfl rfl (fun b2 s2 p2 B2 => ?_))
 refine Xa rfl (dn (sr (fa' fa28_0 rfl (ld' B2 u3 rfl (clV 41 rfl func62 rfl (impl_within.calls a0.Kind (0 : Int) (3 : Int) s2.w (mm [] s2)) (fun r4 s5 p5 n5 => ?_))))))
 refine Xa rfl (jy [6, 7, 8, 9, 10, 11, 12, 13, 14, 15] [13, 14, 15, 16, 17, 18, 19, 20, 21, 22, 23, 24, 25, 26, 27, 28, 29, 30, 31, 32, 33, 34, 35, 36, 37, 38, 39, 40, 41] 15 (.bool (r4 && ((a0.N == (0 : Int)) || (a0.Kind == (1 : Int))))) rfl (fun Kg6 => ?_) (fun j6 => ?_))
 ·
  rcases bft r4 with hb6 | hb6
  ·
   refine sbT hb6 (fa' fa28_1 rfl ?_)
   have A7 := B2.st p5 rfl
   refine ld' A7 u3 rfl (Xa rfl (Xa rfl (jy [10, 11, 12, 13, 14] [12, 13, 14, 15, 16, 17, 18, 19, 20, 21, 22, 23, 24, 25, 26, 27, 28, 29, 30, 31, 32, 33, 34, 35, 36, 37, 38, 39, 40, 41] 14 (.bool ((a0.N == (0 : Int)) || (a0.Kind == (1 : Int)))) rfl (fun Kg8 => ?_) (fun j8 => ?_))))
   ·
    rcases bft (a0.N == (0 : Int)) with hb8 | hb8
    ·
     exact sbT hb8 (Xg rfl (Xg rfl (Xg rfl (Xa rfl (Kg8 _ (Ag.put ((Ag.put ((Ag.put ((Ag.put (Ag.base rfl) rfl)) rfl)) rfl)) rfl) (by rw [hb8]; rfl))))))
    exact sbT hb8 (fa' fa28_0 rfl (ld' A7 u3 rfl (Xa rfl (Xa rfl (Kg8 _ (Ag.put ((Ag.put ((Ag.put ((Ag.put (Ag.base rfl) rfl)) rfl)) rfl)) rfl) (by rw [hb8]; rfl))))))
   exact Xa rfl (Kg6 _ (Ag.put ((Ag.put ((Ag.ov ((Ag.put ((Ag.put ((Ag.put ((Ag.put (Ag.base rfl) rfl)) rfl)) rfl)) rfl)) rfl)) rfl)) rfl) (by rw [hb6]; rfl))
  exact sbT hb6 (Xg rfl (Xg rfl (Xg rfl (Xg rfl (Xg rfl (Xg rfl (Xg rfl (Xg rfl (Xa rfl (Kg6 _ (Ag.put ((Ag.put ((Ag.put ((Ag.put ((Ag.put ((Ag.put ((Ag.put ((Ag.put ((Ag.put (Ag.base rfl) rfl)) rfl)) rfl)) rfl)) rfl)) rfl)) rfl)) rfl)) rfl) (by rw [hb6]; rfl)))))))))))
 refine Xa rfl (jy [16, 17, 18, 19, 20, 21, 22, 23, 24, 25, 26] [24, 25, 26, 27, 28, 29, 30, 31, 32, 33, 34, 35, 36, 37, 38, 39, 40, 41] 26 (.bool ((r4 && ((a0.N == (0 : Int)) || (a0.Kind == (1 : Int)))) && (((a0.F : Int) == 0) || (a0.Kind == (2 : Int))))) rfl (fun Kg9 => ?_) (fun j9 => ?_))
 ·
  rcases bft (r4 && ((a0.N == (0 : Int)) || (a0.Kind == (1 : Int)))) with hb9 | hb9
  ·
   refine sbT hb9 (fa' fa28_2 rfl ?_)
   have A10 := B2.st p5 rfl
   refine ld' A10 u22 rfl (fbu (fl_of h0_0) rfl rfl rfl rfl rfl func63 rfl rfl xn63 xf63 rfl (fun b11 A11 => ?_))
   refine fz0 A11 rfl rfl rfl rfl rfl rfl rfl (Xa rfl (jy [21, 22, 23, 24, 25] [23, 24, 25, 26, 27, 28, 29, 30, 31, 32, 33, 34, 35, 36, 37, 38, 39, 40, 41] 25 (.bool (((a0.F : Int) == 0) || (a0.Kind == (2 : Int)))) rfl (fun Kg12 => ?_) (fun j12 => ?_)))
   ·
    rcases bft ((a0.F : Int) == 0) with hb12 | hb12
    ·
     exact sbT hb12 (Xg rfl (Xg rfl (Xg rfl (Xa rfl (Kg12 _ (Ag.put ((Ag.put ((Ag.put ((Ag.put (Ag.base rfl) rfl)) rfl)) rfl)) rfl) (by rw [hb12]; rfl))))))
    exact sbT hb12 (fa' fa28_0 rfl (ld' A10 u3 rfl (Xa rfl (Xa rfl (Kg12 _ (Ag.put ((Ag.put ((Ag.put ((Ag.put (Ag.base rfl) rfl)) rfl)) rfl)) rfl) (by rw [hb12]; rfl))))))
   exact Xa rfl (Kg9 _ (Ag.put ((Ag.put ((Ag.ov ((Ag.put ((Ag.put ((Ag.put ((Ag.put ((Ag.put (Ag.base rfl) rfl)) rfl)) rfl)) rfl)) rfl)) rfl)) rfl)) rfl) (by rw [hb9]; rfl))
  exact sbT hb9 (Xg rfl (Xg rfl (Xg rfl (Xg rfl (Xg rfl (Xg rfl (Xg rfl (Xg rfl (Xg rfl (Xa rfl (Kg9 _ (Ag.put ((Ag.put ((Ag.put ((Ag.put ((Ag.put ((Ag.put ((Ag.put ((Ag.put ((Ag.put ((Ag.put (Ag.base rfl) rfl)) rfl)) rfl)) rfl)) rfl)) rfl)) rfl)) rfl)) rfl)) rfl) (by rw [hb9]; rfl))))))))))))
 refine Xa rfl (jy [27, 28, 29, 30, 31, 32, 33, 34, 35, 36, 37, 38, 39, 40, 41, 42, 43] [41] 43 (.bool (((r4 && ((a0.N == (0 : Int)) || (a0.Kind == (1 : Int)))) && (((a0.F : Int) == 0) || (a0.Kind == (2 : Int)))) && (((a0.T.length : Int) == (0 : Int)) || ((a0.Kind == (3 : Int)) && (decide ((a0.T.length : Int) ≤ (40 : Int))))))) rfl (fun Kg13 => ?_) (fun j13 => ?_))
 ·
  rcases bft ((r4 && ((a0.N == (0 : Int)) || (a0.Kind == (1 : Int)))) && (((a0.F : Int) == 0) || (a0.Kind == (2 : Int)))) with hb13 | hb13
  ·
   refine sbT hb13 (fa' fa28_3 rfl ?_)
   have A14 := B2.st p5 rfl
   refine ld' A14 u23 rfl ?_
   have A16 := (z.rd h0_1).kp (kp0.st (tr2 p2 p5) rfl)
   refine ln' A16 u23 rfl (Xa rfl (Xa rfl (jy [32, 33, 34, 35, 36, 37, 38, 39, 40, 41, 42] [40, 41] 42 (.bool (((a0.T.length : Int) == (0 : Int)) || ((a0.Kind == (3 : Int)) && (decide ((a0.T.length : Int) ≤ (40 : Int)))))) rfl (fun Kg17 => ?_) (fun j17 => ?_))))
   ·
    rcases bft ((a0.T.length : Int) == (0 : Int)) with hb17 | hb17
    ·
     exact sbT hb17 (Xg rfl (Xg rfl (Xg rfl (Xg rfl (Xg rfl (Xg rfl (Xg rfl (Xg rfl (Xg rfl (Xa rfl (Kg17 _ (Ag.put ((Ag.put ((Ag.put ((Ag.put ((Ag.put ((Ag.put ((Ag.put ((Ag.put ((Ag.put ((Ag.put (Ag.base rfl) rfl)) rfl)) rfl)) rfl)) rfl)) rfl)) rfl)) rfl)) rfl)) rfl) (by rw [hb17]; rfl))))))))))))
    refine sbT hb17 (fa' fa28_0 rfl (ld' A14 u3 rfl (Xa rfl (Xa rfl (jy [36, 37, 38, 39, 40, 41] [39, 40, 41] 41 (.bool ((a0.Kind == (3 : Int)) && (decide ((a0.T.length : Int) ≤ (40 : Int))))) rfl (fun Kg18 => ?_) (fun j18 => ?_))))))
    ·
     rcases bft (a0.Kind == (3 : Int)) with hb18 | hb18
     ·
      exact sbT hb18 (fa' fa28_3 rfl (ld' A14 u23 rfl (ln' A16 u23 rfl (Xa rfl (Xa rfl (Kg18 _ (Ag.put ((Ag.put ((Ag.put ((Ag.put ((Ag.put (Ag.base rfl) rfl)) rfl)) rfl)) rfl)) rfl) (by rw [hb18]; rfl)))))))
     exact sbT hb18 (Xg rfl (Xg rfl (Xg rfl (Xg rfl (Xa rfl (Kg18 _ (Ag.put ((Ag.put ((Ag.put ((Ag.put ((Ag.put (Ag.base rfl) rfl)) rfl)) rfl)) rfl)) rfl) (by rw [hb18]; rfl)))))))
    exact Xa rfl (Kg17 _ (Ag.put ((Ag.put ((Ag.ov ((Ag.put ((Ag.put ((Ag.put ((Ag.put (Ag.base rfl) rfl)) rfl)) rfl)) rfl)) rfl)) rfl)) rfl) (by rw [hb17]; rfl))
   exact Xa rfl (Kg13 _ (Ag.put ((Ag.put ((Ag.ov ((Ag.put ((Ag.put ((Ag.put ((Ag.put ((Ag.put (Ag.base rfl) rfl)) rfl)) rfl)) rfl)) rfl)) rfl)) rfl)) rfl) (by rw [hb13]; rfl))
  refine sbT hb13 (Xg rfl (Xg rfl (Xg rfl (Xg rfl (Xg rfl (Xg rfl (Xg rfl (Xg rfl (Xg rfl (Xg rfl (Xg rfl (Xg rfl (Xg rfl (Xg rfl ?_))))))))))))))
  exact Xg rfl (Xa rfl (Kg13 _ (Ag.put ((Ag.put ((Ag.put ((Ag.put ((Ag.put ((Ag.put ((Ag.put ((Ag.put ((Ag.put ((Ag.put ((Ag.put ((Ag.put ((Ag.put ((Ag.put ((Ag.put ((Ag.put (Ag.base rfl) rfl)) rfl)) rfl)) rfl)) rfl)) rfl)) rfl)) rfl)) rfl)) rfl)) rfl)) rfl)) rfl)) rfl)) rfl)) rfl) (by rw [hb13]; rfl)))
 refine Xa rfl (dn ?_)
 exact re rfl func38 rfl (r_t rfl Xd) rfl ⟨_, rfl, rfl, z.ky (kp0.st (tr2 p2 p5) rfl)⟩
section
open Go.Shelf
shelf_lay LaysM.n171 Nm 171 at Tryd as lay_itoa
theorem grow_ky (w : World) (k : Nat) (os : Array Obj) : Ky [] w (Sort.grow (w.drewN k) os) := by
  refine ⟨rfl, ?_, rfl, ?_, fun b hb _ => ?_⟩
  · simp [Sort.grow]
  · simp [Sort.grow]
  · simp [Sort.grow, Array.getElem?_append_left hb]
def strconv_Itoa.f (a0 : Int) : Option (ByteArray) := if -9223372036854775808 ≤ a0 ∧ a0 ≤ 9223372036854775807 then some ⟨(Lib.itoa a0).toArray⟩ else none
def strconv_Itoa.Q (w : World) (F : Nat → Prop) (r : ByteArray) (v : Value) (w' : World) : Prop := v = (.string r) ∧ Ky [] w w'
theorem strconv_Itoa.calls (a0 : Int) (w : World) (F : Nat → Prop) (hG : GT.rd w [] () F) (r : ByteArray) (m : strconv_Itoa.f a0 = some r) :
    Calls Tryd.prog 64 #[.int .i64 a0] w (RT (strconv_Itoa.Q w F) r) := by
  unfold strconv_Itoa.f at m
  split at m
  · rename_i h
    cases m
    refine Calls.mono (Any.strconv_Itoa lay_itoa a0 h.1 h.2 w hG.2.1) fun e w' ⟨he, k, os, hw⟩ => ⟨_, he, rfl, ?_⟩
    rw [hw]; exact grow_ky w k os
  · cases m
end

def impl_FloatBits.f (a0 : Nat) : Option (Int) :=
 (if (fcmp .f64 a0 a0 != some .eq) = true then (some (9221120237041090560 : Int)) else (if isN a0 = false then (some (a0 : Int)) else none))
def impl_FloatBits.Q (w : World) (F : Nat → Prop) (r : Int) (v : Value) (w' : World) : Prop :=
 v = (.int .u64 r) ∧ Ky [] w w'
theorem impl_FloatBits.calls (a0 : Nat) (w : World) (F : Nat → Prop) (w0_0 : Value) (h0_0 : Kd.flt.rd w [w0_0] a0 F) (r : Int) (m : impl_FloatBits.f a0 = some r) :
  Calls prog 84 #[w0_0] w (RT (impl_FloatBits.Q w F) r) := by
 obtain ⟨s0, rfl, kp0, z⟩ := Xi w F
 have A0_0 := fl_of h0_0
 refine Xc (args := [w0_0]) func84 ntmps84 rfl rfl m ?_
 unfold impl_FloatBits.f
 refine sr (Xa rfl (dn (sq (sr (Xj w0_0 rfl (Xj w0_0 rfl (fq_' A0_0 A0_0 rfl (dn (cd rfl (fun h1 => ?_) (fun h1 => ?_))))))))))
 ·
  exact sr (Xa rfl (dn (re rfl func84 rfl (r_t rfl Xd) rfl ⟨_, rfl, rfl, z.ky kp0⟩)))
 exact sk (sr (Xj w0_0 rfl (fb_ A0_0 rfl rfl rfl rfl rfl func63 rfl rfl xn63 xf63 rfl (Xa rfl (dn (re rfl func84 rfl (r_t rfl Xd) rfl ⟨_, rfl, rfl, z.ky kp0⟩))))))
def impl_highFirst.b0 (a0 : Int) (x1 : (List Int) × Int) : Option (((List Int) × Int) ⊕ (List Int)) :=
 (if (decide (x1.2 ≥ (0 : Int))) = true then (if 0 ≤ x1.2 then (if x1.1.length + ([(IntKind.wrap .u8 (ishr .u64 a0 x1.2))]).length ≤ Lim then (some (Sum.inl ((x1.1 ++ [(IntKind.wrap .u8 (ishr .u64 a0 x1.2))]), (IntKind.wrap .i64 (x1.2 - (8 : Int)))))) else none) else none) else ((some x1.1).bind fun o => some (Sum.inr o)))
def impl_highFirst.f (a0 : Int) : Option ((List Int)) :=
 (iter (impl_highFirst.b0 a0) (([] : (List Int)), (56 : Int)))
def impl_highFirst.Q (w : World) (F : Nat → Prop) (r : (List Int)) (v : Value) (w' : World) : Prop :=
 FO Xk w w' [v] r ∧ Ky [] w w'
theorem impl_highFirst.calls (a0 : Int) (w : World) (F : Nat → Prop)   (r : (List Int)) (m : impl_highFirst.f a0 = some r) :
  Calls prog 83 #[(.int .u64 a0)] w (RT (impl_highFirst.Q w F) r) := by
 obtain ⟨s0, rfl, kp0, z⟩ := Xi w F
 refine Xc (args := [(.int .u64 a0)]) func83 ntmps83 rfl rfl m ?_
 unfold impl_highFirst.f
 refine sr (Xa rfl (dn (sr (Xa rfl (dn (sq (sr (Xa rfl (dn (bl (lpI (fun (x1 : (List Int) × Int) e w => ∃ (s : St) (e0 : Env) (vx1_0 : Value), w = s.w ∧ e = upd (upd (upd e0 0 (.int .u64 a0)) 3 vx1_0) 4 (iI x1.2) ∧ Kp s0 s ∧ OwF Xk s [vx1_0] x1.1 40) ⟨s0, _, (.slice none 0 0), rfl, (ue (ue (ue rfl rfl) rfl) rfl), kp0, (ow_nil 5 (Kd.int .u8) _ 40)⟩ (fun g1 ih1 => ?_))))))))))))
 rintro x1 _ _ ⟨s2, _, vx1_0, rfl, rfl, Kx1, Ax1_0⟩
 unfold impl_highFirst.b0
 refine sq (sr (Xa rfl (Xa rfl (dn (cd rfl (fun h4 => ?_) (fun h4 => ?_))))))
 ·
  refine sk (sq (bl (rg (Xj vx1_0 rfl (Xa rfl (Xa rfl (shr_ rfl rfl rfl rfl rfl rfl rfl (cv u5 u65 rfl rfl rfl rfl rfl rfl (ltF' (K := (Kd.int .u8)) (cells := [(.int .u8 (IntKind.wrap .u8 (ishr .u64 a0 x1.2)))]) [(IntKind.wrap .u8 (ishr .u64 a0 x1.2))] 41 Xf u23 z5 o5 (fun w => (Xh _ _ _)) rfl rfl (fun v5 s5 p5 A5 => ?_))))))))))
  refine apF Xf sl23 (Ax1_0.st p5 rfl) A5.rd rfl rfl rfl rfl rfl rfl rfl (fun v8 s8 p8 A8 => ?_)
  refine asg' v8 rfl (dn (ib (rg (Xa rfl (Xa rfl (Xa rfl (dn ?_)))))))
  exact lb ih1 ⟨s8, _, v8, rfl, (ue (ue (ue rfl rfl) rfl) rfl), (Kx1.st (tr2 p5 p8) rfl), A8⟩
 exact xt rfl (sgb (sr (Xj vx1_0 rfl (asg' vx1_0 rfl (dn (re rfl func83 rfl (r_t rfl Xd) rfl ⟨_, rfl, Ax1_0.fo Kx1 rfl z.l, z.ky Kx1⟩))))))
def impl_hexText.b0 (a0 : (List Int)) (x2 : (List Int) × Int) : Option (((List Int) × Int) ⊕ ByteArray) :=
 (if (decide (x2.2 < (a0.length : Int))) = true then (if 0 ≤ x2.2 ∧ x2.2 < (a0.length : Int) then (if 0 ≤ (ishr .u8 (at_ a0 x2.2) (4 : Int)) ∧ (ishr .u8 (at_ a0 x2.2) (4 : Int)) < ((⟨#[48, 49, 50, 51, 52, 53, 54, 55, 56, 57, 97, 98, 99, 100, 101, 102]⟩ : ByteArray).size : Int) then (if 0 ≤ (iand .u8 (at_ a0 x2.2) (15 : Int)) ∧ (iand .u8 (at_ a0 x2.2) (15 : Int)) < ((⟨#[48, 49, 50, 51, 52, 53, 54, 55, 56, 57, 97, 98, 99, 100, 101, 102]⟩ : ByteArray).size : Int) then (if x2.1.length + ([(at_ (bts (⟨#[48, 49, 50, 51, 52, 53, 54, 55, 56, 57, 97, 98, 99, 100, 101, 102]⟩ : ByteArray)) (ishr .u8 (at_ a0 x2.2) (4 : Int))), (at_ (bts (⟨#[48, 49, 50, 51, 52, 53, 54, 55, 56, 57, 97, 98, 99, 100, 101, 102]⟩ : ByteArray)) (iand .u8 (at_ a0 x2.2) (15 : Int)))]).length ≤ Lim then (some (Sum.inl ((x2.1 ++ [(at_ (bts (⟨#[48, 49, 50, 51, 52, 53, 54, 55, 56, 57, 97, 98, 99, 100, 101, 102]⟩ : ByteArray)) (ishr .u8 (at_ a0 x2.2) (4 : Int))), (at_ (bts (⟨#[48, 49, 50, 51, 52, 53, 54, 55, 56, 57, 97, 98, 99, 100, 101, 102]⟩ : ByteArray)) (iand .u8 (at_ a0 x2.2) (15 : Int)))]), (IntKind.wrap .i64 (x2.2 + (1 : Int)))))) else none) else none) else none) else none) else ((some (str x2.1)).bind fun o => some (Sum.inr o)))
def impl_hexText.f (a0 : (List Int)) : Option (ByteArray) :=
 (iter (impl_hexText.b0 a0) (([] : (List Int)), (0 : Int)))
def impl_hexText.Q (w : World) (F : Nat → Prop) (r : ByteArray) (v : Value) (w' : World) : Prop :=
 v = (.string r) ∧ Ky [] w w'
theorem impl_hexText.calls (a0 : (List Int)) (w : World) (F : Nat → Prop) (w0_0 : Value) (h0_0 : Xk.rd w [w0_0] a0 F) (r : ByteArray) (m : impl_hexText.f a0 = some r) :
  Calls prog 66 #[w0_0] w (RT (impl_hexText.Q w F) r) := by
 obtain ⟨s0, rfl, kp0, z⟩ := Xi w F
 have A0_0 := z.rd h0_0
 refine Xc (args := [w0_0]) func66 ntmps66 rfl rfl m ?_
 unfold impl_hexText.f
 refine sr (Xa rfl (dn (sr (Xa rfl (dn (sq (sr (Xj w0_0 rfl (ln' A0_0 u23 rfl (Xa rfl (dn (bl (lpI (fun (x2 : (List Int) × Int) e w => ∃ (s : St) (e0 : Env) (vx2_0 : Value), w = s.w ∧ e = upd (upd (upd (upd e0 3 vx2_0) 6 w0_0) 7 (iI (a0.length : Int))) 8 (iI x2.2) ∧ Kp s0 s ∧ OwF Xk s [vx2_0] x2.1 40) ⟨s0, _, (.slice none 0 0), rfl, (ue (ue (ue (ue rfl rfl) rfl) rfl) rfl), kp0, (ow_nil 5 (Kd.int .u8) _ 40)⟩ (fun g2 ih2 => ?_))))))))))))))
 rintro x2 _ _ ⟨s3, _, vx2_0, rfl, rfl, Kx2, Ax2_0⟩
 unfold impl_hexText.b0
 refine sr (Xa rfl (dn (sq (cd rfl (fun h5 => ?_) (fun h5 => ?_)))))
 ·
  refine sk (sq (bl (sr ?_)))
  refine ix' (A0_0.kp Kx2) u23 z5 rfl (fun ad7 es7 h0_7 h1_7 he7 ce7 ia7 => ?_)
  obtain rfl := he7
  refine lc0' ce7 u5 rfl (Xa rfl (dn (zdraw [[], [], [1], [2], [], [4], [5], [3, 6], [0, 7], [8, 8, 0, 1, 2, 3, 4, 5, 6, 7, 8]] [some 12, some 13, some 14, some 15, some 16, some 17, some 18, some 19, some 20, some 3] [[3], [5], [13], [14], [5], [16], [17], [15, 18], [12, 19], [20]] [0, 1, 2, 3, 4, 5, 6, 7, 8, 9] ⟨by kernel_rfl, by kernel_rfl, by kernel_rfl⟩ (by kernel_rfl) (fun s9 p9 l9 tb9 zd9 => ?_))))
  refine mg fun hg13 => (mg fun hg17 => (zstep 7 [some 12] tb9 (((((((zd9.add 0 12 vx2_0 rfl).add 1 13 (.int .u8 (at_ a0 x2.2)) rfl).add 2 14 (.int .u8 (ishr .u8 (at_ a0 x2.2) (4 : Int))) rfl).add 3 15 (.int .u8 (at_ (bts (⟨#[48, 49, 50, 51, 52, 53, 54, 55, 56, 57, 97, 98, 99, 100, 101, 102]⟩ : ByteArray)) (ishr .u8 (at_ a0 x2.2) (4 : Int)))) rfl).add 4 16 (.int .u8 (at_ a0 x2.2)) rfl).add 5 17 (.int .u8 (iand .u8 (at_ a0 x2.2) (15 : Int))) rfl).add 6 18 (.int .u8 (at_ (bts (⟨#[48, 49, 50, 51, 52, 53, 54, 55, 56, 57, 97, 98, 99, 100, 101, 102]⟩ : ByteArray)) (iand .u8 (at_ a0 x2.2) (15 : Int)))) rfl) (Xe (sxi_q u9 hg17 rfl rfl rfl rfl rfl rfl rfl) rfl (Xe (pu_q rfl rfl rfl rfl rfl rfl) rfl (Xe (pu_q rfl rfl rfl rfl rfl rfl) rfl (Xe (sxi_q u9 hg13 rfl rfl rfl rfl rfl rfl rfl) rfl (Xe (shrK_q rfl rfl rfl rfl rfl rfl rfl rfl) rfl (Xe (pu_q rfl rfl rfl rfl rfl rfl) rfl (Xe (mv_q vx2_0 rfl rfl rfl rfl rfl rfl) rfl pq_nil))))))) (by kernel_rfl) rfl (fun l19 e19 zd19 => ?_)))
  refine ltF' (K := (Kd.int .u8)) (cells := [(.int .u8 (at_ (bts (⟨#[48, 49, 50, 51, 52, 53, 54, 55, 56, 57, 97, 98, 99, 100, 101, 102]⟩ : ByteArray)) (ishr .u8 (at_ a0 x2.2) (4 : Int)))), (.int .u8 (at_ (bts (⟨#[48, 49, 50, 51, 52, 53, 54, 55, 56, 57, 97, 98, 99, 100, 101, 102]⟩ : ByteArray)) (iand .u8 (at_ a0 x2.2) (15 : Int))))]) [(at_ (bts (⟨#[48, 49, 50, 51, 52, 53, 54, 55, 56, 57, 97, 98, 99, 100, 101, 102]⟩ : ByteArray)) (ishr .u8 (at_ a0 x2.2) (4 : Int))), (at_ (bts (⟨#[48, 49, 50, 51, 52, 53, 54, 55, 56, 57, 97, 98, 99, 100, 101, 102]⟩ : ByteArray)) (iand .u8 (at_ a0 x2.2) (15 : Int)))] 41 Xf u23 z5 o5 (fun w => (Xh _ _ _)) rfl rfl (fun v20 s20 p20 A20 => ?_)
  refine zdone (L' := [0]) (D' := [1, 2, 4, 5, 3, 6, 7]) zd19 rfl rfl rfl (fun zd22 => ?_)
  refine zfin [8, 9] tb9 zd22 (Xe (mv_q vx2_0 rfl rfl rfl rfl rfl rfl) rfl pq_nil) (by kernel_rfl) (by decide) (apF Xf sl23 (Ax2_0.st (tr2 p9 p20) rfl) A20.rd rfl rfl rfl rfl rfl rfl rfl (fun v24 s24 p24 A24 => ?_))
  refine asg' v24 rfl (dn (ib (rg (Xa rfl (Xa rfl (dn ?_))))))
  exact lb ih2 ⟨s24, _, v24, rfl, (ue (ue (ue (ue rfl rfl) rfl) rfl) rfl), (Kx2.st (tr3 p9 p20 p24) rfl), A24⟩
 exact xt rfl (sgb (sr (Xj vx2_0 rfl (b2s Ax2_0.rd u23 u9 u5 rfl rfl rfl rfl rfl rfl (Xa rfl (dn (re rfl func66 rfl (r_t rfl Xd) rfl ⟨_, rfl, rfl, z.ky Kx2⟩)))))))
def impl_bitsText.f (a0 : Nat) : Option (ByteArray) :=
 ((impl_FloatBits.f a0).bind fun r1 => ((impl_highFirst.f r1).bind fun r3 => ((impl_hexText.f r3).bind fun r6 => (some r6))))
def impl_bitsText.Q (w : World) (F : Nat → Prop) (r : ByteArray) (v : Value) (w' : World) : Prop :=
 v = (.string r) ∧ Ky [] w w'
theorem impl_bitsText.calls (a0 : Nat) (w : World) (F : Nat → Prop) (w0_0 : Value) (h0_0 : Kd.flt.rd w [w0_0] a0 F) (r : ByteArray) (m : impl_bitsText.f a0 = some r) :
  Calls prog 65 #[w0_0] w (RT (impl_bitsText.Q w F) r) := by
 obtain ⟨s0, rfl, kp0, z⟩ := Xi w F
 refine Xc (args := [w0_0]) func65 ntmps65 rfl rfl m ?_
 unfold impl_bitsText.f
 refine sr (Xa rfl (dn (sr (Xj w0_0 rfl (clV 40 rfl func84 rfl (impl_FloatBits.calls a0 s0.w (mm [] s0) w0_0 (fl_rdf (s := s0) (fl_of h0_0))) (fun r1 s2 p2 n2 => ?_))))))
 refine clO 41 rfl func83 rfl (impl_highFirst.calls r1 s2.w (mm [] s2)) (fun r3 v3_0 s4 p4 A3_0 => ?_)
 refine clV 42 rfl func66 rfl (impl_hexText.calls r3 s4.w (mm [41] s4) v3_0 A3_0.rd) (fun r6 s7 p7 n7 => ?_)
 refine Xa rfl (dn ?_)
 exact re rfl func65 rfl (r_t rfl Xd) rfl ⟨_, rfl, rfl, z.ky (kp0.st (tr3 p2 p4 p7) rfl)⟩
def impl_itemText.f (a0 : Item) : Option (ByteArray) :=
 (if (a0.Kind == (1 : Int)) = true then ((strconv_Itoa.f a0.N).bind fun r6 => (if (⟨#[105]⟩ : ByteArray).size + r6.size ≤ Lim then (some ((⟨#[105]⟩ : ByteArray) ++ r6)) else none)) else (if (a0.Kind == (2 : Int)) = true then ((impl_bitsText.f a0.F).bind fun r10 => (if (⟨#[102]⟩ : ByteArray).size + r10.size ≤ Lim then (some ((⟨#[102]⟩ : ByteArray) ++ r10)) else none)) else (if (a0.Kind == (3 : Int)) = true then ((impl_hexText.f a0.T).bind fun r16 => (if (⟨#[116]⟩ : ByteArray).size + r16.size ≤ Lim then (some ((⟨#[116]⟩ : ByteArray) ++ r16)) else none)) else (some (⟨#[45]⟩ : ByteArray)))))
def impl_itemText.Q (w : World) (F : Nat → Prop) (r : ByteArray) (v : Value) (w' : World) : Prop :=
 v = (.string r) ∧ Ky [] w w'
theorem impl_itemText.calls (a0 : Item) (w : World) (F : Nat → Prop) (w0_0 : Value) (w0_1 : Value) (hG : GT.rd w [] () F) (h0_0 : Kd.flt.rd w [w0_0] a0.F F) (h0_1 : Xk.rd w [w0_1] a0.T F) (r : ByteArray) (m : impl_itemText.f a0 = some r) :
  Calls prog 39 #[(.agg #[(iI a0.Kind), (iI a0.N), w0_0, w0_1])] w (RT (impl_itemText.Q w F) r) := by
 obtain ⟨s0, rfl, kp0, z⟩ := Xi w F
 refine Xc (args := [(.agg #[(iI a0.Kind), (iI a0.N), w0_0, w0_1])]) func39 ntmps39 rfl rfl m ?_
 unfold impl_itemText.f
 refine sr (bx (cs := [(iI a0.Kind), (iI a0.N), w0_0, w0_1]) 40 rfl rfl rfl rfl rfl rfl (fun b2 s2 p2 B2 => ?_))
 refine Xa rfl (dn (sq (sr (fa' fa28_0 rfl (ld' B2 u3 rfl (dn (bl (sr (Xa rfl (Xa rfl (dn (cd rfl (fun h4 => ?_) (fun h4 => ?_)))))))))))))
 ·
  refine sr (fa' fa28_1 rfl (ld' B2 u3 rfl ?_))
  have K5 := kp0.st p2 rfl
  refine clV 41 rfl func64 rfl (strconv_Itoa.calls a0.N s2.w (mm [0] s2) ((z.rd hG).kp K5)) (fun r6 s7 p7 n7 => ?_)
  refine sad rfl rfl rfl rfl rfl rfl rfl (Xa rfl (dn ?_))
  exact re rfl func39 rfl (r_t rfl Xd) rfl ⟨_, rfl, rfl, z.ky (K5.st p7 rfl)⟩
 refine sr (Xa rfl (Xa rfl (dn (cd rfl (fun h9 => ?_) (fun h9 => ?_)))))
 ·
  refine sr (fa' fa28_2 rfl (ld' B2 u22 rfl (clV 42 rfl func65 rfl (impl_bitsText.calls a0.F s2.w (mm [] s2) w0_0 (fl_rdf (s := s2) (fl_of h0_0))) (fun r10 s11 p11 n11 => ?_))))
  refine sad rfl rfl rfl rfl rfl rfl rfl (Xa rfl (dn ?_))
  exact re rfl func39 rfl (r_t rfl Xd) rfl ⟨_, rfl, rfl, z.ky (kp0.st (tr2 p2 p11) rfl)⟩
 refine sr (Xa rfl (Xa rfl (dn (cd rfl (fun h13 => ?_) (fun h13 => ?_)))))
 ·
  refine sr (fa' fa28_3 rfl (ld' B2 u23 rfl ?_))
  have K14 := kp0.st p2 rfl
  refine clV 43 rfl func66 rfl (impl_hexText.calls a0.T s2.w (mm [0] s2) w0_1 ((z.rd h0_1).kp K14)) (fun r16 s17 p17 n17 => ?_)
  refine sad rfl rfl rfl rfl rfl rfl rfl (Xa rfl (dn ?_))
  exact re rfl func39 rfl (r_t rfl Xd) rfl ⟨_, rfl, rfl, z.ky (K14.st p17 rfl)⟩
 refine sk (ib (sr (Xa rfl (dn ?_))))
 exact re rfl func39 rfl (r_t rfl Xd) rfl ⟨_, rfl, rfl, z.ky (kp0.st p2 rfl)⟩
def laws_eqByteS.b0 (a0 : (List Int)) (a1 : (List Int)) (x4 : Int) : Option (Int ⊕ Bool) :=
 (if (decide (x4 < (a0.length : Int))) = true then (if 0 ≤ x4 ∧ x4 < (a0.length : Int) then (if 0 ≤ x4 ∧ x4 < (a1.length : Int) then (if ((at_ a0 x4) != (at_ a1 x4)) = true then (some (Sum.inr false)) else (some (Sum.inl (IntKind.wrap .i64 (x4 + (1 : Int)))))) else none) else none) else ((some true).bind fun o => some (Sum.inr o)))
def laws_eqByteS.f (a0 : (List Int)) (a1 : (List Int)) : Option (Bool) :=
 (if ((a0.length : Int) != (a1.length : Int)) = true then (some false) else (iter (laws_eqByteS.b0 a0 a1) (0 : Int)))
def laws_eqByteS.Q (w : World) (F : Nat → Prop) (r : Bool) (v : Value) (w' : World) : Prop :=
 v = (.bool r) ∧ Ky [] w w'
theorem laws_eqByteS.calls (a0 : (List Int)) (a1 : (List Int)) (w : World) (F : Nat → Prop) (w0_0 : Value) (w1_0 : Value) (h0_0 : Xk.rd w [w0_0] a0 F) (h1_0 : Xk.rd w [w1_0] a1 F) (r : Bool) (m : laws_eqByteS.f a0 a1 = some r) :
  Calls prog 11 #[w0_0, w1_0] w (RT (laws_eqByteS.Q w F) r) := by
 obtain ⟨s0, rfl, kp0, z⟩ := Xi w F
 have A0_0 := z.rd h0_0
 have A1_0 := z.rd h1_0
 refine Xc (args := [w0_0, w1_0]) func11 ntmps11 rfl rfl m ?_
 unfold laws_eqByteS.f
 refine sr (Xa rfl (dn (sq (sr (Xj w0_0 rfl (ln' A0_0 u23 rfl (Xj w1_0 rfl (ln' A1_0 u23 rfl (Xa rfl (dn (cd rfl (fun h3 => ?_) (fun h3 => ?_))))))))))))
 ·
  exact sr (Xa rfl (dn (re rfl func11 rfl (r_t rfl Xd) rfl ⟨_, rfl, rfl, z.ky kp0⟩)))
 refine sk (sq (sr (Xa rfl (dn (bl (lpI (fun (x4 : Int) e w => ∃ (s : St) (e0 : Env), w = s.w ∧ e = upd (upd (upd e0 0 w0_0) 1 w1_0) 5 (iI x4) ∧ Kp s0 s) ⟨s0, _, rfl, (ue (ue (ue rfl rfl) rfl) rfl), kp0⟩ (fun g4 ih4 => ?_)))))))
 rintro x4 _ _ ⟨s5, _, rfl, rfl, Kx4⟩
 unfold laws_eqByteS.b0
 refine sq (sr (Xa rfl (Xj w0_0 rfl ?_)))
 refine ln' (A0_0.kp Kx4) u23 rfl (Xa rfl (dn (cd rfl (fun h7 => ?_) (fun h7 => ?_))))
 ·
  refine sk (sq (bl (sq (zdraw [[], [], [0, 1], [2], [], [], [4, 5], [6], [3, 7]] [some 17, some 18, some 19, some 20, some 21, some 22, some 23, some 24, some 25] [[0], [5], [17, 18], [19], [1], [5], [21, 22], [23], [20, 24]] [0, 1, 2, 3, 4, 5, 6, 7, 8] ⟨by kernel_rfl, by kernel_rfl, by kernel_rfl⟩ (by kernel_rfl) (fun s8 p8 l8 tb8 zd8 => ?_)))))
  have K11 := Kx4.st p8 rfl
  have A12 := A0_0.kp K11
  refine mg fun hg13 => ?_
  obtain ⟨ad13, es13, he13, ce13, ia13⟩ := ix_e A12 rfl hg13.1 hg13.2
  obtain rfl := he13
  have A19 := A1_0.kp K11
  refine mg fun hg20 => ?_
  obtain ⟨ad20, es20, he20, ce20, ia20⟩ := ix_e A19 rfl hg20.1 hg20.2
  obtain rfl := he20
  refine zfin [8] tb8 ((((((((zd8.add 0 17 w0_0 rfl).add 1 18 (iI x4) rfl).add 2 19 (.pointer (some ad13)) rfl).add 3 20 (.int .u8 (at_ a0 x4)) rfl).add 4 21 w1_0 rfl).add 5 22 (iI x4) rfl).add 6 23 (.pointer (some ad20)) rfl).add 7 24 (.int .u8 (at_ a1 x4)) rfl) (Xe (lc0_q ce20 u5 rfl rfl rfl rfl rfl rfl rfl rfl) rfl (Xe (ix_q A19 u23 z5 hg20.1 hg20.2 ia20 rfl rfl rfl rfl rfl rfl rfl) rfl (Xe (pu_q rfl rfl rfl rfl rfl rfl) rfl (Xe (mv_q w1_0 rfl rfl rfl rfl rfl rfl) rfl (Xe (lc0_q ce13 u5 rfl rfl rfl rfl rfl rfl rfl rfl) rfl (Xe (ix_q A12 u23 z5 hg13.1 hg13.2 ia13 rfl rfl rfl rfl rfl rfl rfl) rfl (Xe (pu_q rfl rfl rfl rfl rfl rfl) rfl (Xe (mv_q w0_0 rfl rfl rfl rfl rfl rfl) rfl pq_nil)))))))) (by kernel_rfl) (by decide) (Xa rfl (dn (cd rfl (fun h24 => ?_) (fun h24 => ?_))))
  ·
   exact sr (Xa rfl (dn (sgi (re rfl func11 rfl (r_t rfl Xd) rfl ⟨_, rfl, rfl, z.ky K11⟩))))
  exact sk (ib (rg (Xa rfl (Xa rfl (Xa rfl (dn (lb ih4 ⟨s8, _, rfl, (ue (ue (ue rfl rfl) rfl) rfl), K11⟩)))))))
 exact xt rfl (sgb (sr (Xa rfl (dn (re rfl func11 rfl (r_t rfl Xd) rfl ⟨_, rfl, rfl, z.ky Kx4⟩)))))
def laws_sameFloat.f (a0 : Nat) (a1 : Nat) : Option (Bool) :=
 (if ((fcmp .f64 a0 a0 != some .eq) || (fcmp .f64 a1 a1 != some .eq)) = true then (some ((fcmp .f64 a0 a0 != some .eq) && (fcmp .f64 a1 a1 != some .eq))) else (if ((fcmp .f64 a0 (0 : Nat) == some .eq) && (fcmp .f64 a1 (0 : Nat) == some .eq)) = true then (some ((fcmp .f64 (far .quo (4607182418800017408 : Nat) a0) (0 : Nat) == some .gt) == (fcmp .f64 (far .quo (4607182418800017408 : Nat) a1) (0 : Nat) == some .gt))) else (some (fcmp .f64 a0 a1 == some .eq))))
def laws_sameFloat.Q (w : World) (F : Nat → Prop) (r : Bool) (v : Value) (w' : World) : Prop :=
 v = (.bool r) ∧ Ky [] w w'
theorem laws_sameFloat.calls (a0 : Nat) (a1 : Nat) (w : World) (F : Nat → Prop) (w0_0 : Value) (w1_0 : Value) (h0_0 : Kd.flt.rd w [w0_0] a0 F) (h1_0 : Kd.flt.rd w [w1_0] a1 F) (r : Bool) (m : laws_sameFloat.f a0 a1 = some r) :
  Calls prog 40 #[w0_0, w1_0] w (RT (laws_sameFloat.Q w F) r) := by
 obtain ⟨s0, rfl, kp0, z⟩ := Xi w F
 have A0_0 := fl_of h0_0
 have A1_0 := fl_of h1_0
 refine Xc (args := [w0_0, w1_0]) func40 ntmps40 rfl rfl m ?_
 unfold laws_sameFloat.f
 refine sr (Xa rfl (dn (sq (sr (Xj w0_0 rfl (Xj w0_0 rfl (fq_' A0_0 A0_0 rfl (Xa rfl (jy [8, 9, 10, 11, 12] [] 12 (.bool ((fcmp .f64 a0 a0 != some .eq) || (fcmp .f64 a1 a1 != some .eq))) rfl (fun Kg1 => ?_) (fun j1 => ?_))))))))))
 ·
  rcases bft (fcmp .f64 a0 a0 != some .eq) with hb1 | hb1
  ·
   exact sbT hb1 (Xg rfl (Xg rfl (Xg rfl (Xa rfl (Kg1 _ (Ag.put ((Ag.put ((Ag.put ((Ag.put (Ag.base rfl) rfl)) rfl)) rfl)) rfl) (by rw [hb1]; rfl))))))
  exact sbT hb1 (Xj w1_0 rfl (Xj w1_0 rfl (fq_' A1_0 A1_0 rfl (Xa rfl (Kg1 _ (Ag.put ((Ag.put ((Ag.put ((Ag.put (Ag.base rfl) rfl)) rfl)) rfl)) rfl) (by rw [hb1]; rfl))))))
 refine dn (cd rfl (fun h2 => ?_) (fun h2 => ?_))
 ·
  refine sr (Xj w0_0 rfl (Xj w0_0 rfl (fq_' A0_0 A0_0 rfl (Xa rfl (jy [16, 17, 18, 19, 20] [8] 20 (.bool ((fcmp .f64 a0 a0 != some .eq) && (fcmp .f64 a1 a1 != some .eq))) rfl (fun Kg3 => ?_) (fun j3 => ?_))))))
  ·
   rcases bft (fcmp .f64 a0 a0 != some .eq) with hb3 | hb3
   ·
    exact sbT hb3 (Xj w1_0 rfl (Xj w1_0 rfl (fq_' A1_0 A1_0 rfl (Xa rfl (Kg3 _ (Ag.put ((Ag.put ((Ag.put ((Ag.put (Ag.base rfl) rfl)) rfl)) rfl)) rfl) (by rw [hb3]; rfl))))))
   exact sbT hb3 (Xg rfl (Xg rfl (Xg rfl (Xa rfl (Kg3 _ (Ag.put ((Ag.put ((Ag.put ((Ag.put (Ag.base rfl) rfl)) rfl)) rfl)) rfl) (by rw [hb3]; rfl))))))
  exact Xa rfl (dn (re rfl func40 rfl (r_t rfl Xd) rfl ⟨_, rfl, rfl, z.ky kp0⟩))
 refine sk (sq (sr (Xj w0_0 rfl (fq_' A0_0 (fl_c rfl) rfl (Xa rfl (jy [23, 24, 25, 26] [] 26 (.bool ((fcmp .f64 a0 (0 : Nat) == some .eq) && (fcmp .f64 a1 (0 : Nat) == some .eq))) rfl (fun Kg4 => ?_) (fun j4 => ?_)))))))
 ·
  rcases bft (fcmp .f64 a0 (0 : Nat) == some .eq) with hb4 | hb4
  ·
   exact sbT hb4 (Xj w1_0 rfl (fq_' A1_0 (fl_c rfl) rfl (Xa rfl (Kg4 _ (Ag.put ((Ag.put ((Ag.put (Ag.base rfl) rfl)) rfl)) rfl) (by rw [hb4]; rfl)))))
  exact sbT hb4 (Xg rfl (Xg rfl (Xa rfl (Kg4 _ (Ag.put ((Ag.put ((Ag.put (Ag.base rfl) rfl)) rfl)) rfl) (by rw [hb4]; rfl)))))
 refine dn (cd rfl (fun h5 => ?_) (fun h5 => ?_))
 ·
  refine sr (Xj w0_0 rfl (fa_ (fl_c rfl) A0_0 (by simp) rfl rfl rfl rfl rfl rfl rfl (fun v6 s6 p6 A6 => ?_)))
  refine fq_' A6 (fl_c rfl) rfl (Xj w1_0 rfl (fa_ (fl_c rfl) A1_0 (by simp) rfl rfl rfl rfl rfl rfl rfl (fun v7 s7 p7 A7 => ?_)))
  refine fq_' A7 (fl_c rfl) rfl (beq_ u4 rfl rfl rfl rfl rfl rfl rfl (Xa rfl (dn ?_)))
  exact re rfl func40 rfl (r_t rfl Xd) rfl ⟨_, rfl, rfl, z.ky (kp0.st (tr2 p6 p7) rfl)⟩
 exact sk (sr (Xj w0_0 rfl (Xj w1_0 rfl (fq_' A0_0 A1_0 rfl (Xa rfl (dn (re rfl func40 rfl (r_t rfl Xd) rfl ⟨_, rfl, rfl, z.ky kp0⟩)))))))
def laws_eqItem.f (a0 : Item) (a1 : Item) : Option (Bool) :=
 (if (a0.Kind != a1.Kind) = true then (some false) else (if (a0.N != a1.N) = true then (some false) else ((laws_sameFloat.f a0.F a1.F).bind fun r12 => (if (!r12) = true then (some false) else ((laws_eqByteS.f a0.T a1.T).bind fun r21 => (if (!r21) = true then (some false) else (some true)))))))
def laws_eqItem.Q (w : World) (F : Nat → Prop) (r : Bool) (v : Value) (w' : World) : Prop :=
 v = (.bool r) ∧ Ky [] w w'
theorem laws_eqItem.calls (a0 : Item) (a1 : Item) (w : World) (F : Nat → Prop) (w0_0 : Value) (w0_1 : Value) (w1_0 : Value) (w1_1 : Value) (h0_0 : Kd.flt.rd w [w0_0] a0.F F) (h0_1 : Xk.rd w [w0_1] a0.T F) (h1_0 : Kd.flt.rd w [w1_0] a1.F F) (h1_1 : Xk.rd w [w1_1] a1.T F) (r : Bool) (m : laws_eqItem.f a0 a1 = some r) :
  Calls prog 12 #[(.agg #[(iI a0.Kind), (iI a0.N), w0_0, w0_1]), (.agg #[(iI a1.Kind), (iI a1.N), w1_0, w1_1])] w (RT (laws_eqItem.Q w F) r) := by
 obtain ⟨s0, rfl, kp0, z⟩ := Xi w F
 refine Xc (args := [(.agg #[(iI a0.Kind), (iI a0.N), w0_0, w0_1]), (.agg #[(iI a1.Kind), (iI a1.N), w1_0, w1_1])]) func12 ntmps12 rfl rfl m ?_
 unfold laws_eqItem.f
 refine sr (bx (cs := [(iI a0.Kind), (iI a0.N), w0_0, w0_1]) 40 rfl rfl rfl rfl rfl rfl (fun b3 s3 p3 B3 => ?_))
 refine bx (cs := [(iI a1.Kind), (iI a1.N), w1_0, w1_1]) 41 rfl rfl rfl rfl rfl rfl (fun b5 s5 p5 B5 => ?_)
 refine Xa rfl (dn (sq (sr (fa' fa28_0 rfl ?_))))
 have A7 := B3.st p5 rfl
 refine ld' A7 u3 rfl (fa' fa28_0 rfl (ld' B5 u3 rfl (Xa rfl (dn (cd rfl (fun h8 => ?_) (fun h8 => ?_))))))
 ·
  refine sr (Xa rfl (dn ?_))
  exact re rfl func12 rfl (r_t rfl Xd) rfl ⟨_, rfl, rfl, z.ky (kp0.st (tr2 p3 p5) rfl)⟩
 refine sk (sq (sr (fa' fa28_1 rfl (ld' A7 u3 rfl (fa' fa28_1 rfl (ld' B5 u3 rfl (Xa rfl (dn (cd rfl (fun h10 => ?_) (fun h10 => ?_))))))))))
 ·
  refine sr (Xa rfl (dn ?_))
  exact re rfl func12 rfl (r_t rfl Xd) rfl ⟨_, rfl, rfl, z.ky (kp0.st (tr2 p3 p5) rfl)⟩
 refine sk (sq (sr (fa' fa28_2 rfl (ld' A7 u22 rfl (fa' fa28_2 rfl (ld' B5 u22 rfl (clV 42 rfl func40 rfl (laws_sameFloat.calls a0.F a1.F s5.w (mm [] s5) w0_0 w1_0 (fl_rdf (s := s5) (fl_of h0_0)) (fl_rdf (s := s5) (fl_of h1_0))) (fun r12 s13 p13 n13 => ?_))))))))
 refine Xa rfl (dn (cd rfl (fun h14 => ?_) (fun h14 => ?_)))
 ·
  refine sr (Xa rfl (dn ?_))
  exact re rfl func12 rfl (r_t rfl Xd) rfl ⟨_, rfl, rfl, z.ky (kp0.st (tr3 p3 p5 p13) rfl)⟩
 refine sk (sq (sr (fa' fa28_3 rfl ?_)))
 refine ld' (A7.st p13 rfl) u23 rfl (fa' fa28_3 rfl ?_)
 refine ld' (B5.st p13 rfl) u23 rfl ?_
 have K18 := kp0.st (tr3 p3 p5 p13) rfl
 refine clV 43 rfl func11 rfl (laws_eqByteS.calls a0.T a1.T s13.w (mm [0] s13) w0_1 w1_1 ((z.rd h0_1).kp K18) ((z.rd h1_1).kp K18)) (fun r21 s22 p22 n22 => ?_)
 refine Xa rfl (dn (cd rfl (fun h23 => ?_) (fun h23 => ?_)))
 ·
  refine sr (Xa rfl (dn ?_))
  exact re rfl func12 rfl (r_t rfl Xd) rfl ⟨_, rfl, rfl, z.ky (K18.st p22 rfl)⟩
 refine sk (sr (Xa rfl (dn ?_)))
 exact re rfl func12 rfl (r_t rfl Xd) rfl ⟨_, rfl, rfl, z.ky (K18.st p22 rfl)⟩
def laws_markByteS.b0  (x2 : (List Int) × Int × Int) : Option (((List Int) × Int × Int) ⊕ (Int × (List Int))) :=
 (if (decide (x2.2.2 < (x2.1.length : Int))) = true then (if 0 ≤ x2.2.2 ∧ x2.2.2 < (x2.1.length : Int) then (some (Sum.inl ((x2.1.set (x2.2.2).toNat (IntKind.wrap .u8 x2.2.1)), (IntKind.wrap .i64 (x2.2.1 + (1 : Int))), (IntKind.wrap .i64 (x2.2.2 + (1 : Int)))))) else none) else ((some (x2.2.1, x2.1)).bind fun o => some (Sum.inr o)))
def laws_markByteS.f (a0 : (List Int)) (a1 : Int) : Option (Int × (List Int)) :=
 (iter laws_markByteS.b0 (a0, a1, (0 : Int)))
def laws_markByteS.Q (w : World) (F : Nat → Prop) (os : List Nat) (w0_0 : Value) (r : Int × (List Int)) (v : Value) (w' : World) : Prop :=
 v = (iI r.1) ∧ FW Xk os w w' [w0_0] r.2 ∧ Ky os w w'
theorem laws_markByteS.calls (a0 : (List Int)) (a1 : Int) (w : World) (F : Nat → Prop) (w0_0 : Value) (os : List Nat) (h0_0 : Xk.ow w [w0_0] a0 os) (hn : os.Nodup) (hF : ∀ b, F b → b ∉ os) (r : Int × (List Int)) (m : laws_markByteS.f a0 a1 = some r) :
  Calls prog 14 #[w0_0, (iI a1)] w (RT (laws_markByteS.Q w F os w0_0) r) := by
 obtain ⟨s0, rfl, kp0, z⟩ := start1 w F os hF
 refine Xc (args := [w0_0, (iI a1)]) func14 ntmps14 rfl rfl m ?_
 unfold laws_markByteS.f
 refine sr (Xa rfl (dn (sq (sr (Xa rfl (dn (bl (lpI (fun (x2 : (List Int) × Int × Int) e w => ∃ (s : St) (e0 : Env), w = s.w ∧ e = upd (upd (upd e0 0 w0_0) 1 (iI x2.2.1)) 5 (iI x2.2.2) ∧ Kp s0 s ∧ OwF Xk s [w0_0] x2.1 2) ⟨s0, _, rfl, (ue (ue (ue rfl rfl) rfl) rfl), kp0, (z.ow h0_0 hn)⟩ (fun g2 ih2 => ?_)))))))))
 rintro x2 _ _ ⟨s3, _, rfl, rfl, Kx2, Ax2_0⟩
 unfold laws_markByteS.b0
 refine sq (sr (Xa rfl (Xj w0_0 rfl (ln' Ax2_0.rd u23 rfl (Xa rfl (dn (cd rfl (fun h5 => ?_) (fun h5 => ?_))))))))
 ·
  refine sk (sq (bl (sr (Xj w0_0 rfl (Xa rfl (Xa rfl (cv u5 u3 rfl rfl rfl rfl rfl rfl (ix' Ax2_0.rd u23 z5 rfl (fun ad6 es6 h0_6 h1_6 he6 ce6 ia6 => ?_)))))))))
  obtain rfl := he6
  refine so (x' := (IntKind.wrap .u8 x2.2.1)) Ax2_0 ia6 h0_6 h1_6 cs_flat z5 rfl rfl rfl rfl rfl rfl (fun s8 p8 A8 => ?_)
  refine dn (rg (Xa rfl (Xa rfl (Xa rfl (dn (ib (rg (Xa rfl (Xa rfl (Xa rfl (dn ?_)))))))))))
  exact lb ih2 ⟨s8, _, rfl, (ue (ue (ue rfl rfl) rfl) rfl), (Kx2.st p8 rfl), A8⟩
 exact xt rfl (sgb (sr (Xa rfl (Xa rfl (dn (re rfl func14 rfl (r_t rfl Xd) rfl ⟨_, rfl, rfl, z.fw Kx2 Ax2_0, z.ky Kx2⟩))))))
def laws_markItem.f (a0 : Item) (a1 : Int) : Option (Int × (List Int)) :=
 ((laws_markByteS.f a0.T a1).bind fun r4 => (some (r4.1, r4.2)))
def laws_markItem.Q (w : World) (F : Nat → Prop) (os : List Nat) (w0_1 : Value) (r : Int × (List Int)) (v : Value) (w' : World) : Prop :=
 v = (iI r.1) ∧ FW Xk os w w' [w0_1] r.2 ∧ Ky os w w'
theorem laws_markItem.calls (a0 : Item) (a1 : Int) (w : World) (F : Nat → Prop) (w0_0 : Value) (w0_1 : Value) (h0_0 : Kd.flt.rd w [w0_0] a0.F F) (os : List Nat) (h0_1 : Xk.ow w [w0_1] a0.T os) (hn : os.Nodup) (hF : ∀ b, F b → b ∉ os) (r : Int × (List Int)) (m : laws_markItem.f a0 a1 = some r) :
  Calls prog 13 #[(.agg #[(iI a0.Kind), (iI a0.N), w0_0, w0_1]), (iI a1)] w (RT (laws_markItem.Q w F os w0_1) r) := by
 obtain ⟨s0, rfl, kp0, z⟩ := start1 w F os hF
 refine Xc (args := [(.agg #[(iI a0.Kind), (iI a0.N), w0_0, w0_1]), (iI a1)]) func13 ntmps13 rfl rfl m ?_
 unfold laws_markItem.f
 refine sr (bx (cs := [(iI a0.Kind), (iI a0.N), w0_0, w0_1]) 40 rfl rfl rfl rfl rfl rfl (fun b2 s2 p2 B2 => ?_))
 refine Xa rfl (dn (sr (fa' fa28_3 rfl (ld' B2 u23 rfl (Xa rfl ?_)))))
 obtain ⟨os4, ho4, hn4, hc4⟩ := (z.ow h0_1 hn).st p2 rfl
 refine cl' rfl func14 rfl (laws_markByteS.calls a0.T a1 s2.w (mm [] s2) w0_1 os4 ho4 hn4 (apart_of hc4 rfl)) ?_
 rintro r4 _ w4 m4 ⟨rfl, w4_, ky4⟩
 obtain ⟨s6, rfl, p6, A6⟩ := nwo 41 hc4 ky4 w4_
 refine Xa rfl (dn (sr (Xa rfl (Xa rfl (dn ?_)))))
 have K8 := kp0.st (tr2 p2 p6) rfl
 exact re rfl func13 rfl (r_t rfl Xd) rfl ⟨_, rfl, rfl, z.fw K8 A6, z.ky K8⟩
def laws_heldByteS.b0 (a0 : (List Int)) (x2 : Int × Int) : Option ((Int × Int) ⊕ Int) :=
 (if (decide (x2.2 < (a0.length : Int))) = true then (if 0 ≤ x2.2 ∧ x2.2 < (a0.length : Int) then (if ((at_ a0 x2.2) != (IntKind.wrap .u8 x2.1)) = true then (some (Sum.inr (-1 : Int))) else (some (Sum.inl ((IntKind.wrap .i64 (x2.1 + (1 : Int))), (IntKind.wrap .i64 (x2.2 + (1 : Int))))))) else none) else ((some x2.1).bind fun o => some (Sum.inr o)))
def laws_heldByteS.f (a0 : (List Int)) (a1 : Int) : Option (Int) :=
 (iter (laws_heldByteS.b0 a0) (a1, (0 : Int)))
def laws_heldByteS.Q (w : World) (F : Nat → Prop) (r : Int) (v : Value) (w' : World) : Prop :=
 v = (iI r) ∧ Ky [] w w'
theorem laws_heldByteS.calls (a0 : (List Int)) (a1 : Int) (w : World) (F : Nat → Prop) (w0_0 : Value) (h0_0 : Xk.rd w [w0_0] a0 F) (r : Int) (m : laws_heldByteS.f a0 a1 = some r) :
  Calls prog 15 #[w0_0, (iI a1)] w (RT (laws_heldByteS.Q w F) r) := by
 obtain ⟨s0, rfl, kp0, z⟩ := Xi w F
 refine Xc (args := [w0_0, (iI a1)]) func15 ntmps15 rfl rfl m ?_
 unfold laws_heldByteS.f
 refine sr (Xa rfl (dn (sq (sr (Xa rfl (dn (bl (lpI (fun (x2 : Int × Int) e w => ∃ (s : St) (e0 : Env), w = s.w ∧ e = upd (upd (upd e0 0 w0_0) 1 (iI x2.1)) 5 (iI x2.2) ∧ Kp s0 s) ⟨s0, _, rfl, (ue (ue (ue rfl rfl) rfl) rfl), kp0⟩ (fun g2 ih2 => ?_)))))))))
 rintro x2 _ _ ⟨s3, _, rfl, rfl, Kx2⟩
 unfold laws_heldByteS.b0
 refine sq (sr (Xa rfl (Xj w0_0 rfl ?_)))
 have A4 := (z.rd h0_0).kp Kx2
 refine ln' A4 u23 rfl (Xa rfl (dn (cd rfl (fun h5 => ?_) (fun h5 => ?_))))
 ·
  refine sk (sq (bl (sq (sr (Xj w0_0 rfl (Xa rfl (ix' A4 u23 z5 rfl (fun ad6 es6 h0_6 h1_6 he6 ce6 ia6 => ?_))))))))
  obtain rfl := he6
  refine lc0' ce6 u5 rfl (Xa rfl (cv u5 u3 rfl rfl rfl rfl rfl rfl (Xa rfl (dn (cd rfl (fun h8 => ?_) (fun h8 => ?_))))))
  ·
   exact sr (Xa rfl (dn (sgi (re rfl func15 rfl (r_t rfl Xd) rfl ⟨_, rfl, rfl, z.ky Kx2⟩))))
  exact sk (rg (Xa rfl (Xa rfl (Xa rfl (dn (ib (rg (Xa rfl (Xa rfl (Xa rfl (dn (lb ih2 ⟨s3, _, rfl, (ue (ue (ue rfl rfl) rfl) rfl), Kx2⟩))))))))))))
 exact xt rfl (sgb (sr (Xa rfl (Xa rfl (dn (re rfl func15 rfl (r_t rfl Xd) rfl ⟨_, rfl, rfl, z.ky Kx2⟩))))))
def spec_l18number.b0 (a0 : (List Int)) (y6 : Int) (x12 : Int × Int) : Option ((Int × Int) ⊕ (Int × Bool)) :=
 (if (decide (x12.2 < (a0.length : Int))) = true then (if 0 ≤ x12.2 ∧ x12.2 < (a0.length : Int) then ((if (decide ((at_ a0 x12.2) < (48 : Int))) = true then (some true) else (if 0 ≤ x12.2 ∧ x12.2 < (a0.length : Int) then (some (decide ((at_ a0 x12.2) > (57 : Int)))) else none)).bind fun y18 => (if y18 = true then (some (Sum.inr ((0 : Int), false))) else (if 0 ≤ x12.2 ∧ x12.2 < (a0.length : Int) then (some (Sum.inl ((IntKind.wrap .u64 ((IntKind.wrap .u64 (x12.1 * (10 : Int))) + (IntKind.wrap .u64 (IntKind.wrap .u8 ((at_ a0 x12.2) - (48 : Int)))))), (IntKind.wrap .i64 (x12.2 + (1 : Int)))))) else none))) else none) else (((if (y6 == (1 : Int)) = true then (some (IntKind.wrap .i64 (IntKind.wrap .u64 (0 - x12.1)))) else (some (IntKind.wrap .i64 x12.1))).bind fun y26 => ((spec_l18digits.f y26).bind fun r39 => (some (y26, ((str r39).toList == (str a0).toList))))).bind fun o => some (Sum.inr o)))
def spec_l18number.f (a0 : (List Int)) : Option (Int × Bool) :=
 ((if (decide ((a0.length : Int) > (0 : Int))) = true then (if 0 ≤ (0 : Int) ∧ (0 : Int) < (a0.length : Int) then (some ((at_ a0 (0 : Int)) == (45 : Int))) else none) else (some false)).bind fun y2 => ((if y2 = true then (some (1 : Int)) else (some (0 : Int))).bind fun y6 => (if (((a0.length : Int) == y6) || (decide ((a0.length : Int) > (20 : Int)))) = true then (some ((0 : Int), false)) else (iter (spec_l18number.b0 a0 y6) ((0 : Int), y6)))))
def spec_l18number.Q (w : World) (F : Nat → Prop) (r : Int × Bool) (v : Value) (w' : World) : Prop :=
 v = .tuple #[(iI r.1), (.bool r.2)] ∧ Ky [] w w'
theorem spec_l18number.calls (a0 : (List Int)) (w : World) (F : Nat → Prop) (w0_0 : Value) (h0_0 : Xk.rd w [w0_0] a0 F) (r : Int × Bool) (m : spec_l18number.f a0 = some r) :
  Calls prog 57 #[w0_0] w (RT (spec_l18number.Q w F) r) := by
 obtain ⟨s0, rfl, kp0, z⟩ := Xi w F
 have A0_0 := z.rd h0_0
 refine Xc (args := [w0_0]) func57 ntmps57 rfl rfl m ?_
 unfold spec_l18number.f
 refine sr (Xa rfl (Xa rfl (dn (sr (Xa rfl (dn (sq (sr (Xj w0_0 rfl (ln' A0_0 u23 rfl (Xa rfl (Xa rfl (ji [] (fun (y2 : Bool) e w => ∃ (s : St) (e0 : Env), w = s.w ∧ e = upd (upd (upd e0 0 w0_0) 4 (iI 0)) 16 (.bool y2) ∧ Kp s0 s) (fun Gj2 Kj2 => ?_) ?_)))))))))))))
 ·
  rcases bft (decide ((a0.length : Int) > (0 : Int))) with hb2 | hb2
  ·
   refine sbT hb2 ?_
   rw [if_pos hb2]
   refine Xj w0_0 rfl (ix' A0_0 u23 z5 rfl (fun ad3 es3 h0_3 h1_3 he3 ce3 ia3 => ?_))
   obtain rfl := he3
   exact lc0' ce3 u5 rfl (Xa rfl (Xa rfl (Kj2 _ _ _ ⟨s0, _, rfl, (ue (ue (ue rfl rfl) rfl) rfl), kp0⟩)))
  refine sbT hb2 ?_
  rw [if_neg (by rw [hb2]; decide)]
  exact Xg rfl (Xg rfl (Xg rfl (Xg rfl (Xa rfl (Kj2 _ _ _ ⟨s0, _, rfl, (ue (ue (ue rfl rfl) rfl) rfl), kp0⟩)))))
 rintro y2 _ _ ⟨s5, _, rfl, rfl, Ky2⟩
 refine dn (jc (fun (y6 : Int) e w => ∃ (s : St) (e0 : Env), w = s.w ∧ e = upd (upd e0 0 w0_0) 4 (iI y6) ∧ Kp s0 s) (fun Gj6 Kj6 => ?_) ?_)
 ·
  refine cd rfl (fun h7 => ?_) (fun h7 => ?_)
  ·
   exact rg (Xa rfl (dn (Kj6 _ _ _ ⟨s5, _, rfl, (ue (ue rfl rfl) rfl), Ky2⟩)))
  exact sk (Kj6 _ _ _ ⟨s5, _, rfl, (ue (ue rfl rfl) rfl), Ky2⟩)
 rintro y6 _ _ ⟨s8, _, rfl, rfl, Ky6⟩
 refine sq (sr (Xj w0_0 rfl ?_))
 have A9 := A0_0.kp Ky6
 refine ln' A9 u23 rfl (Xa rfl (Xa rfl (Xa rfl (jy [21, 22, 23, 24, 25] [] 25 (.bool (((a0.length : Int) == y6) || (decide ((a0.length : Int) > (20 : Int))))) rfl (fun Kg10 => ?_) (fun j10 => ?_)))))
 ·
  rcases bft ((a0.length : Int) == y6) with hb10 | hb10
  ·
   exact sbT hb10 (Xg rfl (Xg rfl (Xg rfl (Xa rfl (Kg10 _ (Ag.put ((Ag.put ((Ag.put ((Ag.put (Ag.base rfl) rfl)) rfl)) rfl)) rfl) (by rw [hb10]; rfl))))))
  exact sbT hb10 (Xj w0_0 rfl (ln' A9 u23 rfl (Xa rfl (Xa rfl (Kg10 _ (Ag.put ((Ag.put ((Ag.put ((Ag.put (Ag.base rfl) rfl)) rfl)) rfl)) rfl) (by rw [hb10]; rfl))))))
 refine dn (cd rfl (fun h11 => ?_) (fun h11 => ?_))
 ·
  exact sr (Xa rfl (Xa rfl (dn (re rfl func57 rfl (r_t rfl (r_t rfl Xd)) rfl ⟨_, rfl, rfl, z.ky Ky6⟩))))
 refine sk (sr (Xa rfl (dn (sq (sr (Xa rfl (Xa rfl (dn (bl (lpI (fun (x12 : Int × Int) e w => ∃ (s : St) (e0 : Env), w = s.w ∧ e = upd (upd (upd (upd e0 0 w0_0) 4 (iI y6)) 5 (.int .u64 x12.1)) 6 (iI x12.2) ∧ Kp s0 s) ⟨s8, _, rfl, (ue (ue (ue (ue rfl rfl) rfl) rfl) rfl), Ky6⟩ (fun g12 ih12 => ?_)))))))))))
 rintro x12 _ _ ⟨s13, _, rfl, rfl, Kx12⟩
 unfold spec_l18number.b0
 refine sq (sr (Xa rfl (Xj w0_0 rfl ?_)))
 have A14 := A0_0.kp Kx12
 refine ln' A14 u23 rfl (Xa rfl (dn (cd rfl (fun h15 => ?_) (fun h15 => ?_))))
 ·
  refine sk (sq (bl (sq (sr (Xj w0_0 rfl (Xa rfl (ix' A14 u23 z5 rfl (fun ad16 es16 h0_16 h1_16 he16 ce16 ia16 => ?_))))))))
  obtain rfl := he16
  refine lc0' ce16 u5 rfl (Xa rfl (Xa rfl (ji [] (fun (y18 : Bool) e w => ∃ (s : St) (e0 : Env), w = s.w ∧ e = upd (upd (upd (upd (upd e0 0 w0_0) 4 (iI y6)) 5 (.int .u64 x12.1)) 6 (iI x12.2)) 44 (.bool y18) ∧ Kp s0 s) (fun Gj18 Kj18 => ?_) ?_)))
  ·
   rcases bft (decide ((at_ a0 x12.2) < (48 : Int))) with hb18 | hb18
   ·
    refine sbT hb18 ?_
    rw [if_pos hb18]
    exact Xg rfl (Xg rfl (Xg rfl (Xg rfl (Xg rfl (Xa rfl (Kj18 _ _ _ ⟨s13, _, rfl, (ue (ue (ue (ue (ue rfl rfl) rfl) rfl) rfl) rfl), Kx12⟩))))))
   refine sbT hb18 ?_
   rw [if_neg (by rw [hb18]; decide)]
   refine Xj w0_0 rfl (Xa rfl (ix' A14 u23 z5 rfl (fun ad19 es19 h0_19 h1_19 he19 ce19 ia19 => ?_)))
   obtain rfl := he19
   exact lc0' ce19 u5 rfl (Xa rfl (Xa rfl (Kj18 _ _ _ ⟨s13, _, rfl, (ue (ue (ue (ue (ue rfl rfl) rfl) rfl) rfl) rfl), Kx12⟩)))
  rintro y18 _ _ ⟨s21, _, rfl, rfl, Ky18⟩
  refine dn (cd rfl (fun h22 => ?_) (fun h22 => ?_))
  ·
   exact sr (Xa rfl (Xa rfl (dn (sgi (re rfl func57 rfl (r_t rfl (r_t rfl Xd)) rfl ⟨_, rfl, rfl, z.ky Ky18⟩)))))
  refine sk (rg (Xa rfl (Xa rfl (Xj w0_0 rfl (Xa rfl ?_)))))
  refine ix' (A0_0.kp Ky18) u23 z5 rfl (fun ad24 es24 h0_24 h1_24 he24 ce24 ia24 => ?_)
  obtain rfl := he24
  exact lc0' ce24 u5 rfl (Xa rfl (cv u65 u5 rfl rfl rfl rfl rfl rfl (Xa rfl (Xa rfl (dn (ib (rg (Xa rfl (Xa rfl (Xa rfl (dn (lb ih12 ⟨s21, _, rfl, (ue (ue (ue (ue rfl rfl) rfl) rfl) rfl), Ky18⟩))))))))))))
 refine xt rfl (sgb (sr (Xa rfl (cv u3 u65 rfl rfl rfl rfl rfl rfl (Xa rfl (dn (sq (sr (Xa rfl (Xa rfl (dn (jc (fun (y26 : Int) e w => ∃ (s : St) (e0 : Env), w = s.w ∧ e = upd (upd e0 0 w0_0) 7 (iI y26) ∧ Kp s0 s) (fun Gj26 Kj26 => ?_) ?_))))))))))))
 ·
  refine cd rfl (fun h27 => ?_) (fun h27 => ?_)
  ·
   exact rg (Xa rfl (Xa rfl (cv u3 u65 rfl rfl rfl rfl rfl rfl (Xa rfl (dn (Kj26 _ _ _ ⟨s13, _, rfl, (ue (ue rfl rfl) rfl), Kx12⟩))))))
  exact sk (Kj26 _ _ _ ⟨s13, _, rfl, (ue (ue rfl rfl) rfl), Kx12⟩)
 rintro y26 _ _ ⟨s28, _, rfl, rfl, Ky26⟩
 refine sq (zdraw [[], [], [1], [2], [], [4], [3, 5], [0, 2, 0], [6, 7, 0, 1, 2, 3, 4, 5, 6, 7]] [some 61, some 62, some 63, some 64, some 65, some 66, some 67, some 2, some 3] [[7], [7], [62], [63], [0], [65], [64, 66], [61], [67]] [0, 1, 2, 4, 5, 6, 7, 3, 8] ⟨by kernel_rfl, by kernel_rfl, by kernel_rfl⟩ (by kernel_rfl) (fun s29 p29 l29 tb29 zd29 => ?_))
 refine zstep 2 [some 66, some 65, some 61] tb29 ((((zd29.add 0 61 (iI y26) rfl).add 1 62 (iI y26) rfl).add 4 65 w0_0 rfl).add 5 66 (.string (str a0)) rfl) (Xe (b2s_q (A0_0.kp (Ky26.st p29 rfl)) u23 u9 u5 rfl rfl rfl rfl rfl rfl) rfl (Xe (mv_q w0_0 rfl rfl rfl rfl rfl rfl) rfl (Xe (pu_q rfl rfl rfl rfl rfl rfl) rfl (Xe (pu_q rfl rfl rfl rfl rfl rfl) rfl pq_nil)))) (by kernel_rfl) rfl (fun l36 e36 zd36 => ?_)
 refine clO 40 rfl func34 rfl (spec_l18digits.calls y26 s29.w (mm [] s29)) (fun r39 v39_0 s40 p40 A39_0 => ?_)
 refine zdone (L' := [5, 4, 0]) (D' := [1, 2]) zd36 rfl rfl rfl (fun zd42 => ?_)
 refine zfin [8] tb29 (((zd42.add 3 64 (.string (str r39)) rfl).add 6 67 (.bool ((str r39).toList == (str a0).toList)) rfl).add 7 2 (iI y26) rfl) (Xe (pu_q rfl rfl rfl rfl rfl rfl) rfl (Xe (pu_q rfl rfl rfl rfl rfl rfl) rfl (Xe (b2s_q A39_0.rd u23 u9 u5 rfl rfl rfl rfl rfl rfl) rfl (Xe (b2s_q (A0_0.kp (Ky26.st (tr2 p29 p40) rfl)) u23 u9 u5 rfl rfl rfl rfl rfl rfl) rfl (Xe (mv_q w0_0 rfl rfl rfl rfl rfl rfl) rfl (Xe (pu_q rfl rfl rfl rfl rfl rfl) rfl pq_nil)))))) (by kernel_rfl) (by decide) (Xa rfl (dn ?_))
 exact re rfl func57 rfl (r_t rfl (r_t rfl Xd)) rfl ⟨_, rfl, rfl, z.ky (Ky26.st (tr2 p29 p40) rfl)⟩
def spec_l18unhex.b0 (a0 : (List Int)) (x2 : (List Int) × Int × Int) : Option (((List Int) × Int × Int) ⊕ ((List Int) × Bool)) :=
 (if (decide (x2.2.2 < (a0.length : Int))) = true then (if 0 ≤ x2.2.2 ∧ x2.2.2 < (a0.length : Int) then ((if (decide ((at_ a0 x2.2.2) ≥ (48 : Int))) = true then (if 0 ≤ x2.2.2 ∧ x2.2.2 < (a0.length : Int) then (some (decide ((at_ a0 x2.2.2) ≤ (57 : Int)))) else none) else (some false)).bind fun y9 => ((if y9 = true then (if 0 ≤ x2.2.2 ∧ x2.2.2 < (a0.length : Int) then (some (Sum.inl (IntKind.wrap .i64 ((IntKind.wrap .i64 (at_ a0 x2.2.2)) - (48 : Int))))) else none) else (if 0 ≤ x2.2.2 ∧ x2.2.2 < (a0.length : Int) then ((if (decide ((at_ a0 x2.2.2) ≥ (97 : Int))) = true then (if 0 ≤ x2.2.2 ∧ x2.2.2 < (a0.length : Int) then (some (decide ((at_ a0 x2.2.2) ≤ (102 : Int)))) else none) else (some false)).bind fun y21 => (if y21 = true then (if 0 ≤ x2.2.2 ∧ x2.2.2 < (a0.length : Int) then (some (Sum.inl (IntKind.wrap .i64 ((IntKind.wrap .i64 (at_ a0 x2.2.2)) - (87 : Int))))) else none) else (some (Sum.inr (Sum.inr (([] : (List Int)), false)))))) else none)).bind (sel fun y13 => ((if ((x2.2.2.tmod (2 : Int)) == (1 : Int)) = true then (if x2.1.length + ([(IntKind.wrap .u8 (IntKind.wrap .i64 ((IntKind.wrap .i64 (x2.2.1 * (16 : Int))) + y13)))]).length ≤ Lim then (some ((x2.1 ++ [(IntKind.wrap .u8 (IntKind.wrap .i64 ((IntKind.wrap .i64 (x2.2.1 * (16 : Int))) + y13)))]), (0 : Int))) else none) else (some (x2.1, (IntKind.wrap .i64 ((IntKind.wrap .i64 (x2.2.1 * (16 : Int))) + y13))))).bind fun y30 => (some (Sum.inl (y30.1, y30.2, (IntKind.wrap .i64 (x2.2.2 + (1 : Int)))))))))) else none) else ((some (x2.1, (((a0.length : Int).tmod (2 : Int)) == (0 : Int)))).bind fun o => some (Sum.inr o)))
def spec_l18unhex.f (a0 : (List Int)) : Option ((List Int) × Bool) :=
 (iter (spec_l18unhex.b0 a0) (([] : (List Int)), (0 : Int), (0 : Int)))
def spec_l18unhex.Q (w : World) (F : Nat → Prop) (r : (List Int) × Bool) (v : Value) (w' : World) : Prop :=
 ∃ (v0 : Value), v = .tuple #[v0, (.bool r.2)] ∧ FO Xk w w' [v0] r.1 ∧ Ky [] w w'
theorem spec_l18unhex.calls (a0 : (List Int)) (w : World) (F : Nat → Prop) (w0_0 : Value) (h0_0 : Xk.rd w [w0_0] a0 F) (r : (List Int) × Bool) (m : spec_l18unhex.f a0 = some r) :
  Calls prog 58 #[w0_0] w (RT (spec_l18unhex.Q w F) r) := by
 obtain ⟨s0, rfl, kp0, z⟩ := Xi w F
 have A0_0 := z.rd h0_0
 refine Xc (args := [w0_0]) func58 ntmps58 rfl rfl m ?_
 unfold spec_l18unhex.f
 refine sr (Xa rfl (Xa rfl (dn (sr (Xa rfl (dn (sr (Xa rfl (dn (sq (sr (Xa rfl (dn (bl ?_))))))))))))))
 refine lpI (fun (x2 : (List Int) × Int × Int) e w => ∃ (s : St) (e0 : Env) (vx2_0 : Value), w = s.w ∧ e = upd (upd (upd (upd e0 0 w0_0) 4 vx2_0) 5 (iI x2.2.1)) 6 (iI x2.2.2) ∧ Kp s0 s ∧ OwF Xk s [vx2_0] x2.1 40) ⟨s0, _, (.slice none 0 0), rfl, (ue (ue (ue (ue rfl rfl) rfl) rfl) rfl), kp0, (ow_nil 5 (Kd.int .u8) _ 40)⟩ (fun g2 ih2 => ?_)
 rintro x2 _ _ ⟨s3, _, vx2_0, rfl, rfl, Kx2, Ax2_0⟩
 unfold spec_l18unhex.b0
 refine sq (sr (Xa rfl (Xj w0_0 rfl ?_)))
 have A5 := A0_0.kp Kx2
 refine ln' A5 u23 rfl (Xa rfl (dn (cd rfl (fun h6 => ?_) (fun h6 => ?_))))
 ·
  refine sk (sq (bl (sr (Xa rfl (dn (sq (bl (sr (Xj w0_0 rfl (Xa rfl (ix' A5 u23 z5 rfl (fun ad7 es7 h0_7 h1_7 he7 ce7 ia7 => ?_))))))))))))
  obtain rfl := he7
  refine lc0' ce7 u5 rfl (Xa rfl (Xa rfl (ji [12] (fun (y9 : Bool) e w => ∃ (s : St) (e0 : Env), w = s.w ∧ e = upd (upd (upd (upd (upd e0 0 w0_0) 4 vx2_0) 5 (iI x2.2.1)) 6 (iI x2.2.2)) 26 (.bool y9) ∧ Kp s0 s ∧ OwF Xk s [vx2_0] x2.1 40) (fun Gj9 Kj9 => ?_) ?_)))
  ·
   rcases bft (decide ((at_ a0 x2.2.2) ≥ (48 : Int))) with hb9 | hb9
   ·
    refine sbT hb9 ?_
    rw [if_pos hb9]
    refine Xj w0_0 rfl (Xa rfl (ix' A5 u23 z5 rfl (fun ad10 es10 h0_10 h1_10 he10 ce10 ia10 => ?_)))
    obtain rfl := he10
    exact lc0' ce10 u5 rfl (Xa rfl (Xa rfl (Kj9 _ _ _ ⟨s3, _, rfl, (ue (ue (ue (ue (ue rfl rfl) rfl) rfl) rfl) rfl), Kx2, Ax2_0⟩)))
   refine sbT hb9 ?_
   rw [if_neg (by rw [hb9]; decide)]
   exact Xg rfl (Xg rfl (Xg rfl (Xg rfl (Xg rfl (Xa rfl (Kj9 _ _ _ ⟨s3, _, rfl, (ue (ue (ue (ue (ue rfl rfl) rfl) rfl) rfl) rfl), Kx2, Ax2_0⟩))))))
  rintro y9 _ _ ⟨s12, _, rfl, rfl, Ky9, Cy9_4⟩
  refine Xa rfl (dn (jr (fun (y13 : Int) e w => ∃ (s : St) (e0 : Env), w = s.w ∧ e = upd (upd (upd (upd (upd e0 0 w0_0) 4 vx2_0) 5 (iI x2.2.1)) 6 (iI x2.2.2)) 7 (iI y13) ∧ Kp s0 s ∧ OwF Xk s [vx2_0] x2.1 40) (fun Gj13 Kj13 hG13 => ?_) ?_))
  ·
   refine cd rfl (fun h14 => ?_) (fun h14 => ?_)
   ·
    refine rg (Xj w0_0 rfl (Xa rfl ?_))
    refine ix' (A0_0.kp Ky9) u23 z5 rfl (fun ad16 es16 h0_16 h1_16 he16 ce16 ia16 => ?_)
    obtain rfl := he16
    exact lc0' ce16 u5 rfl (cv u3 u5 rfl rfl rfl rfl rfl rfl (Xa rfl (Xa rfl (dn (Kj13 _ _ _ ⟨s12, _, rfl, (ue (ue (ue (ue (ue rfl rfl) rfl) rfl) rfl) rfl), Ky9, Cy9_4⟩)))))
   refine sr (Xj w0_0 rfl (Xa rfl ?_))
   have A18 := A0_0.kp Ky9
   refine ix' A18 u23 z5 rfl (fun ad19 es19 h0_19 h1_19 he19 ce19 ia19 => ?_)
   obtain rfl := he19
   refine lc0' ce19 u5 rfl (Xa rfl (Xa rfl (ji [12] (fun (y21 : Bool) e w => ∃ (s : St) (e0 : Env), w = s.w ∧ e = upd (upd (upd (upd (upd e0 0 w0_0) 4 vx2_0) 5 (iI x2.2.1)) 6 (iI x2.2.2)) 45 (.bool y21) ∧ Kp s0 s ∧ OwF Xk s [vx2_0] x2.1 40) (fun Gj21 Kj21 => ?_) ?_)))
   ·
    rcases bft (decide ((at_ a0 x2.2.2) ≥ (97 : Int))) with hb21 | hb21
    ·
     refine sbT hb21 ?_
     rw [if_pos hb21]
     refine Xj w0_0 rfl (Xa rfl (ix' A18 u23 z5 rfl (fun ad22 es22 h0_22 h1_22 he22 ce22 ia22 => ?_)))
     obtain rfl := he22
     exact lc0' ce22 u5 rfl (Xa rfl (Xa rfl (Kj21 _ _ _ ⟨s12, _, rfl, (ue (ue (ue (ue (ue rfl rfl) rfl) rfl) rfl) rfl), Ky9, Cy9_4⟩)))
    refine sbT hb21 ?_
    rw [if_neg (by rw [hb21]; decide)]
    exact Xg rfl (Xg rfl (Xg rfl (Xg rfl (Xg rfl (Xa rfl (Kj21 _ _ _ ⟨s12, _, rfl, (ue (ue (ue (ue (ue rfl rfl) rfl) rfl) rfl) rfl), Ky9, Cy9_4⟩))))))
   rintro y21 _ _ ⟨s24, _, rfl, rfl, Ky21, Cy21_4⟩
   refine Xa rfl (dn (cd rfl (fun h25 => ?_) (fun h25 => ?_)))
   ·
    refine rg (Xj w0_0 rfl (Xa rfl ?_))
    refine ix' (A0_0.kp Ky21) u23 z5 rfl (fun ad27 es27 h0_27 h1_27 he27 ce27 ia27 => ?_)
    obtain rfl := he27
    exact lc0' ce27 u5 rfl (cv u3 u5 rfl rfl rfl rfl rfl rfl (Xa rfl (Xa rfl (dn (Kj13 _ _ _ ⟨s24, _, rfl, (ue (ue (ue (ue (ue rfl rfl) rfl) rfl) rfl) rfl), Ky21, Cy21_4⟩)))))
   exact sr (Xa rfl (Xa rfl (dn (jri hG13 (sgi (re rfl func58 rfl (r_t rfl (r_t rfl Xd)) rfl ⟨_, rfl, (.slice none 0 0), rfl, (ow_nil 5 (Kd.int .u8) s24 40).fo Ky21 rfl z.l, z.ky Ky21⟩))))))
  rintro y13 _ _ ⟨s29, _, rfl, rfl, Ky13, Cy13_4⟩
  refine ib (sr (Xa rfl (Xa rfl (Xa rfl (Xa rfl (Xa rfl (dn (sr (Xa rfl (remK rfl rfl rfl rfl rfl rfl rfl rfl (Xa rfl (dn (jc (fun (y30 : (List Int) × Int) e w => ∃ (s : St) (e0 : Env) (vy30_0 : Value), w = s.w ∧ e = upd (upd (upd (upd e0 0 w0_0) 4 vy30_0) 5 (iI y30.2)) 6 (iI x2.2.2) ∧ Kp s0 s ∧ OwF Xk s [vy30_0] y30.1 40) (fun Gj30 Kj30 => ?_) ?_)))))))))))))
  ·
   refine cd rfl (fun h31 => ?_) (fun h31 => ?_)
   ·
    refine sr (Xj vx2_0 rfl (Xa rfl (cv u5 u3 rfl rfl rfl rfl rfl rfl (ltF' (K := (Kd.int .u8)) (cells := [(.int .u8 (IntKind.wrap .u8 (IntKind.wrap .i64 ((IntKind.wrap .i64 (x2.2.1 * (16 : Int))) + y13))))]) [(IntKind.wrap .u8 (IntKind.wrap .i64 ((IntKind.wrap .i64 (x2.2.1 * (16 : Int))) + y13)))] 41 Xf u23 z5 o5 (fun w => (Xh _ _ _)) rfl rfl (fun v32 s32 p32 A32 => ?_)))))
    refine apF Xf sl23 (Cy13_4.st p32 rfl) A32.rd rfl rfl rfl rfl rfl rfl rfl (fun v35 s35 p35 A35 => ?_)
    refine asg' v35 rfl (dn (rg (Xa rfl (dn ?_))))
    exact Kj30 _ _ _ ⟨s35, _, v35, rfl, (ue (ue (ue (ue rfl rfl) rfl) rfl) rfl), (Ky13.st (tr2 p32 p35) rfl), A35⟩
   exact sk (Kj30 _ _ _ ⟨s29, _, vx2_0, rfl, (ue (ue (ue (ue rfl rfl) rfl) rfl) rfl), Ky13, Cy13_4⟩)
  rintro y30 _ _ ⟨s38, _, vy30_0, rfl, rfl, Ky30, Ay30_0⟩
  exact ib (rg (Xa rfl (Xa rfl (Xa rfl (dn (lb ih2 ⟨s38, _, vy30_0, rfl, (ue (ue (ue (ue rfl rfl) rfl) rfl) rfl), Ky30, Ay30_0⟩))))))
 exact xt rfl (sgb (sr (Xj vx2_0 rfl (Xj w0_0 rfl (ln' A5 u23 rfl (remK rfl rfl rfl rfl rfl rfl rfl rfl (Xa rfl (asg' vx2_0 rfl (Xa rfl (dn (re rfl func58 rfl (r_t rfl (r_t rfl Xd)) rfl ⟨_, rfl, vx2_0, rfl, Ax2_0.fo Kx2 rfl z.l, z.ky Kx2⟩)))))))))))
def spec_l3low.b0 (a0 : (List Int)) (x2 : Int × Int) : Option ((Int × Int) ⊕ Int) :=
 (if (decide (x2.2 < (a0.length : Int))) = true then (if 0 ≤ x2.2 ∧ x2.2 < (a0.length : Int) then (some (Sum.inl ((ior .u64 (ishl .u64 x2.1 (8 : Int)) (IntKind.wrap .u64 (at_ a0 x2.2))), (IntKind.wrap .i64 (x2.2 + (1 : Int)))))) else none) else ((some x2.1).bind fun o => some (Sum.inr o)))
def spec_l3low.f (a0 : (List Int)) : Option (Int) :=
 (iter (spec_l3low.b0 a0) ((0 : Int), (0 : Int)))
def spec_l3low.Q (w : World) (F : Nat → Prop) (r : Int) (v : Value) (w' : World) : Prop :=
 v = (.int .u64 r) ∧ Ky [] w w'
theorem spec_l3low.calls (a0 : (List Int)) (w : World) (F : Nat → Prop) (w0_0 : Value) (h0_0 : Xk.rd w [w0_0] a0 F) (r : Int) (m : spec_l3low.f a0 = some r) :
  Calls prog 60 #[w0_0] w (RT (spec_l3low.Q w F) r) := by
 obtain ⟨s0, rfl, kp0, z⟩ := Xi w F
 refine Xc (args := [w0_0]) func60 ntmps60 rfl rfl m ?_
 unfold spec_l3low.f
 refine sr (Xa rfl (dn (sr (Xa rfl (dn (sq (sr (Xa rfl (dn (bl (lpI (fun (x2 : Int × Int) e w => ∃ (s : St) (e0 : Env), w = s.w ∧ e = upd (upd (upd e0 0 w0_0) 3 (.int .u64 x2.1)) 4 (iI x2.2) ∧ Kp s0 s) ⟨s0, _, rfl, (ue (ue (ue rfl rfl) rfl) rfl), kp0⟩ (fun g2 ih2 => ?_))))))))))))
 rintro x2 _ _ ⟨s3, _, rfl, rfl, Kx2⟩
 unfold spec_l3low.b0
 refine sq (sr (Xa rfl (Xj w0_0 rfl ?_)))
 have A4 := (z.rd h0_0).kp Kx2
 refine ln' A4 u23 rfl (Xa rfl (dn (cd rfl (fun h5 => ?_) (fun h5 => ?_))))
 ·
  refine sk (sq (bl (rg (Xa rfl (shlK rfl rfl rfl rfl rfl rfl rfl rfl (Xj w0_0 rfl (Xa rfl (ix' A4 u23 z5 rfl (fun ad6 es6 h0_6 h1_6 he6 ce6 ia6 => ?_)))))))))
  obtain rfl := he6
  exact lc0' ce6 u5 rfl (cv u65 u5 rfl rfl rfl rfl rfl rfl (Xa rfl (Xa rfl (dn (ib (rg (Xa rfl (Xa rfl (Xa rfl (dn (lb ih2 ⟨s3, _, rfl, (ue (ue (ue rfl rfl) rfl) rfl), Kx2⟩)))))))))))
 exact xt rfl (sgb (sr (Xa rfl (Xa rfl (dn (re rfl func60 rfl (r_t rfl Xd) rfl ⟨_, rfl, rfl, z.ky Kx2⟩))))))
def spec_FloatOf.b1  (x21 : Nat × Int) : Option ((Nat × Int) ⊕ (Nat ⊕ Nat)) :=
 (if (decide (x21.2 < (0 : Int))) = true then (some (Sum.inl ((far .quo x21.1 (4611686018427387904 : Nat)), (IntKind.wrap .i64 (x21.2 + (1 : Int)))))) else ((some (Sum.inl x21.1)).bind fun o => some (Sum.inr o)))
def spec_FloatOf.b0  (x16 : Nat × Int) : Option ((Nat × Int) ⊕ (Nat ⊕ Nat)) :=
 (if (decide (x16.2 > (0 : Int))) = true then (some (Sum.inl ((far .mul x16.1 (4611686018427387904 : Nat)), (IntKind.wrap .i64 (x16.2 - (1 : Int)))))) else ((iter spec_FloatOf.b1 (x16.1, x16.2)).bind fun o => some (Sum.inr o)))
def spec_FloatOf.f (a0 : Int) : Option (Nat) :=
 ((if ((IntKind.wrap .i64 (iand .u64 (ishr .u64 a0 (52 : Int)) (2047 : Int))) == (2047 : Int)) = true then (if ((iand .u64 a0 (4503599627370495 : Int)) != (0 : Int)) = true then (some (Sum.inr (far .quo (0 : Nat) (0 : Nat)))) else (some (Sum.inl (far .quo (4607182418800017408 : Nat) (0 : Nat))))) else ((if ((IntKind.wrap .i64 (iand .u64 (ishr .u64 a0 (52 : Int)) (2047 : Int))) == (0 : Int)) = true then (some ((far .quo (FloatKind.f64.nearest (iand .u64 a0 (4503599627370495 : Int))) (4841369599423283200 : Nat)), (-1022 : Int))) else (some ((far .add (far .quo (FloatKind.f64.nearest (iand .u64 a0 (4503599627370495 : Int))) (4841369599423283200 : Nat)) (4607182418800017408 : Nat)), (IntKind.wrap .i64 ((IntKind.wrap .i64 (iand .u64 (ishr .u64 a0 (52 : Int)) (2047 : Int))) - (1023 : Int)))))).bind fun y10 => (iter spec_FloatOf.b0 (y10.1, y10.2)))).bind (sel fun y3 => (if ((ishr .u64 a0 (63 : Int)) == (1 : Int)) = true then (some (fneg y3)) else (some y3))))
def spec_FloatOf.Q (w : World) (F : Nat → Prop) (r : Nat) (v : Value) (w' : World) : Prop :=
 FL v r ∧ Ky [] w w'
theorem spec_FloatOf.calls (a0 : Int) (w : World) (F : Nat → Prop)   (r : Nat) (m : spec_FloatOf.f a0 = some r) :
  Calls prog 59 #[(.int .u64 a0)] w (RT (spec_FloatOf.Q w F) r) := by
 obtain ⟨s0, rfl, kp0, z⟩ := Xi w F
 refine Xc (args := [(.int .u64 a0)]) func59 ntmps59 rfl rfl m ?_
 unfold spec_FloatOf.f
 refine sr (asg' (.float .f64 0) rfl (dn (sr (Xa rfl (shrK rfl rfl rfl rfl rfl rfl rfl rfl (Xa rfl (cv u3 u65 rfl rfl rfl rfl rfl rfl (Xa rfl (dn (sr (Xa rfl (Xa rfl (Xa rfl (dn ?_))))))))))))))
 refine sr (asg' (.float .f64 0) rfl (dn (sr (Xa rfl (i2f u22 u65 rfl rfl rfl rfl rfl rfl (fun v1 A1 => ?_))))))
 refine fa_ A1 (fl_c rfl) (by simp) rfl rfl rfl rfl rfl rfl rfl (fun v2 s2 p2 A2 => ?_)
 refine asg' v2 rfl (dn (sq (sr (Xa rfl (Xa rfl (dn (jr (fun (y3 : Nat) e w => ∃ (s : St) (e0 : Env) (uy3_0 : Value), w = s.w ∧ e = upd (upd e0 0 (.int .u64 a0)) 6 uy3_0 ∧ Kp s0 s ∧ FL uy3_0 y3) (fun Gj3 Kj3 hG3 => ?_) ?_)))))))
 ·
  refine cd rfl (fun h4 => ?_) (fun h4 => ?_)
  ·
   refine sq (sr (Xa rfl (Xa rfl (dn (cd rfl (fun h5 => ?_) (fun h5 => ?_))))))
   ·
    refine sr (Xj (.float .f64 0) rfl (Xj (.float .f64 0) rfl (fa_ (fl_c rfl) (fl_c rfl) (by simp) rfl rfl rfl rfl rfl rfl rfl (fun v6 s6 p6 A6 => ?_))))
    refine asg' v6 rfl (dn (jri hG3 ?_))
    exact re rfl func59 rfl (r_t rfl Xd) rfl ⟨_, rfl, A6, z.ky (kp0.st (tr2 p2 p6) rfl)⟩
   refine sk (rg (Xj (.float .f64 0) rfl (fa_ (fl_c rfl) (fl_c rfl) (by simp) rfl rfl rfl rfl rfl rfl rfl (fun v8 s8 p8 A8 => ?_))))
   refine asg' v8 rfl (dn ?_)
   exact Kj3 _ _ _ ⟨s8, _, v8, rfl, (ue (ue rfl rfl) rfl), (kp0.st (tr2 p2 p8) rfl), A8⟩
  refine sr (Xa rfl (Xa rfl (Xa rfl (dn (sq (sr (Xa rfl (Xa rfl (dn (jc (fun (y10 : Nat × Int) e w => ∃ (s : St) (e0 : Env) (uy10_0 : Value), w = s.w ∧ e = upd (upd (upd e0 0 (.int .u64 a0)) 6 uy10_0) 7 (iI y10.2) ∧ Kp s0 s ∧ FL uy10_0 y10.1) (fun Gj10 Kj10 => ?_) ?_))))))))))
  ·
   refine cd rfl (fun h11 => ?_) (fun h11 => ?_)
   ·
    refine rg (Xa rfl (dn ?_))
    exact Kj10 _ _ _ ⟨s2, _, v2, rfl, (ue (ue (ue rfl rfl) rfl) rfl), (kp0.st p2 rfl), A2⟩
   refine rg (Xj v2 rfl (fa_ A2 (fl_c rfl) (by simp) rfl rfl rfl rfl rfl rfl rfl (fun v13 s13 p13 A13 => ?_)))
   refine asg' v13 rfl (dn ?_)
   exact Kj10 _ _ _ ⟨s13, _, v13, rfl, (ue (ue (ue rfl rfl) rfl) rfl), (kp0.st (tr2 p2 p13) rfl), A13⟩
  rintro y10 _ _ ⟨s15, _, uy10_0, rfl, rfl, Ky10, Fy10_0⟩
  refine sq (bl (lpI (fun (x16 : Nat × Int) e w => ∃ (s : St) (e0 : Env) (ux16_0 : Value), w = s.w ∧ e = upd (upd (upd e0 0 (.int .u64 a0)) 6 ux16_0) 7 (iI x16.2) ∧ Kp s0 s ∧ FL ux16_0 x16.1) ⟨s15, _, uy10_0, rfl, (ue (ue (ue rfl rfl) rfl) rfl), Ky10, Fy10_0⟩ (fun g16 ih16 => ?_)))
  rintro x16 _ _ ⟨s17, _, ux16_0, rfl, rfl, Kx16, Fx16_0⟩
  unfold spec_FloatOf.b0
  refine sq (sr (Xa rfl (Xa rfl (dn (cd rfl (fun h18 => ?_) (fun h18 => ?_))))))
  ·
   refine sk (sq (bl (rg (Xj ux16_0 rfl (fa_ Fx16_0 (fl_c rfl) (by simp) rfl rfl rfl rfl rfl rfl rfl (fun v19 s19 p19 A19 => ?_))))))
   refine asg' v19 rfl (dn (ib (rg (Xa rfl (Xa rfl (Xa rfl (dn ?_)))))))
   exact lb ih16 ⟨s19, _, v19, rfl, (ue (ue (ue rfl rfl) rfl) rfl), (Kx16.st p19 rfl), A19⟩
  refine xt rfl (sgb (bl (lpI (fun (x21 : Nat × Int) e w => ∃ (s : St) (e0 : Env) (ux21_0 : Value), w = s.w ∧ e = upd (upd (upd e0 0 (.int .u64 a0)) 6 ux21_0) 7 (iI x21.2) ∧ Kp s0 s ∧ FL ux21_0 x21.1) ⟨s17, _, ux16_0, rfl, (ue (ue (ue rfl rfl) rfl) rfl), Kx16, Fx16_0⟩ (fun g21 ih21 => ?_))))
  rintro x21 _ _ ⟨s22, _, ux21_0, rfl, rfl, Kx21, Fx21_0⟩
  unfold spec_FloatOf.b1
  refine sq (sr (Xa rfl (Xa rfl (dn (cd rfl (fun h23 => ?_) (fun h23 => ?_))))))
  ·
   refine sk (sq (bl (rg (Xj ux21_0 rfl (fa_ Fx21_0 (fl_c rfl) (by simp) rfl rfl rfl rfl rfl rfl rfl (fun v24 s24 p24 A24 => ?_))))))
   refine asg' v24 rfl (dn (ib (rg (Xa rfl (Xa rfl (Xa rfl (dn ?_)))))))
   exact lb ih21 ⟨s24, _, v24, rfl, (ue (ue (ue rfl rfl) rfl) rfl), (Kx21.st p24 rfl), A24⟩
  exact xt rfl (sgb (Kj3 _ _ _ ⟨s22, _, ux21_0, rfl, (ue (ue rfl rfl) rfl), Kx21, Fx21_0⟩))
 rintro y3 _ _ ⟨s26, _, uy3_0, rfl, rfl, Ky3, Fy3_0⟩
 refine sq (sr (Xa rfl (shrK rfl rfl rfl rfl rfl rfl rfl rfl (Xa rfl (dn (cd rfl (fun h27 => ?_) (fun h27 => ?_)))))))
 ·
  refine sr (Xj uy3_0 rfl (fng_ Fy3_0 rfl rfl rfl rfl rfl rfl (fun v28 A28 => ?_)))
  exact asg' v28 rfl (dn (re rfl func59 rfl (r_t rfl Xd) rfl ⟨_, rfl, A28, z.ky Ky3⟩))
 exact sk (sr (Xj uy3_0 rfl (asg' uy3_0 rfl (dn (re rfl func59 rfl (r_t rfl Xd) rfl ⟨_, rfl, Fy3_0, z.ky Ky3⟩)))))
def spec_ItemRead.f (a0 : (List Int)) : Option (Item × Bool) :=
 (if ((decide ((a0.length : Int) < (1 : Int))) || (decide ((a0.length : Int) > (81 : Int)))) = true then (some ((Item.mk (0 : Int) (0 : Int) (0 : Nat) ([] : (List Int))), false)) else (if 0 ≤ (0 : Int) ∧ (0 : Int) < (a0.length : Int) then ((if ((at_ a0 (0 : Int)) == (105 : Int)) = true then (if 0 ≤ (1 : Int) ∧ (1 : Int) ≤ (a0.length : Int) then ((spec_l18number.f (a0.drop ((1 : Int)).toNat)).bind fun r26 => (some ((1 : Int), r26.1, (0 : Nat), ([] : (List Int))))) else none) else ((if ((at_ a0 (0 : Int)) == (102 : Int)) = true then (if 0 ≤ (1 : Int) ∧ (1 : Int) ≤ (a0.length : Int) then ((spec_l18unhex.f (a0.drop ((1 : Int)).toNat)).bind fun r41 => ((spec_l3low.f r41.1).bind fun r44 => ((spec_FloatOf.f r44).bind fun r46 => (some ((2 : Int), r46, ([] : (List Int))))))) else none) else ((if ((at_ a0 (0 : Int)) == (116 : Int)) = true then (if 0 ≤ (1 : Int) ∧ (1 : Int) ≤ (a0.length : Int) then ((spec_l18unhex.f (a0.drop ((1 : Int)).toNat)).bind fun r61 => (some ((3 : Int), r61.1))) else none) else (some ((0 : Int), ([] : (List Int))))).bind fun y53 => (some (y53.1, (0 : Nat), y53.2)))).bind fun y33 => (some (y33.1, (0 : Int), y33.2.1, y33.2.2)))).bind fun y18 => ((spec_ItemText.f (Item.mk y18.1 y18.2.1 y18.2.2.1 y18.2.2.2)).bind fun r95 => (if (!((str r95).toList == (str a0).toList)) = true then (some ((Item.mk (0 : Int) (0 : Int) (0 : Nat) ([] : (List Int))), false)) else (some ((Item.mk y18.1 y18.2.1 y18.2.2.1 y18.2.2.2), true))))) else none))
def spec_ItemRead.Q (w : World) (F : Nat → Prop) (r : Item × Bool) (v : Value) (w' : World) : Prop :=
 ∃ (v0 : Value) (v1 : Value), v = .tuple #[(.agg #[(iI r.1.Kind), (iI r.1.N), v0, v1]), (.bool r.2)] ∧ FO kd28 w w' [(iI r.1.Kind), (iI r.1.N), v0, v1] r.1 ∧ Ky [] w w'
theorem spec_ItemRead.calls (a0 : (List Int)) (w : World) (F : Nat → Prop) (w0_0 : Value) (h0_0 : Xk.rd w [w0_0] a0 F) (r : Item × Bool) (m : spec_ItemRead.f a0 = some r) :
  Calls prog 28 #[w0_0] w (RT (spec_ItemRead.Q w F) r) := by
 obtain ⟨s0, rfl, kp0, z⟩ := Xi w F
 have A0_0 := z.rd h0_0
 refine Xc (args := [w0_0]) func28 ntmps28 rfl rfl m ?_
 unfold spec_ItemRead.f
 refine sr (al (cs := [(iI 0), (iI 0), (.float .f64 0), (.slice none 0 0)]) 40 rfl rfl rfl rfl rfl o28 rfl (fun b2 s2 p2 B2 => ?_))
 refine Xa rfl (dn (sr (al (cs := [(iI 0), (iI 0), (.float .f64 0), (.slice none 0 0)]) 41 rfl rfl rfl rfl rfl o28 rfl (fun b4 s4 p4 B4 => ?_))))
 refine dn (sq (sr (Xj w0_0 rfl ?_)))
 have K6 := kp0.st (tr2 p2 p4) rfl
 have A7 := A0_0.kp K6
 refine ln' A7 u23 rfl (Xa rfl (Xa rfl (jy [10, 11, 12, 13, 14] [] 14 (.bool ((decide ((a0.length : Int) < (1 : Int))) || (decide ((a0.length : Int) > (81 : Int))))) rfl (fun Kg8 => ?_) (fun j8 => ?_))))
 ·
  rcases bft (decide ((a0.length : Int) < (1 : Int))) with hb8 | hb8
  ·
   exact sbT hb8 (Xg rfl (Xg rfl (Xg rfl (Xa rfl (Kg8 _ (Ag.put ((Ag.put ((Ag.put ((Ag.put (Ag.base rfl) rfl)) rfl)) rfl)) rfl) (by rw [hb8]; rfl))))))
  exact sbT hb8 (Xj w0_0 rfl (ln' A7 u23 rfl (Xa rfl (Xa rfl (Kg8 _ (Ag.put ((Ag.put ((Ag.put ((Ag.put (Ag.base rfl) rfl)) rfl)) rfl)) rfl) (by rw [hb8]; rfl))))))
 refine dn (cd rfl (fun h9 => ?_) (fun h9 => ?_))
 ·
  refine sr (lda (es := [(iI 0), (iI 0), (.float .f64 0), (.slice none 0 0)]) B4 u28 z28 rfl rfl rfl rfl rfl rfl rfl rfl ?_)
  refine sva (vs := [(iI 0), (iI 0), (.float .f64 0), (.slice none 0 0)]) (B2.st p4 rfl) z28 rfl rfl rfl rfl rfl rfl (Xb rfl (Xb rfl (Xb (FL.one (fl_c rfl)) (Xb rfl on_nil)))) rfl (fun s11 p11 B11 => ?_)
  refine Xa rfl (dn ?_)
  have A13 : OwF kd28 s11 [(iI 0), (iI 0), (.float .f64 0), (.slice none 0 0)] (Item.mk (0 : Int) (0 : Int) (0 : Nat) ([] : (List Int))) 42 := ow_z _ _ (fz_iso (fun x : Item => (x.Kind, x.N, x.F, x.T)) (Item.mk (0 : Int) (0 : Int) (0 : Nat) ([] : (List Int))) (fz_pair (fz_int .i64 (0 : Int)) (fz_pair (fz_int .i64 (0 : Int)) (fz_pair (fz_flt (fl_c rfl)) (fz_nil 5 (Kd.int .u8))))))
  have K15 := K6.st p11 rfl
  exact re rfl func28 rfl (r_b B11 u28 rfl z28 rfl (r_t rfl Xd)) rfl ⟨_, rfl, (.float .f64 0), (.slice none 0 0), rfl, A13.fo K15 rfl z.l, z.ky K15⟩
 refine sk (sq (sr (Xj w0_0 rfl (ix' A7 u23 z5 rfl (fun ad16 es16 h0_16 h1_16 he16 ce16 ia16 => ?_)))))
 obtain rfl := he16
 refine lc0' ce16 u5 rfl (dn (bl (sr (Xa rfl (Xa rfl (dn (jc (fun (y18 : Int × Int × Nat × (List Int)) e w => ∃ (s : St) (e0 : Env) (vy18_0 uy18_0 : Value), w = s.w ∧ e = upd (upd (upd e0 0 w0_0) 2 (pB b2)) 4 (pB b4) ∧ Kp s0 s ∧ OwF Xk s [vy18_0] y18.2.2.2 47 ∧ FL uy18_0 y18.2.2.1 ∧ BlF s b4 28 [(iI y18.1), (iI y18.2.1), uy18_0, vy18_0] 41 ∧ BlF s b2 28 [(iI 0), (iI 0), (.float .f64 0), (.slice none 0 0)] 40) (fun Gj18 Kj18 => ?_) ?_)))))))
 ·
  refine cd rfl (fun h19 => ?_) (fun h19 => ?_)
  ·
   refine sr (fa' fa28_0 rfl (sv B4 z3 rfl rfl rfl rfl rfl rfl rfl rfl (fun s20 p20 B20 => ?_)))
   refine dn (rg (Xj w0_0 rfl ?_))
   have K22 := K6.st p20 rfl
   refine sla (A0_0.kp K22) u23 z5 rfl rfl rfl rfl rfl rfl rfl (fun v24 A24 => ?_)
   refine clV 43 rfl func57 rfl (spec_l18number.calls (a0.drop ((1 : Int)).toNat) s20.w (mm [0] s20) v24 A24) (fun r26 s27 p27 n27 => ?_)
   refine Xa rfl (Xa (v := (iI r26.1)) rfl (Xa (v := (.bool r26.2)) rfl (fa' fa28_1 rfl ?_)))
   refine sv (B20.st p27 rfl) z3 rfl rfl rfl rfl rfl rfl rfl rfl (fun s29 p29 B29 => ?_)
   exact dn (Kj18 _ _ _ ⟨s29, _, (.slice none 0 0), (.float .f64 0), rfl, (ue (ue (ue rfl rfl) rfl) rfl), (K22.st (tr2 p27 p29) rfl), (ow_nil 5 (Kd.int .u8) _ 47), (fl_c rfl), B29, (B2.st (tr4 p4 p20 p27 p29) rfl)⟩)
  refine sr (Xa rfl (Xa rfl (dn (jc (fun (y33 : Int × Nat × (List Int)) e w => ∃ (s : St) (e0 : Env) (vy33_0 uy33_0 : Value), w = s.w ∧ e = upd (upd (upd e0 0 w0_0) 2 (pB b2)) 4 (pB b4) ∧ Kp s0 s ∧ OwF Xk s [vy33_0] y33.2.2 47 ∧ FL uy33_0 y33.2.1 ∧ BlF s b4 28 [(iI y33.1), (iI 0), uy33_0, vy33_0] 41 ∧ BlF s b2 28 [(iI 0), (iI 0), (.float .f64 0), (.slice none 0 0)] 40) (fun Gj33 Kj33 => ?_) ?_))))
  ·
   refine cd rfl (fun h34 => ?_) (fun h34 => ?_)
   ·
    refine sr (fa' fa28_0 rfl (sv B4 z3 rfl rfl rfl rfl rfl rfl rfl rfl (fun s35 p35 B35 => ?_)))
    refine dn (sr (Xj w0_0 rfl ?_))
    have K37 := K6.st p35 rfl
    refine sla (A0_0.kp K37) u23 z5 rfl rfl rfl rfl rfl rfl rfl (fun v39 A39 => ?_)
    refine cl' rfl func58 rfl (spec_l18unhex.calls (a0.drop ((1 : Int)).toNat) s35.w (mm [0] s35) v39 A39) ?_
    rintro r41 _ w41 m41 ⟨v41_0, rfl, f41_0, ky41⟩
    obtain ⟨s42, rfl, p42, n42⟩ := nwx s35 w41 44 ky41
    refine Xa rfl (Xa (v := v41_0) rfl (Xa (v := (.bool r41.2)) rfl (asg' v41_0 rfl (Xa rfl (dn (rg (Xj v41_0 rfl (clV 45 rfl func60 rfl (spec_l3low.calls r41.1 s42.w (mm [44] s42) v41_0 (f41_0.c n42).rd) (fun r44 s45 p45 n45 => ?_)))))))))
    refine cl' rfl func59 rfl (spec_FloatOf.calls r44 s45.w (mm [] s45)) ?_
    rintro r46 v46_0 w46 m46 ⟨f46_0, ky46⟩
    obtain ⟨s47, rfl, p47, n47⟩ := nwx s45 w46 46 ky46
    refine fa' fa28_2 rfl (sv (B35.st (tr3 p42 p45 p47) rfl) z22 rfl rfl rfl rfl rfl rfl (FL.one f46_0) rfl (fun s49 p49 B49 => ?_))
    exact dn (Kj33 _ _ _ ⟨s49, _, (.slice none 0 0), v46_0, rfl, (ue (ue (ue rfl rfl) rfl) rfl), (K37.st (tr4 p42 p45 p47 p49) rfl), (ow_nil 5 (Kd.int .u8) _ 47), f46_0, B49, (B2.st (tr6 p4 p35 p42 p45 p47 p49) rfl)⟩)
   refine sr (Xa rfl (Xa rfl (dn (jc (fun (y53 : Int × (List Int)) e w => ∃ (s : St) (e0 : Env) (vy53_0 : Value), w = s.w ∧ e = upd (upd (upd e0 0 w0_0) 2 (pB b2)) 4 (pB b4) ∧ Kp s0 s ∧ OwF Xk s [vy53_0] y53.2 47 ∧ BlF s b4 28 [(iI y53.1), (iI 0), (.float .f64 0), vy53_0] 41 ∧ BlF s b2 28 [(iI 0), (iI 0), (.float .f64 0), (.slice none 0 0)] 40) (fun Gj53 Kj53 => ?_) ?_))))
   ·
    refine cd rfl (fun h54 => ?_) (fun h54 => ?_)
    ·
     refine sr (fa' fa28_0 rfl (sv B4 z3 rfl rfl rfl rfl rfl rfl rfl rfl (fun s55 p55 B55 => ?_)))
     refine dn (rg (Xj w0_0 rfl ?_))
     have K57 := K6.st p55 rfl
     refine sla (A0_0.kp K57) u23 z5 rfl rfl rfl rfl rfl rfl rfl (fun v59 A59 => ?_)
     refine cl' rfl func58 rfl (spec_l18unhex.calls (a0.drop ((1 : Int)).toNat) s55.w (mm [0] s55) v59 A59) ?_
     rintro r61 _ w61 m61 ⟨v61_0, rfl, f61_0, ky61⟩
     obtain ⟨s62, rfl, p62, n62⟩ := nwx s55 w61 47 ky61
     have A61_0 := f61_0.c n62
     refine Xa rfl (Xa (v := v61_0) rfl (Xa (v := (.bool r61.2)) rfl (fa' fa28_3 rfl ?_)))
     refine sv (B55.st p62 rfl) z23 rfl rfl rfl rfl rfl rfl A61_0.rd.one rfl (fun s65 p65 B65 => ?_)
     exact dn (Kj53 _ _ _ ⟨s65, _, v61_0, rfl, (ue (ue (ue rfl rfl) rfl) rfl), (K57.st (tr2 p62 p65) rfl), (A61_0.st p65 rfl), B65, (B2.st (tr4 p4 p55 p62 p65) rfl)⟩)
    exact sk (Kj53 _ _ _ ⟨s4, _, (.slice none 0 0), rfl, (ue (ue (ue rfl rfl) rfl) rfl), K6, (ow_nil 5 (Kd.int .u8) _ 47), B4, (B2.st p4 rfl)⟩)
   rintro y53 _ _ ⟨s71, _, vy53_0, rfl, rfl, Ky53, Ay53_0, By53_b4, By53_b2⟩
   exact Kj33 _ _ _ ⟨s71, _, vy53_0, (.float .f64 0), rfl, (ue (ue (ue rfl rfl) rfl) rfl), Ky53, Ay53_0, (fl_c rfl), By53_b4, By53_b2⟩
  rintro y33 _ _ ⟨s75, _, vy33_0, uy33_0, rfl, rfl, Ky33, Ay33_0, Fy33_0, By33_b4, By33_b2⟩
  exact Kj18 _ _ _ ⟨s75, _, vy33_0, uy33_0, rfl, (ue (ue (ue rfl rfl) rfl) rfl), Ky33, Ay33_0, Fy33_0, By33_b4, By33_b2⟩
 rintro y18 _ _ ⟨s79, _, vy18_0, uy18_0, rfl, rfl, Ky18, Ay18_0, Fy18_0, By18_b4, By18_b2⟩
 refine ib (sq (sq (zdraw [[], [0], [1], [], [3], [2, 4]] [some 52, some 53, some 54, some 55, some 56, some 57] [[4], [52], [53], [0], [55], [54, 56]] [0, 1, 2, 3, 4, 5] ⟨by kernel_rfl, by kernel_rfl, by kernel_rfl⟩ (by kernel_rfl) (fun s83 p83 l83 tb83 zd83 => ?_))))
 refine zstep 1 [some 56, some 55] tb83 (((zd83.add 0 52 (.agg #[(iI y18.1), (iI y18.2.1), uy18_0, vy18_0]) rfl).add 3 55 w0_0 rfl).add 4 56 (.string (str a0)) rfl) (Xe (b2s_q (A0_0.kp (Ky18.st p83 rfl)) u23 u9 u5 rfl rfl rfl rfl rfl rfl) rfl (Xe (mv_q w0_0 rfl rfl rfl rfl rfl rfl) rfl (Xe (lda_q (es := [(iI y18.1), (iI y18.2.1), uy18_0, vy18_0]) (By18_b4.st p83 rfl) u28 z28 rfl rfl rfl rfl rfl rfl rfl rfl) rfl pq_nil))) (by kernel_rfl) rfl (fun l90 e90 zd90 => ?_)
 have A94 := Ay18_0.st p83 rfl
 refine clO 48 rfl func8 rfl (spec_ItemText.calls (Item.mk y18.1 y18.2.1 y18.2.2.1 y18.2.2.2) s83.w (mm [47] s83) uy18_0 vy18_0 ((fl_rdf (s := s83) Fy18_0).sub (D := [47]) rfl) A94.rd) (fun r95 v95_0 s96 p96 A95_0 => ?_)
 refine zdone (L' := [4, 3]) (D' := [0, 1]) zd90 rfl rfl rfl (fun zd98 => ?_)
 refine zfin [5] tb83 (zd98.add 2 54 (.string (str r95)) rfl) (Xe (b2s_q A95_0.rd u23 u9 u5 rfl rfl rfl rfl rfl rfl) rfl (Xe (b2s_q (A0_0.kp (Ky18.st (tr2 p83 p96) rfl)) u23 u9 u5 rfl rfl rfl rfl rfl rfl) rfl (Xe (mv_q w0_0 rfl rfl rfl rfl rfl rfl) rfl pq_nil))) (by kernel_rfl) (by decide) (Xa rfl (dn (cd rfl (fun h102 => ?_) (fun h102 => ?_))))
 ·
  refine sr (bd (cells := [(iI 0), (iI 0), (.float .f64 0), (.slice none 0 0)]) pl28 o28 rfl rfl rfl rfl rfl rfl ?_)
  refine sva (vs := [(iI 0), (iI 0), (.float .f64 0), (.slice none 0 0)]) (By18_b2.st (tr2 p83 p96) rfl) z28 rfl rfl rfl rfl rfl rfl (Xb rfl (Xb rfl (Xb (FL.one (fl_c rfl)) (Xb rfl on_nil)))) rfl (fun s104 p104 B104 => ?_)
  refine Xa rfl (dn ?_)
  have A106 : OwF kd28 s104 [(iI 0), (iI 0), (.float .f64 0), (.slice none 0 0)] (Item.mk (0 : Int) (0 : Int) (0 : Nat) ([] : (List Int))) 49 := ow_z _ _ (fz_iso (fun x : Item => (x.Kind, x.N, x.F, x.T)) (Item.mk (0 : Int) (0 : Int) (0 : Nat) ([] : (List Int))) (fz_pair (fz_int .i64 (0 : Int)) (fz_pair (fz_int .i64 (0 : Int)) (fz_pair (fz_flt (fl_c rfl)) (fz_nil 5 (Kd.int .u8))))))
  have K108 := Ky18.st (tr3 p83 p96 p104) rfl
  exact re rfl func28 rfl (r_b B104 u28 rfl z28 rfl (r_t rfl Xd)) rfl ⟨_, rfl, (.float .f64 0), (.slice none 0 0), rfl, A106.fo K108 rfl z.l, z.ky K108⟩
 refine sk (sr ?_)
 refine lda (es := [(iI y18.1), (iI y18.2.1), uy18_0, vy18_0]) (By18_b4.st (tr2 p83 p96) rfl) u28 z28 rfl rfl rfl rfl rfl rfl rfl rfl ?_
 have A111 := A94.st p96 rfl
 refine sva (vs := [(iI y18.1), (iI y18.2.1), uy18_0, vy18_0]) (By18_b2.st (tr2 p83 p96) rfl) z28 rfl rfl rfl rfl rfl rfl (Xb rfl (Xb rfl (Xb (FL.one Fy18_0) (Xb A111.rd.one on_nil)))) rfl (fun s112 p112 B112 => ?_)
 refine Xa rfl (dn ?_)
 have A114 : OwF kd28 s112 [(iI y18.1), (iI y18.2.1), uy18_0, vy18_0] (Item.mk y18.1 y18.2.1 y18.2.2.1 y18.2.2.2) 47 := (ow_isoz (fun x : Item => (x.Kind, x.N, x.F, x.T)) (Item.mk y18.1 y18.2.1 y18.2.2.1 y18.2.2.2) (ow_l (fz_int .i64 y18.1) (ow_l (fz_int .i64 y18.2.1) (ow_l (fz_flt Fy18_0) (A111.st p112 rfl)))))
 have K117 := Ky18.st (tr3 p83 p96 p112) rfl
 exact re rfl func28 rfl (r_b B112 u28 rfl z28 rfl (r_t rfl Xd)) rfl ⟨_, rfl, uy18_0, vy18_0, rfl, A114.fo K117 rfl z.l, z.ky K117⟩
section
open Go.Shelf
shelf_lay LaysC.n172 Nm 172 at Tryd as lay_atoi
theorem bytes_ky (w : World) (e : TypeId) (t : ByteArray) : Ky [] w (Lib.bytesWorld w e t) := ⟨rfl, rfl, rfl, by rw [Lib.bytesWorld_size]; omega, fun b hb _ => Lib.bytesWorld_at_old w e t b hb⟩
def strconv_Atoi.f (a0 : ByteArray) : Option (Int × Bool) :=
  if a0.size ≤ Lim then some (match Lib.atoiAll a0.data.toList with
    | .ok v => (v, true)
    | .«syntax» => (0, false)
    | .range => (Lib.atoiSat a0.data.toList, false)) else none
def strconv_Atoi.Q (w : World) (F : Nat → Prop) (r : Int × Bool) (v : Value) (w' : World) : Prop := ∃ v0 : Value, v = .tuple #[.int .i64 r.1, v0] ∧ EV v0 r.2 ∧ Ky [] w w'
theorem strconv_Atoi.calls (a0 : ByteArray) (w : World) (F : Nat → Prop) (hG : GU.rd w [] () F) (r : Int × Bool) (m : strconv_Atoi.f a0 = some r) :
    Calls Tryd.prog 78 #[.string a0] w (RT (strconv_Atoi.Q w F) r) := by
  unfold strconv_Atoi.f at m
  split at m
  · rename_i hl
    unfold Lim at hl
    obtain ⟨_, ⟨_, ⟨t1, p1, hs⟩, ⟨t2, p2, hr⟩⟩, _⟩ := hG
    cases m
    cases h : Lib.atoiAll a0.data.toList with
    | ok v => exact Calls.mono (Any.strconv_Atoi_ok lay_atoi a0 (by omega) v h w) fun e w' ⟨he, hw⟩ => ⟨_, he, .nilIface, rfl, .inl ⟨rfl, rfl⟩, by
        rcases hw with hw | ⟨t, hw⟩
        · rw [hw]; exact Ky.refl w
        · rw [hw]; exact bytes_ky w _ t⟩
    | «syntax» => exact Calls.mono (Any.strconv_Atoi_syntax_var lay_atoi a0 (by omega) h t1 p1 w hs) fun e w' ⟨N, he, _, _, hb⟩ => ⟨_, he, _, rfl, .inr ⟨rfl, _, _, rfl⟩, Ky.of_below hb⟩
    | range => exact Calls.mono (Any.strconv_Atoi_range_var lay_atoi a0 (by omega) h t2 p2 w hr) fun e w' ⟨N, he, _, _, hb⟩ => ⟨_, he, _, rfl, .inr ⟨rfl, _, _, rfl⟩, Ky.of_below hb⟩
  · cases m
end

section
open Go.Shelf
shelf_lay Lays.n137 Nm 137 at Tryd as lay_indexbyte
def strings_IndexByte.f (a0 : ByteArray) (a1 : Int) : Option (Int) := some (Lib.indexByte a0.data.toList a1.toNat.toUInt8)
def strings_IndexByte.Q (w : World) (F : Nat → Prop) (r : Int) (v : Value) (w' : World) : Prop := v = (.int .i64 r) ∧ Ky [] w w'
theorem strings_IndexByte.calls (a0 : ByteArray) (a1 : Int) (w : World) (F : Nat → Prop) (r : Int) (m : strings_IndexByte.f a0 a1 = some r) :
    Calls Tryd.prog 93 #[.string a0, .int .u8 a1] w (RT (strings_IndexByte.Q w F) r) := by
  cases m
  exact Calls.mono (Any.strings_IndexByte lay_indexbyte a0 a1 w) fun e w' ⟨he, hw⟩ => ⟨_, he, rfl, by rw [hw]; exact Ky.refl w⟩
end

def impl_readHex.b0 (a0 : ByteArray) (x2 : (List Int) × Int) : Option (((List Int) × Int) ⊕ ((List Int) × Bool)) :=
 (if (decide (x2.2 < (a0.size : Int))) = true then (if 0 ≤ x2.2 ∧ x2.2 < (a0.size : Int) then (if 0 ≤ (IntKind.wrap .i64 (x2.2 + (1 : Int))) ∧ (IntKind.wrap .i64 (x2.2 + (1 : Int))) < (a0.size : Int) then ((strings_IndexByte.f (⟨#[48, 49, 50, 51, 52, 53, 54, 55, 56, 57, 97, 98, 99, 100, 101, 102]⟩ : ByteArray) (at_ (bts a0) x2.2)).bind fun r17 => ((strings_IndexByte.f (⟨#[48, 49, 50, 51, 52, 53, 54, 55, 56, 57, 97, 98, 99, 100, 101, 102]⟩ : ByteArray) (at_ (bts a0) (IntKind.wrap .i64 (x2.2 + (1 : Int))))).bind fun r20 => (if ((decide (r17 < (0 : Int))) || (decide (r20 < (0 : Int)))) = true then (some (Sum.inr (([] : (List Int)), false))) else (if x2.1.length + ([(IntKind.wrap .u8 (ior .i64 (ishl .i64 r17 (4 : Int)) r20))]).length ≤ Lim then (some (Sum.inl ((x2.1 ++ [(IntKind.wrap .u8 (ior .i64 (ishl .i64 r17 (4 : Int)) r20))]), (IntKind.wrap .i64 (x2.2 + (2 : Int)))))) else none)))) else none) else none) else ((some (x2.1, true)).bind fun o => some (Sum.inr o)))
def impl_readHex.f (a0 : ByteArray) : Option ((List Int) × Bool) :=
 (if (((a0.size : Int).tmod (2 : Int)) == (1 : Int)) = true then (some (([] : (List Int)), false)) else (iter (impl_readHex.b0 a0) (([] : (List Int)), (0 : Int))))
def impl_readHex.Q (w : World) (F : Nat → Prop) (r : (List Int) × Bool) (v : Value) (w' : World) : Prop :=
 ∃ (v0 : Value), v = .tuple #[v0, (.bool r.2)] ∧ FO Xk w w' [v0] r.1 ∧ Ky [] w w'
theorem impl_readHex.calls (a0 : ByteArray) (w : World) (F : Nat → Prop)   (r : (List Int) × Bool) (m : impl_readHex.f a0 = some r) :
  Calls prog 79 #[(.string a0)] w (RT (impl_readHex.Q w F) r) := by
 obtain ⟨s0, rfl, kp0, z⟩ := Xi w F
 refine Xc (args := [(.string a0)]) func79 ntmps79 rfl rfl m ?_
 unfold impl_readHex.f
 refine sr (Xa rfl (Xa rfl (dn (sq (sr (Xa rfl (lns u9 rfl rfl rfl rfl rfl rfl (remK rfl rfl rfl rfl rfl rfl rfl rfl (Xa rfl (dn (cd rfl (fun h1 => ?_) (fun h1 => ?_))))))))))))
 ·
  exact sr (Xa rfl (Xa rfl (dn (re rfl func79 rfl (r_t rfl (r_t rfl Xd)) rfl ⟨_, rfl, (.slice none 0 0), rfl, (ow_nil 5 (Kd.int .u8) s0 40).fo kp0 rfl z.l, z.ky kp0⟩))))
 refine sk (sr (Xa rfl (dn (sq (sr (Xa rfl (dn (bl (lpI (fun (x2 : (List Int) × Int) e w => ∃ (s : St) (e0 : Env) (vx2_0 : Value), w = s.w ∧ e = upd (upd (upd e0 0 (.string a0)) 4 vx2_0) 5 (iI x2.2) ∧ Kp s0 s ∧ OwF Xk s [vx2_0] x2.1 40) ⟨s0, _, (.slice none 0 0), rfl, (ue (ue (ue rfl rfl) rfl) rfl), kp0, (ow_nil 5 (Kd.int .u8) _ 40)⟩ (fun g2 ih2 => ?_))))))))))
 rintro x2 _ _ ⟨s3, _, vx2_0, rfl, rfl, Kx2, Ax2_0⟩
 unfold impl_readHex.b0
 refine sq (sr (Xa rfl (Xa rfl (lns u9 rfl rfl rfl rfl rfl rfl (Xa rfl (dn (cd rfl (fun h5 => ?_) (fun h5 => ?_))))))))
 ·
  refine sk (sq (bl (sq (zdraw [[], [], [0, 1], [2], [], [], [5], [4, 6], [7, 3], [3, 8, 0, 1, 2, 3], [8, 9, 0, 1, 2, 3, 4, 5, 6, 7, 8, 9]] [some 18, some 19, some 20, some 21, some 22, some 23, some 24, some 25, some 26, some 6, some 7] [[0], [5], [18, 19], [20], [0], [5], [23], [22, 24], [25], [21], [26]] [0, 1, 2, 3, 4, 5, 6, 7, 8, 9, 10] ⟨by kernel_rfl, by kernel_rfl, by kernel_rfl⟩ (by kernel_rfl) (fun s6 p6 l6 tb6 zd6 => ?_)))))
  refine mg fun hg9 => (mg fun hg14 => (zstep 3 [some 25, some 24, some 23, some 22] tb6 (((((((zd6.add 0 18 (.string a0) rfl).add 1 19 (iI x2.2) rfl).add 2 20 (.int .u8 (at_ (bts a0) x2.2)) rfl).add 4 22 (.string a0) rfl).add 5 23 (iI x2.2) rfl).add 6 24 (iI (IntKind.wrap .i64 (x2.2 + (1 : Int)))) rfl).add 7 25 (.int .u8 (at_ (bts a0) (IntKind.wrap .i64 (x2.2 + (1 : Int))))) rfl) (Xe (sxi_q u9 hg14 rfl rfl rfl rfl rfl rfl rfl) rfl (Xe (pu_q rfl rfl rfl rfl rfl rfl) rfl (Xe (pu_q rfl rfl rfl rfl rfl rfl) rfl (Xe (pu_q rfl rfl rfl rfl rfl rfl) rfl (Xe (sxi_q u9 hg9 rfl rfl rfl rfl rfl rfl rfl) rfl (Xe (pu_q rfl rfl rfl rfl rfl rfl) rfl (Xe (pu_q rfl rfl rfl rfl rfl rfl) rfl pq_nil))))))) (by kernel_rfl) rfl (fun l16 e16 zd16 => ?_)))
  refine clV 41 rfl func93 rfl (strings_IndexByte.calls (⟨#[48, 49, 50, 51, 52, 53, 54, 55, 56, 57, 97, 98, 99, 100, 101, 102]⟩ : ByteArray) (at_ (bts a0) x2.2) s6.w (mm [] s6)) (fun r17 s18 p18 n18 => ?_)
  refine zdone (L' := [7, 6, 5, 4]) (D' := [0, 1, 2, 3]) zd16 rfl rfl rfl (fun zd19 => ?_)
  refine zfin [8, 9, 10] tb6 zd19 (Xe (sxi_q u9 hg14 rfl rfl rfl rfl rfl rfl rfl) rfl (Xe (pu_q rfl rfl rfl rfl rfl rfl) rfl (Xe (pu_q rfl rfl rfl rfl rfl rfl) rfl (Xe (pu_q rfl rfl rfl rfl rfl rfl) rfl pq_nil)))) (by kernel_rfl) (by decide) (clV 42 rfl func93 rfl (strings_IndexByte.calls (⟨#[48, 49, 50, 51, 52, 53, 54, 55, 56, 57, 97, 98, 99, 100, 101, 102]⟩ : ByteArray) (at_ (bts a0) (IntKind.wrap .i64 (x2.2 + (1 : Int)))) s18.w (mm [] s18)) (fun r20 s21 p21 n21 => ?_))
  refine Xa rfl (Xa rfl (dn (sq (sr (Xa rfl (Xa rfl (Xa rfl (jy [29, 30, 31, 32] [] 32 (.bool ((decide (r17 < (0 : Int))) || (decide (r20 < (0 : Int))))) rfl (fun Kg22 => ?_) (fun j22 => ?_)))))))))
  ·
   rcases bft (decide (r17 < (0 : Int))) with hb22 | hb22
   ·
    exact sbT hb22 (Xg rfl (Xg rfl (Xa rfl (Kg22 _ (Ag.put ((Ag.put ((Ag.put (Ag.base rfl) rfl)) rfl)) rfl) (by rw [hb22]; rfl)))))
   exact sbT hb22 (Xa rfl (Xa rfl (Xa rfl (Kg22 _ (Ag.put ((Ag.put ((Ag.put (Ag.base rfl) rfl)) rfl)) rfl) (by rw [hb22]; rfl)))))
  refine dn (cd rfl (fun h23 => ?_) (fun h23 => ?_))
  ·
   refine sr (Xa rfl (Xa rfl (dn (sgi ?_))))
   have K24 := Kx2.st (tr3 p6 p18 p21) rfl
   exact re rfl func79 rfl (r_t rfl (r_t rfl Xd)) rfl ⟨_, rfl, (.slice none 0 0), rfl, (ow_nil 5 (Kd.int .u8) s21 40).fo K24 rfl z.l, z.ky K24⟩
  refine sk (rg (Xj vx2_0 rfl (Xa rfl (shlK rfl rfl rfl rfl rfl rfl rfl rfl (Xa rfl (Xa rfl (cv u5 u3 rfl rfl rfl rfl rfl rfl (ltF' (K := (Kd.int .u8)) (cells := [(.int .u8 (IntKind.wrap .u8 (ior .i64 (ishl .i64 r17 (4 : Int)) r20)))]) [(IntKind.wrap .u8 (ior .i64 (ishl .i64 r17 (4 : Int)) r20))] 43 Xf u23 z5 o5 (fun w => (Xh _ _ _)) rfl rfl (fun v25 s25 p25 A25 => ?_)))))))))
  refine apF Xf sl23 (Ax2_0.st (tr4 p6 p18 p21 p25) rfl) A25.rd rfl rfl rfl rfl rfl rfl rfl (fun v28 s28 p28 A28 => ?_)
  refine asg' v28 rfl (dn (ib (rg (Xa rfl (Xa rfl (Xa rfl (dn ?_)))))))
  exact lb ih2 ⟨s28, _, v28, rfl, (ue (ue (ue rfl rfl) rfl) rfl), (Kx2.st (tr5 p6 p18 p21 p25 p28) rfl), A28⟩
 exact xt rfl (sgb (sr (Xj vx2_0 rfl (asg' vx2_0 rfl (Xa rfl (dn (re rfl func79 rfl (r_t rfl (r_t rfl Xd)) rfl ⟨_, rfl, vx2_0, rfl, Ax2_0.fo Kx2 rfl z.l, z.ky Kx2⟩)))))))
def impl_fromHigh.b0 (a0 : (List Int)) (x2 : Int × Int) : Option ((Int × Int) ⊕ Int) :=
 (if (decide (x2.2 < (a0.length : Int))) = true then (if 0 ≤ x2.2 ∧ x2.2 < (a0.length : Int) then (some (Sum.inl ((ior .u64 (ishl .u64 x2.1 (8 : Int)) (IntKind.wrap .u64 (at_ a0 x2.2))), (IntKind.wrap .i64 (x2.2 + (1 : Int)))))) else none) else ((some x2.1).bind fun o => some (Sum.inr o)))
def impl_fromHigh.f (a0 : (List Int)) : Option (Int) :=
 (iter (impl_fromHigh.b0 a0) ((0 : Int), (0 : Int)))
def impl_fromHigh.Q (w : World) (F : Nat → Prop) (r : Int) (v : Value) (w' : World) : Prop :=
 v = (.int .u64 r) ∧ Ky [] w w'
theorem impl_fromHigh.calls (a0 : (List Int)) (w : World) (F : Nat → Prop) (w0_0 : Value) (h0_0 : Xk.rd w [w0_0] a0 F) (r : Int) (m : impl_fromHigh.f a0 = some r) :
  Calls prog 81 #[w0_0] w (RT (impl_fromHigh.Q w F) r) := by
 obtain ⟨s0, rfl, kp0, z⟩ := Xi w F
 have A0_0 := z.rd h0_0
 refine Xc (args := [w0_0]) func81 ntmps81 rfl rfl m ?_
 unfold impl_fromHigh.f
 refine sr (Xa rfl (dn (sr (Xa rfl (dn (sq (sr (Xj w0_0 rfl (ln' A0_0 u23 rfl (Xa rfl (dn (bl (lpI (fun (x2 : Int × Int) e w => ∃ (s : St) (e0 : Env), w = s.w ∧ e = upd (upd (upd (upd e0 3 (.int .u64 x2.1)) 6 w0_0) 7 (iI (a0.length : Int))) 8 (iI x2.2) ∧ Kp s0 s) ⟨s0, _, rfl, (ue (ue (ue (ue rfl rfl) rfl) rfl) rfl), kp0⟩ (fun g2 ih2 => ?_))))))))))))))
 rintro x2 _ _ ⟨s3, _, rfl, rfl, Kx2⟩
 unfold impl_fromHigh.b0
 refine sr (Xa rfl (dn (sq (cd rfl (fun h4 => ?_) (fun h4 => ?_)))))
 ·
  refine sk (sq (bl (sr ?_)))
  refine ix' (A0_0.kp Kx2) u23 z5 rfl (fun ad6 es6 h0_6 h1_6 he6 ce6 ia6 => ?_)
  obtain rfl := he6
  refine lc0' ce6 u5 rfl (Xa rfl (dn (rg (Xa rfl (shlK rfl rfl rfl rfl rfl rfl rfl rfl (Xa rfl (cv u65 u5 rfl rfl rfl rfl rfl rfl (Xa rfl (Xa rfl (dn (ib (rg (Xa rfl (Xa rfl ?_))))))))))))))
  exact dn (lb ih2 ⟨s3, _, rfl, (ue (ue (ue (ue rfl rfl) rfl) rfl) rfl), Kx2⟩)
 exact xt rfl (sgb (sr (Xa rfl (Xa rfl (dn (re rfl func81 rfl (r_t rfl Xd) rfl ⟨_, rfl, rfl, z.ky Kx2⟩))))))
def impl_FloatOf.f (a0 : Int) : Option (Nat) :=
 (some (cn (a0).toNat))
def impl_FloatOf.Q (w : World) (F : Nat → Prop) (r : Nat) (v : Value) (w' : World) : Prop :=
 FL v r ∧ Ky [] w w'
theorem impl_FloatOf.calls (a0 : Int) (w : World) (F : Nat → Prop)   (r : Nat) (m : impl_FloatOf.f a0 = some r) :
  Calls prog 80 #[(.int .u64 a0)] w (RT (impl_FloatOf.Q w F) r) := by
 obtain ⟨s0, rfl, kp0, z⟩ := Xi w F
 refine Xc (args := [(.int .u64 a0)]) func80 ntmps80 rfl rfl m ?_
 unfold impl_FloatOf.f
 refine sr (asg' (.float .f64 0) rfl (dn (sr (Xa rfl (ffb rfl rfl rfl rfl rfl func94 rfl rfl xn94 xf94 rfl (fun v1 A1 => ?_))))))
 exact asg' v1 rfl (dn (re rfl func80 rfl (r_t rfl Xd) rfl ⟨_, rfl, A1, z.ky kp0⟩))
def impl_readText.f (a0 : ByteArray) : Option (Item × Bool) :=
 (if (a0.toList == (⟨#[]⟩ : ByteArray).toList) = true then (some ((Item.mk (0 : Int) (0 : Int) (0 : Nat) ([] : (List Int))), false)) else (if 0 ≤ (1 : Int) ∧ (1 : Int) ≤ (a0.size : Int) ∧ (a0.size : Int) ≤ (a0.size : Int) then (if 0 ≤ (0 : Int) ∧ (0 : Int) < (a0.size : Int) then ((if ((at_ (bts a0) (0 : Int)) == (105 : Int)) = true then ((strconv_Atoi.f (ByteArray.extract a0 ((1 : Int)).toNat ((a0.size : Int)).toNat)).bind fun r15 => (if (!r15.2) = true then (some (Sum.inr ((Item.mk (0 : Int) (0 : Int) (0 : Nat) ([] : (List Int))), false))) else (some (Sum.inl ((1 : Int), r15.1, (0 : Nat), ([] : (List Int))))))) else ((if ((at_ (bts a0) (0 : Int)) == (102 : Int)) = true then (some ((at_ (bts a0) (0 : Int)) == (102 : Int))) else (some ((at_ (bts a0) (0 : Int)) == (116 : Int)))).bind fun y29 => ((if y29 = true then ((impl_readHex.f (ByteArray.extract a0 ((1 : Int)).toNat ((a0.size : Int)).toNat)).bind fun r40 => ((if (!r40.2) = true then (some true) else (if 0 ≤ (0 : Int) ∧ (0 : Int) < (a0.size : Int) then (some (((at_ (bts a0) (0 : Int)) == (102 : Int)) && ((r40.1.length : Int) != (8 : Int)))) else none)).bind fun y43 => (if y43 = true then (some (Sum.inr (Sum.inr ((Item.mk (0 : Int) (0 : Int) (0 : Nat) ([] : (List Int))), false)))) else (if 0 ≤ (0 : Int) ∧ (0 : Int) < (a0.size : Int) then ((if ((at_ (bts a0) (0 : Int)) == (102 : Int)) = true then ((impl_fromHigh.f r40.1).bind fun r65 => ((impl_FloatOf.f r65).bind fun r67 => (some ((2 : Int), r67, ([] : (List Int)))))) else (some ((3 : Int), (0 : Nat), r40.1))).bind fun y62 => (some (Sum.inl (y62.1, y62.2.1, y62.2.2)))) else none)))) else (some (Sum.inl ((0 : Int), (0 : Nat), ([] : (List Int)))))).bind (sel fun y38 => (some (Sum.inl (y38.1, (0 : Int), y38.2.1, y38.2.2))))))).bind (sel fun y12 => ((impl_ItemOk.f (Item.mk y12.1 y12.2.1 y12.2.2.1 y12.2.2.2)).bind fun r93 => ((if (!r93) = true then (some true) else ((impl_itemText.f (Item.mk y12.1 y12.2.1 y12.2.2.1 y12.2.2.2)).bind fun r103 => (some (!(r103.toList == a0.toList))))).bind fun y95 => (if y95 = true then (some ((Item.mk (0 : Int) (0 : Int) (0 : Nat) ([] : (List Int))), false)) else (some ((Item.mk y12.1 y12.2.1 y12.2.2.1 y12.2.2.2), true))))))) else none) else none))
def impl_readText.Q (w : World) (F : Nat → Prop) (r : Item × Bool) (v : Value) (w' : World) : Prop :=
 ∃ (v0 : Value) (v1 : Value), v = .tuple #[(.agg #[(iI r.1.Kind), (iI r.1.N), v0, v1]), (.bool r.2)] ∧ FO kd28 w w' [(iI r.1.Kind), (iI r.1.N), v0, v1] r.1 ∧ Ky [] w w'
theorem impl_readText.calls (a0 : ByteArray) (w : World) (F : Nat → Prop)  (hG : GU.rd w [] () F) (r : Item × Bool) (m : impl_readText.f a0 = some r) :
  Calls prog 61 #[(.string a0)] w (RT (impl_readText.Q w F) r) := by
 obtain ⟨s0, rfl, kp0, z⟩ := Xi w F
 have AG := z.rd hG
 refine Xc (args := [(.string a0)]) func61 ntmps61 rfl rfl m ?_
 unfold impl_readText.f
 refine sr (al (cs := [(iI 0), (iI 0), (.float .f64 0), (.slice none 0 0)]) 40 rfl rfl rfl rfl rfl o28 rfl (fun b1 s1 p1 B1 => ?_))
 refine Xa rfl (dn (sr (al (cs := [(iI 0), (iI 0), (.float .f64 0), (.slice none 0 0)]) 41 rfl rfl rfl rfl rfl o28 rfl (fun b3 s3 p3 B3 => ?_))))
 refine dn (sq (sr (Xa rfl (Xa rfl (dn (cd rfl (fun h5 => ?_) (fun h5 => ?_)))))))
 ·
  refine sr (bd (cells := [(iI 0), (iI 0), (.float .f64 0), (.slice none 0 0)]) pl28 o28 rfl rfl rfl rfl rfl rfl ?_)
  refine sva (vs := [(iI 0), (iI 0), (.float .f64 0), (.slice none 0 0)]) (B1.st p3 rfl) z28 rfl rfl rfl rfl rfl rfl (Xb rfl (Xb rfl (Xb (FL.one (fl_c rfl)) (Xb rfl on_nil)))) rfl (fun s7 p7 B7 => ?_)
  refine Xa rfl (dn ?_)
  have A9 : OwF kd28 s7 [(iI 0), (iI 0), (.float .f64 0), (.slice none 0 0)] (Item.mk (0 : Int) (0 : Int) (0 : Nat) ([] : (List Int))) 42 := ow_z _ _ (fz_iso (fun x : Item => (x.Kind, x.N, x.F, x.T)) (Item.mk (0 : Int) (0 : Int) (0 : Nat) ([] : (List Int))) (fz_pair (fz_int .i64 (0 : Int)) (fz_pair (fz_int .i64 (0 : Int)) (fz_pair (fz_flt (fl_c rfl)) (fz_nil 5 (Kd.int .u8))))))
  have K11 := kp0.st (tr3 p1 p3 p7) rfl
  exact re rfl func61 rfl (r_b B7 u28 rfl z28 rfl (r_t rfl Xd)) rfl ⟨_, rfl, (.float .f64 0), (.slice none 0 0), rfl, A9.fo K11 rfl z.l, z.ky K11⟩
 refine sk (sr (Xa rfl (sct (1 : Int) (a0.size : Int) u9 rfl rfl rfl rfl rfl rfl (.inr ⟨_, _, rfl, rfl⟩) (.inl ⟨rfl, rfl⟩) (Xa rfl (dn (sq (sr (Xa rfl (sxi u9 rfl rfl rfl rfl rfl rfl rfl (dn (bl (sr (Xa rfl (Xa rfl ?_))))))))))))))
 refine dn (jr (fun (y12 : Int × Int × Nat × (List Int)) e w => ∃ (s : St) (e0 : Env) (vy12_0 uy12_0 : Value), w = s.w ∧ e = upd (upd (upd e0 0 (.string a0)) 2 (pB b1)) 4 (pB b3) ∧ Kp s0 s ∧ OwF Xk s [vy12_0] y12.2.2.2 44 ∧ FL uy12_0 y12.2.2.1 ∧ BlF s b3 28 [(iI y12.1), (iI y12.2.1), uy12_0, vy12_0] 41 ∧ BlF s b1 28 [(iI 0), (iI 0), (.float .f64 0), (.slice none 0 0)] 40) (fun Gj12 Kj12 hG12 => ?_) ?_)
 ·
  refine cd rfl (fun h13 => ?_) (fun h13 => ?_)
  ·
   refine sr (Xa rfl ?_)
   have K14 := kp0.st (tr2 p1 p3) rfl
   refine cl' rfl func78 rfl (strconv_Atoi.calls (ByteArray.extract a0 ((1 : Int)).toNat ((a0.size : Int)).toNat) s3.w (mm [0] s3) (AG.kp K14)) ?_
   rintro r15 _ w15 m15 ⟨v15_0, rfl, f15_0, ky15⟩
   obtain ⟨s16, rfl, p16, n16⟩ := nwx s3 w15 43 ky15
   refine Xa rfl (Xa (v := (iI r15.1)) rfl (Xa (v := v15_0) rfl (Xa rfl (asg' v15_0 rfl (dn (sq (sr (Xj v15_0 rfl (ernon f15_0 u105 rfl rfl rfl rfl rfl rfl rfl (dn (cd rfl (fun h17 => ?_) (fun h17 => ?_))))))))))))
   ·
    refine sr (bd (cells := [(iI 0), (iI 0), (.float .f64 0), (.slice none 0 0)]) pl28 o28 rfl rfl rfl rfl rfl rfl ?_)
    refine sva (vs := [(iI 0), (iI 0), (.float .f64 0), (.slice none 0 0)]) (B1.st (tr2 p3 p16) rfl) z28 rfl rfl rfl rfl rfl rfl (Xb rfl (Xb rfl (Xb (FL.one (fl_c rfl)) (Xb rfl on_nil)))) rfl (fun s19 p19 B19 => ?_)
    refine Xa rfl (dn (jri hG12 ?_))
    have A21 : OwF kd28 s19 [(iI 0), (iI 0), (.float .f64 0), (.slice none 0 0)] (Item.mk (0 : Int) (0 : Int) (0 : Nat) ([] : (List Int))) 44 := ow_z _ _ (fz_iso (fun x : Item => (x.Kind, x.N, x.F, x.T)) (Item.mk (0 : Int) (0 : Int) (0 : Nat) ([] : (List Int))) (fz_pair (fz_int .i64 (0 : Int)) (fz_pair (fz_int .i64 (0 : Int)) (fz_pair (fz_flt (fl_c rfl)) (fz_nil 5 (Kd.int .u8))))))
    have K23 := K14.st (tr2 p16 p19) rfl
    exact re rfl func61 rfl (r_b B19 u28 rfl z28 rfl (r_t rfl Xd)) rfl ⟨_, rfl, (.float .f64 0), (.slice none 0 0), rfl, A21.fo K23 rfl z.l, z.ky K23⟩
   refine sk (rg (Xa rfl (bd (cells := [(iI 1), (iI r15.1), (.float .f64 0), (.slice none 0 0)]) pl28 o28 rfl rfl rfl rfl rfl rfl ?_)))
   refine sva (vs := [(iI 1), (iI r15.1), (.float .f64 0), (.slice none 0 0)]) (B3.st p16 rfl) z28 rfl rfl rfl rfl rfl rfl (Xb rfl (Xb rfl (Xb (FL.one (fl_c rfl)) (Xb rfl on_nil)))) rfl (fun s25 p25 B25 => ?_)
   exact dn (Kj12 _ _ _ ⟨s25, _, (.slice none 0 0), (.float .f64 0), rfl, (ue (ue (ue rfl rfl) rfl) rfl), (K14.st (tr2 p16 p25) rfl), (ow_nil 5 (Kd.int .u8) _ 44), (fl_c rfl), B25, (B1.st (tr3 p3 p16 p25) rfl)⟩)
  refine sq (sr (Xa rfl (Xa rfl (dn (jc (fun (y29 : Bool) e w => ∃ (s : St) (e0 : Env), w = s.w ∧ e = upd (upd (upd (upd (upd e0 0 (.string a0)) 2 (pB b1)) 4 (pB b3)) 5 (.string (ByteArray.extract a0 ((1 : Int)).toNat ((a0.size : Int)).toNat))) 29 (.bool y29) ∧ Kp s0 s ∧ BlF s b3 28 [(iI 0), (iI 0), (.float .f64 0), (.slice none 0 0)] 41 ∧ BlF s b1 28 [(iI 0), (iI 0), (.float .f64 0), (.slice none 0 0)] 40) (fun Gj29 Kj29 => ?_) ?_)))))
  ·
   refine cd rfl (fun h30 => ?_) (fun h30 => ?_)
   ·
    exact sk (Kj29 _ _ _ ⟨s3, _, rfl, (ue (ue (ue (ue (ue rfl rfl) rfl) rfl) rfl) rfl), (kp0.st (tr2 p1 p3) rfl), B3, (B1.st p3 rfl)⟩)
   refine rg (Xa rfl (Xa rfl (dn ?_)))
   exact Kj29 _ _ _ ⟨s3, _, rfl, (ue (ue (ue (ue (ue rfl rfl) rfl) rfl) rfl) rfl), (kp0.st (tr2 p1 p3) rfl), B3, (B1.st p3 rfl)⟩
  rintro y29 _ _ ⟨s35, _, rfl, rfl, Ky29, By29_b3, By29_b1⟩
  refine jr (fun (y38 : Int × Nat × (List Int)) e w => ∃ (s : St) (e0 : Env) (vy38_0 uy38_0 : Value), w = s.w ∧ e = upd (upd (upd e0 0 (.string a0)) 2 (pB b1)) 4 (pB b3) ∧ Kp s0 s ∧ OwF Xk s [vy38_0] y38.2.2 45 ∧ FL uy38_0 y38.2.1 ∧ BlF s b3 28 [(iI y38.1), (iI 0), uy38_0, vy38_0] 41 ∧ BlF s b1 28 [(iI 0), (iI 0), (.float .f64 0), (.slice none 0 0)] 40) (fun Gj38 Kj38 hG38 => ?_) ?_
  ·
   refine cd rfl (fun h39 => ?_) (fun h39 => ?_)
   ·
    refine sr (Xa rfl (cl' rfl func79 rfl (impl_readHex.calls (ByteArray.extract a0 ((1 : Int)).toNat ((a0.size : Int)).toNat) s35.w (mm [] s35)) ?_))
    rintro r40 _ w40 m40 ⟨v40_0, rfl, f40_0, ky40⟩
    obtain ⟨s41, rfl, p41, n41⟩ := nwx s35 w40 45 ky40
    have A40_0 := f40_0.c n41
    refine Xa rfl (Xa (v := v40_0) rfl (Xa (v := (.bool r40.2)) rfl (asg' v40_0 rfl (Xa rfl (dn (sq (sr (Xa rfl (Xa rfl (Xa rfl (ji [] (fun (y43 : Bool) e w => ∃ (s : St) (e0 : Env), w = s.w ∧ e = upd (upd (upd (upd (upd e0 0 (.string a0)) 2 (pB b1)) 4 (pB b3)) 8 v40_0) 48 (.bool y43) ∧ Kp s0 s ∧ BlF s b3 28 [(iI 0), (iI 0), (.float .f64 0), (.slice none 0 0)] 41 ∧ BlF s b1 28 [(iI 0), (iI 0), (.float .f64 0), (.slice none 0 0)] 40 ∧ OwF Xk s [v40_0] r40.1 45) (fun Gj43 Kj43 => ?_) ?_)))))))))))
    ·
     rcases bft (!r40.2) with hb43 | hb43
     ·
      refine sbT hb43 ?_
      rw [if_pos hb43]
      refine Xg rfl (Xg rfl (Xg rfl (Xg rfl (Xg rfl (Xg rfl (Xg rfl (Xg rfl (Xa rfl ?_))))))))
      exact Kj43 _ _ _ ⟨s41, _, rfl, (ue (ue (ue (ue (ue rfl rfl) rfl) rfl) rfl) rfl), (Ky29.st p41 rfl), (By29_b3.st p41 rfl), (By29_b1.st p41 rfl), A40_0⟩
     refine sbT hb43 ?_
     rw [if_neg (by rw [hb43]; decide)]
     refine Xa rfl (sxi u9 rfl rfl rfl rfl rfl rfl rfl (Xa rfl (Xa rfl (jy [43, 44, 45, 46, 47] [11] 47 (.bool (((at_ (bts a0) (0 : Int)) == (102 : Int)) && ((r40.1.length : Int) != (8 : Int)))) rfl (fun Kg47 => ?_) (fun j47 => ?_)))))
     ·
      rcases bft ((at_ (bts a0) (0 : Int)) == (102 : Int)) with hb47 | hb47
      ·
       exact sbT hb47 (Xj v40_0 rfl (ln' A40_0.rd u23 rfl (Xa rfl (Xa rfl (Kg47 _ (Ag.put ((Ag.put ((Ag.put ((Ag.put (Ag.base rfl) rfl)) rfl)) rfl)) rfl) (by rw [hb47]; rfl))))))
      exact sbT hb47 (Xg rfl (Xg rfl (Xg rfl (Xa rfl (Kg47 _ (Ag.put ((Ag.put ((Ag.put ((Ag.put (Ag.base rfl) rfl)) rfl)) rfl)) rfl) (by rw [hb47]; rfl))))))
     exact Xa rfl (Kj43 _ _ _ ⟨s41, _, rfl, (ue (ue (ue (ue (ue rfl rfl) rfl) rfl) rfl) rfl), (Ky29.st p41 rfl), (By29_b3.st p41 rfl), (By29_b1.st p41 rfl), A40_0⟩)
    rintro y43 _ _ ⟨s51, _, rfl, rfl, Ky43, By43_b3, By43_b1, Cy43_42⟩
    refine dn (cd rfl (fun h54 => ?_) (fun h54 => ?_))
    ·
     refine sr (bd (cells := [(iI 0), (iI 0), (.float .f64 0), (.slice none 0 0)]) pl28 o28 rfl rfl rfl rfl rfl rfl (sva (vs := [(iI 0), (iI 0), (.float .f64 0), (.slice none 0 0)]) By43_b1 z28 rfl rfl rfl rfl rfl rfl (Xb rfl (Xb rfl (Xb (FL.one (fl_c rfl)) (Xb rfl on_nil)))) rfl (fun s55 p55 B55 => ?_)))
     refine Xa rfl (dn (jri hG38 (jri hG12 ?_)))
     have A57 : OwF kd28 s55 [(iI 0), (iI 0), (.float .f64 0), (.slice none 0 0)] (Item.mk (0 : Int) (0 : Int) (0 : Nat) ([] : (List Int))) 46 := ow_z _ _ (fz_iso (fun x : Item => (x.Kind, x.N, x.F, x.T)) (Item.mk (0 : Int) (0 : Int) (0 : Nat) ([] : (List Int))) (fz_pair (fz_int .i64 (0 : Int)) (fz_pair (fz_int .i64 (0 : Int)) (fz_pair (fz_flt (fl_c rfl)) (fz_nil 5 (Kd.int .u8))))))
     have K59 := Ky43.st p55 rfl
     exact re rfl func61 rfl (r_b B55 u28 rfl z28 rfl (r_t rfl Xd)) rfl ⟨_, rfl, (.float .f64 0), (.slice none 0 0), rfl, A57.fo K59 rfl z.l, z.ky K59⟩
    refine sk (sr (Xj v40_0 rfl (bd (cells := [(iI 3), (iI 0), (.float .f64 0), v40_0]) pl28 o28 rfl rfl rfl rfl rfl (lfill_pc (pc_c rfl (pc_c (oc Cy43_42.rd.one) pc_n)) rfl) (sva (vs := [(iI 3), (iI 0), (.float .f64 0), v40_0]) By43_b3 z28 rfl rfl rfl rfl rfl rfl (Xb rfl (Xb rfl (Xb (FL.one (fl_c rfl)) (Xb Cy43_42.rd.one on_nil)))) rfl (fun s60 p60 B60 => ?_)))))
    refine dn (sr (Xa rfl (sxi u9 rfl rfl rfl rfl rfl rfl rfl (Xa rfl (dn (jc (fun (y62 : Int × Nat × (List Int)) e w => ∃ (s : St) (e0 : Env) (vy62_0 uy62_0 : Value), w = s.w ∧ e = upd (upd (upd e0 0 (.string a0)) 2 (pB b1)) 4 (pB b3) ∧ Kp s0 s ∧ OwF Xk s [vy62_0] y62.2.2 45 ∧ FL uy62_0 y62.2.1 ∧ BlF s b3 28 [(iI y62.1), (iI 0), uy62_0, vy62_0] 41 ∧ BlF s b1 28 [(iI 0), (iI 0), (.float .f64 0), (.slice none 0 0)] 40) (fun Gj62 Kj62 => ?_) ?_))))))
    ·
     refine cd rfl (fun h63 => ?_) (fun h63 => ?_)
     ·
      refine rg (Xj v40_0 rfl ?_)
      refine clV 47 rfl func81 rfl (impl_fromHigh.calls r40.1 s60.w (mm [45] s60) v40_0 (Cy43_42.st p60 rfl).rd) (fun r65 s66 p66 n66 => ?_)
      refine cl' rfl func80 rfl (impl_FloatOf.calls r65 s66.w (mm [] s66)) ?_
      rintro r67 v67_0 w67 m67 ⟨f67_0, ky67⟩
      obtain ⟨s68, rfl, p68, n68⟩ := nwx s66 w67 48 ky67
      refine bd (cells := [(iI 2), (iI 0), v67_0, (.slice none 0 0)]) pl28 o28 rfl rfl rfl rfl rfl (lfill_pc (pc_c rfl (pc_c (oc (FL.one f67_0)) pc_n)) rfl) (sva (vs := [(iI 2), (iI 0), v67_0, (.slice none 0 0)]) (B60.st (tr2 p66 p68) rfl) z28 rfl rfl rfl rfl rfl rfl (Xb rfl (Xb rfl (Xb (FL.one f67_0) (Xb rfl on_nil)))) rfl (fun s70 p70 B70 => ?_))
      exact dn (Kj62 _ _ _ ⟨s70, _, (.slice none 0 0), v67_0, rfl, (ue (ue (ue rfl rfl) rfl) rfl), (Ky43.st (tr4 p60 p66 p68 p70) rfl), (ow_nil 5 (Kd.int .u8) _ 45), f67_0, B70, (By43_b1.st (tr4 p60 p66 p68 p70) rfl)⟩)
     exact sk (Kj62 _ _ _ ⟨s60, _, v40_0, (.float .f64 0), rfl, (ue (ue (ue rfl rfl) rfl) rfl), (Ky43.st p60 rfl), (Cy43_42.st p60 rfl), (fl_c rfl), B60, (By43_b1.st p60 rfl)⟩)
    rintro y62 _ _ ⟨s77, _, vy62_0, uy62_0, rfl, rfl, Ky62, Ay62_0, Fy62_0, By62_b3, By62_b1⟩
    exact Kj38 _ _ _ ⟨s77, _, vy62_0, uy62_0, rfl, (ue (ue (ue rfl rfl) rfl) rfl), Ky62, Ay62_0, Fy62_0, By62_b3, By62_b1⟩
   exact sk (Kj38 _ _ _ ⟨s35, _, (.slice none 0 0), (.float .f64 0), rfl, (ue (ue (ue rfl rfl) rfl) rfl), Ky29, (ow_nil 5 (Kd.int .u8) _ 45), (fl_c rfl), By29_b3, By29_b1⟩)
  rintro y38 _ _ ⟨s81, _, vy38_0, uy38_0, rfl, rfl, Ky38, Ay38_0, Fy38_0, By38_b3, By38_b1⟩
  obtain ⟨s85, hw85, p85, A85⟩ := Ay38_0.rc 44 rfl
  rw [hw85]
  exact Kj12 _ _ _ ⟨s85, _, vy38_0, uy38_0, rfl, (ue (ue (ue rfl rfl) rfl) rfl), (Ky38.st p85 rfl), A85, Fy38_0, (By38_b3.st p85 rfl), (By38_b1.st p85 rfl)⟩
 rintro y12 _ _ ⟨s89, _, vy12_0, uy12_0, rfl, rfl, Ky12, Ay12_0, Fy12_0, By12_b3, By12_b1⟩
 refine ib (sq (sr (lda (es := [(iI y12.1), (iI y12.2.1), uy12_0, vy12_0]) By12_b3 u28 z28 rfl rfl rfl rfl rfl rfl rfl rfl (clV 49 rfl func38 rfl (impl_ItemOk.calls (Item.mk y12.1 y12.2.1 y12.2.2.1 y12.2.2.2) s89.w (mm [44] s89) uy12_0 vy12_0 ((fl_rdf (s := s89) Fy12_0).sub (D := [44]) rfl) Ay12_0.rd) (fun r93 s94 p94 n94 => ?_)))))
 refine Xa rfl (Xa rfl (ji [] (fun (y95 : Bool) e w => ∃ (s : St) (e0 : Env), w = s.w ∧ e = upd (upd (upd e0 2 (pB b1)) 4 (pB b3)) 67 (.bool y95) ∧ Kp s0 s ∧ BlF s b3 28 [(iI y12.1), (iI y12.2.1), uy12_0, vy12_0] 41 ∧ BlF s b1 28 [(iI 0), (iI 0), (.float .f64 0), (.slice none 0 0)] 40 ∧ OwF Xk s [vy12_0] y12.2.2.2 44) (fun Gj95 Kj95 => ?_) ?_))
 ·
  rcases bft (!r93) with hb95 | hb95
  ·
   refine sbT hb95 ?_
   rw [if_pos hb95]
   refine Xg rfl (Xg rfl (Xg rfl (Xg rfl (Xa rfl ?_))))
   exact Kj95 _ _ _ ⟨s94, _, rfl, (ue (ue (ue rfl rfl) rfl) rfl), (Ky12.st p94 rfl), (By12_b3.st p94 rfl), (By12_b1.st p94 rfl), (Ay12_0.st p94 rfl)⟩
  refine sbT hb95 ?_
  rw [if_neg (by rw [hb95]; decide)]
  have A100 := By12_b3.st p94 rfl
  refine lda (es := [(iI y12.1), (iI y12.2.1), uy12_0, vy12_0]) A100 u28 z28 rfl rfl rfl rfl rfl rfl rfl rfl ?_
  have A101 := Ay12_0.st p94 rfl
  have K102 := Ky12.st p94 rfl
  refine clV 50 rfl func39 rfl (impl_itemText.calls (Item.mk y12.1 y12.2.1 y12.2.2.1 y12.2.2.2) s94.w (mm [44, 0] s94) uy12_0 vy12_0 ((gu_gt (AG.kp K102)).sub (D := [44, 0]) rfl) ((fl_rdf (s := s94) Fy12_0).sub (D := [44, 0]) rfl) (A101.rd.sub (D := [44, 0]) rfl)) (fun r103 s104 p104 n104 => ?_)
  refine Xa rfl (Xa rfl (Xa rfl ?_))
  exact Kj95 _ _ _ ⟨s104, _, rfl, (ue (ue (ue rfl rfl) rfl) rfl), (K102.st p104 rfl), (A100.st p104 rfl), (By12_b1.st (tr2 p94 p104) rfl), (A101.st p104 rfl)⟩
 rintro y95 _ _ ⟨s109, _, rfl, rfl, Ky95, By95_b3, By95_b1, Cy95_90⟩
 refine dn (cd rfl (fun h112 => ?_) (fun h112 => ?_))
 ·
  refine sr (bd (cells := [(iI 0), (iI 0), (.float .f64 0), (.slice none 0 0)]) pl28 o28 rfl rfl rfl rfl rfl rfl (sva (vs := [(iI 0), (iI 0), (.float .f64 0), (.slice none 0 0)]) By95_b1 z28 rfl rfl rfl rfl rfl rfl (Xb rfl (Xb rfl (Xb (FL.one (fl_c rfl)) (Xb rfl on_nil)))) rfl (fun s113 p113 B113 => ?_)))
  refine Xa rfl (dn ?_)
  have A115 : OwF kd28 s113 [(iI 0), (iI 0), (.float .f64 0), (.slice none 0 0)] (Item.mk (0 : Int) (0 : Int) (0 : Nat) ([] : (List Int))) 51 := ow_z _ _ (fz_iso (fun x : Item => (x.Kind, x.N, x.F, x.T)) (Item.mk (0 : Int) (0 : Int) (0 : Nat) ([] : (List Int))) (fz_pair (fz_int .i64 (0 : Int)) (fz_pair (fz_int .i64 (0 : Int)) (fz_pair (fz_flt (fl_c rfl)) (fz_nil 5 (Kd.int .u8))))))
  have K117 := Ky95.st p113 rfl
  exact re rfl func61 rfl (r_b B113 u28 rfl z28 rfl (r_t rfl Xd)) rfl ⟨_, rfl, (.float .f64 0), (.slice none 0 0), rfl, A115.fo K117 rfl z.l, z.ky K117⟩
 refine sk (sr (lda (es := [(iI y12.1), (iI y12.2.1), uy12_0, vy12_0]) By95_b3 u28 z28 rfl rfl rfl rfl rfl rfl rfl rfl (sva (vs := [(iI y12.1), (iI y12.2.1), uy12_0, vy12_0]) By95_b1 z28 rfl rfl rfl rfl rfl rfl (Xb rfl (Xb rfl (Xb (FL.one Fy12_0) (Xb Cy95_90.rd.one on_nil)))) rfl (fun s118 p118 B118 => ?_))))
 refine Xa rfl (dn ?_)
 have A120 : OwF kd28 s118 [(iI y12.1), (iI y12.2.1), uy12_0, vy12_0] (Item.mk y12.1 y12.2.1 y12.2.2.1 y12.2.2.2) 44 := (ow_isoz (fun x : Item => (x.Kind, x.N, x.F, x.T)) (Item.mk y12.1 y12.2.1 y12.2.2.1 y12.2.2.2) (ow_l (fz_int .i64 y12.1) (ow_l (fz_int .i64 y12.2.1) (ow_l (fz_flt Fy12_0) (Cy95_90.st p118 rfl)))))
 have K123 := Ky95.st p118 rfl
 exact re rfl func61 rfl (r_b B118 u28 rfl z28 rfl (r_t rfl Xd)) rfl ⟨_, rfl, uy12_0, vy12_0, rfl, A120.fo K123 rfl z.l, z.ky K123⟩
def impl_ItemRead.f (a0 : (List Int)) : Option (Item × Bool) :=
 ((impl_readText.f (str a0)).bind fun r6 => (some (r6.1, r6.2)))
def impl_ItemRead.Q (w : World) (F : Nat → Prop) (r : Item × Bool) (v : Value) (w' : World) : Prop :=
 ∃ (v0 : Value) (v1 : Value), v = .tuple #[(.agg #[(iI r.1.Kind), (iI r.1.N), v0, v1]), (.bool r.2)] ∧ FO kd28 w w' [(iI r.1.Kind), (iI r.1.N), v0, v1] r.1 ∧ Ky [] w w'
theorem impl_ItemRead.calls (a0 : (List Int)) (w : World) (F : Nat → Prop) (w0_0 : Value) (hG : GU.rd w [] () F) (h0_0 : Xk.rd w [w0_0] a0 F) (r : Item × Bool) (m : impl_ItemRead.f a0 = some r) :
  Calls prog 30 #[w0_0] w (RT (impl_ItemRead.Q w F) r) := by
 obtain ⟨s0, rfl, kp0, z⟩ := Xi w F
 refine Xc (args := [w0_0]) func30 ntmps30 rfl rfl m ?_
 unfold impl_ItemRead.f
 refine sr (al (cs := [(iI 0), (iI 0), (.float .f64 0), (.slice none 0 0)]) 40 rfl rfl rfl rfl rfl o28 rfl (fun b2 s2 p2 B2 => ?_))
 refine Xa rfl (dn (sr (Xj w0_0 rfl ?_)))
 have K4 := kp0.st p2 rfl
 refine b2s ((z.rd h0_0).kp K4) u23 u9 u5 rfl rfl rfl rfl rfl rfl (cl' rfl func61 rfl (impl_readText.calls (str a0) s2.w (mm [0] s2) ((z.rd hG).kp K4)) ?_)
 rintro r6 _ w6 m6 ⟨v6_0, v6_1, rfl, f6_0, ky6⟩
 obtain ⟨s7, rfl, p7, n7⟩ := nwx s2 w6 41 ky6
 obtain ⟨hu6_0_0, Au6_0_1⟩ := ap28 (f6_0.c n7)
 refine Xa (v := (.agg #[(iI r6.1.Kind), (iI r6.1.N), v6_0, v6_1])) rfl (Xa (v := (.bool r6.2)) rfl ?_)
 refine sva (vs := [(iI r6.1.Kind), (iI r6.1.N), v6_0, v6_1]) (B2.st p7 rfl) z28 rfl rfl rfl rfl rfl rfl (Xb rfl (Xb rfl (Xb (FL.one hu6_0_0) (Xb Au6_0_1.rd.one on_nil)))) rfl (fun s10 p10 B10 => ?_)
 refine Xa rfl (dn ?_)
 have A12 : OwF kd28 s10 [(iI r6.1.Kind), (iI r6.1.N), v6_0, v6_1] r6.1 41 := (ow_isoz (fun x : Item => (x.Kind, x.N, x.F, x.T)) r6.1 (ow_l (fz_int .i64 r6.1.Kind) (ow_l (fz_int .i64 r6.1.N) (ow_l (fz_flt hu6_0_0) (Au6_0_1.st p10 rfl)))))
 have K15 := K4.st (tr2 p7 p10) rfl
 exact re rfl func30 rfl (r_b B10 u28 rfl z28 rfl (r_t rfl Xd)) rfl ⟨_, rfl, v6_0, v6_1, rfl, A12.fo K15 rfl z.l, z.ky K15⟩
def laws_heldItem.f (a0 : Item) (a1 : Int) : Option (Int) :=
 ((laws_heldByteS.f a0.T a1).bind fun r6 => (if (decide (r6 < (0 : Int))) = true then (some (-1 : Int)) else (some r6)))
def laws_heldItem.Q (w : World) (F : Nat → Prop) (r : Int) (v : Value) (w' : World) : Prop :=
 v = (iI r) ∧ Ky [] w w'
theorem laws_heldItem.calls (a0 : Item) (a1 : Int) (w : World) (F : Nat → Prop) (w0_0 : Value) (w0_1 : Value) (h0_0 : Kd.flt.rd w [w0_0] a0.F F) (h0_1 : Xk.rd w [w0_1] a0.T F) (r : Int) (m : laws_heldItem.f a0 a1 = some r) :
  Calls prog 31 #[(.agg #[(iI a0.Kind), (iI a0.N), w0_0, w0_1]), (iI a1)] w (RT (laws_heldItem.Q w F) r) := by
 obtain ⟨s0, rfl, kp0, z⟩ := Xi w F
 refine Xc (args := [(.agg #[(iI a0.Kind), (iI a0.N), w0_0, w0_1]), (iI a1)]) func31 ntmps31 rfl rfl m ?_
 unfold laws_heldItem.f
 refine sr (bx (cs := [(iI a0.Kind), (iI a0.N), w0_0, w0_1]) 40 rfl rfl rfl rfl rfl rfl (fun b2 s2 p2 B2 => ?_))
 refine Xa rfl (dn (sr (fa' fa28_3 rfl (ld' B2 u23 rfl (Xa rfl ?_)))))
 have K4 := kp0.st p2 rfl
 refine clV 41 rfl func15 rfl (laws_heldByteS.calls a0.T a1 s2.w (mm [0] s2) w0_1 ((z.rd h0_1).kp K4)) (fun r6 s7 p7 n7 => ?_)
 refine Xa rfl (dn (sq (sr (Xa rfl (Xa rfl (dn (cd rfl (fun h8 => ?_) (fun h8 => ?_))))))))
 ·
  refine sr (Xa rfl (dn ?_))
  exact re rfl func31 rfl (r_t rfl Xd) rfl ⟨_, rfl, rfl, z.ky (K4.st p7 rfl)⟩
 refine sk (sr (Xa rfl (Xa rfl (dn ?_))))
 exact re rfl func31 rfl (r_t rfl Xd) rfl ⟨_, rfl, rfl, z.ky (K4.st p7 rfl)⟩
def laws_FnExactItemRead.f (a0 : (List Int)) : Option (Bool) :=
 (if (decide ((a0.length : Int) > (1048576 : Int))) = true then (some true) else ((laws_toByteS.f a0).bind fun r3 => ((spec_ItemRead.f r3).bind fun r6 => ((laws_toByteS.f a0).bind fun r16 => ((impl_ItemRead.f r16).bind fun r20 => ((laws_eqItem.f r20.1 r6.1).bind fun r31 => (if ((!r31) || (!(r20.2 == r6.2))) = true then (some false) else ((laws_toByteS.f a0).bind fun r38 => ((laws_eqByteS.f r16 r38).bind fun r42 => (if (!r42) = true then (some false) else ((laws_markByteS.f r16 (1 : Int)).bind fun r46 => ((if (decide (r46.1 < (0 : Int))) = true then (some true) else ((laws_eqItem.f r20.1 r6.1).bind fun r60 => (some (!r60)))).bind fun y50 => (if (y50 || (!(r20.2 == r6.2))) = true then (some false) else ((laws_markItem.f r20.1 (1 : Int)).bind fun r72 => ((laws_heldItem.f (Item.mk r20.1.Kind r20.1.N r20.1.F r72.2) (1 : Int)).bind fun r76 => (if (decide (r76 < (0 : Int))) = true then (some false) else (if (r76 != r72.1) = true then (some false) else ((laws_toByteS.f a0).bind fun r84 => ((impl_ItemRead.f r84).bind fun r88 => ((laws_eqItem.f r88.1 r6.1).bind fun r99 => (if ((!r99) || (!(r88.2 == r6.2))) = true then (some false) else ((laws_heldItem.f (Item.mk r20.1.Kind r20.1.N r20.1.F r72.2) (1 : Int)).bind fun r106 => (if (decide (r106 < (0 : Int))) = true then (some false) else (if (r106 != r72.1) = true then (some false) else (some true)))))))))))))))))))))))))
def laws_FnExactItemRead.Q (w : World) (F : Nat → Prop) (r : Bool) (v : Value) (w' : World) : Prop :=
 v = (.bool r) ∧ Ky [] w w'
theorem laws_FnExactItemRead.calls (a0 : (List Int)) (w : World) (F : Nat → Prop) (w0_0 : Value) (hG : GU.rd w [] () F) (h0_0 : Xk.rd w [w0_0] a0 F) (r : Bool) (m : laws_FnExactItemRead.f a0 = some r) :
  Calls prog 6 #[w0_0] w (RT (laws_FnExactItemRead.Q w F) r) := by
 obtain ⟨s0, rfl, kp0, z⟩ := Xi w F
 have A0_0 := z.rd h0_0
 have AG := z.rd hG
 refine Xc (args := [w0_0]) func6 ntmps6 rfl rfl m ?_
 unfold laws_FnExactItemRead.f
 refine sr (Xa rfl (dn (sq (sr (Xj w0_0 rfl (ln' A0_0 u23 rfl (Xa rfl (dn (cd rfl (fun h2 => ?_) (fun h2 => ?_))))))))))
 ·
  exact sr (Xa rfl (dn (re rfl func6 rfl (r_t rfl Xd) rfl ⟨_, rfl, rfl, z.ky kp0⟩)))
 refine sk (sr (Xj w0_0 rfl (clO 40 rfl func29 rfl (laws_toByteS.calls a0 s0.w (mm [0] s0) w0_0 A0_0) (fun r3 v3_0 s4 p4 A3_0 => ?_))))
 refine cl' rfl func28 rfl (spec_ItemRead.calls r3 s4.w (mm [40] s4) v3_0 A3_0.rd) ?_
 rintro r6 _ w6 m6 ⟨v6_0, v6_1, rfl, f6_0, ky6⟩
 obtain ⟨s7, rfl, p7, n7⟩ := nwx s4 w6 41 ky6
 obtain ⟨hu6_0_0, Au6_0_1⟩ := ap28 (f6_0.c n7)
 refine Xa rfl (Xa (v := (.agg #[(iI r6.1.Kind), (iI r6.1.N), v6_0, v6_1])) rfl (Xa (v := (.bool r6.2)) rfl (al (cs := [(iI 0), (iI 0), (.float .f64 0), (.slice none 0 0)]) 42 rfl rfl rfl rfl rfl o28 rfl (fun b9 s9 p9 B9 => ?_))))
 have A11 := Au6_0_1.st p9 rfl
 refine sva (vs := [(iI r6.1.Kind), (iI r6.1.N), v6_0, v6_1]) B9 z28 rfl rfl rfl rfl rfl rfl (Xb rfl (Xb rfl (Xb (FL.one hu6_0_0) (Xb A11.rd.one on_nil)))) rfl (fun s12 p12 B12 => ?_)
 refine Xa rfl (dn (sr (Xj w0_0 rfl ?_)))
 have K14 := kp0.st (tr4 p4 p7 p9 p12) rfl
 refine clO 43 rfl func29 rfl (laws_toByteS.calls a0 s12.w (mm [0] s12) w0_0 (A0_0.kp K14)) (fun r16 v16_0 s17 p17 A16_0 => ?_)
 refine asg' v16_0 rfl (dn (sr (Xj v16_0 rfl ?_)))
 have K19 := K14.st p17 rfl
 refine cl' rfl func30 rfl (impl_ItemRead.calls r16 s17.w (mm [43, 0] s17) v16_0 ((AG.kp K19).sub (D := [43, 0]) rfl) (A16_0.rd.sub (D := [43, 0]) rfl)) ?_
 rintro r20 _ w20 m20 ⟨v20_0, v20_1, rfl, f20_0, ky20⟩
 obtain ⟨s21, rfl, p21, n21⟩ := nwx s17 w20 44 ky20
 obtain ⟨hu20_0_0, Au20_0_1⟩ := ap28 (f20_0.c n21)
 refine Xa rfl (Xa (v := (.agg #[(iI r20.1.Kind), (iI r20.1.N), v20_0, v20_1])) rfl (Xa (v := (.bool r20.2)) rfl (al (cs := [(iI 0), (iI 0), (.float .f64 0), (.slice none 0 0)]) 45 rfl rfl rfl rfl rfl o28 rfl (fun b23 s23 p23 B23 => ?_))))
 have A25 := Au20_0_1.st p23 rfl
 refine sva (vs := [(iI r20.1.Kind), (iI r20.1.N), v20_0, v20_1]) B23 z28 rfl rfl rfl rfl rfl rfl (Xb rfl (Xb rfl (Xb (FL.one hu20_0_0) (Xb A25.rd.one on_nil)))) rfl (fun s26 p26 B26 => ?_)
 refine Xa rfl (dn (sq (sr (lda (es := [(iI r20.1.Kind), (iI r20.1.N), v20_0, v20_1]) B26 u28 z28 rfl rfl rfl rfl rfl rfl rfl rfl ?_))))
 have A28 := B12.st (tr4 p17 p21 p23 p26) rfl
 refine lda (es := [(iI r6.1.Kind), (iI r6.1.N), v6_0, v6_1]) A28 u28 z28 rfl rfl rfl rfl rfl rfl rfl rfl ?_
 have A29 := A25.st p26 rfl
 have A30 := A11.st (tr5 p12 p17 p21 p23 p26) rfl
 refine clV 46 rfl func12 rfl (laws_eqItem.calls r20.1 r6.1 s26.w (mm [44, 41] s26) v20_0 v20_1 v6_0 v6_1 ((fl_rdf (s := s26) hu20_0_0).sub (D := [44, 41]) rfl) (A29.rd.sub (D := [44, 41]) rfl) ((fl_rdf (s := s26) hu6_0_0).sub (D := [44, 41]) rfl) (A30.rd.sub (D := [44, 41]) rfl)) (fun r31 s32 p32 n32 => ?_)
 refine Xa rfl (Xa rfl (jy [33, 34, 35, 36, 37] [] 37 (.bool ((!r31) || (!(r20.2 == r6.2)))) rfl (fun Kg33 => ?_) (fun j33 => ?_)))
 ·
  rcases bft (!r31) with hb33 | hb33
  ·
   exact sbT hb33 (Xg rfl (Xg rfl (Xg rfl (Xa rfl (Kg33 _ (Ag.put ((Ag.put ((Ag.put ((Ag.put (Ag.base rfl) rfl)) rfl)) rfl)) rfl) (by rw [hb33]; rfl))))))
  exact sbT hb33 (Xa rfl (Xa rfl (bne_ u4 rfl rfl rfl rfl rfl rfl rfl (Xa rfl (Kg33 _ (Ag.put ((Ag.put ((Ag.put ((Ag.put (Ag.base rfl) rfl)) rfl)) rfl)) rfl) (by rw [hb33]; rfl))))))
 refine dn (cd rfl (fun h34 => ?_) (fun h34 => ?_))
 ·
  refine sr (Xa rfl (dn ?_))
  exact re rfl func6 rfl (r_t rfl Xd) rfl ⟨_, rfl, rfl, z.ky (K19.st (tr4 p21 p23 p26 p32) rfl)⟩
 refine sk (sq (sr (Xj v16_0 rfl (Xj w0_0 rfl ?_))))
 have K36 := K19.st (tr4 p21 p23 p26 p32) rfl
 refine clO 47 rfl func29 rfl (laws_toByteS.calls a0 s32.w (mm [0] s32) w0_0 (A0_0.kp K36)) (fun r38 v38_0 s39 p39 A38_0 => ?_)
 have A41 := A16_0.st (tr5 p21 p23 p26 p32 p39) rfl
 refine clV 48 rfl func11 rfl (laws_eqByteS.calls r16 r38 s39.w (mm [43, 47] s39) v16_0 v38_0 (A41.rd.sub (D := [43, 47]) rfl) (A38_0.rd.sub (D := [43, 47]) rfl)) (fun r42 s43 p43 n43 => ?_)
 refine Xa rfl (dn (cd rfl (fun h44 => ?_) (fun h44 => ?_)))
 ·
  refine sr (Xa rfl (dn ?_))
  exact re rfl func6 rfl (r_t rfl Xd) rfl ⟨_, rfl, rfl, z.ky (K36.st (tr2 p39 p43) rfl)⟩
 refine sk (sr (Xa rfl (dn (sr (Xj v16_0 rfl (Xa rfl ?_))))))
 obtain ⟨os46, ho46, hn46, hc46⟩ := A41.st p43 rfl
 refine cl' rfl func14 rfl (laws_markByteS.calls r16 (1 : Int) s43.w (mm [] s43) v16_0 os46 ho46 hn46 (apart_of hc46 rfl)) ?_
 rintro r46 _ w46 m46 ⟨rfl, w46_, ky46⟩
 obtain ⟨s48, rfl, p48, A48⟩ := nwo 49 hc46 ky46 w46_
 refine Xa rfl (dn (sq (sr (Xa rfl (Xa rfl (Xa rfl (ji [8, 9, 10, 11, 12] (fun (y50 : Bool) e w => ∃ (s : St) (e0 : Env), w = s.w ∧ e = upd (upd (upd (upd (upd (upd e0 0 w0_0) 3 (pB b9)) 4 (.bool r6.2)) 6 (pB b23)) 7 (.bool r20.2)) 53 (.bool y50) ∧ Kp s0 s ∧ BlF s b23 28 [(iI r20.1.Kind), (iI r20.1.N), v20_0, v20_1] 45 ∧ BlF s b9 28 [(iI r6.1.Kind), (iI r6.1.N), v6_0, v6_1] 42 ∧ OwF Xk s [v20_1] r20.1.T 44 ∧ OwF Xk s [v6_1] r6.1.T 41) (fun Gj50 Kj50 => ?_) ?_)))))))
 ·
  rcases bft (decide (r46.1 < (0 : Int))) with hb50 | hb50
  ·
   refine sbT hb50 ?_
   rw [if_pos hb50]
   refine Xg rfl (Xg rfl (Xg rfl (Xg rfl (Xa rfl ?_))))
   exact Kj50 _ _ _ ⟨s48, _, rfl, (ue (ue (ue (ue (ue (ue rfl rfl) rfl) rfl) rfl) rfl) rfl), (K36.st (tr3 p39 p43 p48) rfl), (B26.st (tr4 p32 p39 p43 p48) rfl), (A28.st (tr4 p32 p39 p43 p48) rfl), (A29.st (tr4 p32 p39 p43 p48) rfl), (A30.st (tr4 p32 p39 p43 p48) rfl)⟩
  refine sbT hb50 ?_
  rw [if_neg (by rw [hb50]; decide)]
  have A56 := B26.st (tr4 p32 p39 p43 p48) rfl
  refine lda (es := [(iI r20.1.Kind), (iI r20.1.N), v20_0, v20_1]) A56 u28 z28 rfl rfl rfl rfl rfl rfl rfl rfl ?_
  have A57 := A28.st (tr4 p32 p39 p43 p48) rfl
  refine lda (es := [(iI r6.1.Kind), (iI r6.1.N), v6_0, v6_1]) A57 u28 z28 rfl rfl rfl rfl rfl rfl rfl rfl ?_
  have A58 := A29.st (tr4 p32 p39 p43 p48) rfl
  have A59 := A30.st (tr4 p32 p39 p43 p48) rfl
  refine clV 50 rfl func12 rfl (laws_eqItem.calls r20.1 r6.1 s48.w (mm [44, 41] s48) v20_0 v20_1 v6_0 v6_1 ((fl_rdf (s := s48) hu20_0_0).sub (D := [44, 41]) rfl) (A58.rd.sub (D := [44, 41]) rfl) ((fl_rdf (s := s48) hu6_0_0).sub (D := [44, 41]) rfl) (A59.rd.sub (D := [44, 41]) rfl)) (fun r60 s61 p61 n61 => ?_)
  refine Xa rfl (Xa rfl ?_)
  exact Kj50 _ _ _ ⟨s61, _, rfl, (ue (ue (ue (ue (ue (ue rfl rfl) rfl) rfl) rfl) rfl) rfl), (K36.st (tr4 p39 p43 p48 p61) rfl), (A56.st p61 rfl), (A57.st p61 rfl), (A58.st p61 rfl), (A59.st p61 rfl)⟩
 rintro y50 _ _ ⟨s67, _, rfl, rfl, Ky50, By50_b23, By50_b9, Cy50_22, Cy50_8⟩
 refine Xa rfl (jy [54, 55, 56, 57, 58] [] 58 (.bool (y50 || (!(r20.2 == r6.2)))) rfl (fun Kg70 => ?_) (fun j70 => ?_))
 ·
  rcases bft y50 with hb70 | hb70
  ·
   exact sbT hb70 (Xg rfl (Xg rfl (Xg rfl (Xa rfl (Kg70 _ (Ag.put ((Ag.put ((Ag.put ((Ag.put (Ag.base rfl) rfl)) rfl)) rfl)) rfl) (by rw [hb70]; rfl))))))
  exact sbT hb70 (Xa rfl (Xa rfl (bne_ u4 rfl rfl rfl rfl rfl rfl rfl (Xa rfl (Kg70 _ (Ag.put ((Ag.put ((Ag.put ((Ag.put (Ag.base rfl) rfl)) rfl)) rfl)) rfl) (by rw [hb70]; rfl))))))
 refine dn (cd rfl (fun h71 => ?_) (fun h71 => ?_))
 ·
  exact sr (Xa rfl (dn (re rfl func6 rfl (r_t rfl Xd) rfl ⟨_, rfl, rfl, z.ky Ky50⟩)))
 refine sk (sr (Xa rfl (dn (sr (lda (es := [(iI r20.1.Kind), (iI r20.1.N), v20_0, v20_1]) By50_b23 u28 z28 rfl rfl rfl rfl rfl rfl rfl rfl (Xa rfl ?_))))))
 obtain ⟨os72, ho72, hn72, hc72⟩ := Cy50_22
 refine cl' rfl func13 rfl (laws_markItem.calls r20.1 (1 : Int) s67.w (mm [] s67) v20_0 v20_1 (fl_rdf (s := s67) hu20_0_0) os72 ho72 hn72 (apart_of hc72 rfl)) ?_
 rintro r72 _ w72 m72 ⟨rfl, w72_, ky72⟩
 obtain ⟨s73, rfl, p73, A73⟩ := nwo 51 hc72 ky72 w72_
 refine Xa rfl (dn (sr (Xa rfl (dn (sr ?_)))))
 have A75 := By50_b23.st p73 rfl
 refine lda (es := [(iI r20.1.Kind), (iI r20.1.N), v20_0, v20_1]) A75 u28 z28 rfl rfl rfl rfl rfl rfl rfl rfl (Xa rfl (clV 52 rfl func31 rfl (laws_heldItem.calls (Item.mk r20.1.Kind r20.1.N r20.1.F r72.2) (1 : Int) s73.w (mm [44] s73) v20_0 v20_1 ((fl_rdf (s := s73) hu20_0_0).sub (D := [44]) rfl) A73.rd) (fun r76 s77 p77 n77 => ?_)))
 refine Xa rfl (dn (sq (sr (Xa rfl (Xa rfl (dn (cd rfl (fun h78 => ?_) (fun h78 => ?_))))))))
 ·
  refine sr (Xa rfl (dn ?_))
  exact re rfl func6 rfl (r_t rfl Xd) rfl ⟨_, rfl, rfl, z.ky (Ky50.st (tr2 p73 p77) rfl)⟩
 refine sk (sq (sr (Xa rfl (Xa rfl (Xa rfl (dn (cd rfl (fun h80 => ?_) (fun h80 => ?_))))))))
 ·
  refine sr (Xa rfl (dn ?_))
  exact re rfl func6 rfl (r_t rfl Xd) rfl ⟨_, rfl, rfl, z.ky (Ky50.st (tr2 p73 p77) rfl)⟩
 refine sk (sr (Xj w0_0 rfl ?_))
 have K82 := Ky50.st (tr2 p73 p77) rfl
 refine clO 53 rfl func29 rfl (laws_toByteS.calls a0 s77.w (mm [0] s77) w0_0 (A0_0.kp K82)) (fun r84 v84_0 s85 p85 A84_0 => ?_)
 have K87 := K82.st p85 rfl
 refine cl' rfl func30 rfl (impl_ItemRead.calls r84 s85.w (mm [53, 0] s85) v84_0 ((AG.kp K87).sub (D := [53, 0]) rfl) (A84_0.rd.sub (D := [53, 0]) rfl)) ?_
 rintro r88 _ w88 m88 ⟨v88_0, v88_1, rfl, f88_0, ky88⟩
 obtain ⟨s89, rfl, p89, n89⟩ := nwx s85 w88 54 ky88
 obtain ⟨hu88_0_0, Au88_0_1⟩ := ap28 (f88_0.c n89)
 refine Xa rfl (Xa (v := (.agg #[(iI r88.1.Kind), (iI r88.1.N), v88_0, v88_1])) rfl (Xa (v := (.bool r88.2)) rfl (al (cs := [(iI 0), (iI 0), (.float .f64 0), (.slice none 0 0)]) 55 rfl rfl rfl rfl rfl o28 rfl (fun b91 s91 p91 B91 => ?_))))
 have A93 := Au88_0_1.st p91 rfl
 refine sva (vs := [(iI r88.1.Kind), (iI r88.1.N), v88_0, v88_1]) B91 z28 rfl rfl rfl rfl rfl rfl (Xb rfl (Xb rfl (Xb (FL.one hu88_0_0) (Xb A93.rd.one on_nil)))) rfl (fun s94 p94 B94 => ?_)
 refine Xa rfl (dn (sq (sr (lda (es := [(iI r88.1.Kind), (iI r88.1.N), v88_0, v88_1]) B94 u28 z28 rfl rfl rfl rfl rfl rfl rfl rfl ?_))))
 refine lda (es := [(iI r6.1.Kind), (iI r6.1.N), v6_0, v6_1]) (By50_b9.st (tr6 p73 p77 p85 p89 p91 p94) rfl) u28 z28 rfl rfl rfl rfl rfl rfl rfl rfl (clV 56 rfl func12 rfl (laws_eqItem.calls r88.1 r6.1 s94.w (mm [54, 41] s94) v88_0 v88_1 v6_0 v6_1 ((fl_rdf (s := s94) hu88_0_0).sub (D := [54, 41]) rfl) ((A93.st p94 rfl).rd.sub (D := [54, 41]) rfl) ((fl_rdf (s := s94) hu6_0_0).sub (D := [54, 41]) rfl) ((Cy50_8.st (tr6 p73 p77 p85 p89 p91 p94) rfl).rd.sub (D := [54, 41]) rfl)) (fun r99 s100 p100 n100 => ?_))
 refine Xa rfl (Xa rfl (jy [80, 81, 82, 83, 84] [] 84 (.bool ((!r99) || (!(r88.2 == r6.2)))) rfl (fun Kg101 => ?_) (fun j101 => ?_)))
 ·
  rcases bft (!r99) with hb101 | hb101
  ·
   exact sbT hb101 (Xg rfl (Xg rfl (Xg rfl (Xa rfl (Kg101 _ (Ag.put ((Ag.put ((Ag.put ((Ag.put (Ag.base rfl) rfl)) rfl)) rfl)) rfl) (by rw [hb101]; rfl))))))
  exact sbT hb101 (Xa rfl (Xa rfl (bne_ u4 rfl rfl rfl rfl rfl rfl rfl (Xa rfl (Kg101 _ (Ag.put ((Ag.put ((Ag.put ((Ag.put (Ag.base rfl) rfl)) rfl)) rfl)) rfl) (by rw [hb101]; rfl))))))
 refine dn (cd rfl (fun h102 => ?_) (fun h102 => ?_))
 ·
  refine sr (Xa rfl (dn ?_))
  exact re rfl func6 rfl (r_t rfl Xd) rfl ⟨_, rfl, rfl, z.ky (K87.st (tr4 p89 p91 p94 p100) rfl)⟩
 refine sk (sr (Xa rfl (dn (sr ?_))))
 refine lda (es := [(iI r20.1.Kind), (iI r20.1.N), v20_0, v20_1]) (A75.st (tr6 p77 p85 p89 p91 p94 p100) rfl) u28 z28 rfl rfl rfl rfl rfl rfl rfl rfl (Xa rfl ?_)
 refine clV 57 rfl func31 rfl (laws_heldItem.calls (Item.mk r20.1.Kind r20.1.N r20.1.F r72.2) (1 : Int) s100.w (mm [44] s100) v20_0 v20_1 ((fl_rdf (s := s100) hu20_0_0).sub (D := [44]) rfl) (A73.st (tr6 p77 p85 p89 p91 p94 p100) rfl).rd) (fun r106 s107 p107 n107 => ?_)
 refine Xa rfl (dn (sq (sr (Xa rfl (Xa rfl (dn (cd rfl (fun h108 => ?_) (fun h108 => ?_))))))))
 ·
  refine sr (Xa rfl (dn ?_))
  exact re rfl func6 rfl (r_t rfl Xd) rfl ⟨_, rfl, rfl, z.ky (K87.st (tr5 p89 p91 p94 p100 p107) rfl)⟩
 refine sk (sq (sr (Xa rfl (Xa rfl (Xa rfl (dn (cd rfl (fun h110 => ?_) (fun h110 => ?_))))))))
 ·
  refine sr (Xa rfl (dn ?_))
  exact re rfl func6 rfl (r_t rfl Xd) rfl ⟨_, rfl, rfl, z.ky (K87.st (tr5 p89 p91 p94 p100 p107) rfl)⟩
 refine sk (sr (Xa rfl (dn ?_)))
 exact re rfl func6 rfl (r_t rfl Xd) rfl ⟨_, rfl, rfl, z.ky (K87.st (tr5 p89 p91 p94 p100 p107) rfl)⟩
end Go.Proofs.YtiofnjnnocjbhaaDoor
