/- The functions as models, and that the calls come to what the models tell. -/
import Derived.Test.YtiofnjnnocjbhaaDoorGt
import Derived.Shelf.Strconv.Itoa3
import Derived.Shelf.Lay
import Derived.Ground.NamesProg
import Derived.Shelf.Strings.OnBuilder
set_option linter.unusedVariables false
set_option linter.unusedSimpArgs false
set_option maxHeartbeats 4000000
set_option maxRecDepth 100000
noncomputable section
namespace Go.Proofs.YtiofnjnnocjbhaaDoor
open Go V Tryd
def laws_szByteS.f (a0 : (List Int)) (a1 : Int) : Option (Int) :=
 (if (decide ((IntKind.wrap .i64 (a1 - (a0.length : Int))) < (0 : Int))) = true then (some (-1 : Int)) else (some (IntKind.wrap .i64 (a1 - (a0.length : Int)))))
def laws_szByteS.Q (w : World) (F : Nat → Prop) (r : Int) (v : Value) (w' : World) : Prop :=
 v = (iI r) ∧ Ky [] w w'
theorem laws_szByteS.calls (a0 : (List Int)) (a1 : Int) (w : World) (F : Nat → Prop) (w0_0 : Value) (h0_0 : Xj.rd w [w0_0] a0 F) (r : Int) (m : laws_szByteS.f a0 a1 = some r) :
  Calls prog 32 #[w0_0, (iI a1)] w (RT (laws_szByteS.Q w F) r) := by
 obtain ⟨s0, rfl, kp0, z⟩ := Xi w F
 refine Xc (args := [w0_0, (iI a1)]) func32 ntmps32 rfl rfl m ?_
 unfold laws_szByteS.f
 refine sr (Xa rfl (dn (sr (Xa rfl (mv' w0_0 rfl (ln' (z.rd h0_0) u23 rfl (Xa rfl (Xa rfl (dn (sq (sr (Xa rfl (Xa rfl (dn ?_))))))))))))))
 refine cd rfl (fun h2 => ?_) (fun h2 => ?_)
 ·
  exact sr (Xa rfl (dn (re rfl func32 rfl (r_t rfl Xd) rfl ⟨_, rfl, rfl, z.ky kp0⟩)))
 exact sk (sr (Xa rfl (Xa rfl (dn (re rfl func32 rfl (r_t rfl Xd) rfl ⟨_, rfl, rfl, z.ky kp0⟩)))))
def laws_szItem.f (a0 : Item) (a1 : Int) : Option (Int) :=
 ((laws_szByteS.f a0.T a1).bind fun r6 => (if (decide (r6 < (0 : Int))) = true then (some (-1 : Int)) else (some r6)))
def laws_szItem.Q (w : World) (F : Nat → Prop) (r : Int) (v : Value) (w' : World) : Prop :=
 v = (iI r) ∧ Ky [] w w'
theorem laws_szItem.calls (a0 : Item) (a1 : Int) (w : World) (F : Nat → Prop) (w0_0 : Value) (w0_1 : Value) (h0_0 : Kd.flt.rd w [w0_0] a0.F F) (h0_1 : Xj.rd w [w0_1] a0.T F) (r : Int) (m : laws_szItem.f a0 a1 = some r) :
  Calls prog 7 #[(.agg #[(iI a0.Kind), (iI a0.N), w0_0, w0_1]), (iI a1)] w (RT (laws_szItem.Q w F) r) := by
 obtain ⟨s0, rfl, kp0, z⟩ := Xi w F
 refine Xc (args := [(.agg #[(iI a0.Kind), (iI a0.N), w0_0, w0_1]), (iI a1)]) func7 ntmps7 rfl rfl m ?_
 unfold laws_szItem.f
 refine sr (bx (cs := [(iI a0.Kind), (iI a0.N), w0_0, w0_1]) 40 rfl rfl rfl rfl rfl rfl (fun b2 s2 p2 B2 => ?_))
 refine Xa rfl (dn (sr (fa' fa25_3 rfl (ld' B2 u23 rfl (Xa rfl ?_)))))
 have K4 := kp0.st p2 rfl
 refine clV 41 rfl func32 rfl (laws_szByteS.calls a0.T a1 s2.w (mm [0] s2) w0_1 ((z.rd h0_1).kp K4)) (fun r6 s7 p7 n7 => ?_)
 refine Xa rfl (dn (sq (sr (Xa rfl (Xa rfl (dn (cd rfl (fun h8 => ?_) (fun h8 => ?_))))))))
 ·
  refine sr (Xa rfl (dn ?_))
  exact re rfl func7 rfl (r_t rfl Xd) rfl ⟨_, rfl, rfl, z.ky (K4.st p7 rfl)⟩
 refine sk (sr (Xa rfl (Xa rfl (dn ?_))))
 exact re rfl func7 rfl (r_t rfl Xd) rfl ⟨_, rfl, rfl, z.ky (K4.st p7 rfl)⟩
def laws_toByteS.b0 (a0 : (List Int)) (x4 : (List Int) × Int) : Option (((List Int) × Int) ⊕ (List Int)) :=
 (if (decide (x4.2 < (a0.length : Int))) = true then (if 0 ≤ x4.2 ∧ x4.2 < (a0.length : Int) then (if 0 ≤ x4.2 ∧ x4.2 < (x4.1.length : Int) then (some (Sum.inl ((x4.1.set (x4.2).toNat (at_ a0 x4.2)), (IntKind.wrap .i64 (x4.2 + (1 : Int)))))) else none) else none) else ((some x4.1).bind fun o => some (Sum.inr o)))
def laws_toByteS.f (a0 : (List Int)) : Option ((List Int)) :=
 (if 0 ≤ (a0.length : Int) ∧ (a0.length : Int) ≤ (Lim : Int) then (iter (laws_toByteS.b0 a0) ((List.replicate ((a0.length : Int)).toNat (0 : Int)), (0 : Int))) else none)
def laws_toByteS.Q (w : World) (F : Nat → Prop) (r : (List Int)) (v : Value) (w' : World) : Prop :=
 FO Xj w w' [v] r ∧ Ky [] w w'
theorem laws_toByteS.calls (a0 : (List Int)) (w : World) (F : Nat → Prop) (w0_0 : Value) (h0_0 : Xj.rd w [w0_0] a0 F) (r : (List Int)) (m : laws_toByteS.f a0 = some r) :
  Calls prog 29 #[w0_0] w (RT (laws_toByteS.Q w F) r) := by
 obtain ⟨s0, rfl, kp0, z⟩ := Xi w F
 have A0_0 := z.rd h0_0
 refine Xc (args := [w0_0]) func29 ntmps29 rfl rfl m ?_
 unfold laws_toByteS.f
 refine sr (Xa rfl (dn (sr (mv' w0_0 rfl (ln' A0_0 u23 rfl (mk (x0 := (0 : Int)) (K := (Kd.int .u8)) 40 sl23 o5 (fun _ => ⟨rfl, rfl⟩) rfl rfl rfl rfl rfl rfl rfl (fun v2 s2 p2 A2 => ?_)))))))
 refine asg' v2 rfl (dn (sq (sr (Xa rfl (dn (bl ?_))))))
 refine lpI (fun (x4 : (List Int) × Int) e w => ∃ (s : St) (e0 : Env), w = s.w ∧ e = upd (upd (upd e0 0 w0_0) 3 v2) 4 (iI x4.2) ∧ Kp s0 s ∧ OwF Xj s [v2] x4.1 40) ⟨s2, _, rfl, (ue (ue (ue rfl rfl) rfl) rfl), (kp0.st p2 rfl), A2⟩ (fun g4 ih4 => ?_)
 rintro x4 _ _ ⟨s6, _, rfl, rfl, Kx4, Ax4_0⟩
 unfold laws_toByteS.b0
 refine sq (sr (Xa rfl (mv' w0_0 rfl ?_)))
 have A8 := A0_0.kp Kx4
 refine ln' A8 u23 rfl (Xa rfl (dn (cd rfl (fun h9 => ?_) (fun h9 => ?_))))
 ·
  refine sk (sq (bl (rg (mv' v2 rfl (Xa rfl (mv' w0_0 rfl (Xa rfl (ix' A8 u23 z5 rfl (fun ad10 es10 h0_10 h1_10 he10 ce10 ia10 => ?_)))))))))
  obtain rfl := he10
  refine lc0 ce10 u5 rfl rfl rfl rfl rfl rfl rfl rfl (ix' Ax4_0.rd u23 z5 rfl (fun ad12 es12 h0_12 h1_12 he12 ce12 ia12 => ?_))
  obtain rfl := he12
  refine so (x' := (at_ a0 x4.2)) Ax4_0 ia12 h0_12 h1_12 cs_flat z5 rfl rfl rfl rfl rfl rfl (fun s14 p14 A14 => ?_)
  refine dn (ib (rg (Xa rfl (Xa rfl (Xa rfl (dn ?_))))))
  exact lb ih4 ⟨s14, _, rfl, (ue (ue (ue rfl rfl) rfl) rfl), (Kx4.st p14 rfl), A14⟩
 exact xt rfl (sgb (sr (mv' v2 rfl (asg' v2 rfl (dn (re rfl func29 rfl (r_t rfl Xd) rfl ⟨_, rfl, Ax4_0.fo Kx4 rfl z.l, z.ky Kx4⟩))))))
def laws_toItem.f (a0 : Item) : Option (Item) :=
 ((laws_toByteS.f a0.T).bind fun r20 => (some (Item.mk a0.Kind a0.N a0.F r20)))
def laws_toItem.Q (w : World) (F : Nat → Prop) (r : Item) (v : Value) (w' : World) : Prop :=
 ∃ (v0 : Value) (v1 : Value), v = (.agg #[(iI r.Kind), (iI r.N), v0, v1]) ∧ FO kd28 w w' [(iI r.Kind), (iI r.N), v0, v1] r ∧ Ky [] w w'
theorem laws_toItem.calls (a0 : Item) (w : World) (F : Nat → Prop) (w0_0 : Value) (w0_1 : Value) (h0_0 : Kd.flt.rd w [w0_0] a0.F F) (h0_1 : Xj.rd w [w0_1] a0.T F) (r : Item) (m : laws_toItem.f a0 = some r) :
  Calls prog 9 #[(.agg #[(iI a0.Kind), (iI a0.N), w0_0, w0_1])] w (RT (laws_toItem.Q w F) r) := by
 obtain ⟨s0, rfl, kp0, z⟩ := Xi w F
 have A0_0 := fl_of h0_0
 refine Xc (args := [(.agg #[(iI a0.Kind), (iI a0.N), w0_0, w0_1])]) func9 ntmps9 rfl rfl m ?_
 unfold laws_toItem.f
 refine sr (bx (cs := [(iI a0.Kind), (iI a0.N), w0_0, w0_1]) 40 rfl rfl rfl rfl rfl rfl (fun b2 s2 p2 B2 => ?_))
 refine al (cs := [(iI 0), (iI 0), (.float .f64 0), (.slice none 0 0)]) 41 rfl rfl rfl rfl rfl o28 rfl (fun b4 s4 p4 B4 => ?_)
 refine dn (sr (al (cs := [(iI 0), (iI 0), (.float .f64 0), (.slice none 0 0)]) 42 rfl rfl rfl rfl rfl o28 rfl (fun b6 s6 p6 B6 => ?_)))
 refine dn (sr (fa' fa25_0 rfl ?_))
 have A8 := B2.st (tr2 p4 p6) rfl
 refine ld' A8 u3 rfl (fa' fa28_0 rfl (sv B6 z3 rfl rfl rfl rfl rfl rfl rfl rfl (fun s9 p9 B9 => ?_)))
 refine dn (sr (fa' fa25_1 rfl ?_))
 have A11 := A8.st p9 rfl
 refine ld' A11 u3 rfl (fa' fa28_1 rfl (sv B9 z3 rfl rfl rfl rfl rfl rfl rfl rfl (fun s12 p12 B12 => ?_)))
 refine dn (sr (fa' fa25_2 rfl ?_))
 have A14 := A11.st p12 rfl
 refine ld' A14 u22 rfl (fa' fa28_2 rfl (sv B12 z22 rfl rfl rfl rfl rfl rfl (FL.one A0_0) rfl (fun s15 p15 B15 => ?_)))
 refine dn (sr (fa' fa25_3 rfl ?_))
 refine ld' (A14.st p15 rfl) u23 rfl ?_
 have K18 := kp0.st (tr6 p2 p4 p6 p9 p12 p15) rfl
 refine clO 43 rfl func29 rfl (laws_toByteS.calls a0.T s15.w (mm [0] s15) w0_1 ((z.rd h0_1).kp K18)) (fun r20 v20_0 s21 p21 A20_0 => ?_)
 refine fa' fa28_3 rfl (sv (B15.st p21 rfl) z23 rfl rfl rfl rfl rfl rfl A20_0.rd.one rfl (fun s24 p24 B24 => ?_))
 refine dn (sr (lda' (es := [(iI a0.Kind), (iI a0.N), w0_0, v20_0]) B24 u28 z28 rfl ?_))
 have A27 := A20_0.st p24 rfl
 refine sva (vs := [(iI a0.Kind), (iI a0.N), w0_0, v20_0]) (B4.st (tr6 p6 p9 p12 p15 p21 p24) rfl) z28 rfl rfl rfl rfl rfl rfl (Xe rfl (Xe rfl (Xe (FL.one A0_0) (Xe A27.rd.one on_nil)))) rfl (fun s28 p28 B28 => ?_)
 refine dn ?_
 have A30 : OwF kd28 s28 [(iI a0.Kind), (iI a0.N), w0_0, v20_0] (Item.mk a0.Kind a0.N a0.F r20) 43 := (ow_isoz (fun x : Item => (x.Kind, x.N, x.F, x.T)) (Item.mk a0.Kind a0.N a0.F r20) (ow_l (fz_int .i64 a0.Kind) (ow_l (fz_int .i64 a0.N) (ow_l (fz_flt A0_0) (A27.st p28 rfl)))))
 have K33 := K18.st (tr3 p21 p24 p28) rfl
 exact re rfl func9 rfl (r_b B28 u28 rfl z28 rfl Xd) rfl ⟨_, rfl, w0_0, v20_0, rfl, A30.fo K33 rfl z.l, z.ky K33⟩
def spec_FloatBits.b1 (y8 : Int × Nat) (x19 : Nat × Int) : Option ((Nat × Int) ⊕ Int) :=
 (if ((fcmp .f64 x19.1 (4607182418800017408 : Nat) == some .lt) && (decide (x19.2 > (-1022 : Int)))) = true then (some (Sum.inl ((far .mul x19.1 (4611686018427387904 : Nat)), (IntKind.wrap .i64 (x19.2 - (1 : Int)))))) else ((if (fcmp .f64 x19.1 (4607182418800017408 : Nat) == some .lt) = true then ((floatToIntVal .f64 (far .mul x19.1 (4841369599423283200 : Nat)) .u64).bind fun r27 => (some (ior .u64 y8.1 r27))) else ((floatToIntVal .f64 (far .mul (far .sub x19.1 (4607182418800017408 : Nat)) (4841369599423283200 : Nat)) .u64).bind fun r31 => (some (ior .u64 (ior .u64 y8.1 (ishl .u64 (IntKind.wrap .u64 (IntKind.wrap .i64 (x19.2 + (1023 : Int)))) (52 : Int))) r31)))).bind fun o => some (Sum.inr o)))
def spec_FloatBits.b0 (y8 : Int × Nat) (x14 : Nat × Int) : Option ((Nat × Int) ⊕ Int) :=
 (if (fcmp .f64 x14.1 (4611686018427387904 : Nat) == some .gt || fcmp .f64 x14.1 (4611686018427387904 : Nat) == some .eq) = true then (some (Sum.inl ((far .quo x14.1 (4611686018427387904 : Nat)), (IntKind.wrap .i64 (x14.2 + (1 : Int)))))) else ((iter (spec_FloatBits.b1 y8) (x14.1, x14.2)).bind fun o => some (Sum.inr o)))
def spec_FloatBits.f (a0 : Nat) : Option (Int) :=
 (if (fcmp .f64 a0 a0 != some .eq) = true then (some (9221120237041090560 : Int)) else ((if (fcmp .f64 a0 (0 : Nat) == some .lt) = true then (some true) else ((if (fcmp .f64 a0 (0 : Nat) == some .eq) = true then (some (fcmp .f64 (far .quo (4607182418800017408 : Nat) a0) (0 : Nat) == some .lt)) else (some false)).bind fun y3 => (some y3))).bind fun y2 => ((if y2 = true then (some ((9223372036854775808 : Int), (fneg a0))) else (some ((0 : Int), a0))).bind fun y8 => (if (fcmp .f64 y8.2 (0 : Nat) == some .eq) = true then (some y8.1) else (if (fcmp .f64 y8.2 (9218868437227405311 : Nat) == some .gt) = true then (some (ior .u64 y8.1 (9218868437227405312 : Int))) else (iter (spec_FloatBits.b0 y8) (y8.2, (0 : Int))))))))
def spec_FloatBits.Q (w : World) (F : Nat → Prop) (r : Int) (v : Value) (w' : World) : Prop :=
 v = (.int .u64 r) ∧ Ky [] w w'
theorem spec_FloatBits.calls (a0 : Nat) (w : World) (F : Nat → Prop) (w0_0 : Value) (h0_0 : Kd.flt.rd w [w0_0] a0 F) (r : Int) (m : spec_FloatBits.f a0 = some r) :
  Calls prog 37 #[w0_0] w (RT (spec_FloatBits.Q w F) r) := by
 obtain ⟨s0, rfl, kp0, z⟩ := Xi w F
 have A0_0 := fl_of h0_0
 refine Xc (args := [w0_0]) func37 ntmps37 rfl rfl m ?_
 unfold spec_FloatBits.f
 refine sr (Xa rfl (dn (sq (sr (mv' w0_0 rfl (mv' w0_0 rfl (fq_' A0_0 A0_0 rfl (dn (cd rfl (fun h1 => ?_) (fun h1 => ?_))))))))))
 ·
  exact sr (Xa rfl (dn (re rfl func37 rfl (r_t rfl Xd) rfl ⟨_, rfl, rfl, z.ky kp0⟩)))
 refine sk (sr (Xa rfl (dn (sr (mv' w0_0 rfl (asg' w0_0 rfl (dn (sq (sr (mv' w0_0 rfl (fq_' A0_0 (fl_c rfl) rfl (Xa rfl (ji [] (fun (y2 : Bool) e w => ∃ (s : St) (e0 : Env), w = s.w ∧ e = upd (upd (upd (upd e0 0 w0_0) 3 (.int .u64 (0 : Int))) 4 w0_0) 20 (.bool y2) ∧ Kp s0 s) (fun Gj2 Kj2 => ?_) ?_)))))))))))))
 ·
  rcases bft (fcmp .f64 a0 (0 : Nat) == some .lt) with hb2 | hb2
  ·
   refine sbT hb2 ?_
   rw [if_pos hb2]
   exact uw' rfl (uw' rfl (uw' rfl (uw' rfl (uw' rfl (uw' rfl (uw' rfl (Xa rfl (Kj2 _ _ _ ⟨s0, _, rfl, (ue (ue (ue (ue rfl rfl) rfl) rfl) rfl), kp0⟩))))))))
  refine sbT hb2 ?_
  rw [if_neg (by rw [hb2]; decide)]
  refine mv' w0_0 rfl (fq_' A0_0 (fl_c rfl) rfl (Xa rfl (ji [10] (fun (y3 : Bool) e w => ∃ (s : St) (e0 : Env), w = s.w ∧ e = upd (upd (upd (upd (upd e0 0 w0_0) 3 (.int .u64 (0 : Int))) 4 w0_0) 12 (.bool false)) 19 (.bool y3) ∧ Kp s0 s) (fun Gj3 Kj3 => ?_) ?_)))
  ·
   rcases bft (fcmp .f64 a0 (0 : Nat) == some .eq) with hb3 | hb3
   ·
    refine sbT hb3 ?_
    rw [if_pos hb3]
    refine mv' w0_0 rfl (fa_ (fl_c rfl) A0_0 (by simp) rfl rfl rfl rfl rfl rfl rfl (fun v4 s4 p4 A4 => ?_))
    refine fq_' A4 (fl_c rfl) rfl (Xa rfl ?_)
    exact Kj3 _ _ _ ⟨s4, _, rfl, (ue (ue (ue (ue (ue rfl rfl) rfl) rfl) rfl) rfl), (kp0.st p4 rfl)⟩
   refine sbT hb3 ?_
   rw [if_neg (by rw [hb3]; decide)]
   exact uw' rfl (uw' rfl (uw' rfl (Xa rfl (Kj3 _ _ _ ⟨s0, _, rfl, (ue (ue (ue (ue (ue rfl rfl) rfl) rfl) rfl) rfl), kp0⟩))))
  rintro y3 _ _ ⟨s6, _, rfl, rfl, Ky3⟩
  exact Xa rfl (Kj2 _ _ _ ⟨s6, _, rfl, (ue (ue (ue (ue rfl rfl) rfl) rfl) rfl), Ky3⟩)
 rintro y2 _ _ ⟨s7, _, rfl, rfl, Ky2⟩
 refine dn (jc (fun (y8 : Int × Nat) e w => ∃ (s : St) (e0 : Env) (uy8_0 : Value), w = s.w ∧ e = upd (upd e0 3 (.int .u64 y8.1)) 4 uy8_0 ∧ Kp s0 s ∧ FL uy8_0 y8.2) (fun Gj8 Kj8 => ?_) ?_)
 ·
  refine cd rfl (fun h9 => ?_) (fun h9 => ?_)
  ·
   refine sr (Xa rfl (dn (rg (mv' w0_0 rfl (fng_ A0_0 rfl rfl rfl rfl rfl rfl (fun v10 A10 => ?_))))))
   exact asg' v10 rfl (dn (Kj8 _ _ _ ⟨s7, _, v10, rfl, (ue (ue rfl rfl) rfl), Ky2, A10⟩))
  exact sk (Kj8 _ _ _ ⟨s7, _, w0_0, rfl, (ue (ue rfl rfl) rfl), Ky2, A0_0⟩)
 rintro y8 _ _ ⟨s11, _, uy8_0, rfl, rfl, Ky8, Fy8_0⟩
 refine sq (sr (mv' uy8_0 rfl (fq_' Fy8_0 (fl_c rfl) rfl (dn (cd rfl (fun h12 => ?_) (fun h12 => ?_))))))
 ·
  exact sr (Xa rfl (Xa rfl (dn (re rfl func37 rfl (r_t rfl Xd) rfl ⟨_, rfl, rfl, z.ky Ky8⟩))))
 refine sk (sq (sr (mv' uy8_0 rfl (fq_' Fy8_0 (fl_c rfl) rfl (dn (cd rfl (fun h13 => ?_) (fun h13 => ?_)))))))
 ·
  exact sr (Xa rfl (Xa rfl (Xa rfl (dn (re rfl func37 rfl (r_t rfl Xd) rfl ⟨_, rfl, rfl, z.ky Ky8⟩)))))
 refine sk (sr (Xa rfl (dn (sq (bl (lpI (fun (x14 : Nat × Int) e w => ∃ (s : St) (e0 : Env) (ux14_0 : Value), w = s.w ∧ e = upd (upd (upd e0 3 (.int .u64 y8.1)) 4 ux14_0) 5 (iI x14.2) ∧ Kp s0 s ∧ FL ux14_0 x14.1) ⟨s11, _, uy8_0, rfl, (ue (ue (ue rfl rfl) rfl) rfl), Ky8, Fy8_0⟩ (fun g14 ih14 => ?_)))))))
 rintro x14 _ _ ⟨s15, _, ux14_0, rfl, rfl, Kx14, Fx14_0⟩
 unfold spec_FloatBits.b0
 refine sq (sr (mv' ux14_0 rfl (fq_' Fx14_0 (fl_c rfl) rfl (dn (cd rfl (fun h16 => ?_) (fun h16 => ?_))))))
 ·
  refine sk (bl (sr (mv' ux14_0 rfl (fa_ Fx14_0 (fl_c rfl) (by simp) rfl rfl rfl rfl rfl rfl rfl (fun v17 s17 p17 A17 => ?_)))))
  refine asg' v17 rfl (dn (rg (Xa rfl (Xa rfl (Xa rfl (dn (ib ?_)))))))
  exact lb ih14 ⟨s17, _, v17, rfl, (ue (ue (ue rfl rfl) rfl) rfl), (Kx14.st p17 rfl), A17⟩
 refine xt rfl (sgb (sq (bl (lpI (fun (x19 : Nat × Int) e w => ∃ (s : St) (e0 : Env) (ux19_0 : Value), w = s.w ∧ e = upd (upd (upd e0 3 (.int .u64 y8.1)) 4 ux19_0) 5 (iI x19.2) ∧ Kp s0 s ∧ FL ux19_0 x19.1) ⟨s15, _, ux14_0, rfl, (ue (ue (ue rfl rfl) rfl) rfl), Kx14, Fx14_0⟩ (fun g19 ih19 => ?_)))))
 rintro x19 _ _ ⟨s20, _, ux19_0, rfl, rfl, Kx19, Fx19_0⟩
 unfold spec_FloatBits.b1
 refine sq (sr (mv' ux19_0 rfl (fq_' Fx19_0 (fl_c rfl) rfl (Xa rfl (jy [38, 39, 40, 41] [] 41 (.bool ((fcmp .f64 x19.1 (4607182418800017408 : Nat) == some .lt) && (decide (x19.2 > (-1022 : Int))))) rfl (fun Kg21 => ?_) (fun j21 => ?_))))))
 ·
  rcases bft (fcmp .f64 x19.1 (4607182418800017408 : Nat) == some .lt) with hb21 | hb21
  ·
   exact sbT hb21 (Xa rfl (Xa rfl (Xa rfl (Kg21 _ (Ag.put ((Ag.put ((Ag.put (Ag.base rfl) rfl)) rfl)) rfl) (by rw [hb21]; rfl)))))
  exact sbT hb21 (uw' rfl (uw' rfl (Xa rfl (Kg21 _ (Ag.put ((Ag.put ((Ag.put (Ag.base rfl) rfl)) rfl)) rfl) (by rw [hb21]; rfl)))))
 refine dn (cd rfl (fun h22 => ?_) (fun h22 => ?_))
 ·
  refine sk (bl (sr (mv' ux19_0 rfl (fa_ Fx19_0 (fl_c rfl) (by simp) rfl rfl rfl rfl rfl rfl rfl (fun v23 s23 p23 A23 => ?_)))))
  refine asg' v23 rfl (dn (rg (Xa rfl (Xa rfl (Xa rfl (dn (ib ?_)))))))
  exact lb ih19 ⟨s23, _, v23, rfl, (ue (ue (ue rfl rfl) rfl) rfl), (Kx19.st p23 rfl), A23⟩
 refine xt rfl (sgb (sq (sr (mv' ux19_0 rfl (fq_' Fx19_0 (fl_c rfl) rfl (dn (cd rfl (fun h25 => ?_) (fun h25 => ?_))))))))
 ·
  refine sr (Xa rfl (mv' ux19_0 rfl (fa_ Fx19_0 (fl_c rfl) (by simp) rfl rfl rfl rfl rfl rfl rfl (fun v26 s26 p26 A26 => ?_))))
  refine f2i A26 u65 u22 rfl rfl rfl rfl rfl rfl (fun r27 m27 => ?_)
  refine Xa rfl (Xa rfl (dn ?_))
  exact re rfl func37 rfl (r_t rfl Xd) rfl ⟨_, rfl, rfl, z.ky (Kx19.st p26 rfl)⟩
 refine sk (sr (Xa rfl (Xa rfl (Xa rfl (cv u65 u3 rfl rfl rfl rfl rfl rfl (shlK rfl rfl rfl rfl rfl rfl rfl rfl (Xa rfl (mv' ux19_0 rfl (fa_ Fx19_0 (fl_c rfl) (by simp) rfl rfl rfl rfl rfl rfl rfl (fun v29 s29 p29 A29 => ?_))))))))))
 refine fa_ A29 (fl_c rfl) (by simp) rfl rfl rfl rfl rfl rfl rfl (fun v30 s30 p30 A30 => ?_)
 refine f2i A30 u65 u22 rfl rfl rfl rfl rfl rfl (fun r31 m31 => ?_)
 refine Xa rfl (Xa rfl (dn ?_))
 exact re rfl func37 rfl (r_t rfl Xd) rfl ⟨_, rfl, rfl, z.ky (Kx19.st (tr2 p29 p30) rfl)⟩
def spec_ItemOk.f (a0 : Item) : Option (Bool) :=
 (if (((decide (a0.Kind < (0 : Int))) || (decide (a0.Kind > (3 : Int)))) || (decide ((a0.T.length : Int) > (40 : Int)))) = true then (some false) else (if ((a0.Kind != (1 : Int)) && (a0.N != (0 : Int))) = true then (some false) else ((if (a0.Kind != (2 : Int)) = true then ((spec_FloatBits.f a0.F).bind fun r14 => (some (r14 != (0 : Int)))) else (some false)).bind fun y13 => (if y13 = true then (some false) else (some ((a0.Kind == (3 : Int)) || ((a0.T.length : Int) == (0 : Int))))))))
def spec_ItemOk.Q (w : World) (F : Nat → Prop) (r : Bool) (v : Value) (w' : World) : Prop :=
 v = (.bool r) ∧ Ky [] w w'
theorem spec_ItemOk.calls (a0 : Item) (w : World) (F : Nat → Prop) (w0_0 : Value) (w0_1 : Value) (h0_0 : Kd.flt.rd w [w0_0] a0.F F) (h0_1 : Xj.rd w [w0_1] a0.T F) (r : Bool) (m : spec_ItemOk.f a0 = some r) :
  Calls prog 33 #[(.agg #[(iI a0.Kind), (iI a0.N), w0_0, w0_1])] w (RT (spec_ItemOk.Q w F) r) := by
 obtain ⟨s0, rfl, kp0, z⟩ := Xi w F
 have A0_1 := z.rd h0_1
 refine Xc (args := [(.agg #[(iI a0.Kind), (iI a0.N), w0_0, w0_1])]) func33 ntmps33 rfl rfl m ?_
 unfold spec_ItemOk.f
 refine sr (bx (cs := [(iI a0.Kind), (iI a0.N), w0_0, w0_1]) 40 rfl rfl rfl rfl rfl rfl (fun b2 s2 p2 B2 => ?_))
 refine Xa rfl (dn (sq (sr (fa' fa28_0 rfl (ld' B2 u3 rfl (Xa rfl (Xa rfl (jy [6, 7, 8, 9, 10] [8, 9, 10, 11, 12, 13] 10 (.bool ((decide (a0.Kind < (0 : Int))) || (decide (a0.Kind > (3 : Int))))) rfl (fun Kg4 => ?_) (fun j4 => ?_)))))))))
 ·
  rcases bft (decide (a0.Kind < (0 : Int))) with hb4 | hb4
  ·
   exact sbT hb4 (uw' rfl (uw' rfl (uw' rfl (Xa rfl (Kg4 _ (Ag.put ((Ag.put ((Ag.put ((Ag.put (Ag.base rfl) rfl)) rfl)) rfl)) rfl) (by rw [hb4]; rfl))))))
  exact sbT hb4 (fa' fa28_0 rfl (ld' B2 u3 rfl (Xa rfl (Xa rfl (Kg4 _ (Ag.put ((Ag.put ((Ag.put ((Ag.put (Ag.base rfl) rfl)) rfl)) rfl)) rfl) (by rw [hb4]; rfl))))))
 refine Xa rfl (jy [11, 12, 13, 14, 15, 16] [] 16 (.bool (((decide (a0.Kind < (0 : Int))) || (decide (a0.Kind > (3 : Int)))) || (decide ((a0.T.length : Int) > (40 : Int))))) rfl (fun Kg5 => ?_) (fun j5 => ?_))
 ·
  rcases bft ((decide (a0.Kind < (0 : Int))) || (decide (a0.Kind > (3 : Int)))) with hb5 | hb5
  ·
   exact sbT hb5 (uw' rfl (uw' rfl (uw' rfl (uw' rfl (Xa rfl (Kg5 _ (Ag.put ((Ag.put ((Ag.put ((Ag.put ((Ag.put (Ag.base rfl) rfl)) rfl)) rfl)) rfl)) rfl) (by rw [hb5]; rfl)))))))
  refine sbT hb5 (fa' fa28_3 rfl (ld' B2 u23 rfl ?_))
  exact ln' (A0_1.kp (kp0.st p2 rfl)) u23 rfl (Xa rfl (Xa rfl (Kg5 _ (Ag.put ((Ag.put ((Ag.put ((Ag.put ((Ag.put (Ag.base rfl) rfl)) rfl)) rfl)) rfl)) rfl) (by rw [hb5]; rfl))))
 refine dn (cd rfl (fun h8 => ?_) (fun h8 => ?_))
 ·
  refine sr (Xa rfl (dn ?_))
  exact re rfl func33 rfl (r_t rfl Xd) rfl ⟨_, rfl, rfl, z.ky (kp0.st p2 rfl)⟩
 refine sk (sq (sr (fa' fa28_0 rfl (ld' B2 u3 rfl (Xa rfl (Xa rfl (jy [20, 21, 22, 23, 24] [] 24 (.bool ((a0.Kind != (1 : Int)) && (a0.N != (0 : Int)))) rfl (fun Kg10 => ?_) (fun j10 => ?_))))))))
 ·
  rcases bft (a0.Kind != (1 : Int)) with hb10 | hb10
  ·
   exact sbT hb10 (fa' fa28_1 rfl (ld' B2 u3 rfl (Xa rfl (Xa rfl (Kg10 _ (Ag.put ((Ag.put ((Ag.put ((Ag.put (Ag.base rfl) rfl)) rfl)) rfl)) rfl) (by rw [hb10]; rfl))))))
  exact sbT hb10 (uw' rfl (uw' rfl (uw' rfl (Xa rfl (Kg10 _ (Ag.put ((Ag.put ((Ag.put ((Ag.put (Ag.base rfl) rfl)) rfl)) rfl)) rfl) (by rw [hb10]; rfl))))))
 refine dn (cd rfl (fun h11 => ?_) (fun h11 => ?_))
 ·
  refine sr (Xa rfl (dn ?_))
  exact re rfl func33 rfl (r_t rfl Xd) rfl ⟨_, rfl, rfl, z.ky (kp0.st p2 rfl)⟩
 refine sk (sq (sr (fa' fa28_0 rfl (ld' B2 u3 rfl (Xa rfl (Xa rfl (ji [] (fun (y13 : Bool) e w => ∃ (s : St) (e0 : Env), w = s.w ∧ e = upd (upd e0 1 (pB b2)) 33 (.bool y13) ∧ Kp s0 s ∧ BlF s b2 28 [(iI a0.Kind), (iI a0.N), w0_0, w0_1] 40) (fun Gj13 Kj13 => ?_) ?_)))))))
 ·
  rcases bft (a0.Kind != (2 : Int)) with hb13 | hb13
  ·
   refine sbT hb13 ?_
   rw [if_pos hb13]
   refine fa' fa28_2 rfl (ld' B2 u22 rfl (clV 41 rfl func37 rfl (spec_FloatBits.calls a0.F s2.w (mm [] s2) w0_0 (Xf (s := s2) (fl_of h0_0))) (fun r14 s15 p15 n15 => ?_)))
   refine Xa rfl (Xa rfl ?_)
   exact Kj13 _ _ _ ⟨s15, _, rfl, (ue (ue rfl rfl) rfl), (kp0.st (tr2 p2 p15) rfl), (B2.st p15 rfl)⟩
  refine sbT hb13 ?_
  rw [if_neg (by rw [hb13]; decide)]
  refine uw' rfl (uw' rfl (uw' rfl (uw' rfl (Xa rfl ?_))))
  exact Kj13 _ _ _ ⟨s2, _, rfl, (ue (ue rfl rfl) rfl), (kp0.st p2 rfl), B2⟩
 rintro y13 _ _ ⟨s19, _, rfl, rfl, Ky13, By13_b2⟩
 refine dn (cd rfl (fun h21 => ?_) (fun h21 => ?_))
 ·
  exact sr (Xa rfl (dn (re rfl func33 rfl (r_t rfl Xd) rfl ⟨_, rfl, rfl, z.ky Ky13⟩)))
 refine sk (sr (fa' fa28_0 rfl (ld' By13_b2 u3 rfl (Xa rfl (Xa rfl (jy [37, 38, 39, 40, 41, 42] [9] 42 (.bool ((a0.Kind == (3 : Int)) || ((a0.T.length : Int) == (0 : Int)))) rfl (fun Kg22 => ?_) (fun j22 => ?_)))))))
 ·
  rcases bft (a0.Kind == (3 : Int)) with hb22 | hb22
  ·
   exact sbT hb22 (uw' rfl (uw' rfl (uw' rfl (uw' rfl (Xa rfl (Kg22 _ (Ag.put ((Ag.put ((Ag.put ((Ag.put ((Ag.put (Ag.base rfl) rfl)) rfl)) rfl)) rfl)) rfl) (by rw [hb22]; rfl)))))))
  refine sbT hb22 (fa' fa28_3 rfl (ld' By13_b2 u23 rfl ?_))
  exact ln' (A0_1.kp Ky13) u23 rfl (Xa rfl (Xa rfl (Kg22 _ (Ag.put ((Ag.put ((Ag.put ((Ag.put ((Ag.put (Ag.base rfl) rfl)) rfl)) rfl)) rfl)) rfl) (by rw [hb22]; rfl))))
 exact Xa rfl (dn (re rfl func33 rfl (r_t rfl Xd) rfl ⟨_, rfl, rfl, z.ky Ky13⟩))
def spec_l18digits0.b1 (x12 : Int × (List Int)) (x27 : (List Int) × Int) : Option (((List Int) × Int) ⊕ (List Int)) :=
 (if (decide (x27.2 ≥ (0 : Int))) = true then (if 0 ≤ x27.2 ∧ x27.2 < ((x12.2 ++ [(IntKind.wrap .u8 (IntKind.wrap .i64 ((48 : Int) + x12.1)))]).length : Int) then (if x27.1.length + ([(at_ (x12.2 ++ [(IntKind.wrap .u8 (IntKind.wrap .i64 ((48 : Int) + x12.1)))]) x27.2)]).length ≤ Lim then (some (Sum.inl ((x27.1 ++ [(at_ (x12.2 ++ [(IntKind.wrap .u8 (IntKind.wrap .i64 ((48 : Int) + x12.1)))]) x27.2)]), (IntKind.wrap .i64 (x27.2 - (1 : Int)))))) else none) else none) else ((some x27.1).bind fun o => some (Sum.inr o)))
def spec_l18digits0.b0  (x12 : Int × (List Int)) : Option ((Int × (List Int)) ⊕ (List Int)) :=
 (if (decide (x12.1 > (9 : Int))) = true then (if x12.2.length + ([(IntKind.wrap .u8 (IntKind.wrap .i64 ((48 : Int) + (x12.1.tmod (10 : Int)))))]).length ≤ Lim then (some (Sum.inl ((IntKind.wrap .i64 (x12.1.tdiv (10 : Int))), (x12.2 ++ [(IntKind.wrap .u8 (IntKind.wrap .i64 ((48 : Int) + (x12.1.tmod (10 : Int)))))])))) else none) else ((if x12.2.length + ([(IntKind.wrap .u8 (IntKind.wrap .i64 ((48 : Int) + x12.1)))]).length ≤ Lim then (iter (spec_l18digits0.b1 x12) (([] : (List Int)), (IntKind.wrap .i64 (((x12.2 ++ [(IntKind.wrap .u8 (IntKind.wrap .i64 ((48 : Int) + x12.1)))]).length : Int) - (1 : Int))))) else none).bind fun o => some (Sum.inr o)))
def spec_l18digits0.f (a0 : Int) : Option ((List Int)) :=
 (if (a0 == (-9223372036854775808 : Int)) = true then (some ([(45 : Int), (57 : Int), (50 : Int), (50 : Int), (51 : Int), (51 : Int), (55 : Int), (50 : Int), (48 : Int), (51 : Int), (54 : Int), (56 : Int), (53 : Int), (52 : Int), (55 : Int), (55 : Int), (53 : Int), (56 : Int), (48 : Int), (56 : Int)])) else (if (decide (a0 < (0 : Int))) = true then none else (iter spec_l18digits0.b0 (a0, ([] : (List Int))))))
def spec_l18digits0.Q (w : World) (F : Nat → Prop) (r : (List Int)) (v : Value) (w' : World) : Prop :=
 FO Xj w w' [v] r ∧ Ky [] w w'
theorem spec_l18digits0.calls (a0 : Int) (w : World) (F : Nat → Prop)   (r : (List Int)) (m : spec_l18digits0.f a0 = some r) :
  Calls prog 34 #[(iI a0)] w (RT (spec_l18digits0.Q w F) r) := by
 obtain ⟨s0, rfl, kp0, z⟩ := Xi w F
 refine Xc (args := [(iI a0)]) func34 ntmps34 rfl rfl m ?_
 unfold spec_l18digits0.f
 refine sr (Xa rfl (dn (sq (sr (Xa rfl (Xa rfl (dn (cd rfl (fun h1 => ?_) (fun h1 => ?_)))))))))
 ·
  refine sr (ltF' (K := (Kd.int .u8)) (cells := [(.int .u8 (45 : Int)), (.int .u8 (57 : Int)), (.int .u8 (50 : Int)), (.int .u8 (50 : Int)), (.int .u8 (51 : Int)), (.int .u8 (51 : Int)), (.int .u8 (55 : Int)), (.int .u8 (50 : Int)), (.int .u8 (48 : Int)), (.int .u8 (51 : Int)), (.int .u8 (54 : Int)), (.int .u8 (56 : Int)), (.int .u8 (53 : Int)), (.int .u8 (52 : Int)), (.int .u8 (55 : Int)), (.int .u8 (55 : Int)), (.int .u8 (53 : Int)), (.int .u8 (56 : Int)), (.int .u8 (48 : Int)), (.int .u8 (56 : Int))]) [(45 : Int), (57 : Int), (50 : Int), (50 : Int), (51 : Int), (51 : Int), (55 : Int), (50 : Int), (48 : Int), (51 : Int), (54 : Int), (56 : Int), (53 : Int), (52 : Int), (55 : Int), (55 : Int), (53 : Int), (56 : Int), (48 : Int), (56 : Int)] 40 Xg u23 z5 o5 (fun w => (Xh _ _ _)) rfl (lfill_c rfl rfl rfl rfl rfl) (fun v2 s2 p2 A2 => ?_))
  refine cvm A2 rfl u23 u5 rfl rfl rfl rfl rfl rfl (fun s4 p4 A4 => ?_)
  refine asg' v2 rfl (dn ?_)
  have K6 := kp0.st (tr2 p2 p4) rfl
  exact re rfl func34 rfl (r_t rfl Xd) rfl ⟨_, rfl, A4.fo K6 rfl z.l, z.ky K6⟩
 refine sk (sq (sr (Xa rfl (Xa rfl (dn (cd rfl (fun h7 => ?_) (fun h7 => ?_)))))))
 ·
  refine sr (ltF' (K := (Kd.int .u8)) (cells := [(.int .u8 (45 : Int))]) [(45 : Int)] 41 Xg u23 z5 o5 (fun w => (Xh _ _ _)) rfl rfl (fun v8 s8 p8 A8 => ?_))
  refine cvm A8 rfl u23 u5 rfl rfl rfl rfl rfl rfl (fun s10 p10 A10 => ?_)
  exact Xa rfl (Xa rfl mn)
 refine sk (sr (Xa rfl (dn (sq (bl (lpI (fun (x12 : Int × (List Int)) e w => ∃ (s : St) (e0 : Env) (vx12_0 : Value), w = s.w ∧ e = upd (upd e0 0 (iI x12.1)) 3 vx12_0 ∧ Kp s0 s ∧ OwF Xj s [vx12_0] x12.2 42) ⟨s0, _, (.slice none 0 0), rfl, (ue (ue rfl rfl) rfl), kp0, (ow_nil 5 (Kd.int .u8) _ 42)⟩ (fun g12 ih12 => ?_)))))))
 rintro x12 _ _ ⟨s13, _, vx12_0, rfl, rfl, Kx12, Ax12_0⟩
 unfold spec_l18digits0.b0
 refine sq (sr (Xa rfl (Xa rfl (dn (cd rfl (fun h15 => ?_) (fun h15 => ?_))))))
 ·
  refine sk (bl (sr (mv' vx12_0 rfl (Xa rfl (remK rfl rfl rfl rfl rfl rfl rfl rfl (Xa rfl (cv u5 u3 rfl rfl rfl rfl rfl rfl (ltF' (K := (Kd.int .u8)) (cells := [(.int .u8 (IntKind.wrap .u8 (IntKind.wrap .i64 ((48 : Int) + (x12.1.tmod (10 : Int))))))]) [(IntKind.wrap .u8 (IntKind.wrap .i64 ((48 : Int) + (x12.1.tmod (10 : Int)))))] 43 Xg u23 z5 o5 (fun w => (Xh _ _ _)) rfl rfl (fun v16 s16 p16 A16 => ?_)))))))))
  refine apF Xg sl23 (Ax12_0.st p16 rfl) A16.rd rfl rfl rfl rfl rfl rfl rfl (fun v19 s19 p19 A19 => ?_)
  refine asg' v19 rfl (dn (rg (Xa rfl (quoK rfl rfl rfl rfl rfl rfl rfl rfl (Xa rfl (dn (ib ?_)))))))
  exact lb ih12 ⟨s19, _, v19, rfl, (ue (ue rfl rfl) rfl), (Kx12.st (tr2 p16 p19) rfl), A19⟩
 refine xt rfl (sgb (sr (mv' vx12_0 rfl (Xa rfl (Xa rfl (cv u5 u3 rfl rfl rfl rfl rfl rfl (ltF' (K := (Kd.int .u8)) (cells := [(.int .u8 (IntKind.wrap .u8 (IntKind.wrap .i64 ((48 : Int) + x12.1))))]) [(IntKind.wrap .u8 (IntKind.wrap .i64 ((48 : Int) + x12.1)))] 44 Xg u23 z5 o5 (fun w => (Xh _ _ _)) rfl rfl (fun v22 s22 p22 A22 => ?_))))))))
 refine apF Xg sl23 (Ax12_0.st p22 rfl) A22.rd rfl rfl rfl rfl rfl rfl rfl (fun v25 s25 p25 A25 => ?_)
 refine asg' v25 rfl (dn (sr (Xa rfl (dn (sq (sr (mv' v25 rfl (ln' A25.rd u23 rfl (Xa rfl (Xa rfl (dn (bl ?_))))))))))))
 refine lpI (fun (x27 : (List Int) × Int) e w => ∃ (s : St) (e0 : Env) (vx27_0 : Value), w = s.w ∧ e = upd (upd (upd e0 3 v25) 4 vx27_0) 5 (iI x27.2) ∧ Kp s0 s ∧ OwF Xj s [vx27_0] x27.1 45 ∧ OwF Xj s [v25] (x12.2 ++ [(IntKind.wrap .u8 (IntKind.wrap .i64 ((48 : Int) + x12.1)))]) 42) ⟨s25, _, (.slice none 0 0), rfl, (ue (ue (ue rfl rfl) rfl) rfl), (Kx12.st (tr2 p22 p25) rfl), (ow_nil 5 (Kd.int .u8) _ 45), A25⟩ (fun g27 ih27 => ?_)
 rintro x27 _ _ ⟨s29, _, vx27_0, rfl, rfl, Kx27, Ax27_0, Cx27_26⟩
 unfold spec_l18digits0.b1
 refine sq (sr (Xa rfl (Xa rfl (dn (cd rfl (fun h31 => ?_) (fun h31 => ?_))))))
 ·
  refine sk (sq (bl (rg (mv' vx27_0 rfl (mv' v25 rfl (Xa rfl (ix' Cx27_26.rd u23 z5 rfl (fun ad32 es32 h0_32 h1_32 he32 ce32 ia32 => ?_))))))))
  obtain rfl := he32
  refine lc0 ce32 u5 rfl rfl rfl rfl rfl rfl rfl rfl (ltF' (K := (Kd.int .u8)) (cells := [(.int .u8 (at_ (x12.2 ++ [(IntKind.wrap .u8 (IntKind.wrap .i64 ((48 : Int) + x12.1)))]) x27.2))]) [(at_ (x12.2 ++ [(IntKind.wrap .u8 (IntKind.wrap .i64 ((48 : Int) + x12.1)))]) x27.2)] 46 Xg u23 z5 o5 (fun w => (Xh _ _ _)) rfl rfl (fun v34 s34 p34 A34 => ?_))
  refine apF Xg sl23 (Ax27_0.st p34 rfl) A34.rd rfl rfl rfl rfl rfl rfl rfl (fun v37 s37 p37 A37 => ?_)
  refine asg' v37 rfl (dn (ib (rg (Xa rfl (Xa rfl (Xa rfl (dn ?_)))))))
  exact lb ih27 ⟨s37, _, v37, rfl, (ue (ue (ue rfl rfl) rfl) rfl), (Kx27.st (tr2 p34 p37) rfl), A37, (Cx27_26.st (tr2 p34 p37) rfl)⟩
 exact xt rfl (sgb (sr (mv' vx27_0 rfl (asg' vx27_0 rfl (dn (re rfl func34 rfl (r_t rfl Xd) rfl ⟨_, rfl, Ax27_0.fo Kx27 rfl z.l, z.ky Kx27⟩))))))
def spec_l18digits.b1 (x19 : Int × (List Int)) (x34 : (List Int) × Int) : Option (((List Int) × Int) ⊕ (List Int)) :=
 (if (decide (x34.2 ≥ (0 : Int))) = true then (if 0 ≤ x34.2 ∧ x34.2 < ((x19.2 ++ [(IntKind.wrap .u8 (IntKind.wrap .i64 ((48 : Int) + x19.1)))]).length : Int) then (if x34.1.length + ([(at_ (x19.2 ++ [(IntKind.wrap .u8 (IntKind.wrap .i64 ((48 : Int) + x19.1)))]) x34.2)]).length ≤ Lim then (some (Sum.inl ((x34.1 ++ [(at_ (x19.2 ++ [(IntKind.wrap .u8 (IntKind.wrap .i64 ((48 : Int) + x19.1)))]) x34.2)]), (IntKind.wrap .i64 (x34.2 - (1 : Int)))))) else none) else none) else ((some x34.1).bind fun o => some (Sum.inr o)))
def spec_l18digits.b0  (x19 : Int × (List Int)) : Option ((Int × (List Int)) ⊕ (List Int)) :=
 (if (decide (x19.1 > (9 : Int))) = true then (if x19.2.length + ([(IntKind.wrap .u8 (IntKind.wrap .i64 ((48 : Int) + (x19.1.tmod (10 : Int)))))]).length ≤ Lim then (some (Sum.inl ((IntKind.wrap .i64 (x19.1.tdiv (10 : Int))), (x19.2 ++ [(IntKind.wrap .u8 (IntKind.wrap .i64 ((48 : Int) + (x19.1.tmod (10 : Int)))))])))) else none) else ((if x19.2.length + ([(IntKind.wrap .u8 (IntKind.wrap .i64 ((48 : Int) + x19.1)))]).length ≤ Lim then (iter (spec_l18digits.b1 x19) (([] : (List Int)), (IntKind.wrap .i64 (((x19.2 ++ [(IntKind.wrap .u8 (IntKind.wrap .i64 ((48 : Int) + x19.1)))]).length : Int) - (1 : Int))))) else none).bind fun o => some (Sum.inr o)))
def spec_l18digits.f (a0 : Int) : Option ((List Int)) :=
 (if (a0 == (-9223372036854775808 : Int)) = true then (some ([(45 : Int), (57 : Int), (50 : Int), (50 : Int), (51 : Int), (51 : Int), (55 : Int), (50 : Int), (48 : Int), (51 : Int), (54 : Int), (56 : Int), (53 : Int), (52 : Int), (55 : Int), (55 : Int), (53 : Int), (56 : Int), (48 : Int), (56 : Int)])) else (if (decide (a0 < (0 : Int))) = true then ((spec_l18digits0.f (IntKind.wrap .i64 (0 - a0))).bind fun r12 => (if ([(45 : Int)]).length + r12.length ≤ Lim then (some ([(45 : Int)] ++ r12)) else none)) else (iter spec_l18digits.b0 (a0, ([] : (List Int))))))
def spec_l18digits.Q (w : World) (F : Nat → Prop) (r : (List Int)) (v : Value) (w' : World) : Prop :=
 FO Xj w w' [v] r ∧ Ky [] w w'
theorem spec_l18digits.calls (a0 : Int) (w : World) (F : Nat → Prop)   (r : (List Int)) (m : spec_l18digits.f a0 = some r) :
  Calls prog 34 #[(iI a0)] w (RT (spec_l18digits.Q w F) r) := by
 obtain ⟨s0, rfl, kp0, z⟩ := Xi w F
 refine Xc (args := [(iI a0)]) func34 ntmps34 rfl rfl m ?_
 unfold spec_l18digits.f
 refine sr (Xa rfl (dn (sq (sr (Xa rfl (Xa rfl (dn (cd rfl (fun h1 => ?_) (fun h1 => ?_)))))))))
 ·
  refine sr (ltF' (K := (Kd.int .u8)) (cells := [(.int .u8 (45 : Int)), (.int .u8 (57 : Int)), (.int .u8 (50 : Int)), (.int .u8 (50 : Int)), (.int .u8 (51 : Int)), (.int .u8 (51 : Int)), (.int .u8 (55 : Int)), (.int .u8 (50 : Int)), (.int .u8 (48 : Int)), (.int .u8 (51 : Int)), (.int .u8 (54 : Int)), (.int .u8 (56 : Int)), (.int .u8 (53 : Int)), (.int .u8 (52 : Int)), (.int .u8 (55 : Int)), (.int .u8 (55 : Int)), (.int .u8 (53 : Int)), (.int .u8 (56 : Int)), (.int .u8 (48 : Int)), (.int .u8 (56 : Int))]) [(45 : Int), (57 : Int), (50 : Int), (50 : Int), (51 : Int), (51 : Int), (55 : Int), (50 : Int), (48 : Int), (51 : Int), (54 : Int), (56 : Int), (53 : Int), (52 : Int), (55 : Int), (55 : Int), (53 : Int), (56 : Int), (48 : Int), (56 : Int)] 40 Xg u23 z5 o5 (fun w => (Xh _ _ _)) rfl (lfill_c rfl rfl rfl rfl rfl) (fun v2 s2 p2 A2 => ?_))
  refine cvm A2 rfl u23 u5 rfl rfl rfl rfl rfl rfl (fun s4 p4 A4 => ?_)
  refine asg' v2 rfl (dn ?_)
  have K6 := kp0.st (tr2 p2 p4) rfl
  exact re rfl func34 rfl (r_t rfl Xd) rfl ⟨_, rfl, A4.fo K6 rfl z.l, z.ky K6⟩
 refine sk (sq (sr (Xa rfl (Xa rfl (dn (cd rfl (fun h7 => ?_) (fun h7 => ?_)))))))
 ·
  refine sr (ltF' (K := (Kd.int .u8)) (cells := [(.int .u8 (45 : Int))]) [(45 : Int)] 41 Xg u23 z5 o5 (fun w => (Xh _ _ _)) rfl rfl (fun v8 s8 p8 A8 => ?_))
  refine cvm A8 rfl u23 u5 rfl rfl rfl rfl rfl rfl (fun s10 p10 A10 => ?_)
  refine Xa rfl (Xa rfl (clO 42 rfl func34 rfl (spec_l18digits0.calls (IntKind.wrap .i64 (0 - a0)) s10.w (mm [] s10)) (fun r12 v12_0 s13 p13 A12_0 => ?_)))
  refine apF Xg sl23 (A10.st p13 rfl) A12_0.rd rfl rfl rfl rfl rfl rfl rfl (fun v16 s16 p16 A16 => ?_)
  refine asg' v16 rfl (dn ?_)
  have K18 := kp0.st (tr4 p8 p10 p13 p16) rfl
  exact re rfl func34 rfl (r_t rfl Xd) rfl ⟨_, rfl, A16.fo K18 rfl z.l, z.ky K18⟩
 refine sk (sr (Xa rfl (dn (sq (bl (lpI (fun (x19 : Int × (List Int)) e w => ∃ (s : St) (e0 : Env) (vx19_0 : Value), w = s.w ∧ e = upd (upd e0 0 (iI x19.1)) 3 vx19_0 ∧ Kp s0 s ∧ OwF Xj s [vx19_0] x19.2 43) ⟨s0, _, (.slice none 0 0), rfl, (ue (ue rfl rfl) rfl), kp0, (ow_nil 5 (Kd.int .u8) _ 43)⟩ (fun g19 ih19 => ?_)))))))
 rintro x19 _ _ ⟨s20, _, vx19_0, rfl, rfl, Kx19, Ax19_0⟩
 unfold spec_l18digits.b0
 refine sq (sr (Xa rfl (Xa rfl (dn (cd rfl (fun h22 => ?_) (fun h22 => ?_))))))
 ·
  refine sk (bl (sr (mv' vx19_0 rfl (Xa rfl (remK rfl rfl rfl rfl rfl rfl rfl rfl (Xa rfl (cv u5 u3 rfl rfl rfl rfl rfl rfl (ltF' (K := (Kd.int .u8)) (cells := [(.int .u8 (IntKind.wrap .u8 (IntKind.wrap .i64 ((48 : Int) + (x19.1.tmod (10 : Int))))))]) [(IntKind.wrap .u8 (IntKind.wrap .i64 ((48 : Int) + (x19.1.tmod (10 : Int)))))] 44 Xg u23 z5 o5 (fun w => (Xh _ _ _)) rfl rfl (fun v23 s23 p23 A23 => ?_)))))))))
  refine apF Xg sl23 (Ax19_0.st p23 rfl) A23.rd rfl rfl rfl rfl rfl rfl rfl (fun v26 s26 p26 A26 => ?_)
  refine asg' v26 rfl (dn (rg (Xa rfl (quoK rfl rfl rfl rfl rfl rfl rfl rfl (Xa rfl (dn (ib ?_)))))))
  exact lb ih19 ⟨s26, _, v26, rfl, (ue (ue rfl rfl) rfl), (Kx19.st (tr2 p23 p26) rfl), A26⟩
 refine xt rfl (sgb (sr (mv' vx19_0 rfl (Xa rfl (Xa rfl (cv u5 u3 rfl rfl rfl rfl rfl rfl (ltF' (K := (Kd.int .u8)) (cells := [(.int .u8 (IntKind.wrap .u8 (IntKind.wrap .i64 ((48 : Int) + x19.1))))]) [(IntKind.wrap .u8 (IntKind.wrap .i64 ((48 : Int) + x19.1)))] 45 Xg u23 z5 o5 (fun w => (Xh _ _ _)) rfl rfl (fun v29 s29 p29 A29 => ?_))))))))
 refine apF Xg sl23 (Ax19_0.st p29 rfl) A29.rd rfl rfl rfl rfl rfl rfl rfl (fun v32 s32 p32 A32 => ?_)
 refine asg' v32 rfl (dn (sr (Xa rfl (dn (sq (sr (mv' v32 rfl (ln' A32.rd u23 rfl (Xa rfl (Xa rfl (dn (bl ?_))))))))))))
 refine lpI (fun (x34 : (List Int) × Int) e w => ∃ (s : St) (e0 : Env) (vx34_0 : Value), w = s.w ∧ e = upd (upd (upd e0 3 v32) 4 vx34_0) 5 (iI x34.2) ∧ Kp s0 s ∧ OwF Xj s [vx34_0] x34.1 46 ∧ OwF Xj s [v32] (x19.2 ++ [(IntKind.wrap .u8 (IntKind.wrap .i64 ((48 : Int) + x19.1)))]) 43) ⟨s32, _, (.slice none 0 0), rfl, (ue (ue (ue rfl rfl) rfl) rfl), (Kx19.st (tr2 p29 p32) rfl), (ow_nil 5 (Kd.int .u8) _ 46), A32⟩ (fun g34 ih34 => ?_)
 rintro x34 _ _ ⟨s36, _, vx34_0, rfl, rfl, Kx34, Ax34_0, Cx34_33⟩
 unfold spec_l18digits.b1
 refine sq (sr (Xa rfl (Xa rfl (dn (cd rfl (fun h38 => ?_) (fun h38 => ?_))))))
 ·
  refine sk (sq (bl (rg (mv' vx34_0 rfl (mv' v32 rfl (Xa rfl (ix' Cx34_33.rd u23 z5 rfl (fun ad39 es39 h0_39 h1_39 he39 ce39 ia39 => ?_))))))))
  obtain rfl := he39
  refine lc0 ce39 u5 rfl rfl rfl rfl rfl rfl rfl rfl (ltF' (K := (Kd.int .u8)) (cells := [(.int .u8 (at_ (x19.2 ++ [(IntKind.wrap .u8 (IntKind.wrap .i64 ((48 : Int) + x19.1)))]) x34.2))]) [(at_ (x19.2 ++ [(IntKind.wrap .u8 (IntKind.wrap .i64 ((48 : Int) + x19.1)))]) x34.2)] 47 Xg u23 z5 o5 (fun w => (Xh _ _ _)) rfl rfl (fun v41 s41 p41 A41 => ?_))
  refine apF Xg sl23 (Ax34_0.st p41 rfl) A41.rd rfl rfl rfl rfl rfl rfl rfl (fun v44 s44 p44 A44 => ?_)
  refine asg' v44 rfl (dn (ib (rg (Xa rfl (Xa rfl (Xa rfl (dn ?_)))))))
  exact lb ih34 ⟨s44, _, v44, rfl, (ue (ue (ue rfl rfl) rfl) rfl), (Kx34.st (tr2 p41 p44) rfl), A44, (Cx34_33.st (tr2 p41 p44) rfl)⟩
 exact xt rfl (sgb (sr (mv' vx34_0 rfl (asg' vx34_0 rfl (dn (re rfl func34 rfl (r_t rfl Xd) rfl ⟨_, rfl, Ax34_0.fo Kx34 rfl z.l, z.ky Kx34⟩))))))
def spec_l3high.b0 (a0 : Int) (x1 : (List Int) × Int) : Option (((List Int) × Int) ⊕ (List Int)) :=
 (if (decide (x1.2 ≥ (0 : Int))) = true then (if 0 ≤ (IntKind.wrap .u64 (IntKind.wrap .i64 ((8 : Int) * x1.2))) then (if x1.1.length + ([(IntKind.wrap .u8 (iand .u64 (ishr .u64 a0 (IntKind.wrap .u64 (IntKind.wrap .i64 ((8 : Int) * x1.2)))) (255 : Int)))]).length ≤ Lim then (some (Sum.inl ((x1.1 ++ [(IntKind.wrap .u8 (iand .u64 (ishr .u64 a0 (IntKind.wrap .u64 (IntKind.wrap .i64 ((8 : Int) * x1.2)))) (255 : Int)))]), (IntKind.wrap .i64 (x1.2 - (1 : Int)))))) else none) else none) else ((some x1.1).bind fun o => some (Sum.inr o)))
def spec_l3high.f (a0 : Int) : Option ((List Int)) :=
 (iter (spec_l3high.b0 a0) (([] : (List Int)), (7 : Int)))
def spec_l3high.Q (w : World) (F : Nat → Prop) (r : (List Int)) (v : Value) (w' : World) : Prop :=
 FO Xj w w' [v] r ∧ Ky [] w w'
theorem spec_l3high.calls (a0 : Int) (w : World) (F : Nat → Prop)   (r : (List Int)) (m : spec_l3high.f a0 = some r) :
  Calls prog 36 #[(.int .u64 a0)] w (RT (spec_l3high.Q w F) r) := by
 obtain ⟨s0, rfl, kp0, z⟩ := Xi w F
 refine Xc (args := [(.int .u64 a0)]) func36 ntmps36 rfl rfl m ?_
 unfold spec_l3high.f
 refine sr (Xa rfl (dn (sr (Xa rfl (dn (sq (sr (Xa rfl (dn (bl (lpI (fun (x1 : (List Int) × Int) e w => ∃ (s : St) (e0 : Env) (vx1_0 : Value), w = s.w ∧ e = upd (upd (upd e0 0 (.int .u64 a0)) 3 vx1_0) 4 (iI x1.2) ∧ Kp s0 s ∧ OwF Xj s [vx1_0] x1.1 40) ⟨s0, _, (.slice none 0 0), rfl, (ue (ue (ue rfl rfl) rfl) rfl), kp0, (ow_nil 5 (Kd.int .u8) _ 40)⟩ (fun g1 ih1 => ?_))))))))))))
 rintro x1 _ _ ⟨s2, _, vx1_0, rfl, rfl, Kx1, Ax1_0⟩
 unfold spec_l3high.b0
 refine sq (sr (Xa rfl (Xa rfl (dn (cd rfl (fun h4 => ?_) (fun h4 => ?_))))))
 ·
  refine sk (sq (bl (rg (mv' vx1_0 rfl (Xa rfl (Xa rfl (Xa rfl (cv u92 u3 rfl rfl rfl rfl rfl rfl (shr_ rfl rfl rfl rfl rfl rfl rfl (Xa rfl (cv u5 u65 rfl rfl rfl rfl rfl rfl (ltF' (K := (Kd.int .u8)) (cells := [(.int .u8 (IntKind.wrap .u8 (iand .u64 (ishr .u64 a0 (IntKind.wrap .u64 (IntKind.wrap .i64 ((8 : Int) * x1.2)))) (255 : Int))))]) [(IntKind.wrap .u8 (iand .u64 (ishr .u64 a0 (IntKind.wrap .u64 (IntKind.wrap .i64 ((8 : Int) * x1.2)))) (255 : Int)))] 41 Xg u23 z5 o5 (fun w => (Xh _ _ _)) rfl rfl (fun v5 s5 p5 A5 => ?_)))))))))))))
  refine apF Xg sl23 (Ax1_0.st p5 rfl) A5.rd rfl rfl rfl rfl rfl rfl rfl (fun v8 s8 p8 A8 => ?_)
  refine asg' v8 rfl (dn (ib (rg (Xa rfl (Xa rfl (Xa rfl (dn ?_)))))))
  exact lb ih1 ⟨s8, _, v8, rfl, (ue (ue (ue rfl rfl) rfl) rfl), (Kx1.st (tr2 p5 p8) rfl), A8⟩
 exact xt rfl (sgb (sr (mv' vx1_0 rfl (asg' vx1_0 rfl (dn (re rfl func36 rfl (r_t rfl Xd) rfl ⟨_, rfl, Ax1_0.fo Kx1 rfl z.l, z.ky Kx1⟩))))))
def spec_l18hex.b0 (a0 : (List Int)) (x6 : (List Int) × Int) : Option (((List Int) × Int) ⊕ (List Int)) :=
 (if (decide (x6.2 < (a0.length : Int))) = true then (if 0 ≤ x6.2 ∧ x6.2 < (a0.length : Int) then (if 0 ≤ (IntKind.wrap .u8 ((at_ a0 x6.2).tdiv (16 : Int))) ∧ (IntKind.wrap .u8 ((at_ a0 x6.2).tdiv (16 : Int))) < (([(48 : Int), (49 : Int), (50 : Int), (51 : Int), (52 : Int), (53 : Int), (54 : Int), (55 : Int), (56 : Int), (57 : Int), (97 : Int), (98 : Int), (99 : Int), (100 : Int), (101 : Int), (102 : Int)]).length : Int) then (if x6.1.length + ([(at_ ([(48 : Int), (49 : Int), (50 : Int), (51 : Int), (52 : Int), (53 : Int), (54 : Int), (55 : Int), (56 : Int), (57 : Int), (97 : Int), (98 : Int), (99 : Int), (100 : Int), (101 : Int), (102 : Int)]) (IntKind.wrap .u8 ((at_ a0 x6.2).tdiv (16 : Int))))]).length ≤ Lim then (if 0 ≤ x6.2 ∧ x6.2 < (a0.length : Int) then (if 0 ≤ ((at_ a0 x6.2).tmod (16 : Int)) ∧ ((at_ a0 x6.2).tmod (16 : Int)) < (([(48 : Int), (49 : Int), (50 : Int), (51 : Int), (52 : Int), (53 : Int), (54 : Int), (55 : Int), (56 : Int), (57 : Int), (97 : Int), (98 : Int), (99 : Int), (100 : Int), (101 : Int), (102 : Int)]).length : Int) then (if (x6.1 ++ [(at_ ([(48 : Int), (49 : Int), (50 : Int), (51 : Int), (52 : Int), (53 : Int), (54 : Int), (55 : Int), (56 : Int), (57 : Int), (97 : Int), (98 : Int), (99 : Int), (100 : Int), (101 : Int), (102 : Int)]) (IntKind.wrap .u8 ((at_ a0 x6.2).tdiv (16 : Int))))]).length + ([(at_ ([(48 : Int), (49 : Int), (50 : Int), (51 : Int), (52 : Int), (53 : Int), (54 : Int), (55 : Int), (56 : Int), (57 : Int), (97 : Int), (98 : Int), (99 : Int), (100 : Int), (101 : Int), (102 : Int)]) ((at_ a0 x6.2).tmod (16 : Int)))]).length ≤ Lim then (some (Sum.inl (((x6.1 ++ [(at_ ([(48 : Int), (49 : Int), (50 : Int), (51 : Int), (52 : Int), (53 : Int), (54 : Int), (55 : Int), (56 : Int), (57 : Int), (97 : Int), (98 : Int), (99 : Int), (100 : Int), (101 : Int), (102 : Int)]) (IntKind.wrap .u8 ((at_ a0 x6.2).tdiv (16 : Int))))]) ++ [(at_ ([(48 : Int), (49 : Int), (50 : Int), (51 : Int), (52 : Int), (53 : Int), (54 : Int), (55 : Int), (56 : Int), (57 : Int), (97 : Int), (98 : Int), (99 : Int), (100 : Int), (101 : Int), (102 : Int)]) ((at_ a0 x6.2).tmod (16 : Int)))]), (IntKind.wrap .i64 (x6.2 + (1 : Int)))))) else none) else none) else none) else none) else none) else none) else ((some x6.1).bind fun o => some (Sum.inr o)))
def spec_l18hex.f (a0 : (List Int)) : Option ((List Int)) :=
 (iter (spec_l18hex.b0 a0) (([] : (List Int)), (0 : Int)))
def spec_l18hex.Q (w : World) (F : Nat → Prop) (r : (List Int)) (v : Value) (w' : World) : Prop :=
 FO Xj w w' [v] r ∧ Ky [] w w'
theorem spec_l18hex.calls (a0 : (List Int)) (w : World) (F : Nat → Prop) (w0_0 : Value) (h0_0 : Xj.rd w [w0_0] a0 F) (r : (List Int)) (m : spec_l18hex.f a0 = some r) :
  Calls prog 35 #[w0_0] w (RT (spec_l18hex.Q w F) r) := by
 obtain ⟨s0, rfl, kp0, z⟩ := Xi w F
 have A0_0 := z.rd h0_0
 refine Xc (args := [w0_0]) func35 ntmps35 rfl rfl m ?_
 unfold spec_l18hex.f
 refine sr (Xa rfl (dn (sr (Xa rfl (dn (sr (ltF' (K := (Kd.int .u8)) (cells := [(.int .u8 (48 : Int)), (.int .u8 (49 : Int)), (.int .u8 (50 : Int)), (.int .u8 (51 : Int)), (.int .u8 (52 : Int)), (.int .u8 (53 : Int)), (.int .u8 (54 : Int)), (.int .u8 (55 : Int)), (.int .u8 (56 : Int)), (.int .u8 (57 : Int)), (.int .u8 (97 : Int)), (.int .u8 (98 : Int)), (.int .u8 (99 : Int)), (.int .u8 (100 : Int)), (.int .u8 (101 : Int)), (.int .u8 (102 : Int))]) [(48 : Int), (49 : Int), (50 : Int), (51 : Int), (52 : Int), (53 : Int), (54 : Int), (55 : Int), (56 : Int), (57 : Int), (97 : Int), (98 : Int), (99 : Int), (100 : Int), (101 : Int), (102 : Int)] 40 Xg u23 z5 o5 (fun w => (Xh _ _ _)) rfl (lfill_c rfl rfl rfl rfl rfl) (fun v2 s2 p2 A2 => ?_))))))))
 refine cvm A2 rfl u23 u5 rfl rfl rfl rfl rfl rfl (fun s4 p4 A4 => ?_)
 refine asg' v2 rfl (dn (sq (sr (Xa rfl (dn (bl ?_))))))
 refine lpI (fun (x6 : (List Int) × Int) e w => ∃ (s : St) (e0 : Env) (vx6_0 : Value), w = s.w ∧ e = upd (upd (upd (upd e0 0 w0_0) 3 vx6_0) 4 v2) 5 (iI x6.2) ∧ Kp s0 s ∧ OwF Xj s [vx6_0] x6.1 41 ∧ OwF Xj s [v2] ([(48 : Int), (49 : Int), (50 : Int), (51 : Int), (52 : Int), (53 : Int), (54 : Int), (55 : Int), (56 : Int), (57 : Int), (97 : Int), (98 : Int), (99 : Int), (100 : Int), (101 : Int), (102 : Int)]) 40) ⟨s4, _, (.slice none 0 0), rfl, (ue (ue (ue (ue rfl rfl) rfl) rfl) rfl), (kp0.st (tr2 p2 p4) rfl), (ow_nil 5 (Kd.int .u8) _ 41), A4⟩ (fun g6 ih6 => ?_)
 rintro x6 _ _ ⟨s8, _, vx6_0, rfl, rfl, Kx6, Ax6_0, Cx6_5⟩
 unfold spec_l18hex.b0
 refine sq (sr (Xa rfl (mv' w0_0 rfl ?_)))
 have A10 := A0_0.kp Kx6
 refine ln' A10 u23 rfl (Xa rfl (dn (cd rfl (fun h11 => ?_) (fun h11 => ?_))))
 ·
  refine sk (sq (bl (sr (mv' vx6_0 rfl (mv' v2 rfl (mv' w0_0 rfl (Xa rfl (ix' A10 u23 z5 rfl (fun ad12 es12 h0_12 h1_12 he12 ce12 ia12 => ?_)))))))))
  obtain rfl := he12
  refine lc0 ce12 u5 rfl rfl rfl rfl rfl rfl rfl rfl (quoK rfl rfl rfl rfl rfl rfl rfl rfl (ix' Cx6_5.rd u23 z5 rfl (fun ad14 es14 h0_14 h1_14 he14 ce14 ia14 => ?_)))
  obtain rfl := he14
  refine lc0 ce14 u5 rfl rfl rfl rfl rfl rfl rfl rfl (ltF' (K := (Kd.int .u8)) (cells := [(.int .u8 (at_ ([(48 : Int), (49 : Int), (50 : Int), (51 : Int), (52 : Int), (53 : Int), (54 : Int), (55 : Int), (56 : Int), (57 : Int), (97 : Int), (98 : Int), (99 : Int), (100 : Int), (101 : Int), (102 : Int)]) (IntKind.wrap .u8 ((at_ a0 x6.2).tdiv (16 : Int)))))]) [(at_ ([(48 : Int), (49 : Int), (50 : Int), (51 : Int), (52 : Int), (53 : Int), (54 : Int), (55 : Int), (56 : Int), (57 : Int), (97 : Int), (98 : Int), (99 : Int), (100 : Int), (101 : Int), (102 : Int)]) (IntKind.wrap .u8 ((at_ a0 x6.2).tdiv (16 : Int))))] 42 Xg u23 z5 o5 (fun w => (Xh _ _ _)) rfl rfl (fun v16 s16 p16 A16 => ?_))
  refine apF Xg sl23 (Ax6_0.st p16 rfl) A16.rd rfl rfl rfl rfl rfl rfl rfl (fun v19 s19 p19 A19 => ?_)
  refine asg' v19 rfl (dn (rg (mv' v19 rfl (mv' v2 rfl (mv' w0_0 rfl (Xa rfl ?_))))))
  have K21 := Kx6.st (tr2 p16 p19) rfl
  refine ix' (A0_0.kp K21) u23 z5 rfl (fun ad23 es23 h0_23 h1_23 he23 ce23 ia23 => ?_)
  obtain rfl := he23
  refine lc0 ce23 u5 rfl rfl rfl rfl rfl rfl rfl rfl (remK rfl rfl rfl rfl rfl rfl rfl rfl ?_)
  have A25 := Cx6_5.st (tr2 p16 p19) rfl
  refine ix' A25.rd u23 z5 rfl (fun ad26 es26 h0_26 h1_26 he26 ce26 ia26 => ?_)
  obtain rfl := he26
  refine lc0 ce26 u5 rfl rfl rfl rfl rfl rfl rfl rfl (ltF' (K := (Kd.int .u8)) (cells := [(.int .u8 (at_ ([(48 : Int), (49 : Int), (50 : Int), (51 : Int), (52 : Int), (53 : Int), (54 : Int), (55 : Int), (56 : Int), (57 : Int), (97 : Int), (98 : Int), (99 : Int), (100 : Int), (101 : Int), (102 : Int)]) ((at_ a0 x6.2).tmod (16 : Int))))]) [(at_ ([(48 : Int), (49 : Int), (50 : Int), (51 : Int), (52 : Int), (53 : Int), (54 : Int), (55 : Int), (56 : Int), (57 : Int), (97 : Int), (98 : Int), (99 : Int), (100 : Int), (101 : Int), (102 : Int)]) ((at_ a0 x6.2).tmod (16 : Int)))] 43 Xg u23 z5 o5 (fun w => (Xh _ _ _)) rfl rfl (fun v28 s28 p28 A28 => ?_))
  refine apF Xg sl23 (A19.st p28 rfl) A28.rd rfl rfl rfl rfl rfl rfl rfl (fun v31 s31 p31 A31 => ?_)
  refine asg' v31 rfl (dn (ib (rg (Xa rfl (Xa rfl (Xa rfl (dn ?_)))))))
  exact lb ih6 ⟨s31, _, v31, rfl, (ue (ue (ue (ue rfl rfl) rfl) rfl) rfl), (K21.st (tr2 p28 p31) rfl), A31, (A25.st (tr2 p28 p31) rfl)⟩
 exact xt rfl (sgb (sr (mv' vx6_0 rfl (asg' vx6_0 rfl (dn (re rfl func35 rfl (r_t rfl Xd) rfl ⟨_, rfl, Ax6_0.fo Kx6 rfl z.l, z.ky Kx6⟩))))))
def spec_ItemText.f (a0 : Item) : Option ((List Int)) :=
 ((spec_ItemOk.f a0).bind fun r6 => (if (!r6) = true then (some ([] : (List Int))) else (if (a0.Kind == (1 : Int)) = true then ((spec_l18digits.f a0.N).bind fun r17 => (if ([(105 : Int)]).length + r17.length ≤ Lim then (some ([(105 : Int)] ++ r17)) else none)) else (if (a0.Kind == (2 : Int)) = true then ((spec_FloatBits.f a0.F).bind fun r30 => ((spec_l3high.f r30).bind fun r32 => ((spec_l18hex.f r32).bind fun r35 => (if ([(102 : Int)]).length + r35.length ≤ Lim then (some ([(102 : Int)] ++ r35)) else none)))) else (if (a0.Kind == (3 : Int)) = true then ((spec_l18hex.f a0.T).bind fun r50 => (if ([(116 : Int)]).length + r50.length ≤ Lim then (some ([(116 : Int)] ++ r50)) else none)) else (some ([(45 : Int)])))))))
def spec_ItemText.Q (w : World) (F : Nat → Prop) (r : (List Int)) (v : Value) (w' : World) : Prop :=
 FO Xj w w' [v] r ∧ Ky [] w w'
theorem spec_ItemText.calls (a0 : Item) (w : World) (F : Nat → Prop) (w0_0 : Value) (w0_1 : Value) (h0_0 : Kd.flt.rd w [w0_0] a0.F F) (h0_1 : Xj.rd w [w0_1] a0.T F) (r : (List Int)) (m : spec_ItemText.f a0 = some r) :
  Calls prog 8 #[(.agg #[(iI a0.Kind), (iI a0.N), w0_0, w0_1])] w (RT (spec_ItemText.Q w F) r) := by
 obtain ⟨s0, rfl, kp0, z⟩ := Xi w F
 have A0_0 := fl_of h0_0
 have A0_1 := z.rd h0_1
 refine Xc (args := [(.agg #[(iI a0.Kind), (iI a0.N), w0_0, w0_1])]) func8 ntmps8 rfl rfl m ?_
 unfold spec_ItemText.f
 refine sr (bx (cs := [(iI a0.Kind), (iI a0.N), w0_0, w0_1]) 40 rfl rfl rfl rfl rfl rfl (fun b2 s2 p2 B2 => ?_))
 refine Xa rfl (dn (sq (sr (lda' (es := [(iI a0.Kind), (iI a0.N), w0_0, w0_1]) B2 u28 z28 rfl ?_))))
 have K4 := kp0.st p2 rfl
 refine clV 41 rfl func33 rfl (spec_ItemOk.calls a0 s2.w (mm [0] s2) w0_0 w0_1 ((Xf (s := s2) A0_0).sub (D := [0]) rfl) (A0_1.kp K4)) (fun r6 s7 p7 n7 => ?_)
 refine Xa rfl (dn (cd rfl (fun h8 => ?_) (fun h8 => ?_)))
 ·
  refine sr (Xa rfl (dn ?_))
  have K9 := K4.st p7 rfl
  exact re rfl func8 rfl (r_t rfl Xd) rfl ⟨_, rfl, (ow_nil 5 (Kd.int .u8) s7 40).fo K9 rfl z.l, z.ky K9⟩
 refine sk (sq (sr (fa' fa28_0 rfl ?_)))
 have A10 := B2.st p7 rfl
 refine ld' A10 u3 rfl (dn (bl (sr (Xa rfl (Xa rfl (dn (cd rfl (fun h11 => ?_) (fun h11 => ?_))))))))
 ·
  refine sr (ltF' (K := (Kd.int .u8)) (cells := [(.int .u8 (105 : Int))]) [(105 : Int)] 42 Xg u23 z5 o5 (fun w => (Xh _ _ _)) rfl rfl (fun v12 s12 p12 A12 => ?_))
  refine cvm A12 rfl u23 u5 rfl rfl rfl rfl rfl rfl (fun s14 p14 A14 => ?_)
  refine fa' fa28_1 rfl (ld' (A10.st (tr2 p12 p14) rfl) u3 rfl (clO 43 rfl func34 rfl (spec_l18digits.calls a0.N s14.w (mm [] s14)) (fun r17 v17_0 s18 p18 A17_0 => ?_)))
  refine apF Xg sl23 (A14.st p18 rfl) A17_0.rd rfl rfl rfl rfl rfl rfl rfl (fun v21 s21 p21 A21 => ?_)
  refine asg' v21 rfl (dn ?_)
  have K23 := K4.st (tr5 p7 p12 p14 p18 p21) rfl
  exact re rfl func8 rfl (r_t rfl Xd) rfl ⟨_, rfl, A21.fo K23 rfl z.l, z.ky K23⟩
 refine sr (Xa rfl (Xa rfl (dn (cd rfl (fun h24 => ?_) (fun h24 => ?_)))))
 ·
  refine sr (ltF' (K := (Kd.int .u8)) (cells := [(.int .u8 (102 : Int))]) [(102 : Int)] 44 Xg u23 z5 o5 (fun w => (Xh _ _ _)) rfl rfl (fun v25 s25 p25 A25 => ?_))
  refine cvm A25 rfl u23 u5 rfl rfl rfl rfl rfl rfl (fun s27 p27 A27 => ?_)
  refine fa' fa28_2 rfl (ld' (A10.st (tr2 p25 p27) rfl) u22 rfl (clV 45 rfl func37 rfl (spec_FloatBits.calls a0.F s27.w (mm [] s27) w0_0 (Xf (s := s27) A0_0)) (fun r30 s31 p31 n31 => ?_)))
  refine clO 46 rfl func36 rfl (spec_l3high.calls r30 s31.w (mm [] s31)) (fun r32 v32_0 s33 p33 A32_0 => ?_)
  refine clO 47 rfl func35 rfl (spec_l18hex.calls r32 s33.w (mm [46] s33) v32_0 A32_0.rd) (fun r35 v35_0 s36 p36 A35_0 => ?_)
  refine apF Xg sl23 (A27.st (tr3 p31 p33 p36) rfl) A35_0.rd rfl rfl rfl rfl rfl rfl rfl (fun v39 s39 p39 A39 => ?_)
  refine asg' v39 rfl (dn ?_)
  have K41 := K4.st (tr7 p7 p25 p27 p31 p33 p36 p39) rfl
  exact re rfl func8 rfl (r_t rfl Xd) rfl ⟨_, rfl, A39.fo K41 rfl z.l, z.ky K41⟩
 refine sr (Xa rfl (Xa rfl (dn (cd rfl (fun h42 => ?_) (fun h42 => ?_)))))
 ·
  refine sr (ltF' (K := (Kd.int .u8)) (cells := [(.int .u8 (116 : Int))]) [(116 : Int)] 48 Xg u23 z5 o5 (fun w => (Xh _ _ _)) rfl rfl (fun v43 s43 p43 A43 => ?_))
  refine cvm A43 rfl u23 u5 rfl rfl rfl rfl rfl rfl (fun s45 p45 A45 => ?_)
  refine fa' fa28_3 rfl (ld' (A10.st (tr2 p43 p45) rfl) u23 rfl ?_)
  have K48 := K4.st (tr3 p7 p43 p45) rfl
  refine clO 49 rfl func35 rfl (spec_l18hex.calls a0.T s45.w (mm [0] s45) w0_1 (A0_1.kp K48)) (fun r50 v50_0 s51 p51 A50_0 => ?_)
  refine apF Xg sl23 (A45.st p51 rfl) A50_0.rd rfl rfl rfl rfl rfl rfl rfl (fun v54 s54 p54 A54 => ?_)
  refine asg' v54 rfl (dn ?_)
  have K56 := K48.st (tr2 p51 p54) rfl
  exact re rfl func8 rfl (r_t rfl Xd) rfl ⟨_, rfl, A54.fo K56 rfl z.l, z.ky K56⟩
 refine sk (ib (sr (ltF' (K := (Kd.int .u8)) (cells := [(.int .u8 (45 : Int))]) [(45 : Int)] 50 Xg u23 z5 o5 (fun w => (Xh _ _ _)) rfl rfl (fun v57 s57 p57 A57 => ?_))))
 refine cvm A57 rfl u23 u5 rfl rfl rfl rfl rfl rfl (fun s59 p59 A59 => ?_)
 refine asg' v57 rfl (dn ?_)
 have K61 := K4.st (tr3 p7 p57 p59) rfl
 exact re rfl func8 rfl (r_t rfl Xd) rfl ⟨_, rfl, A59.fo K61 rfl z.l, z.ky K61⟩
def impl_within.f (a0 : Int) (a1 : Int) (a2 : Int) : Option (Bool) :=
 (some ((decide (a1 ≤ a0)) && (decide (a0 ≤ a2))))
def impl_within.Q (w : World) (F : Nat → Prop) (r : Bool) (v : Value) (w' : World) : Prop :=
 v = (.bool r) ∧ Ky [] w w'
theorem impl_within.calls (a0 : Int) (a1 : Int) (a2 : Int) (w : World) (F : Nat → Prop)   (r : Bool) (m : impl_within.f a0 a1 a2 = some r) :
  Calls prog 62 #[(iI a0), (iI a1), (iI a2)] w (RT (impl_within.Q w F) r) := by
 obtain ⟨s0, rfl, kp0, z⟩ := Xi w F
 refine Xc (args := [(iI a0), (iI a1), (iI a2)]) func62 ntmps62 rfl rfl m ?_
 unfold impl_within.f
 refine sr (Xa rfl (dn (sr (Xa rfl (Xa rfl (Xa rfl (Xa rfl (jy [10, 11, 12, 13, 14] [8] 14 (.bool ((decide (a1 ≤ a0)) && (decide (a0 ≤ a2)))) rfl (fun Kg1 => ?_) (fun j1 => ?_)))))))))
 ·
  rcases bft (decide (a1 ≤ a0)) with hb1 | hb1
  ·
   exact sbT hb1 (Xa rfl (Xa rfl (Xa rfl (Xa rfl (Kg1 _ (Ag.put ((Ag.put ((Ag.put ((Ag.put (Ag.base rfl) rfl)) rfl)) rfl)) rfl) (by rw [hb1]; rfl))))))
  exact sbT hb1 (uw' rfl (uw' rfl (uw' rfl (Xa rfl (Kg1 _ (Ag.put ((Ag.put ((Ag.put ((Ag.put (Ag.base rfl) rfl)) rfl)) rfl)) rfl) (by rw [hb1]; rfl))))))
 exact Xa rfl (dn (re rfl func62 rfl (r_t rfl Xd) rfl ⟨_, rfl, rfl, z.ky kp0⟩))
def impl_ItemOk.f (a0 : Item) : Option (Bool) :=
 ((impl_within.f a0.Kind (0 : Int) (3 : Int)).bind fun r4 => (some (((r4 && ((a0.N == (0 : Int)) || (a0.Kind == (1 : Int)))) && (((a0.F : Int) == 0) || (a0.Kind == (2 : Int)))) && (((a0.T.length : Int) == (0 : Int)) || ((a0.Kind == (3 : Int)) && (decide ((a0.T.length : Int) ≤ (40 : Int))))))))
def impl_ItemOk.Q (w : World) (F : Nat → Prop) (r : Bool) (v : Value) (w' : World) : Prop :=
 v = (.bool r) ∧ Ky [] w w'
theorem impl_ItemOk.calls (a0 : Item) (w : World) (F : Nat → Prop) (w0_0 : Value) (w0_1 : Value) (h0_0 : Kd.flt.rd w [w0_0] a0.F F) (h0_1 : Xj.rd w [w0_1] a0.T F) (r : Bool) (m : impl_ItemOk.f a0 = some r) :
  Calls prog 38 #[(.agg #[(iI a0.Kind), (iI a0.N), w0_0, w0_1])] w (RT (impl_ItemOk.Q w F) r) := by
 obtain ⟨s0, rfl, kp0, z⟩ := Xi w F
 refine Xc (args := [(.agg #[(iI a0.Kind), (iI a0.N), w0_0, w0_1])]) func38 ntmps38 rfl rfl m ?_
 unfold impl_ItemOk.f
 refine sr (bx (cs := [(iI a0.Kind), (iI a0.N), w0_0, w0_1]) 40 rfl rfl rfl rfl rfl rfl (fun b2 s2 p2 B2 => ?_))
 refine Xa rfl (dn (sr (fa' fa28_0 rfl (ld' B2 u3 rfl (clV 41 rfl func62 rfl (impl_within.calls a0.Kind (0 : Int) (3 : Int) s2.w (mm [] s2)) (fun r4 s5 p5 n5 => ?_))))))
 refine Xa rfl (jy [6, 7, 8, 9, 10, 11, 12, 13, 14, 15] [13, 14, 15, 16, 17, 18, 19, 20, 21, 22, 23, 24, 25, 26, 27, 28, 29, 30, 31, 32, 33, 34, 35, 36, 37, 38, 39, 40, 41] 15 (.bool (r4 && ((a0.N == (0 : Int)) || (a0.Kind == (1 : Int))))) rfl (fun Kg6 => ?_) (fun j6 => ?_))
 ·
  rcases bft r4 with hb6 | hb6
  ·
   refine sbT hb6 (fa' fa28_1 rfl ?_)
   have A7 := B2.st p5 rfl
   refine ld' A7 u3 rfl (Xa rfl (Xa rfl (jy [10, 11, 12, 13, 14] [12, 13, 14, 15, 16, 17, 18, 19, 20, 21, 22, 23, 24, 25, 26, 27, 28, 29, 30, 31, 32, 33, 34, 35, 36, 37, 38, 39, 40, 41] 14 (.bool ((a0.N == (0 : Int)) || (a0.Kind == (1 : Int)))) rfl (fun Kg8 => ?_) (fun j8 => ?_))))
   ·
    rcases bft (a0.N == (0 : Int)) with hb8 | hb8
    ·
     exact sbT hb8 (uw' rfl (uw' rfl (uw' rfl (Xa rfl (Kg8 _ (Ag.put ((Ag.put ((Ag.put ((Ag.put (Ag.base rfl) rfl)) rfl)) rfl)) rfl) (by rw [hb8]; rfl))))))
    exact sbT hb8 (fa' fa28_0 rfl (ld' A7 u3 rfl (Xa rfl (Xa rfl (Kg8 _ (Ag.put ((Ag.put ((Ag.put ((Ag.put (Ag.base rfl) rfl)) rfl)) rfl)) rfl) (by rw [hb8]; rfl))))))
   exact Xa rfl (Kg6 _ (Ag.put ((Ag.put ((Ag.ov ((Ag.put ((Ag.put ((Ag.put ((Ag.put (Ag.base rfl) rfl)) rfl)) rfl)) rfl)) rfl)) rfl)) rfl) (by rw [hb6]; rfl))
  exact sbT hb6 (uw' rfl (uw' rfl (uw' rfl (uw' rfl (uw' rfl (uw' rfl (uw' rfl (uw' rfl (Xa rfl (Kg6 _ (Ag.put ((Ag.put ((Ag.put ((Ag.put ((Ag.put ((Ag.put ((Ag.put ((Ag.put ((Ag.put (Ag.base rfl) rfl)) rfl)) rfl)) rfl)) rfl)) rfl)) rfl)) rfl)) rfl) (by rw [hb6]; rfl)))))))))))
 refine Xa rfl (jy [16, 17, 18, 19, 20, 21, 22, 23, 24, 25, 26] [24, 25, 26, 27, 28, 29, 30, 31, 32, 33, 34, 35, 36, 37, 38, 39, 40, 41] 26 (.bool ((r4 && ((a0.N == (0 : Int)) || (a0.Kind == (1 : Int)))) && (((a0.F : Int) == 0) || (a0.Kind == (2 : Int))))) rfl (fun Kg9 => ?_) (fun j9 => ?_))
 ·
  rcases bft (r4 && ((a0.N == (0 : Int)) || (a0.Kind == (1 : Int)))) with hb9 | hb9
  ·
   refine sbT hb9 (fa' fa28_2 rfl ?_)
   have A10 := B2.st p5 rfl
   refine ld' A10 u22 rfl (fbu (fl_of h0_0) rfl rfl rfl rfl rfl func63 rfl rfl xn63 xf63 rfl (fun b11 A11 => ?_))
   refine fz0 A11 rfl rfl rfl rfl rfl rfl rfl (Xa rfl (jy [21, 22, 23, 24, 25] [23, 24, 25, 26, 27, 28, 29, 30, 31, 32, 33, 34, 35, 36, 37, 38, 39, 40, 41] 25 (.bool (((a0.F : Int) == 0) || (a0.Kind == (2 : Int)))) rfl (fun Kg12 => ?_) (fun j12 => ?_)))
   ·
    rcases bft ((a0.F : Int) == 0) with hb12 | hb12
    ·
     exact sbT hb12 (uw' rfl (uw' rfl (uw' rfl (Xa rfl (Kg12 _ (Ag.put ((Ag.put ((Ag.put ((Ag.put (Ag.base rfl) rfl)) rfl)) rfl)) rfl) (by rw [hb12]; rfl))))))
    exact sbT hb12 (fa' fa28_0 rfl (ld' A10 u3 rfl (Xa rfl (Xa rfl (Kg12 _ (Ag.put ((Ag.put ((Ag.put ((Ag.put (Ag.base rfl) rfl)) rfl)) rfl)) rfl) (by rw [hb12]; rfl))))))
   exact Xa rfl (Kg9 _ (Ag.put ((Ag.put ((Ag.ov ((Ag.put ((Ag.put ((Ag.put ((Ag.put ((Ag.put (Ag.base rfl) rfl)) rfl)) rfl)) rfl)) rfl)) rfl)) rfl)) rfl) (by rw [hb9]; rfl))
  exact sbT hb9 (uw' rfl (uw' rfl (uw' rfl (uw' rfl (uw' rfl (uw' rfl (uw' rfl (uw' rfl (uw' rfl (Xa rfl (Kg9 _ (Ag.put ((Ag.put ((Ag.put ((Ag.put ((Ag.put ((Ag.put ((Ag.put ((Ag.put ((Ag.put ((Ag.put (Ag.base rfl) rfl)) rfl)) rfl)) rfl)) rfl)) rfl)) rfl)) rfl)) rfl)) rfl) (by rw [hb9]; rfl))))))))))))
 refine Xa rfl (jy [27, 28, 29, 30, 31, 32, 33, 34, 35, 36, 37, 38, 39, 40, 41, 42, 43] [41] 43 (.bool (((r4 && ((a0.N == (0 : Int)) || (a0.Kind == (1 : Int)))) && (((a0.F : Int) == 0) || (a0.Kind == (2 : Int)))) && (((a0.T.length : Int) == (0 : Int)) || ((a0.Kind == (3 : Int)) && (decide ((a0.T.length : Int) ≤ (40 : Int))))))) rfl (fun Kg13 => ?_) (fun j13 => ?_))
 ·
  rcases bft ((r4 && ((a0.N == (0 : Int)) || (a0.Kind == (1 : Int)))) && (((a0.F : Int) == 0) || (a0.Kind == (2 : Int)))) with hb13 | hb13
  ·
   refine sbT hb13 (fa' fa28_3 rfl ?_)
   have A14 := B2.st p5 rfl
   refine ld' A14 u23 rfl ?_
   have A16 := (z.rd h0_1).kp (kp0.st (tr2 p2 p5) rfl)
   refine ln' A16 u23 rfl (Xa rfl (Xa rfl (jy [32, 33, 34, 35, 36, 37, 38, 39, 40, 41, 42] [40, 41] 42 (.bool (((a0.T.length : Int) == (0 : Int)) || ((a0.Kind == (3 : Int)) && (decide ((a0.T.length : Int) ≤ (40 : Int)))))) rfl (fun Kg17 => ?_) (fun j17 => ?_))))
   ·
    rcases bft ((a0.T.length : Int) == (0 : Int)) with hb17 | hb17
    ·
     exact sbT hb17 (uw' rfl (uw' rfl (uw' rfl (uw' rfl (uw' rfl (uw' rfl (uw' rfl (uw' rfl (uw' rfl (Xa rfl (Kg17 _ (Ag.put ((Ag.put ((Ag.put ((Ag.put ((Ag.put ((Ag.put ((Ag.put ((Ag.put ((Ag.put ((Ag.put (Ag.base rfl) rfl)) rfl)) rfl)) rfl)) rfl)) rfl)) rfl)) rfl)) rfl)) rfl) (by rw [hb17]; rfl))))))))))))
    refine sbT hb17 (fa' fa28_0 rfl (ld' A14 u3 rfl (Xa rfl (Xa rfl (jy [36, 37, 38, 39, 40, 41] [39, 40, 41] 41 (.bool ((a0.Kind == (3 : Int)) && (decide ((a0.T.length : Int) ≤ (40 : Int))))) rfl (fun Kg18 => ?_) (fun j18 => ?_))))))
    ·
     rcases bft (a0.Kind == (3 : Int)) with hb18 | hb18
     ·
      exact sbT hb18 (fa' fa28_3 rfl (ld' A14 u23 rfl (ln' A16 u23 rfl (Xa rfl (Xa rfl (Kg18 _ (Ag.put ((Ag.put ((Ag.put ((Ag.put ((Ag.put (Ag.base rfl) rfl)) rfl)) rfl)) rfl)) rfl) (by rw [hb18]; rfl)))))))
     exact sbT hb18 (uw' rfl (uw' rfl (uw' rfl (uw' rfl (Xa rfl (Kg18 _ (Ag.put ((Ag.put ((Ag.put ((Ag.put ((Ag.put (Ag.base rfl) rfl)) rfl)) rfl)) rfl)) rfl) (by rw [hb18]; rfl)))))))
    exact Xa rfl (Kg17 _ (Ag.put ((Ag.put ((Ag.ov ((Ag.put ((Ag.put ((Ag.put ((Ag.put (Ag.base rfl) rfl)) rfl)) rfl)) rfl)) rfl)) rfl)) rfl) (by rw [hb17]; rfl))
   exact Xa rfl (Kg13 _ (Ag.put ((Ag.put ((Ag.ov ((Ag.put ((Ag.put ((Ag.put ((Ag.put ((Ag.put (Ag.base rfl) rfl)) rfl)) rfl)) rfl)) rfl)) rfl)) rfl)) rfl) (by rw [hb13]; rfl))
  refine sbT hb13 (uw' rfl (uw' rfl (uw' rfl (uw' rfl (uw' rfl (uw' rfl (uw' rfl (uw' rfl (uw' rfl (uw' rfl (uw' rfl (uw' rfl (uw' rfl (uw' rfl ?_))))))))))))))
  exact uw' rfl (Xa rfl (Kg13 _ (Ag.put ((Ag.put ((Ag.put ((Ag.put ((Ag.put ((Ag.put ((Ag.put ((Ag.put ((Ag.put ((Ag.put ((Ag.put ((Ag.put ((Ag.put ((Ag.put ((Ag.put ((Ag.put (Ag.base rfl) rfl)) rfl)) rfl)) rfl)) rfl)) rfl)) rfl)) rfl)) rfl)) rfl)) rfl)) rfl)) rfl)) rfl)) rfl)) rfl) (by rw [hb13]; rfl)))
 refine Xa rfl (dn ?_)
 exact re rfl func38 rfl (r_t rfl Xd) rfl ⟨_, rfl, rfl, z.ky (kp0.st (tr2 p2 p5) rfl)⟩
section
open Go.Shelf
shelf_lay LaysM.n171 Nm 171 at Tryd as lay_itoa
theorem grow_ky (w : World) (k : Nat) (os : Array Obj) : Ky [] w (Sort.grow (w.drewN k) os) := by
  refine ⟨rfl, ?_, rfl, ?_, fun b hb _ => ?_⟩
  · simp [Sort.grow]
  · simp [Sort.grow]
  · simp [Sort.grow, Array.getElem?_append_left hb]
def strconv_Itoa.f (a0 : Int) : Option (ByteArray) := if -9223372036854775808 ≤ a0 ∧ a0 ≤ 9223372036854775807 then some ⟨(Lib.itoa a0).toArray⟩ else none
def strconv_Itoa.Q (w : World) (F : Nat → Prop) (r : ByteArray) (v : Value) (w' : World) : Prop := v = (.string r) ∧ Ky [] w w'
theorem strconv_Itoa.calls (a0 : Int) (w : World) (F : Nat → Prop) (hG : GT.rd w [] () F) (r : ByteArray) (m : strconv_Itoa.f a0 = some r) :
    Calls Tryd.prog 64 #[.int .i64 a0] w (RT (strconv_Itoa.Q w F) r) := by
  unfold strconv_Itoa.f at m
  split at m
  · rename_i h
    cases m
    refine Calls.mono (Any.strconv_Itoa lay_itoa a0 h.1 h.2 w hG.2.1) fun e w' ⟨he, k, os, hw⟩ => ⟨_, he, rfl, ?_⟩
    rw [hw]; exact grow_ky w k os
  · cases m
end

def impl_FloatBits.f (a0 : Nat) : Option (Int) :=
 (if (fcmp .f64 a0 a0 != some .eq) = true then (some (9221120237041090560 : Int)) else (if isN a0 = false then (some (a0 : Int)) else none))
def impl_FloatBits.Q (w : World) (F : Nat → Prop) (r : Int) (v : Value) (w' : World) : Prop :=
 v = (.int .u64 r) ∧ Ky [] w w'
theorem impl_FloatBits.calls (a0 : Nat) (w : World) (F : Nat → Prop) (w0_0 : Value) (h0_0 : Kd.flt.rd w [w0_0] a0 F) (r : Int) (m : impl_FloatBits.f a0 = some r) :
  Calls prog 84 #[w0_0] w (RT (impl_FloatBits.Q w F) r) := by
 obtain ⟨s0, rfl, kp0, z⟩ := Xi w F
 have A0_0 := fl_of h0_0
 refine Xc (args := [w0_0]) func84 ntmps84 rfl rfl m ?_
 unfold impl_FloatBits.f
 refine sr (Xa rfl (dn (sq (sr (mv' w0_0 rfl (mv' w0_0 rfl (fq_' A0_0 A0_0 rfl (dn (cd rfl (fun h1 => ?_) (fun h1 => ?_))))))))))
 ·
  exact sr (Xa rfl (dn (re rfl func84 rfl (r_t rfl Xd) rfl ⟨_, rfl, rfl, z.ky kp0⟩)))
 exact sk (sr (mv' w0_0 rfl (fb_ A0_0 rfl rfl rfl rfl rfl func63 rfl rfl xn63 xf63 rfl (Xa rfl (dn (re rfl func84 rfl (r_t rfl Xd) rfl ⟨_, rfl, rfl, z.ky kp0⟩))))))
def impl_highFirst.b0 (a0 : Int) (x1 : (List Int) × Int) : Option (((List Int) × Int) ⊕ (List Int)) :=
 (if (decide (x1.2 ≥ (0 : Int))) = true then (if 0 ≤ x1.2 then (if x1.1.length + ([(IntKind.wrap .u8 (ishr .u64 a0 x1.2))]).length ≤ Lim then (some (Sum.inl ((x1.1 ++ [(IntKind.wrap .u8 (ishr .u64 a0 x1.2))]), (IntKind.wrap .i64 (x1.2 - (8 : Int)))))) else none) else none) else ((some x1.1).bind fun o => some (Sum.inr o)))
def impl_highFirst.f (a0 : Int) : Option ((List Int)) :=
 (iter (impl_highFirst.b0 a0) (([] : (List Int)), (56 : Int)))
def impl_highFirst.Q (w : World) (F : Nat → Prop) (r : (List Int)) (v : Value) (w' : World) : Prop :=
 FO Xj w w' [v] r ∧ Ky [] w w'
theorem impl_highFirst.calls (a0 : Int) (w : World) (F : Nat → Prop)   (r : (List Int)) (m : impl_highFirst.f a0 = some r) :
  Calls prog 83 #[(.int .u64 a0)] w (RT (impl_highFirst.Q w F) r) := by
 obtain ⟨s0, rfl, kp0, z⟩ := Xi w F
 refine Xc (args := [(.int .u64 a0)]) func83 ntmps83 rfl rfl m ?_
 unfold impl_highFirst.f
 refine sr (Xa rfl (dn (sr (Xa rfl (dn (sq (sr (Xa rfl (dn (bl (lpI (fun (x1 : (List Int) × Int) e w => ∃ (s : St) (e0 : Env) (vx1_0 : Value), w = s.w ∧ e = upd (upd (upd e0 0 (.int .u64 a0)) 3 vx1_0) 4 (iI x1.2) ∧ Kp s0 s ∧ OwF Xj s [vx1_0] x1.1 40) ⟨s0, _, (.slice none 0 0), rfl, (ue (ue (ue rfl rfl) rfl) rfl), kp0, (ow_nil 5 (Kd.int .u8) _ 40)⟩ (fun g1 ih1 => ?_))))))))))))
 rintro x1 _ _ ⟨s2, _, vx1_0, rfl, rfl, Kx1, Ax1_0⟩
 unfold impl_highFirst.b0
 refine sq (sr (Xa rfl (Xa rfl (dn (cd rfl (fun h4 => ?_) (fun h4 => ?_))))))
 ·
  refine sk (sq (bl (rg (mv' vx1_0 rfl (Xa rfl (Xa rfl (shr_ rfl rfl rfl rfl rfl rfl rfl (cv u5 u65 rfl rfl rfl rfl rfl rfl (ltF' (K := (Kd.int .u8)) (cells := [(.int .u8 (IntKind.wrap .u8 (ishr .u64 a0 x1.2)))]) [(IntKind.wrap .u8 (ishr .u64 a0 x1.2))] 41 Xg u23 z5 o5 (fun w => (Xh _ _ _)) rfl rfl (fun v5 s5 p5 A5 => ?_))))))))))
  refine apF Xg sl23 (Ax1_0.st p5 rfl) A5.rd rfl rfl rfl rfl rfl rfl rfl (fun v8 s8 p8 A8 => ?_)
  refine asg' v8 rfl (dn (ib (rg (Xa rfl (Xa rfl (Xa rfl (dn ?_)))))))
  exact lb ih1 ⟨s8, _, v8, rfl, (ue (ue (ue rfl rfl) rfl) rfl), (Kx1.st (tr2 p5 p8) rfl), A8⟩
 exact xt rfl (sgb (sr (mv' vx1_0 rfl (asg' vx1_0 rfl (dn (re rfl func83 rfl (r_t rfl Xd) rfl ⟨_, rfl, Ax1_0.fo Kx1 rfl z.l, z.ky Kx1⟩))))))
def impl_hexText.b0 (a0 : (List Int)) (x2 : (List Int) × Int) : Option (((List Int) × Int) ⊕ ByteArray) :=
 (if (decide (x2.2 < (a0.length : Int))) = true then (if 0 ≤ x2.2 ∧ x2.2 < (a0.length : Int) then (if 0 ≤ (ishr .u8 (at_ a0 x2.2) (4 : Int)) ∧ (ishr .u8 (at_ a0 x2.2) (4 : Int)) < ((⟨#[48, 49, 50, 51, 52, 53, 54, 55, 56, 57, 97, 98, 99, 100, 101, 102]⟩ : ByteArray).size : Int) then (if 0 ≤ (iand .u8 (at_ a0 x2.2) (15 : Int)) ∧ (iand .u8 (at_ a0 x2.2) (15 : Int)) < ((⟨#[48, 49, 50, 51, 52, 53, 54, 55, 56, 57, 97, 98, 99, 100, 101, 102]⟩ : ByteArray).size : Int) then (if x2.1.length + ([(at_ (bts (⟨#[48, 49, 50, 51, 52, 53, 54, 55, 56, 57, 97, 98, 99, 100, 101, 102]⟩ : ByteArray)) (ishr .u8 (at_ a0 x2.2) (4 : Int))), (at_ (bts (⟨#[48, 49, 50, 51, 52, 53, 54, 55, 56, 57, 97, 98, 99, 100, 101, 102]⟩ : ByteArray)) (iand .u8 (at_ a0 x2.2) (15 : Int)))]).length ≤ Lim then (some (Sum.inl ((x2.1 ++ [(at_ (bts (⟨#[48, 49, 50, 51, 52, 53, 54, 55, 56, 57, 97, 98, 99, 100, 101, 102]⟩ : ByteArray)) (ishr .u8 (at_ a0 x2.2) (4 : Int))), (at_ (bts (⟨#[48, 49, 50, 51, 52, 53, 54, 55, 56, 57, 97, 98, 99, 100, 101, 102]⟩ : ByteArray)) (iand .u8 (at_ a0 x2.2) (15 : Int)))]), (IntKind.wrap .i64 (x2.2 + (1 : Int)))))) else none) else none) else none) else none) else ((some (str x2.1)).bind fun o => some (Sum.inr o)))
def impl_hexText.f (a0 : (List Int)) : Option (ByteArray) :=
 (iter (impl_hexText.b0 a0) (([] : (List Int)), (0 : Int)))
def impl_hexText.Q (w : World) (F : Nat → Prop) (r : ByteArray) (v : Value) (w' : World) : Prop :=
 v = (.string r) ∧ Ky [] w w'
theorem impl_hexText.calls (a0 : (List Int)) (w : World) (F : Nat → Prop) (w0_0 : Value) (h0_0 : Xj.rd w [w0_0] a0 F) (r : ByteArray) (m : impl_hexText.f a0 = some r) :
  Calls prog 66 #[w0_0] w (RT (impl_hexText.Q w F) r) := by
 obtain ⟨s0, rfl, kp0, z⟩ := Xi w F
 have A0_0 := z.rd h0_0
 refine Xc (args := [w0_0]) func66 ntmps66 rfl rfl m ?_
 unfold impl_hexText.f
 refine sr (Xa rfl (dn (sr (Xa rfl (dn (sq (sr (mv' w0_0 rfl (ln' A0_0 u23 rfl (Xa rfl (dn (bl (lpI (fun (x2 : (List Int) × Int) e w => ∃ (s : St) (e0 : Env) (vx2_0 : Value), w = s.w ∧ e = upd (upd (upd (upd e0 3 vx2_0) 6 w0_0) 7 (iI (a0.length : Int))) 8 (iI x2.2) ∧ Kp s0 s ∧ OwF Xj s [vx2_0] x2.1 40) ⟨s0, _, (.slice none 0 0), rfl, (ue (ue (ue (ue rfl rfl) rfl) rfl) rfl), kp0, (ow_nil 5 (Kd.int .u8) _ 40)⟩ (fun g2 ih2 => ?_))))))))))))))
 rintro x2 _ _ ⟨s3, _, vx2_0, rfl, rfl, Kx2, Ax2_0⟩
 unfold impl_hexText.b0
 refine sr (Xa rfl (dn (sq (cd rfl (fun h5 => ?_) (fun h5 => ?_)))))
 ·
  refine sk (sq (bl (sr ?_)))
  refine ix' (A0_0.kp Kx2) u23 z5 rfl (fun ad7 es7 h0_7 h1_7 he7 ce7 ia7 => ?_)
  obtain rfl := he7
  refine lc0 ce7 u5 rfl rfl rfl rfl rfl rfl rfl rfl (Xa rfl (dn (zdraw [[], [], [1], [2], [], [4], [5], [3, 6], [0, 7], [8, 8, 0, 1, 2, 3, 4, 5, 6, 7, 8]] [some 12, some 13, some 14, some 15, some 16, some 17, some 18, some 19, some 20, some 3] [[3], [5], [13], [14], [5], [16], [17], [15, 18], [12, 19], [20]] [0, 1, 2, 3, 4, 5, 6, 7, 8, 9] ⟨by kernel_rfl, by kernel_rfl, by kernel_rfl⟩ (by kernel_rfl) (fun s9 p9 l9 tb9 zd9 => ?_))))
  refine mg fun hg13 => (mg fun hg17 => (zstep 7 [some 12] tb9 (((((((zd9.add 0 12 vx2_0 rfl).add 1 13 (.int .u8 (at_ a0 x2.2)) rfl).add 2 14 (.int .u8 (ishr .u8 (at_ a0 x2.2) (4 : Int))) rfl).add 3 15 (.int .u8 (at_ (bts (⟨#[48, 49, 50, 51, 52, 53, 54, 55, 56, 57, 97, 98, 99, 100, 101, 102]⟩ : ByteArray)) (ishr .u8 (at_ a0 x2.2) (4 : Int)))) rfl).add 4 16 (.int .u8 (at_ a0 x2.2)) rfl).add 5 17 (.int .u8 (iand .u8 (at_ a0 x2.2) (15 : Int))) rfl).add 6 18 (.int .u8 (at_ (bts (⟨#[48, 49, 50, 51, 52, 53, 54, 55, 56, 57, 97, 98, 99, 100, 101, 102]⟩ : ByteArray)) (iand .u8 (at_ a0 x2.2) (15 : Int)))) rfl) (Xb (sxi_q u9 hg17 rfl rfl rfl rfl rfl rfl rfl) rfl (Xb (pu_q rfl rfl rfl rfl rfl rfl) rfl (Xb (pu_q rfl rfl rfl rfl rfl rfl) rfl (Xb (sxi_q u9 hg13 rfl rfl rfl rfl rfl rfl rfl) rfl (Xb (shrK_q rfl rfl rfl rfl rfl rfl rfl rfl) rfl (Xb (pu_q rfl rfl rfl rfl rfl rfl) rfl (Xb (mv_q vx2_0 rfl rfl rfl rfl rfl rfl) rfl pq_nil))))))) (by kernel_rfl) rfl (fun l19 e19 zd19 => ?_)))
  refine ltF' (K := (Kd.int .u8)) (cells := [(.int .u8 (at_ (bts (⟨#[48, 49, 50, 51, 52, 53, 54, 55, 56, 57, 97, 98, 99, 100, 101, 102]⟩ : ByteArray)) (ishr .u8 (at_ a0 x2.2) (4 : Int)))), (.int .u8 (at_ (bts (⟨#[48, 49, 50, 51, 52, 53, 54, 55, 56, 57, 97, 98, 99, 100, 101, 102]⟩ : ByteArray)) (iand .u8 (at_ a0 x2.2) (15 : Int))))]) [(at_ (bts (⟨#[48, 49, 50, 51, 52, 53, 54, 55, 56, 57, 97, 98, 99, 100, 101, 102]⟩ : ByteArray)) (ishr .u8 (at_ a0 x2.2) (4 : Int))), (at_ (bts (⟨#[48, 49, 50, 51, 52, 53, 54, 55, 56, 57, 97, 98, 99, 100, 101, 102]⟩ : ByteArray)) (iand .u8 (at_ a0 x2.2) (15 : Int)))] 41 Xg u23 z5 o5 (fun w => (Xh _ _ _)) rfl rfl (fun v20 s20 p20 A20 => ?_)
  refine zdone (L' := [0]) (D' := [1, 2, 4, 5, 3, 6, 7]) zd19 rfl rfl rfl (fun zd22 => ?_)
  refine zfin [8, 9] tb9 zd22 (Xb (mv_q vx2_0 rfl rfl rfl rfl rfl rfl) rfl pq_nil) (by kernel_rfl) (by decide) (apF Xg sl23 (Ax2_0.st (tr2 p9 p20) rfl) A20.rd rfl rfl rfl rfl rfl rfl rfl (fun v24 s24 p24 A24 => ?_))
  refine asg' v24 rfl (dn (ib (rg (Xa rfl (Xa rfl (dn ?_))))))
  exact lb ih2 ⟨s24, _, v24, rfl, (ue (ue (ue (ue rfl rfl) rfl) rfl) rfl), (Kx2.st (tr3 p9 p20 p24) rfl), A24⟩
 exact xt rfl (sgb (sr (mv' vx2_0 rfl (b2s Ax2_0.rd u23 u9 u5 rfl rfl rfl rfl rfl rfl (Xa rfl (dn (re rfl func66 rfl (r_t rfl Xd) rfl ⟨_, rfl, rfl, z.ky Kx2⟩)))))))
def impl_bitsText.f (a0 : Nat) : Option (ByteArray) :=
 ((impl_FloatBits.f a0).bind fun r1 => ((impl_highFirst.f r1).bind fun r3 => ((impl_hexText.f r3).bind fun r6 => (some r6))))
def impl_bitsText.Q (w : World) (F : Nat → Prop) (r : ByteArray) (v : Value) (w' : World) : Prop :=
 v = (.string r) ∧ Ky [] w w'
theorem impl_bitsText.calls (a0 : Nat) (w : World) (F : Nat → Prop) (w0_0 : Value) (h0_0 : Kd.flt.rd w [w0_0] a0 F) (r : ByteArray) (m : impl_bitsText.f a0 = some r) :
  Calls prog 65 #[w0_0] w (RT (impl_bitsText.Q w F) r) := by
 obtain ⟨s0, rfl, kp0, z⟩ := Xi w F
 refine Xc (args := [w0_0]) func65 ntmps65 rfl rfl m ?_
 unfold impl_bitsText.f
 refine sr (Xa rfl (dn (sr (mv' w0_0 rfl (clV 40 rfl func84 rfl (impl_FloatBits.calls a0 s0.w (mm [] s0) w0_0 (Xf (s := s0) (fl_of h0_0))) (fun r1 s2 p2 n2 => ?_))))))
 refine clO 41 rfl func83 rfl (impl_highFirst.calls r1 s2.w (mm [] s2)) (fun r3 v3_0 s4 p4 A3_0 => ?_)
 refine clV 42 rfl func66 rfl (impl_hexText.calls r3 s4.w (mm [41] s4) v3_0 A3_0.rd) (fun r6 s7 p7 n7 => ?_)
 refine Xa rfl (dn ?_)
 exact re rfl func65 rfl (r_t rfl Xd) rfl ⟨_, rfl, rfl, z.ky (kp0.st (tr3 p2 p4 p7) rfl)⟩
def impl_itemText.f (a0 : Item) : Option (ByteArray) :=
 (if (a0.Kind == (1 : Int)) = true then ((strconv_Itoa.f a0.N).bind fun r6 => (if (⟨#[105]⟩ : ByteArray).size + r6.size ≤ Lim then (some ((⟨#[105]⟩ : ByteArray) ++ r6)) else none)) else (if (a0.Kind == (2 : Int)) = true then ((impl_bitsText.f a0.F).bind fun r10 => (if (⟨#[102]⟩ : ByteArray).size + r10.size ≤ Lim then (some ((⟨#[102]⟩ : ByteArray) ++ r10)) else none)) else (if (a0.Kind == (3 : Int)) = true then ((impl_hexText.f a0.T).bind fun r16 => (if (⟨#[116]⟩ : ByteArray).size + r16.size ≤ Lim then (some ((⟨#[116]⟩ : ByteArray) ++ r16)) else none)) else (some (⟨#[45]⟩ : ByteArray)))))
def impl_itemText.Q (w : World) (F : Nat → Prop) (r : ByteArray) (v : Value) (w' : World) : Prop :=
 v = (.string r) ∧ Ky [] w w'
theorem impl_itemText.calls (a0 : Item) (w : World) (F : Nat → Prop) (w0_0 : Value) (w0_1 : Value) (hG : GT.rd w [] () F) (h0_0 : Kd.flt.rd w [w0_0] a0.F F) (h0_1 : Xj.rd w [w0_1] a0.T F) (r : ByteArray) (m : impl_itemText.f a0 = some r) :
  Calls prog 39 #[(.agg #[(iI a0.Kind), (iI a0.N), w0_0, w0_1])] w (RT (impl_itemText.Q w F) r) := by
 obtain ⟨s0, rfl, kp0, z⟩ := Xi w F
 refine Xc (args := [(.agg #[(iI a0.Kind), (iI a0.N), w0_0, w0_1])]) func39 ntmps39 rfl rfl m ?_
 unfold impl_itemText.f
 refine sr (bx (cs := [(iI a0.Kind), (iI a0.N), w0_0, w0_1]) 40 rfl rfl rfl rfl rfl rfl (fun b2 s2 p2 B2 => ?_))
 refine Xa rfl (dn (sq (sr (fa' fa28_0 rfl (ld' B2 u3 rfl (dn (bl (sr (Xa rfl (Xa rfl (dn (cd rfl (fun h4 => ?_) (fun h4 => ?_)))))))))))))
 ·
  refine sr (fa' fa28_1 rfl (ld' B2 u3 rfl ?_))
  have K5 := kp0.st p2 rfl
  refine clV 41 rfl func64 rfl (strconv_Itoa.calls a0.N s2.w (mm [0] s2) ((z.rd hG).kp K5)) (fun r6 s7 p7 n7 => ?_)
  refine sad rfl rfl rfl rfl rfl rfl rfl (Xa rfl (dn ?_))
  exact re rfl func39 rfl (r_t rfl Xd) rfl ⟨_, rfl, rfl, z.ky (K5.st p7 rfl)⟩
 refine sr (Xa rfl (Xa rfl (dn (cd rfl (fun h9 => ?_) (fun h9 => ?_)))))
 ·
  refine sr (fa' fa28_2 rfl (ld' B2 u22 rfl (clV 42 rfl func65 rfl (impl_bitsText.calls a0.F s2.w (mm [] s2) w0_0 (Xf (s := s2) (fl_of h0_0))) (fun r10 s11 p11 n11 => ?_))))
  refine sad rfl rfl rfl rfl rfl rfl rfl (Xa rfl (dn ?_))
  exact re rfl func39 rfl (r_t rfl Xd) rfl ⟨_, rfl, rfl, z.ky (kp0.st (tr2 p2 p11) rfl)⟩
 refine sr (Xa rfl (Xa rfl (dn (cd rfl (fun h13 => ?_) (fun h13 => ?_)))))
 ·
  refine sr (fa' fa28_3 rfl (ld' B2 u23 rfl ?_))
  have K14 := kp0.st p2 rfl
  refine clV 43 rfl func66 rfl (impl_hexText.calls a0.T s2.w (mm [0] s2) w0_1 ((z.rd h0_1).kp K14)) (fun r16 s17 p17 n17 => ?_)
  refine sad rfl rfl rfl rfl rfl rfl rfl (Xa rfl (dn ?_))
  exact re rfl func39 rfl (r_t rfl Xd) rfl ⟨_, rfl, rfl, z.ky (K14.st p17 rfl)⟩
 refine sk (ib (sr (Xa rfl (dn ?_))))
 exact re rfl func39 rfl (r_t rfl Xd) rfl ⟨_, rfl, rfl, z.ky (kp0.st p2 rfl)⟩
def laws_eqByteS.b0 (a0 : (List Int)) (a1 : (List Int)) (x4 : Int) : Option (Int ⊕ Bool) :=
 (if (decide (x4 < (a0.length : Int))) = true then (if 0 ≤ x4 ∧ x4 < (a0.length : Int) then (if 0 ≤ x4 ∧ x4 < (a1.length : Int) then (if ((at_ a0 x4) != (at_ a1 x4)) = true then (some (Sum.inr false)) else (some (Sum.inl (IntKind.wrap .i64 (x4 + (1 : Int)))))) else none) else none) else ((some true).bind fun o => some (Sum.inr o)))
def laws_eqByteS.f (a0 : (List Int)) (a1 : (List Int)) : Option (Bool) :=
 (if ((a0.length : Int) != (a1.length : Int)) = true then (some false) else (iter (laws_eqByteS.b0 a0 a1) (0 : Int)))
def laws_eqByteS.Q (w : World) (F : Nat → Prop) (r : Bool) (v : Value) (w' : World) : Prop :=
 v = (.bool r) ∧ Ky [] w w'
theorem laws_eqByteS.calls (a0 : (List Int)) (a1 : (List Int)) (w : World) (F : Nat → Prop) (w0_0 : Value) (w1_0 : Value) (h0_0 : Xj.rd w [w0_0] a0 F) (h1_0 : Xj.rd w [w1_0] a1 F) (r : Bool) (m : laws_eqByteS.f a0 a1 = some r) :
  Calls prog 11 #[w0_0, w1_0] w (RT (laws_eqByteS.Q w F) r) := by
 obtain ⟨s0, rfl, kp0, z⟩ := Xi w F
 have A0_0 := z.rd h0_0
 have A1_0 := z.rd h1_0
 refine Xc (args := [w0_0, w1_0]) func11 ntmps11 rfl rfl m ?_
 unfold laws_eqByteS.f
 refine sr (Xa rfl (dn (sq (sr (mv' w0_0 rfl (ln' A0_0 u23 rfl (mv' w1_0 rfl (ln' A1_0 u23 rfl (Xa rfl (dn (cd rfl (fun h3 => ?_) (fun h3 => ?_))))))))))))
 ·
  exact sr (Xa rfl (dn (re rfl func11 rfl (r_t rfl Xd) rfl ⟨_, rfl, rfl, z.ky kp0⟩)))
 refine sk (sq (sr (Xa rfl (dn (bl (lpI (fun (x4 : Int) e w => ∃ (s : St) (e0 : Env), w = s.w ∧ e = upd (upd (upd e0 0 w0_0) 1 w1_0) 5 (iI x4) ∧ Kp s0 s) ⟨s0, _, rfl, (ue (ue (ue rfl rfl) rfl) rfl), kp0⟩ (fun g4 ih4 => ?_)))))))
 rintro x4 _ _ ⟨s5, _, rfl, rfl, Kx4⟩
 unfold laws_eqByteS.b0
 refine sq (sr (Xa rfl (mv' w0_0 rfl ?_)))
 refine ln' (A0_0.kp Kx4) u23 rfl (Xa rfl (dn (cd rfl (fun h7 => ?_) (fun h7 => ?_))))
 ·
  refine sk (sq (bl (sq (zdraw [[], [], [0, 1], [2], [], [], [4, 5], [6], [3, 7]] [some 17, some 18, some 19, some 20, some 21, some 22, some 23, some 24, some 25] [[0], [5], [17, 18], [19], [1], [5], [21, 22], [23], [20, 24]] [0, 1, 2, 3, 4, 5, 6, 7, 8] ⟨by kernel_rfl, by kernel_rfl, by kernel_rfl⟩ (by kernel_rfl) (fun s8 p8 l8 tb8 zd8 => ?_)))))
  have K11 := Kx4.st p8 rfl
  have A12 := A0_0.kp K11
  refine mg fun hg13 => ?_
  obtain ⟨ad13, es13, he13, ce13, ia13⟩ := ix_e A12 rfl hg13.1 hg13.2
  obtain rfl := he13
  have A19 := A1_0.kp K11
  refine mg fun hg20 => ?_
  obtain ⟨ad20, es20, he20, ce20, ia20⟩ := ix_e A19 rfl hg20.1 hg20.2
  obtain rfl := he20
  refine zfin [8] tb8 ((((((((zd8.add 0 17 w0_0 rfl).add 1 18 (iI x4) rfl).add 2 19 (.pointer (some ad13)) rfl).add 3 20 (.int .u8 (at_ a0 x4)) rfl).add 4 21 w1_0 rfl).add 5 22 (iI x4) rfl).add 6 23 (.pointer (some ad20)) rfl).add 7 24 (.int .u8 (at_ a1 x4)) rfl) (Xb (lc0_q ce20 u5 rfl rfl rfl rfl rfl rfl rfl rfl) rfl (Xb (ix_q A19 u23 z5 hg20.1 hg20.2 ia20 rfl rfl rfl rfl rfl rfl rfl) rfl (Xb (pu_q rfl rfl rfl rfl rfl rfl) rfl (Xb (mv_q w1_0 rfl rfl rfl rfl rfl rfl) rfl (Xb (lc0_q ce13 u5 rfl rfl rfl rfl rfl rfl rfl rfl) rfl (Xb (ix_q A12 u23 z5 hg13.1 hg13.2 ia13 rfl rfl rfl rfl rfl rfl rfl) rfl (Xb (pu_q rfl rfl rfl rfl rfl rfl) rfl (Xb (mv_q w0_0 rfl rfl rfl rfl rfl rfl) rfl pq_nil)))))))) (by kernel_rfl) (by decide) (Xa rfl (dn (cd rfl (fun h24 => ?_) (fun h24 => ?_))))
  ·
   exact sr (Xa rfl (dn (sgi (re rfl func11 rfl (r_t rfl Xd) rfl ⟨_, rfl, rfl, z.ky K11⟩))))
  exact sk (ib (rg (Xa rfl (Xa rfl (Xa rfl (dn (lb ih4 ⟨s8, _, rfl, (ue (ue (ue rfl rfl) rfl) rfl), K11⟩)))))))
 exact xt rfl (sgb (sr (Xa rfl (dn (re rfl func11 rfl (r_t rfl Xd) rfl ⟨_, rfl, rfl, z.ky Kx4⟩)))))
def laws_sameFloat.f (a0 : Nat) (a1 : Nat) : Option (Bool) :=
 (if ((fcmp .f64 a0 a0 != some .eq) || (fcmp .f64 a1 a1 != some .eq)) = true then (some ((fcmp .f64 a0 a0 != some .eq) && (fcmp .f64 a1 a1 != some .eq))) else (if ((fcmp .f64 a0 (0 : Nat) == some .eq) && (fcmp .f64 a1 (0 : Nat) == some .eq)) = true then (some ((fcmp .f64 (far .quo (4607182418800017408 : Nat) a0) (0 : Nat) == some .gt) == (fcmp .f64 (far .quo (4607182418800017408 : Nat) a1) (0 : Nat) == some .gt))) else (some (fcmp .f64 a0 a1 == some .eq))))
def laws_sameFloat.Q (w : World) (F : Nat → Prop) (r : Bool) (v : Value) (w' : World) : Prop :=
 v = (.bool r) ∧ Ky [] w w'
theorem laws_sameFloat.calls (a0 : Nat) (a1 : Nat) (w : World) (F : Nat → Prop) (w0_0 : Value) (w1_0 : Value) (h0_0 : Kd.flt.rd w [w0_0] a0 F) (h1_0 : Kd.flt.rd w [w1_0] a1 F) (r : Bool) (m : laws_sameFloat.f a0 a1 = some r) :
  Calls prog 40 #[w0_0, w1_0] w (RT (laws_sameFloat.Q w F) r) := by
 obtain ⟨s0, rfl, kp0, z⟩ := Xi w F
 have A0_0 := fl_of h0_0
 have A1_0 := fl_of h1_0
 refine Xc (args := [w0_0, w1_0]) func40 ntmps40 rfl rfl m ?_
 unfold laws_sameFloat.f
 refine sr (Xa rfl (dn (sq (sr (mv' w0_0 rfl (mv' w0_0 rfl (fq_' A0_0 A0_0 rfl (Xa rfl (jy [8, 9, 10, 11, 12] [] 12 (.bool ((fcmp .f64 a0 a0 != some .eq) || (fcmp .f64 a1 a1 != some .eq))) rfl (fun Kg1 => ?_) (fun j1 => ?_))))))))))
 ·
  rcases bft (fcmp .f64 a0 a0 != some .eq) with hb1 | hb1
  ·
   exact sbT hb1 (uw' rfl (uw' rfl (uw' rfl (Xa rfl (Kg1 _ (Ag.put ((Ag.put ((Ag.put ((Ag.put (Ag.base rfl) rfl)) rfl)) rfl)) rfl) (by rw [hb1]; rfl))))))
  exact sbT hb1 (mv' w1_0 rfl (mv' w1_0 rfl (fq_' A1_0 A1_0 rfl (Xa rfl (Kg1 _ (Ag.put ((Ag.put ((Ag.put ((Ag.put (Ag.base rfl) rfl)) rfl)) rfl)) rfl) (by rw [hb1]; rfl))))))
 refine dn (cd rfl (fun h2 => ?_) (fun h2 => ?_))
 ·
  refine sr (mv' w0_0 rfl (mv' w0_0 rfl (fq_' A0_0 A0_0 rfl (Xa rfl (jy [16, 17, 18, 19, 20] [8] 20 (.bool ((fcmp .f64 a0 a0 != some .eq) && (fcmp .f64 a1 a1 != some .eq))) rfl (fun Kg3 => ?_) (fun j3 => ?_))))))
  ·
   rcases bft (fcmp .f64 a0 a0 != some .eq) with hb3 | hb3
   ·
    exact sbT hb3 (mv' w1_0 rfl (mv' w1_0 rfl (fq_' A1_0 A1_0 rfl (Xa rfl (Kg3 _ (Ag.put ((Ag.put ((Ag.put ((Ag.put (Ag.base rfl) rfl)) rfl)) rfl)) rfl) (by rw [hb3]; rfl))))))
   exact sbT hb3 (uw' rfl (uw' rfl (uw' rfl (Xa rfl (Kg3 _ (Ag.put ((Ag.put ((Ag.put ((Ag.put (Ag.base rfl) rfl)) rfl)) rfl)) rfl) (by rw [hb3]; rfl))))))
  exact Xa rfl (dn (re rfl func40 rfl (r_t rfl Xd) rfl ⟨_, rfl, rfl, z.ky kp0⟩))
 refine sk (sq (sr (mv' w0_0 rfl (fq_' A0_0 (fl_c rfl) rfl (Xa rfl (jy [23, 24, 25, 26] [] 26 (.bool ((fcmp .f64 a0 (0 : Nat) == some .eq) && (fcmp .f64 a1 (0 : Nat) == some .eq))) rfl (fun Kg4 => ?_) (fun j4 => ?_)))))))
 ·
  rcases bft (fcmp .f64 a0 (0 : Nat) == some .eq) with hb4 | hb4
  ·
   exact sbT hb4 (mv' w1_0 rfl (fq_' A1_0 (fl_c rfl) rfl (Xa rfl (Kg4 _ (Ag.put ((Ag.put ((Ag.put (Ag.base rfl) rfl)) rfl)) rfl) (by rw [hb4]; rfl)))))
  exact sbT hb4 (uw' rfl (uw' rfl (Xa rfl (Kg4 _ (Ag.put ((Ag.put ((Ag.put (Ag.base rfl) rfl)) rfl)) rfl) (by rw [hb4]; rfl)))))
 refine dn (cd rfl (fun h5 => ?_) (fun h5 => ?_))
 ·
  refine sr (mv' w0_0 rfl (fa_ (fl_c rfl) A0_0 (by simp) rfl rfl rfl rfl rfl rfl rfl (fun v6 s6 p6 A6 => ?_)))
  refine fq_' A6 (fl_c rfl) rfl (mv' w1_0 rfl (fa_ (fl_c rfl) A1_0 (by simp) rfl rfl rfl rfl rfl rfl rfl (fun v7 s7 p7 A7 => ?_)))
  refine fq_' A7 (fl_c rfl) rfl (beq_ u4 rfl rfl rfl rfl rfl rfl rfl (Xa rfl (dn ?_)))
  exact re rfl func40 rfl (r_t rfl Xd) rfl ⟨_, rfl, rfl, z.ky (kp0.st (tr2 p6 p7) rfl)⟩
 exact sk (sr (mv' w0_0 rfl (mv' w1_0 rfl (fq_' A0_0 A1_0 rfl (Xa rfl (dn (re rfl func40 rfl (r_t rfl Xd) rfl ⟨_, rfl, rfl, z.ky kp0⟩)))))))
def laws_eqItem.f (a0 : Item) (a1 : Item) : Option (Bool) :=
 (if (a0.Kind != a1.Kind) = true then (some false) else (if (a0.N != a1.N) = true then (some false) else ((laws_sameFloat.f a0.F a1.F).bind fun r12 => (if (!r12) = true then (some false) else ((laws_eqByteS.f a0.T a1.T).bind fun r21 => (if (!r21) = true then (some false) else (some true)))))))
def laws_eqItem.Q (w : World) (F : Nat → Prop) (r : Bool) (v : Value) (w' : World) : Prop :=
 v = (.bool r) ∧ Ky [] w w'
theorem laws_eqItem.calls (a0 : Item) (a1 : Item) (w : World) (F : Nat → Prop) (w0_0 : Value) (w0_1 : Value) (w1_0 : Value) (w1_1 : Value) (h0_0 : Kd.flt.rd w [w0_0] a0.F F) (h0_1 : Xj.rd w [w0_1] a0.T F) (h1_0 : Kd.flt.rd w [w1_0] a1.F F) (h1_1 : Xj.rd w [w1_1] a1.T F) (r : Bool) (m : laws_eqItem.f a0 a1 = some r) :
  Calls prog 12 #[(.agg #[(iI a0.Kind), (iI a0.N), w0_0, w0_1]), (.agg #[(iI a1.Kind), (iI a1.N), w1_0, w1_1])] w (RT (laws_eqItem.Q w F) r) := by
 obtain ⟨s0, rfl, kp0, z⟩ := Xi w F
 refine Xc (args := [(.agg #[(iI a0.Kind), (iI a0.N), w0_0, w0_1]), (.agg #[(iI a1.Kind), (iI a1.N), w1_0, w1_1])]) func12 ntmps12 rfl rfl m ?_
 unfold laws_eqItem.f
 refine sr (bx (cs := [(iI a0.Kind), (iI a0.N), w0_0, w0_1]) 40 rfl rfl rfl rfl rfl rfl (fun b3 s3 p3 B3 => ?_))
 refine bx (cs := [(iI a1.Kind), (iI a1.N), w1_0, w1_1]) 41 rfl rfl rfl rfl rfl rfl (fun b5 s5 p5 B5 => ?_)
 refine Xa rfl (dn (sq (sr (fa' fa28_0 rfl ?_))))
 have A7 := B3.st p5 rfl
 refine ld' A7 u3 rfl (fa' fa28_0 rfl (ld' B5 u3 rfl (Xa rfl (dn (cd rfl (fun h8 => ?_) (fun h8 => ?_))))))
 ·
  refine sr (Xa rfl (dn ?_))
  exact re rfl func12 rfl (r_t rfl Xd) rfl ⟨_, rfl, rfl, z.ky (kp0.st (tr2 p3 p5) rfl)⟩
 refine sk (sq (sr (fa' fa28_1 rfl (ld' A7 u3 rfl (fa' fa28_1 rfl (ld' B5 u3 rfl (Xa rfl (dn (cd rfl (fun h10 => ?_) (fun h10 => ?_))))))))))
 ·
  refine sr (Xa rfl (dn ?_))
  exact re rfl func12 rfl (r_t rfl Xd) rfl ⟨_, rfl, rfl, z.ky (kp0.st (tr2 p3 p5) rfl)⟩
 refine sk (sq (sr (fa' fa28_2 rfl (ld' A7 u22 rfl (fa' fa28_2 rfl (ld' B5 u22 rfl (clV 42 rfl func40 rfl (laws_sameFloat.calls a0.F a1.F s5.w (mm [] s5) w0_0 w1_0 (Xf (s := s5) (fl_of h0_0)) (Xf (s := s5) (fl_of h1_0))) (fun r12 s13 p13 n13 => ?_))))))))
 refine Xa rfl (dn (cd rfl (fun h14 => ?_) (fun h14 => ?_)))
 ·
  refine sr (Xa rfl (dn ?_))
  exact re rfl func12 rfl (r_t rfl Xd) rfl ⟨_, rfl, rfl, z.ky (kp0.st (tr3 p3 p5 p13) rfl)⟩
 refine sk (sq (sr (fa' fa28_3 rfl ?_)))
 refine ld' (A7.st p13 rfl) u23 rfl (fa' fa28_3 rfl ?_)
 refine ld' (B5.st p13 rfl) u23 rfl ?_
 have K18 := kp0.st (tr3 p3 p5 p13) rfl
 refine clV 43 rfl func11 rfl (laws_eqByteS.calls a0.T a1.T s13.w (mm [0] s13) w0_1 w1_1 ((z.rd h0_1).kp K18) ((z.rd h1_1).kp K18)) (fun r21 s22 p22 n22 => ?_)
 refine Xa rfl (dn (cd rfl (fun h23 => ?_) (fun h23 => ?_)))
 ·
  refine sr (Xa rfl (dn ?_))
  exact re rfl func12 rfl (r_t rfl Xd) rfl ⟨_, rfl, rfl, z.ky (K18.st p22 rfl)⟩
 refine sk (sr (Xa rfl (dn ?_)))
 exact re rfl func12 rfl (r_t rfl Xd) rfl ⟨_, rfl, rfl, z.ky (K18.st p22 rfl)⟩
def laws_markByteS.b0  (x2 : (List Int) × Int × Int) : Option (((List Int) × Int × Int) ⊕ (Int × (List Int))) :=
 (if (decide (x2.2.2 < (x2.1.length : Int))) = true then (if 0 ≤ x2.2.2 ∧ x2.2.2 < (x2.1.length : Int) then (some (Sum.inl ((x2.1.set (x2.2.2).toNat (IntKind.wrap .u8 x2.2.1)), (IntKind.wrap .i64 (x2.2.1 + (1 : Int))), (IntKind.wrap .i64 (x2.2.2 + (1 : Int)))))) else none) else ((some (x2.2.1, x2.1)).bind fun o => some (Sum.inr o)))
def laws_markByteS.f (a0 : (List Int)) (a1 : Int) : Option (Int × (List Int)) :=
 (iter laws_markByteS.b0 (a0, a1, (0 : Int)))
def laws_markByteS.Q (w : World) (F : Nat → Prop) (os : List Nat) (w0_0 : Value) (r : Int × (List Int)) (v : Value) (w' : World) : Prop :=
 v = (iI r.1) ∧ FW Xj os w w' [w0_0] r.2 ∧ Ky os w w'
theorem laws_markByteS.calls (a0 : (List Int)) (a1 : Int) (w : World) (F : Nat → Prop) (w0_0 : Value) (os : List Nat) (h0_0 : Xj.ow w [w0_0] a0 os) (hn : os.Nodup) (hF : ∀ b, F b → b ∉ os) (r : Int × (List Int)) (m : laws_markByteS.f a0 a1 = some r) :
  Calls prog 14 #[w0_0, (iI a1)] w (RT (laws_markByteS.Q w F os w0_0) r) := by
 obtain ⟨s0, rfl, kp0, z⟩ := start1 w F os hF
 refine Xc (args := [w0_0, (iI a1)]) func14 ntmps14 rfl rfl m ?_
 unfold laws_markByteS.f
 refine sr (Xa rfl (dn (sq (sr (Xa rfl (dn (bl (lpI (fun (x2 : (List Int) × Int × Int) e w => ∃ (s : St) (e0 : Env), w = s.w ∧ e = upd (upd (upd e0 0 w0_0) 1 (iI x2.2.1)) 5 (iI x2.2.2) ∧ Kp s0 s ∧ OwF Xj s [w0_0] x2.1 2) ⟨s0, _, rfl, (ue (ue (ue rfl rfl) rfl) rfl), kp0, (z.ow h0_0 hn)⟩ (fun g2 ih2 => ?_)))))))))
 rintro x2 _ _ ⟨s3, _, rfl, rfl, Kx2, Ax2_0⟩
 unfold laws_markByteS.b0
 refine sq (sr (Xa rfl (mv' w0_0 rfl (ln' Ax2_0.rd u23 rfl (Xa rfl (dn (cd rfl (fun h5 => ?_) (fun h5 => ?_))))))))
 ·
  refine sk (sq (bl (sr (mv' w0_0 rfl (Xa rfl (Xa rfl (cv u5 u3 rfl rfl rfl rfl rfl rfl (ix' Ax2_0.rd u23 z5 rfl (fun ad6 es6 h0_6 h1_6 he6 ce6 ia6 => ?_)))))))))
  obtain rfl := he6
  refine so (x' := (IntKind.wrap .u8 x2.2.1)) Ax2_0 ia6 h0_6 h1_6 cs_flat z5 rfl rfl rfl rfl rfl rfl (fun s8 p8 A8 => ?_)
  refine dn (rg (Xa rfl (Xa rfl (Xa rfl (dn (ib (rg (Xa rfl (Xa rfl (Xa rfl (dn ?_)))))))))))
  exact lb ih2 ⟨s8, _, rfl, (ue (ue (ue rfl rfl) rfl) rfl), (Kx2.st p8 rfl), A8⟩
 exact xt rfl (sgb (sr (Xa rfl (Xa rfl (dn (re rfl func14 rfl (r_t rfl Xd) rfl ⟨_, rfl, rfl, z.fw Kx2 Ax2_0, z.ky Kx2⟩))))))
def laws_markItem.f (a0 : Item) (a1 : Int) : Option (Int × (List Int)) :=
 ((laws_markByteS.f a0.T a1).bind fun r4 => (some (r4.1, r4.2)))
def laws_markItem.Q (w : World) (F : Nat → Prop) (os : List Nat) (w0_1 : Value) (r : Int × (List Int)) (v : Value) (w' : World) : Prop :=
 v = (iI r.1) ∧ FW Xj os w w' [w0_1] r.2 ∧ Ky os w w'
theorem laws_markItem.calls (a0 : Item) (a1 : Int) (w : World) (F : Nat → Prop) (w0_0 : Value) (w0_1 : Value) (h0_0 : Kd.flt.rd w [w0_0] a0.F F) (os : List Nat) (h0_1 : Xj.ow w [w0_1] a0.T os) (hn : os.Nodup) (hF : ∀ b, F b → b ∉ os) (r : Int × (List Int)) (m : laws_markItem.f a0 a1 = some r) :
  Calls prog 13 #[(.agg #[(iI a0.Kind), (iI a0.N), w0_0, w0_1]), (iI a1)] w (RT (laws_markItem.Q w F os w0_1) r) := by
 obtain ⟨s0, rfl, kp0, z⟩ := start1 w F os hF
 refine Xc (args := [(.agg #[(iI a0.Kind), (iI a0.N), w0_0, w0_1]), (iI a1)]) func13 ntmps13 rfl rfl m ?_
 unfold laws_markItem.f
 refine sr (bx (cs := [(iI a0.Kind), (iI a0.N), w0_0, w0_1]) 40 rfl rfl rfl rfl rfl rfl (fun b2 s2 p2 B2 => ?_))
 refine Xa rfl (dn (sr (fa' fa28_3 rfl (ld' B2 u23 rfl (Xa rfl ?_)))))
 obtain ⟨os4, ho4, hn4, hc4⟩ := (z.ow h0_1 hn).st p2 rfl
 refine cl' rfl func14 rfl (laws_markByteS.calls a0.T a1 s2.w (mm [] s2) w0_1 os4 ho4 hn4 (apart_of hc4 rfl)) ?_
 rintro r4 _ w4 m4 ⟨rfl, w4_, ky4⟩
 obtain ⟨s6, rfl, p6, A6⟩ := nwo 41 hc4 ky4 w4_
 refine Xa rfl (dn (sr (Xa rfl (Xa rfl (dn ?_)))))
 have K8 := kp0.st (tr2 p2 p6) rfl
 exact re rfl func13 rfl (r_t rfl Xd) rfl ⟨_, rfl, rfl, z.fw K8 A6, z.ky K8⟩
def laws_heldByteS.b0 (a0 : (List Int)) (x2 : Int × Int) : Option ((Int × Int) ⊕ Int) :=
 (if (decide (x2.2 < (a0.length : Int))) = true then (if 0 ≤ x2.2 ∧ x2.2 < (a0.length : Int) then (if ((at_ a0 x2.2) != (IntKind.wrap .u8 x2.1)) = true then (some (Sum.inr (-1 : Int))) else (some (Sum.inl ((IntKind.wrap .i64 (x2.1 + (1 : Int))), (IntKind.wrap .i64 (x2.2 + (1 : Int))))))) else none) else ((some x2.1).bind fun o => some (Sum.inr o)))
def laws_heldByteS.f (a0 : (List Int)) (a1 : Int) : Option (Int) :=
 (iter (laws_heldByteS.b0 a0) (a1, (0 : Int)))
def laws_heldByteS.Q (w : World) (F : Nat → Prop) (r : Int) (v : Value) (w' : World) : Prop :=
 v = (iI r) ∧ Ky [] w w'
theorem laws_heldByteS.calls (a0 : (List Int)) (a1 : Int) (w : World) (F : Nat → Prop) (w0_0 : Value) (h0_0 : Xj.rd w [w0_0] a0 F) (r : Int) (m : laws_heldByteS.f a0 a1 = some r) :
  Calls prog 15 #[w0_0, (iI a1)] w (RT (laws_heldByteS.Q w F) r) := by
 obtain ⟨s0, rfl, kp0, z⟩ := Xi w F
 refine Xc (args := [w0_0, (iI a1)]) func15 ntmps15 rfl rfl m ?_
 unfold laws_heldByteS.f
 refine sr (Xa rfl (dn (sq (sr (Xa rfl (dn (bl (lpI (fun (x2 : Int × Int) e w => ∃ (s : St) (e0 : Env), w = s.w ∧ e = upd (upd (upd e0 0 w0_0) 1 (iI x2.1)) 5 (iI x2.2) ∧ Kp s0 s) ⟨s0, _, rfl, (ue (ue (ue rfl rfl) rfl) rfl), kp0⟩ (fun g2 ih2 => ?_)))))))))
 rintro x2 _ _ ⟨s3, _, rfl, rfl, Kx2⟩
 unfold laws_heldByteS.b0
 refine sq (sr (Xa rfl (mv' w0_0 rfl ?_)))
 have A4 := (z.rd h0_0).kp Kx2
 refine ln' A4 u23 rfl (Xa rfl (dn (cd rfl (fun h5 => ?_) (fun h5 => ?_))))
 ·
  refine sk (sq (bl (sq (sr (mv' w0_0 rfl (Xa rfl (ix' A4 u23 z5 rfl (fun ad6 es6 h0_6 h1_6 he6 ce6 ia6 => ?_))))))))
  obtain rfl := he6
  refine lc0 ce6 u5 rfl rfl rfl rfl rfl rfl rfl rfl (Xa rfl (cv u5 u3 rfl rfl rfl rfl rfl rfl (Xa rfl (dn (cd rfl (fun h8 => ?_) (fun h8 => ?_))))))
  ·
   exact sr (Xa rfl (dn (sgi (re rfl func15 rfl (r_t rfl Xd) rfl ⟨_, rfl, rfl, z.ky Kx2⟩))))
  exact sk (rg (Xa rfl (Xa rfl (Xa rfl (dn (ib (rg (Xa rfl (Xa rfl (Xa rfl (dn (lb ih2 ⟨s3, _, rfl, (ue (ue (ue rfl rfl) rfl) rfl), Kx2⟩))))))))))))
 exact xt rfl (sgb (sr (Xa rfl (Xa rfl (dn (re rfl func15 rfl (r_t rfl Xd) rfl ⟨_, rfl, rfl, z.ky Kx2⟩))))))
def laws_szPair.f (a0 : Pair) (a1 : Int) : Option (Int) :=
 ((laws_szItem.f a0.Key a1).bind fun r7 => (if (decide (r7 < (0 : Int))) = true then (some (-1 : Int)) else ((laws_szItem.f a0.Value r7).bind fun r14 => (if (decide (r14 < (0 : Int))) = true then (some (-1 : Int)) else (some r14)))))
def laws_szPair.Q (w : World) (F : Nat → Prop) (r : Int) (v : Value) (w' : World) : Prop :=
 v = (iI r) ∧ Ky [] w w'
theorem laws_szPair.calls (a0 : Pair) (a1 : Int) (w : World) (F : Nat → Prop) (w0_0 : Value) (w0_1 : Value) (w0_2 : Value) (w0_3 : Value) (h0_0 : Kd.flt.rd w [w0_0] a0.Key.F F) (h0_1 : Xj.rd w [w0_1] a0.Key.T F) (h0_2 : Kd.flt.rd w [w0_2] a0.Value.F F) (h0_3 : Xj.rd w [w0_3] a0.Value.T F) (r : Int) (m : laws_szPair.f a0 a1 = some r) :
  Calls prog 67 #[(.agg #[(iI a0.Key.Kind), (iI a0.Key.N), w0_0, w0_1, (iI a0.Value.Kind), (iI a0.Value.N), w0_2, w0_3]), (iI a1)] w (RT (laws_szPair.Q w F) r) := by
 obtain ⟨s0, rfl, kp0, z⟩ := Xi w F
 refine Xc (args := [(.agg #[(iI a0.Key.Kind), (iI a0.Key.N), w0_0, w0_1, (iI a0.Value.Kind), (iI a0.Value.N), w0_2, w0_3]), (iI a1)]) func67 ntmps67 rfl rfl m ?_
 unfold laws_szPair.f
 refine sr (bx (cs := [(iI a0.Key.Kind), (iI a0.Key.N), w0_0, w0_1, (iI a0.Value.Kind), (iI a0.Value.N), w0_2, w0_3]) 40 rfl rfl rfl rfl rfl rfl (fun b3 s3 p3 B3 => ?_))
 refine Xa rfl (dn (sr (fa' fa98_0 rfl (lda' (es := [(iI a0.Key.Kind), (iI a0.Key.N), w0_0, w0_1]) B3 u25 z25 rfl (Xa rfl ?_)))))
 have K5 := kp0.st p3 rfl
 refine clV 41 rfl func7 rfl (laws_szItem.calls a0.Key a1 s3.w (mm [0] s3) w0_0 w0_1 ((Xf (s := s3) (fl_of h0_0)).sub (D := [0]) rfl) ((z.rd h0_1).kp K5)) (fun r7 s8 p8 n8 => ?_)
 refine Xa rfl (dn (sq (sr (Xa rfl (Xa rfl (dn (cd rfl (fun h9 => ?_) (fun h9 => ?_))))))))
 ·
  refine sr (Xa rfl (dn ?_))
  exact re rfl func67 rfl (r_t rfl Xd) rfl ⟨_, rfl, rfl, z.ky (K5.st p8 rfl)⟩
 refine sk (sr (fa' fa98_1 rfl ?_))
 refine lda' (es := [(iI a0.Value.Kind), (iI a0.Value.N), w0_2, w0_3]) (B3.st p8 rfl) u25 z25 rfl (Xa rfl ?_)
 have K12 := K5.st p8 rfl
 refine clV 42 rfl func7 rfl (laws_szItem.calls a0.Value r7 s8.w (mm [0] s8) w0_2 w0_3 ((Xf (s := s8) (fl_of h0_2)).sub (D := [0]) rfl) ((z.rd h0_3).kp K12)) (fun r14 s15 p15 n15 => ?_)
 refine Xa rfl (dn (sq (sr (Xa rfl (Xa rfl (dn (cd rfl (fun h16 => ?_) (fun h16 => ?_))))))))
 ·
  refine sr (Xa rfl (dn ?_))
  exact re rfl func67 rfl (r_t rfl Xd) rfl ⟨_, rfl, rfl, z.ky (K12.st p15 rfl)⟩
 refine sk (sr (Xa rfl (Xa rfl (dn ?_))))
 exact re rfl func67 rfl (r_t rfl Xd) rfl ⟨_, rfl, rfl, z.ky (K12.st p15 rfl)⟩
def laws_szPairS.b0 (a0 : (List Pair)) (x3 : Int × Int) : Option ((Int × Int) ⊕ Int) :=
 (if (decide (x3.2 < (a0.length : Int))) = true then (if 0 ≤ x3.2 ∧ x3.2 < (a0.length : Int) then ((laws_szPair.f (Pair.mk ((at_ a0 x3.2).Key) ((at_ a0 x3.2).Value)) x3.1).bind fun r11 => (if (decide (r11 < (0 : Int))) = true then (some (Sum.inr (-1 : Int))) else (some (Sum.inl (r11, (IntKind.wrap .i64 (x3.2 + (1 : Int)))))))) else none) else ((some x3.1).bind fun o => some (Sum.inr o)))
def laws_szPairS.f (a0 : (List Pair)) (a1 : Int) : Option (Int) :=
 (if (decide ((IntKind.wrap .i64 (a1 - (a0.length : Int))) < (0 : Int))) = true then (some (-1 : Int)) else (iter (laws_szPairS.b0 a0) ((IntKind.wrap .i64 (a1 - (a0.length : Int))), (0 : Int))))
def laws_szPairS.Q (w : World) (F : Nat → Prop) (r : Int) (v : Value) (w' : World) : Prop :=
 v = (iI r) ∧ Ky [] w w'
theorem laws_szPairS.calls (a0 : (List Pair)) (a1 : Int) (w : World) (F : Nat → Prop) (w0_0 : Value) (h0_0 : (Kd.sl 98 kd98).rd w [w0_0] a0 F) (r : Int) (m : laws_szPairS.f a0 a1 = some r) :
  Calls prog 41 #[w0_0, (iI a1)] w (RT (laws_szPairS.Q w F) r) := by
 obtain ⟨s0, rfl, kp0, z⟩ := Xi w F
 have A0_0 := z.rd h0_0
 refine Xc (args := [w0_0, (iI a1)]) func41 ntmps41 rfl rfl m ?_
 unfold laws_szPairS.f
 refine sr (Xa rfl (dn (sr (Xa rfl (mv' w0_0 rfl (ln' A0_0 u35 rfl (Xa rfl (Xa rfl (dn (sq (sr (Xa rfl (Xa rfl (dn ?_))))))))))))))
 refine cd rfl (fun h2 => ?_) (fun h2 => ?_)
 ·
  exact sr (Xa rfl (dn (re rfl func41 rfl (r_t rfl Xd) rfl ⟨_, rfl, rfl, z.ky kp0⟩)))
 refine sk (sq (sr (Xa rfl (dn (bl (lpI (fun (x3 : Int × Int) e w => ∃ (s : St) (e0 : Env), w = s.w ∧ e = upd (upd (upd e0 0 w0_0) 1 (iI x3.1)) 5 (iI x3.2) ∧ Kp s0 s) ⟨s0, _, rfl, (ue (ue (ue rfl rfl) rfl) rfl), kp0⟩ (fun g3 ih3 => ?_)))))))
 rintro x3 _ _ ⟨s4, _, rfl, rfl, Kx3⟩
 unfold laws_szPairS.b0
 refine sq (sr (Xa rfl (mv' w0_0 rfl ?_)))
 have A5 := A0_0.kp Kx3
 refine ln' A5 u35 rfl (Xa rfl (dn (cd rfl (fun h6 => ?_) (fun h6 => ?_))))
 ·
  refine sk (sq (bl (sr (mv' w0_0 rfl (Xa rfl (ix' A5 u35 z98 rfl (fun ad7 es7 h0_7 h1_7 he7 ce7 ia7 => ?_)))))))
  obtain ⟨v7_0, v7_1, v7_2, v7_3, rfl, A7_0, A7_1, A7_2, A7_3⟩ := op98 he7
  refine lca ce7 u98 z98 rfl rfl rfl rfl rfl rfl rfl (Xa rfl (clV 40 rfl func67 rfl (laws_szPair.calls (Pair.mk ((at_ a0 x3.2).Key) ((at_ a0 x3.2).Value)) x3.1 s4.w (mm [0] s4) v7_0 v7_1 v7_2 v7_3 ((Xf (s := s4) A7_0).sub (D := [0]) rfl) A7_1 ((Xf (s := s4) A7_2).sub (D := [0]) rfl) A7_3) (fun r11 s12 p12 n12 => ?_)))
  refine Xa rfl (dn (sr (Xa rfl (Xa rfl (dn (cd rfl (fun h13 => ?_) (fun h13 => ?_)))))))
  ·
   refine sr (Xa rfl (dn (sgi ?_)))
   exact re rfl func41 rfl (r_t rfl Xd) rfl ⟨_, rfl, rfl, z.ky (Kx3.st p12 rfl)⟩
  refine sk (ib (rg (Xa rfl (Xa rfl (Xa rfl (dn ?_))))))
  exact lb ih3 ⟨s12, _, rfl, (ue (ue (ue rfl rfl) rfl) rfl), (Kx3.st p12 rfl)⟩
 exact xt rfl (sgb (sr (Xa rfl (Xa rfl (dn (re rfl func41 rfl (r_t rfl Xd) rfl ⟨_, rfl, rfl, z.ky Kx3⟩))))))
def laws_szReply.f (a0 : Reply) (a1 : Int) : Option (Int) :=
 ((laws_szItem.f a0.Value a1).bind fun r7 => (if (decide (r7 < (0 : Int))) = true then (some (-1 : Int)) else ((laws_szPairS.f a0.Rows r7).bind fun r14 => (if (decide (r14 < (0 : Int))) = true then (some (-1 : Int)) else (some r14)))))
def laws_szReply.Q (w : World) (F : Nat → Prop) (r : Int) (v : Value) (w' : World) : Prop :=
 v = (iI r) ∧ Ky [] w w'
theorem laws_szReply.calls (a0 : Reply) (a1 : Int) (w : World) (F : Nat → Prop) (w0_0 : Value) (w0_1 : Value) (w0_2 : Value) (w0_3 : Value) (h0_0 : Kd.flt.rd w [w0_0] a0.Value.F F) (h0_1 : Xj.rd w [w0_1] a0.Value.T F) (h0_2 : (Kd.sl 98 kd98).rd w [w0_2] a0.Rows F) (h0_3 : Kd.flt.rd w [w0_3] a0.Total F) (r : Int) (m : laws_szReply.f a0 a1 = some r) :
  Calls prog 16 #[(.agg #[(iI a0.Seat), (iI a0.Kind), (iI a0.Code), (iI a0.N), (iI a0.Value.Kind), (iI a0.Value.N), w0_0, w0_1, w0_2, w0_3]), (iI a1)] w (RT (laws_szReply.Q w F) r) := by
 obtain ⟨s0, rfl, kp0, z⟩ := Xi w F
 refine Xc (args := [(.agg #[(iI a0.Seat), (iI a0.Kind), (iI a0.Code), (iI a0.N), (iI a0.Value.Kind), (iI a0.Value.N), w0_0, w0_1, w0_2, w0_3]), (iI a1)]) func16 ntmps16 rfl rfl m ?_
 unfold laws_szReply.f
 refine sr (bx (cs := [(iI a0.Seat), (iI a0.Kind), (iI a0.Code), (iI a0.N), (iI a0.Value.Kind), (iI a0.Value.N), w0_0, w0_1, w0_2, w0_3]) 40 rfl rfl rfl rfl rfl rfl (fun b3 s3 p3 B3 => ?_))
 refine Xa rfl (dn (sr (fa' fa37_4 rfl (lda' (es := [(iI a0.Value.Kind), (iI a0.Value.N), w0_0, w0_1]) B3 u25 z25 rfl (Xa rfl ?_)))))
 have K5 := kp0.st p3 rfl
 refine clV 41 rfl func7 rfl (laws_szItem.calls a0.Value a1 s3.w (mm [0] s3) w0_0 w0_1 ((Xf (s := s3) (fl_of h0_0)).sub (D := [0]) rfl) ((z.rd h0_1).kp K5)) (fun r7 s8 p8 n8 => ?_)
 refine Xa rfl (dn (sq (sr (Xa rfl (Xa rfl (dn (cd rfl (fun h9 => ?_) (fun h9 => ?_))))))))
 ·
  refine sr (Xa rfl (dn ?_))
  exact re rfl func16 rfl (r_t rfl Xd) rfl ⟨_, rfl, rfl, z.ky (K5.st p8 rfl)⟩
 refine sk (sr (fa' fa37_5 rfl ?_))
 refine ld' (B3.st p8 rfl) u35 rfl (Xa rfl ?_)
 have K12 := K5.st p8 rfl
 refine clV 42 rfl func41 rfl (laws_szPairS.calls a0.Rows r7 s8.w (mm [0] s8) w0_2 ((z.rd h0_2).kp K12)) (fun r14 s15 p15 n15 => ?_)
 refine Xa rfl (dn (sq (sr (Xa rfl (Xa rfl (dn (cd rfl (fun h16 => ?_) (fun h16 => ?_))))))))
 ·
  refine sr (Xa rfl (dn ?_))
  exact re rfl func16 rfl (r_t rfl Xd) rfl ⟨_, rfl, rfl, z.ky (K12.st p15 rfl)⟩
 refine sk (sr (Xa rfl (Xa rfl (dn ?_))))
 exact re rfl func16 rfl (r_t rfl Xd) rfl ⟨_, rfl, rfl, z.ky (K12.st p15 rfl)⟩
def laws_toPair.f (a0 : Pair) : Option (Pair) :=
 ((laws_toItem.f a0.Key).bind fun r12 => ((laws_toItem.f a0.Value).bind fun r21 => (some (Pair.mk r12 r21))))
def laws_toPair.Q (w : World) (F : Nat → Prop) (r : Pair) (v : Value) (w' : World) : Prop :=
 ∃ (v0 : Value) (v1 : Value) (v2 : Value) (v3 : Value), v = (.agg #[(iI r.Key.Kind), (iI r.Key.N), v0, v1, (iI r.Value.Kind), (iI r.Value.N), v2, v3]) ∧ FO kd73 w w' [(iI r.Key.Kind), (iI r.Key.N), v0, v1, (iI r.Value.Kind), (iI r.Value.N), v2, v3] r ∧ Ky [] w w'
theorem laws_toPair.calls (a0 : Pair) (w : World) (F : Nat → Prop) (w0_0 : Value) (w0_1 : Value) (w0_2 : Value) (w0_3 : Value) (h0_0 : Kd.flt.rd w [w0_0] a0.Key.F F) (h0_1 : Xj.rd w [w0_1] a0.Key.T F) (h0_2 : Kd.flt.rd w [w0_2] a0.Value.F F) (h0_3 : Xj.rd w [w0_3] a0.Value.T F) (r : Pair) (m : laws_toPair.f a0 = some r) :
  Calls prog 68 #[(.agg #[(iI a0.Key.Kind), (iI a0.Key.N), w0_0, w0_1, (iI a0.Value.Kind), (iI a0.Value.N), w0_2, w0_3])] w (RT (laws_toPair.Q w F) r) := by
 obtain ⟨s0, rfl, kp0, z⟩ := Xi w F
 refine Xc (args := [(.agg #[(iI a0.Key.Kind), (iI a0.Key.N), w0_0, w0_1, (iI a0.Value.Kind), (iI a0.Value.N), w0_2, w0_3])]) func68 ntmps68 rfl rfl m ?_
 unfold laws_toPair.f
 refine sr (bx (cs := [(iI a0.Key.Kind), (iI a0.Key.N), w0_0, w0_1, (iI a0.Value.Kind), (iI a0.Value.N), w0_2, w0_3]) 40 rfl rfl rfl rfl rfl rfl (fun b3 s3 p3 B3 => ?_))
 refine al (cs := [(iI 0), (iI 0), (.float .f64 0), (.slice none 0 0), (iI 0), (iI 0), (.float .f64 0), (.slice none 0 0)]) 41 rfl rfl rfl rfl rfl o73 rfl (fun b5 s5 p5 B5 => ?_)
 refine dn (sr (al (cs := [(iI 0), (iI 0), (.float .f64 0), (.slice none 0 0), (iI 0), (iI 0), (.float .f64 0), (.slice none 0 0)]) 42 rfl rfl rfl rfl rfl o73 rfl (fun b7 s7 p7 B7 => ?_)))
 refine dn (sr (fa' fa98_0 rfl ?_))
 have A9 := B3.st (tr2 p5 p7) rfl
 refine lda' (es := [(iI a0.Key.Kind), (iI a0.Key.N), w0_0, w0_1]) A9 u25 z25 rfl ?_
 have K10 := kp0.st (tr3 p3 p5 p7) rfl
 refine cl' rfl func9 rfl (laws_toItem.calls a0.Key s7.w (mm [0] s7) w0_0 w0_1 ((Xf (s := s7) (fl_of h0_0)).sub (D := [0]) rfl) ((z.rd h0_1).kp K10)) ?_
 rintro r12 _ w12 m12 ⟨v12_0, v12_1, rfl, f12_0, ky12⟩
 obtain ⟨s13, rfl, p13, n13⟩ := nwx s7 w12 43 ky12
 obtain ⟨hu12_0_0, Au12_0_1⟩ := ap28 (f12_0.c n13)
 refine fa' fa73_0 rfl (sva (vs := [(iI r12.Kind), (iI r12.N), v12_0, v12_1]) (B7.st p13 rfl) z28 rfl rfl rfl rfl rfl rfl (Xe rfl (Xe rfl (Xe (FL.one hu12_0_0) (Xe Au12_0_1.rd.one on_nil)))) rfl (fun s16 p16 B16 => ?_))
 refine dn (sr (fa' fa98_1 rfl ?_))
 refine lda' (es := [(iI a0.Value.Kind), (iI a0.Value.N), w0_2, w0_3]) (A9.st (tr2 p13 p16) rfl) u25 z25 rfl ?_
 have K19 := K10.st (tr2 p13 p16) rfl
 refine cl' rfl func9 rfl (laws_toItem.calls a0.Value s16.w (mm [0] s16) w0_2 w0_3 ((Xf (s := s16) (fl_of h0_2)).sub (D := [0]) rfl) ((z.rd h0_3).kp K19)) ?_
 rintro r21 _ w21 m21 ⟨v21_0, v21_1, rfl, f21_0, ky21⟩
 obtain ⟨s22, rfl, p22, n22⟩ := nwx s16 w21 44 ky21
 obtain ⟨hu21_0_0, Au21_0_1⟩ := ap28 (f21_0.c n22)
 refine fa' fa73_1 rfl (sva (vs := [(iI r21.Kind), (iI r21.N), v21_0, v21_1]) (B16.st p22 rfl) z28 rfl rfl rfl rfl rfl rfl (Xe rfl (Xe rfl (Xe (FL.one hu21_0_0) (Xe Au21_0_1.rd.one on_nil)))) rfl (fun s25 p25 B25 => ?_))
 refine dn (sr (lda' (es := [(iI r12.Kind), (iI r12.N), v12_0, v12_1, (iI r21.Kind), (iI r21.N), v21_0, v21_1]) B25 u73 z73 rfl ?_))
 have A28 := Au21_0_1.st p25 rfl
 have A29 := Au12_0_1.st (tr3 p16 p22 p25) rfl
 refine sva (vs := [(iI r12.Kind), (iI r12.N), v12_0, v12_1, (iI r21.Kind), (iI r21.N), v21_0, v21_1]) (B5.st (tr5 p7 p13 p16 p22 p25) rfl) z73 rfl rfl rfl rfl rfl rfl (Xe rfl (Xe rfl (Xe (FL.one hu12_0_0) (Xe A29.rd.one (Xe rfl (Xe rfl (Xe (FL.one hu21_0_0) (Xe A28.rd.one on_nil)))))))) rfl (fun s30 p30 B30 => ?_)
 refine dn ?_
 obtain ⟨s34, hw34, p34, A34⟩ := ow_2 (ow_isoz (fun x : Item => (x.Kind, x.N, x.F, x.T)) r12 (ow_l (fz_int .i64 r12.Kind) (ow_l (fz_int .i64 r12.N) (ow_l (fz_flt hu12_0_0) (A29.st p30 rfl))))) (ow_isoz (fun x : Item => (x.Kind, x.N, x.F, x.T)) r21 (ow_l (fz_int .i64 r21.Kind) (ow_l (fz_int .i64 r21.N) (ow_l (fz_flt hu21_0_0) (A28.st p30 rfl))))) rfl rfl
 rw [hw34]
 have A36 : OwF kd73 s34 [(iI r12.Kind), (iI r12.N), v12_0, v12_1, (iI r21.Kind), (iI r21.N), v21_0, v21_1] (Pair.mk r12 r21) 43 := (ow_isoz (fun x : Pair => (x.Key, x.Value)) (Pair.mk r12 r21) A34)
 have K39 := K19.st (tr4 p22 p25 p30 p34) rfl
 exact re rfl func68 rfl (r_b (B30.st p34 rfl) u73 rfl z73 rfl Xd) rfl ⟨_, rfl, v12_0, v12_1, v21_0, v21_1, rfl, A36.fo K39 rfl z.l, z.ky K39⟩
def laws_toPairS.b0 (a0 : (List Pair)) (x4 : (List Pair) × Int) : Option (((List Pair) × Int) ⊕ (List Pair)) :=
 (if (decide (x4.2 < (a0.length : Int))) = true then (if 0 ≤ x4.2 ∧ x4.2 < (a0.length : Int) then ((laws_toPair.f (Pair.mk ((at_ a0 x4.2).Key) ((at_ a0 x4.2).Value))).bind fun r14 => (if 0 ≤ x4.2 ∧ x4.2 < (x4.1.length : Int) then (some (Sum.inl ((x4.1.set (x4.2).toNat r14), (IntKind.wrap .i64 (x4.2 + (1 : Int)))))) else none)) else none) else ((some x4.1).bind fun o => some (Sum.inr o)))
def laws_toPairS.f (a0 : (List Pair)) : Option ((List Pair)) :=
 (if 0 ≤ (a0.length : Int) ∧ (a0.length : Int) ≤ (Lim : Int) then (iter (laws_toPairS.b0 a0) ((List.replicate ((a0.length : Int)).toNat (Pair.mk (Item.mk (0 : Int) (0 : Int) (0 : Nat) ([] : (List Int))) (Item.mk (0 : Int) (0 : Int) (0 : Nat) ([] : (List Int))))), (0 : Int))) else none)
def laws_toPairS.Q (w : World) (F : Nat → Prop) (r : (List Pair)) (v : Value) (w' : World) : Prop :=
 FO Xk w w' [v] r ∧ Ky [] w w'
theorem laws_toPairS.calls (a0 : (List Pair)) (w : World) (F : Nat → Prop) (w0_0 : Value) (h0_0 : (Kd.sl 98 kd98).rd w [w0_0] a0 F) (r : (List Pair)) (m : laws_toPairS.f a0 = some r) :
  Calls prog 45 #[w0_0] w (RT (laws_toPairS.Q w F) r) := by
 obtain ⟨s0, rfl, kp0, z⟩ := Xi w F
 have A0_0 := z.rd h0_0
 refine Xc (args := [w0_0]) func45 ntmps45 rfl rfl m ?_
 unfold laws_toPairS.f
 refine sr (Xa rfl (dn (sr (mv' w0_0 rfl (ln' A0_0 u35 rfl (mk (x0 := (Pair.mk (Item.mk (0 : Int) (0 : Int) (0 : Nat) ([] : (List Int))) (Item.mk (0 : Int) (0 : Int) (0 : Nat) ([] : (List Int))))) (K := kd73) 40 sl40 o73 (fun _ => ⟨_, _, [], [], rfl, rfl, ⟨_, _, [], [], rfl, rfl, ⟨rfl, rfl⟩, ⟨_, _, [], [], rfl, rfl, ⟨rfl, rfl⟩, ⟨_, _, [], [], rfl, rfl, ⟨⟨_, rfl, fl_c rfl⟩, rfl⟩, ⟨_, rfl, [], [], [], rfl, ⟨by simp, .inl ⟨rfl, rfl, rfl⟩⟩, ⟨rfl, rfl⟩⟩⟩⟩⟩, ⟨_, _, [], [], rfl, rfl, ⟨rfl, rfl⟩, ⟨_, _, [], [], rfl, rfl, ⟨rfl, rfl⟩, ⟨_, _, [], [], rfl, rfl, ⟨⟨_, rfl, fl_c rfl⟩, rfl⟩, ⟨_, rfl, [], [], [], rfl, ⟨by simp, .inl ⟨rfl, rfl, rfl⟩⟩, ⟨rfl, rfl⟩⟩⟩⟩⟩⟩) rfl rfl rfl rfl rfl rfl rfl (fun v2 s2 p2 A2 => ?_)))))))
 refine asg' v2 rfl (dn (sq (sr (Xa rfl (dn (bl ?_))))))
 refine lpI (fun (x4 : (List Pair) × Int) e w => ∃ (s : St) (e0 : Env), w = s.w ∧ e = upd (upd (upd e0 0 w0_0) 3 v2) 4 (iI x4.2) ∧ Kp s0 s ∧ OwF Xk s [v2] x4.1 40) ⟨s2, _, rfl, (ue (ue (ue rfl rfl) rfl) rfl), (kp0.st p2 rfl), A2⟩ (fun g4 ih4 => ?_)
 rintro x4 _ _ ⟨s6, _, rfl, rfl, Kx4, Ax4_0⟩
 unfold laws_toPairS.b0
 refine sq (sr (Xa rfl (mv' w0_0 rfl ?_)))
 have A8 := A0_0.kp Kx4
 refine ln' A8 u35 rfl (Xa rfl (dn (cd rfl (fun h9 => ?_) (fun h9 => ?_))))
 ·
  refine sk (sq (bl (rg (mv' v2 rfl (Xa rfl (mv' w0_0 rfl (Xa rfl (ix' A8 u35 z98 rfl (fun ad10 es10 h0_10 h1_10 he10 ce10 ia10 => ?_)))))))))
  obtain ⟨v10_0, v10_1, v10_2, v10_3, rfl, A10_0, A10_1, A10_2, A10_3⟩ := op98 he10
  refine lca ce10 u98 z98 rfl rfl rfl rfl rfl rfl rfl (cl' rfl func68 rfl (laws_toPair.calls (Pair.mk ((at_ a0 x4.2).Key) ((at_ a0 x4.2).Value)) s6.w (mm [0] s6) v10_0 v10_1 v10_2 v10_3 ((Xf (s := s6) A10_0).sub (D := [0]) rfl) A10_1 ((Xf (s := s6) A10_2).sub (D := [0]) rfl) A10_3) ?_)
  rintro r14 _ w14 m14 ⟨v14_0, v14_1, v14_2, v14_3, rfl, f14_0, ky14⟩
  obtain ⟨s15, rfl, p15, n15⟩ := nwx s6 w14 41 ky14
  obtain ⟨s16, hw16, p16, hu14_0_0, Au14_0_1, hu14_0_2, Au14_0_3⟩ := ap73 42 (f14_0.c n15) rfl
  rw [hw16]
  have A19 := Ax4_0.st (tr2 p15 p16) rfl
  refine ix' A19.rd u40 z73 rfl (fun ad20 es20 h0_20 h1_20 he20 ce20 ia20 => ?_)
  obtain ⟨v20_0, v20_1, v20_2, v20_3, rfl, A20_0, A20_1, A20_2, A20_3⟩ := op73 he20
  obtain ⟨s24, hw24, p24, A24⟩ := ow_2 (ow_isoz (fun x : Item => (x.Kind, x.N, x.F, x.T)) r14.Key (ow_l (fz_int .i64 r14.Key.Kind) (ow_l (fz_int .i64 r14.Key.N) (ow_l (fz_flt hu14_0_0) Au14_0_1)))) (ow_isoz (fun x : Item => (x.Kind, x.N, x.F, x.T)) r14.Value (ow_l (fz_int .i64 r14.Value.Kind) (ow_l (fz_int .i64 r14.Value.N) (ow_l (fz_flt hu14_0_2) Au14_0_3)))) rfl rfl
  rw [hw24]
  have A26 : OwF kd73 s24 [(iI r14.Key.Kind), (iI r14.Key.N), v14_0, v14_1, (iI r14.Value.Kind), (iI r14.Value.N), v14_2, v14_3] r14 41 := (ow_isoz (fun x : Pair => (x.Key, x.Value)) r14 A24)
  refine som (x' := r14) (A19.st p24 rfl) ia20 h0_20 h1_20 A26 rfl rfl z73 rfl rfl rfl rfl rfl rfl (fun s29 p29 A29 => ?_)
  refine dn (ib (rg (Xa rfl (Xa rfl (Xa rfl (dn ?_))))))
  exact lb ih4 ⟨s29, _, rfl, (ue (ue (ue rfl rfl) rfl) rfl), (Kx4.st (tr4 p15 p16 p24 p29) rfl), A29⟩
 exact xt rfl (sgb (sr (mv' v2 rfl (asg' v2 rfl (dn (re rfl func45 rfl (r_t rfl Xd) rfl ⟨_, rfl, Ax4_0.fo Kx4 rfl z.l, z.ky Kx4⟩))))))
def laws_toReply.f (a0 : Reply) : Option (Reply) :=
 ((laws_toItem.f a0.Value).bind fun r24 => ((laws_toPairS.f a0.Rows).bind fun r33 => (some (Reply.mk a0.Seat a0.Kind a0.Code a0.N r24 r33 a0.Total))))
def laws_toReply.Q (w : World) (F : Nat → Prop) (r : Reply) (v : Value) (w' : World) : Prop :=
 ∃ (v0 : Value) (v1 : Value) (v2 : Value) (v3 : Value), v = (.agg #[(iI r.Seat), (iI r.Kind), (iI r.Code), (iI r.N), (iI r.Value.Kind), (iI r.Value.N), v0, v1, v2, v3]) ∧ FO kd42 w w' [(iI r.Seat), (iI r.Kind), (iI r.Code), (iI r.N), (iI r.Value.Kind), (iI r.Value.N), v0, v1, v2, v3] r ∧ Ky [] w w'
theorem laws_toReply.calls (a0 : Reply) (w : World) (F : Nat → Prop) (w0_0 : Value) (w0_1 : Value) (w0_2 : Value) (w0_3 : Value) (h0_0 : Kd.flt.rd w [w0_0] a0.Value.F F) (h0_1 : Xj.rd w [w0_1] a0.Value.T F) (h0_2 : (Kd.sl 98 kd98).rd w [w0_2] a0.Rows F) (h0_3 : Kd.flt.rd w [w0_3] a0.Total F) (r : Reply) (m : laws_toReply.f a0 = some r) :
  Calls prog 18 #[(.agg #[(iI a0.Seat), (iI a0.Kind), (iI a0.Code), (iI a0.N), (iI a0.Value.Kind), (iI a0.Value.N), w0_0, w0_1, w0_2, w0_3])] w (RT (laws_toReply.Q w F) r) := by
 obtain ⟨s0, rfl, kp0, z⟩ := Xi w F
 have A0_3 := fl_of h0_3
 refine Xc (args := [(.agg #[(iI a0.Seat), (iI a0.Kind), (iI a0.Code), (iI a0.N), (iI a0.Value.Kind), (iI a0.Value.N), w0_0, w0_1, w0_2, w0_3])]) func18 ntmps18 rfl rfl m ?_
 unfold laws_toReply.f
 refine sr (bx (cs := [(iI a0.Seat), (iI a0.Kind), (iI a0.Code), (iI a0.N), (iI a0.Value.Kind), (iI a0.Value.N), w0_0, w0_1, w0_2, w0_3]) 40 rfl rfl rfl rfl rfl rfl (fun b3 s3 p3 B3 => ?_))
 refine al (cs := [(iI 0), (iI 0), (iI 0), (iI 0), (iI 0), (iI 0), (.float .f64 0), (.slice none 0 0), (.slice none 0 0), (.float .f64 0)]) 41 rfl rfl rfl rfl rfl o42 rfl (fun b5 s5 p5 B5 => ?_)
 refine dn (sr (al (cs := [(iI 0), (iI 0), (iI 0), (iI 0), (iI 0), (iI 0), (.float .f64 0), (.slice none 0 0), (.slice none 0 0), (.float .f64 0)]) 42 rfl rfl rfl rfl rfl o42 rfl (fun b7 s7 p7 B7 => ?_)))
 refine dn (sr (fa' fa37_0 rfl ?_))
 have A9 := B3.st (tr2 p5 p7) rfl
 refine ld' A9 u3 rfl (fa' fa42_0 rfl (sv B7 z3 rfl rfl rfl rfl rfl rfl rfl rfl (fun s10 p10 B10 => ?_)))
 refine dn (sr (fa' fa37_1 rfl ?_))
 have A12 := A9.st p10 rfl
 refine ld' A12 u3 rfl (fa' fa42_1 rfl (sv B10 z3 rfl rfl rfl rfl rfl rfl rfl rfl (fun s13 p13 B13 => ?_)))
 refine dn (sr (fa' fa37_2 rfl ?_))
 have A15 := A12.st p13 rfl
 refine ld' A15 u3 rfl (fa' fa42_2 rfl (sv B13 z3 rfl rfl rfl rfl rfl rfl rfl rfl (fun s16 p16 B16 => ?_)))
 refine dn (sr (fa' fa37_3 rfl ?_))
 have A18 := A15.st p16 rfl
 refine ld' A18 u3 rfl (fa' fa42_3 rfl (sv B16 z3 rfl rfl rfl rfl rfl rfl rfl rfl (fun s19 p19 B19 => ?_)))
 refine dn (sr (fa' fa37_4 rfl ?_))
 have A21 := A18.st p19 rfl
 refine lda' (es := [(iI a0.Value.Kind), (iI a0.Value.N), w0_0, w0_1]) A21 u25 z25 rfl ?_
 have K22 := kp0.st (tr7 p3 p5 p7 p10 p13 p16 p19) rfl
 refine cl' rfl func9 rfl (laws_toItem.calls a0.Value s19.w (mm [0] s19) w0_0 w0_1 ((Xf (s := s19) (fl_of h0_0)).sub (D := [0]) rfl) ((z.rd h0_1).kp K22)) ?_
 rintro r24 _ w24 m24 ⟨v24_0, v24_1, rfl, f24_0, ky24⟩
 obtain ⟨s25, rfl, p25, n25⟩ := nwx s19 w24 43 ky24
 obtain ⟨hu24_0_0, Au24_0_1⟩ := ap28 (f24_0.c n25)
 refine fa' fa42_4 rfl (sva (vs := [(iI r24.Kind), (iI r24.N), v24_0, v24_1]) (B19.st p25 rfl) z28 rfl rfl rfl rfl rfl rfl (Xe rfl (Xe rfl (Xe (FL.one hu24_0_0) (Xe Au24_0_1.rd.one on_nil)))) rfl (fun s28 p28 B28 => ?_))
 refine dn (sr (fa' fa37_5 rfl ?_))
 have A30 := A21.st (tr2 p25 p28) rfl
 refine ld' A30 u35 rfl ?_
 have K31 := K22.st (tr2 p25 p28) rfl
 refine clO 44 rfl func45 rfl (laws_toPairS.calls a0.Rows s28.w (mm [0] s28) w0_2 ((z.rd h0_2).kp K31)) (fun r33 v33_0 s34 p34 A33_0 => ?_)
 refine fa' fa42_5 rfl (sv (B28.st p34 rfl) z40 rfl rfl rfl rfl rfl rfl A33_0.rd.one rfl (fun s37 p37 B37 => ?_))
 refine dn (sr (fa' fa37_6 rfl ?_))
 refine ld' (A30.st (tr2 p34 p37) rfl) u22 rfl (fa' fa42_6 rfl (sv B37 z22 rfl rfl rfl rfl rfl rfl (FL.one A0_3) rfl (fun s40 p40 B40 => ?_)))
 refine dn (sr (lda' (es := [(iI a0.Seat), (iI a0.Kind), (iI a0.Code), (iI a0.N), (iI r24.Kind), (iI r24.N), v24_0, v24_1, v33_0, w0_3]) B40 u42 z42 rfl ?_))
 have A43 := A33_0.st (tr2 p37 p40) rfl
 have A44 := Au24_0_1.st (tr4 p28 p34 p37 p40) rfl
 refine sva (vs := [(iI a0.Seat), (iI a0.Kind), (iI a0.Code), (iI a0.N), (iI r24.Kind), (iI r24.N), v24_0, v24_1, v33_0, w0_3]) (B5.st (tr10 p7 p10 p13 p16 p19 p25 p28 p34 p37 p40) rfl) z42 rfl rfl rfl rfl rfl rfl (Xe rfl (Xe rfl (Xe rfl (Xe rfl (Xe rfl (Xe rfl (Xe (FL.one hu24_0_0) (Xe A44.rd.one (Xe A43.rd.one (Xe (FL.one A0_3) on_nil)))))))))) rfl (fun s45 p45 B45 => ?_)
 refine dn ?_
 obtain ⟨s49, hw49, p49, A49⟩ := ow_2 (ow_isoz (fun x : Item => (x.Kind, x.N, x.F, x.T)) r24 (ow_l (fz_int .i64 r24.Kind) (ow_l (fz_int .i64 r24.N) (ow_l (fz_flt hu24_0_0) (A44.st p45 rfl))))) (ow_r (A43.st p45 rfl) (fz_flt A0_3)) rfl rfl
 rw [hw49]
 have A51 : OwF kd42 s49 [(iI a0.Seat), (iI a0.Kind), (iI a0.Code), (iI a0.N), (iI r24.Kind), (iI r24.N), v24_0, v24_1, v33_0, w0_3] (Reply.mk a0.Seat a0.Kind a0.Code a0.N r24 r33 a0.Total) 43 := (ow_isoz (fun x : Reply => (x.Seat, x.Kind, x.Code, x.N, x.Value, x.Rows, x.Total)) (Reply.mk a0.Seat a0.Kind a0.Code a0.N r24 r33 a0.Total) (ow_l (fz_int .i64 a0.Seat) (ow_l (fz_int .i64 a0.Kind) (ow_l (fz_int .i64 a0.Code) (ow_l (fz_int .i64 a0.N) A49)))))
 have K54 := K31.st (tr5 p34 p37 p40 p45 p49) rfl
 exact re rfl func18 rfl (r_b (B45.st p49 rfl) u42 rfl z42 rfl Xd) rfl ⟨_, rfl, v24_0, v24_1, v33_0, w0_3, rfl, A51.fo K54 rfl z.l, z.ky K54⟩
def spec_l5in.f (a0 : Int) (a1 : Int) (a2 : Int) : Option (Bool) :=
 (some ((decide (a0 ≥ a1)) && (decide (a0 ≤ a2))))
def spec_l5in.Q (w : World) (F : Nat → Prop) (r : Bool) (v : Value) (w' : World) : Prop :=
 v = (.bool r) ∧ Ky [] w w'
theorem spec_l5in.calls (a0 : Int) (a1 : Int) (a2 : Int) (w : World) (F : Nat → Prop)   (r : Bool) (m : spec_l5in.f a0 a1 a2 = some r) :
  Calls prog 42 #[(iI a0), (iI a1), (iI a2)] w (RT (spec_l5in.Q w F) r) := by
 obtain ⟨s0, rfl, kp0, z⟩ := Xi w F
 refine Xc (args := [(iI a0), (iI a1), (iI a2)]) func42 ntmps42 rfl rfl m ?_
 unfold spec_l5in.f
 refine sr (Xa rfl (dn (sr (Xa rfl (Xa rfl (Xa rfl (Xa rfl (jy [10, 11, 12, 13, 14] [8] 14 (.bool ((decide (a0 ≥ a1)) && (decide (a0 ≤ a2)))) rfl (fun Kg1 => ?_) (fun j1 => ?_)))))))))
 ·
  rcases bft (decide (a0 ≥ a1)) with hb1 | hb1
  ·
   exact sbT hb1 (Xa rfl (Xa rfl (Xa rfl (Xa rfl (Kg1 _ (Ag.put ((Ag.put ((Ag.put ((Ag.put (Ag.base rfl) rfl)) rfl)) rfl)) rfl) (by rw [hb1]; rfl))))))
  exact sbT hb1 (uw' rfl (uw' rfl (uw' rfl (Xa rfl (Kg1 _ (Ag.put ((Ag.put ((Ag.put ((Ag.put (Ag.base rfl) rfl)) rfl)) rfl)) rfl) (by rw [hb1]; rfl))))))
 exact Xa rfl (dn (re rfl func42 rfl (r_t rfl Xd) rfl ⟨_, rfl, rfl, z.ky kp0⟩))
def spec_l18word.f (a0 : (List Int)) (a1 : (List Int)) : Option ((List Int)) :=
 (if a0.length + ([(32 : Int)]).length ≤ Lim then (if (a0 ++ [(32 : Int)]).length + a1.length ≤ Lim then (some ((a0 ++ [(32 : Int)]) ++ a1)) else none) else none)
def spec_l18word.Q (w : World) (F : Nat → Prop) (os : List Nat) (r : (List Int)) (v : Value) (w' : World) : Prop :=
 FW Xj os w w' [v] r ∧ Ky os w w'
theorem spec_l18word.calls (a0 : (List Int)) (a1 : (List Int)) (w : World) (F : Nat → Prop) (w0_0 : Value) (w1_0 : Value) (h1_0 : Xj.rd w [w1_0] a1 F) (os : List Nat) (h0 : Xj.ow w [w0_0] a0 os) (hn : os.Nodup) (hF : ∀ b, F b → b ∉ os) (r : (List Int)) (m : spec_l18word.f a0 a1 = some r) :
  Calls prog 43 #[w0_0, w1_0] w (RT (spec_l18word.Q w F os) r) := by
 obtain ⟨s0, rfl, kp0, z⟩ := startN w F [(os, 40)] (by simpa [fl_] using hn) (fun b hb => by simpa [fl_] using hF b hb) rfl
 have ez : fl_ [(os, 40)] = os := by simp [fl_]
 refine Xc (args := [w0_0, w1_0]) func43 ntmps43 rfl rfl m ?_
 unfold spec_l18word.f
 refine sr (Xa rfl (dn (sr (mv' w0_0 rfl (ltF' (K := (Kd.int .u8)) (cells := [(.int .u8 (32 : Int))]) [(32 : Int)] 41 Xg u23 z5 o5 (fun w => (Xh _ _ _)) rfl rfl (fun v3 s3 p3 A3 => ?_))))))
 refine apF Xg sl23 ((z.ow (c := 40) (by simp) hn h0).st p3 rfl) A3.rd rfl rfl rfl rfl rfl rfl rfl (fun v6 s6 p6 A6 => ?_)
 refine asg' v6 rfl (dn (sr (mv' v6 rfl (mv' w1_0 rfl ?_))))
 have K8 := kp0.st (tr2 p3 p6) rfl
 refine apF Xg sl23 A6 ((z.rd h1_0).kp K8) rfl rfl rfl rfl rfl rfl rfl (fun v10 s10 p10 A10 => ?_)
 refine asg' v10 rfl (dn ?_)
 have K12 := K8.st p10 rfl
 exact re rfl func43 rfl (r_t rfl Xd) rfl ⟨_, rfl, z.fw' ez K12 (oc_ow A10) rfl, z.ky' ez K12⟩
def spec_l18item.f (a0 : Item) : Option ((List Int)) :=
 ((spec_ItemOk.f a0).bind fun r6 => (if (!r6) = true then (some ([(63 : Int)])) else ((spec_ItemText.f a0).bind fun r17 => (some r17))))
def spec_l18item.Q (w : World) (F : Nat → Prop) (r : (List Int)) (v : Value) (w' : World) : Prop :=
 FO Xj w w' [v] r ∧ Ky [] w w'
theorem spec_l18item.calls (a0 : Item) (w : World) (F : Nat → Prop) (w0_0 : Value) (w0_1 : Value) (h0_0 : Kd.flt.rd w [w0_0] a0.F F) (h0_1 : Xj.rd w [w0_1] a0.T F) (r : (List Int)) (m : spec_l18item.f a0 = some r) :
  Calls prog 44 #[(.agg #[(iI a0.Kind), (iI a0.N), w0_0, w0_1])] w (RT (spec_l18item.Q w F) r) := by
 obtain ⟨s0, rfl, kp0, z⟩ := Xi w F
 have A0_0 := fl_of h0_0
 have A0_1 := z.rd h0_1
 refine Xc (args := [(.agg #[(iI a0.Kind), (iI a0.N), w0_0, w0_1])]) func44 ntmps44 rfl rfl m ?_
 unfold spec_l18item.f
 refine sr (bx (cs := [(iI a0.Kind), (iI a0.N), w0_0, w0_1]) 40 rfl rfl rfl rfl rfl rfl (fun b2 s2 p2 B2 => ?_))
 refine Xa rfl (dn (sq (sr (lda' (es := [(iI a0.Kind), (iI a0.N), w0_0, w0_1]) B2 u28 z28 rfl ?_))))
 have K4 := kp0.st p2 rfl
 refine clV 41 rfl func33 rfl (spec_ItemOk.calls a0 s2.w (mm [0] s2) w0_0 w0_1 ((Xf (s := s2) A0_0).sub (D := [0]) rfl) (A0_1.kp K4)) (fun r6 s7 p7 n7 => ?_)
 refine Xa rfl (dn (cd rfl (fun h8 => ?_) (fun h8 => ?_)))
 ·
  refine sr (ltF' (K := (Kd.int .u8)) (cells := [(.int .u8 (63 : Int))]) [(63 : Int)] 42 Xg u23 z5 o5 (fun w => (Xh _ _ _)) rfl rfl (fun v9 s9 p9 A9 => ?_))
  refine cvm A9 rfl u23 u5 rfl rfl rfl rfl rfl rfl (fun s11 p11 A11 => ?_)
  refine asg' v9 rfl (dn ?_)
  have K13 := K4.st (tr3 p7 p9 p11) rfl
  exact re rfl func44 rfl (r_t rfl Xd) rfl ⟨_, rfl, A11.fo K13 rfl z.l, z.ky K13⟩
 refine sk (sr ?_)
 refine lda' (es := [(iI a0.Kind), (iI a0.N), w0_0, w0_1]) (B2.st p7 rfl) u28 z28 rfl ?_
 have K15 := K4.st p7 rfl
 refine clO 43 rfl func8 rfl (spec_ItemText.calls a0 s7.w (mm [0] s7) w0_0 w0_1 ((Xf (s := s7) A0_0).sub (D := [0]) rfl) (A0_1.kp K15)) (fun r17 v17_0 s18 p18 A17_0 => ?_)
 refine asg' v17_0 rfl (dn ?_)
 have K20 := K15.st p18 rfl
 exact re rfl func44 rfl (r_t rfl Xd) rfl ⟨_, rfl, A17_0.fo K20 rfl z.l, z.ky K20⟩
def spec_ReplyText.b0 (a0 : Reply) (x73 : (List Int) × Int) : Option (((List Int) × Int) ⊕ (List Int)) :=
 (if (decide (x73.2 < (a0.Rows.length : Int))) = true then (if 0 ≤ x73.2 ∧ x73.2 < (a0.Rows.length : Int) then ((spec_l18item.f ((at_ a0.Rows x73.2).Key)).bind fun r85 => ((spec_l18word.f x73.1 r85).bind fun r88 => (if r88.length + ([(61 : Int)]).length ≤ Lim then (if 0 ≤ x73.2 ∧ x73.2 < (a0.Rows.length : Int) then ((spec_l18item.f ((at_ a0.Rows x73.2).Value)).bind fun r104 => (if (r88 ++ [(61 : Int)]).length + r104.length ≤ Lim then (some (Sum.inl (((r88 ++ [(61 : Int)]) ++ r104), (IntKind.wrap .i64 (x73.2 + (1 : Int)))))) else none)) else none) else none))) else none) else ((some x73.1).bind fun o => some (Sum.inr o)))
def spec_ReplyText.f (a0 : Reply) : Option ((List Int)) :=
 ((spec_l5in.f a0.Code (0 : Int) (99 : Int)).bind fun r10 => ((if r10 = true then (some ([(IntKind.wrap .u8 (IntKind.wrap .i64 ((48 : Int) + (IntKind.wrap .i64 (a0.Code.tdiv (10 : Int)))))), (IntKind.wrap .u8 (IntKind.wrap .i64 ((48 : Int) + (a0.Code.tmod (10 : Int)))))])) else (some ([(63 : Int), (63 : Int)]))).bind fun y12 => ((spec_l18digits.f a0.Seat).bind fun r27 => ((spec_l18word.f y12 r27).bind fun r30 => ((spec_l18digits.f a0.Kind).bind fun r35 => ((spec_l18word.f r30 r35).bind fun r38 => ((spec_l18digits.f a0.N).bind fun r43 => ((spec_l18word.f r38 r43).bind fun r46 => ((spec_l18item.f a0.Value).bind fun r53 => ((spec_l18word.f r46 r53).bind fun r56 => ((spec_FloatBits.f a0.Total).bind fun r61 => ((spec_l3high.f r61).bind fun r63 => ((spec_l18hex.f r63).bind fun r66 => ((spec_l18word.f r56 r66).bind fun r69 => (iter (spec_ReplyText.b0 a0) (r69, (0 : Int)))))))))))))))))
def spec_ReplyText.Q (w : World) (F : Nat → Prop) (r : (List Int)) (v : Value) (w' : World) : Prop :=
 FO Xj w w' [v] r ∧ Ky [] w w'
theorem spec_ReplyText.calls (a0 : Reply) (w : World) (F : Nat → Prop) (w0_0 : Value) (w0_1 : Value) (w0_2 : Value) (w0_3 : Value) (h0_0 : Kd.flt.rd w [w0_0] a0.Value.F F) (h0_1 : Xj.rd w [w0_1] a0.Value.T F) (h0_2 : Xk.rd w [w0_2] a0.Rows F) (h0_3 : Kd.flt.rd w [w0_3] a0.Total F) (r : (List Int)) (m : spec_ReplyText.f a0 = some r) :
  Calls prog 17 #[(.agg #[(iI a0.Seat), (iI a0.Kind), (iI a0.Code), (iI a0.N), (iI a0.Value.Kind), (iI a0.Value.N), w0_0, w0_1, w0_2, w0_3])] w (RT (spec_ReplyText.Q w F) r) := by
 obtain ⟨s0, rfl, kp0, z⟩ := Xi w F
 have A0_2 := z.rd h0_2
 refine Xc (args := [(.agg #[(iI a0.Seat), (iI a0.Kind), (iI a0.Code), (iI a0.N), (iI a0.Value.Kind), (iI a0.Value.N), w0_0, w0_1, w0_2, w0_3])]) func17 ntmps17 rfl rfl m ?_
 unfold spec_ReplyText.f
 refine sr (bx (cs := [(iI a0.Seat), (iI a0.Kind), (iI a0.Code), (iI a0.N), (iI a0.Value.Kind), (iI a0.Value.N), w0_0, w0_1, w0_2, w0_3]) 40 rfl rfl rfl rfl rfl rfl (fun b3 s3 p3 B3 => ?_))
 refine Xa rfl (dn (sr (ltF' (K := (Kd.int .u8)) (cells := [(.int .u8 (63 : Int)), (.int .u8 (63 : Int))]) [(63 : Int), (63 : Int)] 41 Xg u23 z5 o5 (fun w => (Xh _ _ _)) rfl rfl (fun v5 s5 p5 A5 => ?_))))
 refine cvm A5 rfl u23 u5 rfl rfl rfl rfl rfl rfl (fun s7 p7 A7 => ?_)
 refine asg' v5 rfl (dn (sq (sr (fa' fa42_2 rfl ?_))))
 have A9 := B3.st (tr2 p5 p7) rfl
 refine ld' A9 u3 rfl (clV 42 rfl func42 rfl (spec_l5in.calls a0.Code (0 : Int) (99 : Int) s7.w (mm [] s7)) (fun r10 s11 p11 n11 => ?_))
 refine dn (jc (fun (y12 : (List Int)) e w => ∃ (s : St) (e0 : Env) (vy12_0 : Value), w = s.w ∧ e = upd (upd e0 1 (pB b3)) 3 vy12_0 ∧ Kp s0 s ∧ OwF Xj s [vy12_0] y12 43 ∧ BlF s b3 42 [(iI a0.Seat), (iI a0.Kind), (iI a0.Code), (iI a0.N), (iI a0.Value.Kind), (iI a0.Value.N), w0_0, w0_1, w0_2, w0_3] 40) (fun Gj12 Kj12 => ?_) ?_)
 ·
  refine cd rfl (fun h13 => ?_) (fun h13 => ?_)
  ·
   refine rg (fa' fa42_2 rfl ?_)
   have A14 := A9.st p11 rfl
   refine ld' A14 u3 rfl (quoK rfl rfl rfl rfl rfl rfl rfl rfl (Xa rfl (cv u5 u3 rfl rfl rfl rfl rfl rfl (fa' fa42_2 rfl (ld' A14 u3 rfl (remK rfl rfl rfl rfl rfl rfl rfl rfl (Xa rfl (cv u5 u3 rfl rfl rfl rfl rfl rfl (ltF' (K := (Kd.int .u8)) (cells := [(.int .u8 (IntKind.wrap .u8 (IntKind.wrap .i64 ((48 : Int) + (IntKind.wrap .i64 (a0.Code.tdiv (10 : Int))))))), (.int .u8 (IntKind.wrap .u8 (IntKind.wrap .i64 ((48 : Int) + (a0.Code.tmod (10 : Int))))))]) [(IntKind.wrap .u8 (IntKind.wrap .i64 ((48 : Int) + (IntKind.wrap .i64 (a0.Code.tdiv (10 : Int)))))), (IntKind.wrap .u8 (IntKind.wrap .i64 ((48 : Int) + (a0.Code.tmod (10 : Int)))))] 44 Xg u23 z5 o5 (fun w => (Xh _ _ _)) rfl rfl (fun v15 s15 p15 A15 => ?_))))))))))
   refine asg' v15 rfl (dn ?_)
   obtain ⟨s17, hw17, p17, A17⟩ := A15.rc 43 rfl
   rw [hw17]
   exact Kj12 _ _ _ ⟨s17, _, v15, rfl, (ue (ue rfl rfl) rfl), (kp0.st (tr6 p3 p5 p7 p11 p15 p17) rfl), A17, (A14.st (tr2 p15 p17) rfl)⟩
  refine sk ?_
  obtain ⟨s21, hw21, p21, A21⟩ := (A7.st p11 rfl).rc 43 rfl
  rw [hw21]
  exact Kj12 _ _ _ ⟨s21, _, v5, rfl, (ue (ue rfl rfl) rfl), (kp0.st (tr5 p3 p5 p7 p11 p21) rfl), A21, (A9.st (tr2 p11 p21) rfl)⟩
 rintro y12 _ _ ⟨s24, _, vy12_0, rfl, rfl, Ky12, Ay12_0, By12_b3⟩
 refine sr (mv' vy12_0 rfl (fa' fa42_0 rfl (ld' By12_b3 u3 rfl (clO 45 rfl func34 rfl (spec_l18digits.calls a0.Seat s24.w (mm [] s24)) (fun r27 v27_0 s28 p28 A27_0 => ?_)))))
 obtain ⟨os30, ho30, hn30, hc30⟩ := Ay12_0.st p28 rfl
 refine cl' rfl func43 rfl (spec_l18word.calls y12 r27 s28.w (mm [45] s28) vy12_0 v27_0 A27_0.rd os30 ho30 hn30 (apart_of hc30 rfl)) ?_
 rintro r30 v30_0 w30 m30 ⟨f30_0, ky30⟩
 obtain ⟨s32, rfl, p32, n32⟩ := nwm 46 hc30 ky30 rfl
 refine asg' v30_0 rfl (dn (sr (mv' v30_0 rfl (fa' fa42_1 rfl ?_))))
 have A34 := By12_b3.st (tr2 p28 p32) rfl
 refine ld' A34 u3 rfl (clO 47 rfl func34 rfl (spec_l18digits.calls a0.Kind s32.w (mm [] s32)) (fun r35 v35_0 s36 p36 A35_0 => ?_))
 obtain ⟨os38, ho38, hn38, hc38⟩ := (f30_0.m n32).st p36 rfl
 refine cl' rfl func43 rfl (spec_l18word.calls r30 r35 s36.w (mm [47] s36) v30_0 v35_0 A35_0.rd os38 ho38 hn38 (apart_of hc38 rfl)) ?_
 rintro r38 v38_0 w38 m38 ⟨f38_0, ky38⟩
 obtain ⟨s40, rfl, p40, n40⟩ := nwm 48 hc38 ky38 rfl
 refine asg' v38_0 rfl (dn (sr (mv' v38_0 rfl (fa' fa42_3 rfl ?_))))
 have A42 := A34.st (tr2 p36 p40) rfl
 refine ld' A42 u3 rfl (clO 49 rfl func34 rfl (spec_l18digits.calls a0.N s40.w (mm [] s40)) (fun r43 v43_0 s44 p44 A43_0 => ?_))
 obtain ⟨os46, ho46, hn46, hc46⟩ := (f38_0.m n40).st p44 rfl
 refine cl' rfl func43 rfl (spec_l18word.calls r38 r43 s44.w (mm [49] s44) v38_0 v43_0 A43_0.rd os46 ho46 hn46 (apart_of hc46 rfl)) ?_
 rintro r46 v46_0 w46 m46 ⟨f46_0, ky46⟩
 obtain ⟨s48, rfl, p48, n48⟩ := nwm 50 hc46 ky46 rfl
 refine asg' v46_0 rfl (dn (sr (mv' v46_0 rfl (fa' fa42_4 rfl ?_))))
 have A50 := A42.st (tr2 p44 p48) rfl
 refine lda' (es := [(iI a0.Value.Kind), (iI a0.Value.N), w0_0, w0_1]) A50 u28 z28 rfl ?_
 have K51 := Ky12.st (tr6 p28 p32 p36 p40 p44 p48) rfl
 refine clO 51 rfl func44 rfl (spec_l18item.calls a0.Value s48.w (mm [0] s48) w0_0 w0_1 ((Xf (s := s48) (fl_of h0_0)).sub (D := [0]) rfl) ((z.rd h0_1).kp K51)) (fun r53 v53_0 s54 p54 A53_0 => ?_)
 obtain ⟨os56, ho56, hn56, hc56⟩ := (f46_0.m n48).st p54 rfl
 refine cl' rfl func43 rfl (spec_l18word.calls r46 r53 s54.w (mm [51] s54) v46_0 v53_0 A53_0.rd os56 ho56 hn56 (apart_of hc56 rfl)) ?_
 rintro r56 v56_0 w56 m56 ⟨f56_0, ky56⟩
 obtain ⟨s58, rfl, p58, n58⟩ := nwm 52 hc56 ky56 rfl
 refine asg' v56_0 rfl (dn (sr (mv' v56_0 rfl (fa' fa42_6 rfl ?_))))
 have A60 := A50.st (tr2 p54 p58) rfl
 refine ld' A60 u22 rfl (clV 53 rfl func37 rfl (spec_FloatBits.calls a0.Total s58.w (mm [] s58) w0_3 (Xf (s := s58) (fl_of h0_3))) (fun r61 s62 p62 n62 => ?_))
 refine clO 54 rfl func36 rfl (spec_l3high.calls r61 s62.w (mm [] s62)) (fun r63 v63_0 s64 p64 A63_0 => ?_)
 refine clO 55 rfl func35 rfl (spec_l18hex.calls r63 s64.w (mm [54] s64) v63_0 A63_0.rd) (fun r66 v66_0 s67 p67 A66_0 => ?_)
 obtain ⟨os69, ho69, hn69, hc69⟩ := (f56_0.m n58).st (tr3 p62 p64 p67) rfl
 refine cl' rfl func43 rfl (spec_l18word.calls r56 r66 s67.w (mm [55] s67) v56_0 v66_0 A66_0.rd os69 ho69 hn69 (apart_of hc69 rfl)) ?_
 rintro r69 v69_0 w69 m69 ⟨f69_0, ky69⟩
 obtain ⟨s71, rfl, p71, n71⟩ := nwm 56 hc69 ky69 rfl
 refine asg' v69_0 rfl (dn (sq (sr (Xa rfl (dn (bl ?_))))))
 refine lpI (fun (x73 : (List Int) × Int) e w => ∃ (s : St) (e0 : Env) (vx73_0 : Value), w = s.w ∧ e = upd (upd (upd e0 1 (pB b3)) 3 vx73_0) 4 (iI x73.2) ∧ Kp s0 s ∧ OwF Xj s [vx73_0] x73.1 56 ∧ BlF s b3 42 [(iI a0.Seat), (iI a0.Kind), (iI a0.Code), (iI a0.N), (iI a0.Value.Kind), (iI a0.Value.N), w0_0, w0_1, w0_2, w0_3] 40) ⟨s71, _, v69_0, rfl, (ue (ue (ue rfl rfl) rfl) rfl), (K51.st (tr6 p54 p58 p62 p64 p67 p71) rfl), (f69_0.m n71), (A60.st (tr4 p62 p64 p67 p71) rfl)⟩ (fun g73 ih73 => ?_)
 rintro x73 _ _ ⟨s76, _, vx73_0, rfl, rfl, Kx73, Ax73_0, Bx73_b3⟩
 unfold spec_ReplyText.b0
 refine sq (sr (Xa rfl (fa' fa42_5 rfl (ld' Bx73_b3 u40 rfl ?_))))
 have A79 := A0_2.kp Kx73
 refine ln' A79 u40 rfl (Xa rfl (dn (cd rfl (fun h80 => ?_) (fun h80 => ?_))))
 ·
  refine sk (sq (bl (sr (mv' vx73_0 rfl (fa' fa42_5 rfl (ld' Bx73_b3 u40 rfl (Xa rfl (ix' A79 u40 z73 rfl (fun ad81 es81 h0_81 h1_81 he81 ce81 ia81 => ?_)))))))))
  obtain ⟨v81_0, v81_1, v81_2, v81_3, rfl, A81_0, A81_1, A81_2, A81_3⟩ := op73 he81
  refine fa' fa73_0 rfl (lcq (q := 0) (es' := [(iI (((at_ a0.Rows x73.2).Key).Kind)), (iI (((at_ a0.Rows x73.2).Key).N)), v81_0, v81_1]) ce81 u28 z28 rfl rfl rfl rfl rfl rfl rfl rfl (clO 57 rfl func44 rfl (spec_l18item.calls ((at_ a0.Rows x73.2).Key) s76.w (mm [0] s76) v81_0 v81_1 ((Xf (s := s76) A81_0).sub (D := [0]) rfl) A81_1) (fun r85 v85_0 s86 p86 A85_0 => ?_)))
  obtain ⟨os88, ho88, hn88, hc88⟩ := Ax73_0.st p86 rfl
  refine cl' rfl func43 rfl (spec_l18word.calls x73.1 r85 s86.w (mm [57] s86) vx73_0 v85_0 A85_0.rd os88 ho88 hn88 (apart_of hc88 rfl)) ?_
  rintro r88 v88_0 w88 m88 ⟨f88_0, ky88⟩
  obtain ⟨s90, rfl, p90, n90⟩ := nwm 58 hc88 ky88 rfl
  refine asg' v88_0 rfl (dn (sr (mv' v88_0 rfl (ltF' (K := (Kd.int .u8)) (cells := [(.int .u8 (61 : Int))]) [(61 : Int)] 59 Xg u23 z5 o5 (fun w => (Xh _ _ _)) rfl rfl (fun v92 s92 p92 A92 => ?_)))))
  refine apF Xg sl23 ((f88_0.m n90).st p92 rfl) A92.rd rfl rfl rfl rfl rfl rfl rfl (fun v95 s95 p95 A95 => ?_)
  refine asg' v95 rfl (dn (rg (mv' v95 rfl (fa' fa42_5 rfl ?_))))
  have A97 := Bx73_b3.st (tr4 p86 p90 p92 p95) rfl
  refine ld' A97 u40 rfl (Xa rfl ?_)
  have K98 := Kx73.st (tr4 p86 p90 p92 p95) rfl
  refine ix' (A0_2.kp K98) u40 z73 rfl (fun ad100 es100 h0_100 h1_100 he100 ce100 ia100 => ?_)
  obtain ⟨v100_0, v100_1, v100_2, v100_3, rfl, A100_0, A100_1, A100_2, A100_3⟩ := op73 he100
  refine fa' fa73_1 rfl (lcq (q := 4) (es' := [(iI (((at_ a0.Rows x73.2).Value).Kind)), (iI (((at_ a0.Rows x73.2).Value).N)), v100_2, v100_3]) ce100 u28 z28 rfl rfl rfl rfl rfl rfl rfl rfl (clO 60 rfl func44 rfl (spec_l18item.calls ((at_ a0.Rows x73.2).Value) s95.w (mm [0] s95) v100_2 v100_3 ((Xf (s := s95) A100_2).sub (D := [0]) rfl) A100_3) (fun r104 v104_0 s105 p105 A104_0 => ?_)))
  refine apF Xg sl23 (A95.st p105 rfl) A104_0.rd rfl rfl rfl rfl rfl rfl rfl (fun v108 s108 p108 A108 => ?_)
  refine asg' v108 rfl (dn (ib (rg (Xa rfl (Xa rfl (Xa rfl (dn ?_)))))))
  obtain ⟨s110, hw110, p110, A110⟩ := A108.rc 56 rfl
  rw [hw110]
  exact lb ih73 ⟨s110, _, v108, rfl, (ue (ue (ue rfl rfl) rfl) rfl), (K98.st (tr3 p105 p108 p110) rfl), A110, (A97.st (tr3 p105 p108 p110) rfl)⟩
 exact xt rfl (sgb (sr (mv' vx73_0 rfl (asg' vx73_0 rfl (dn (re rfl func17 rfl (r_t rfl Xd) rfl ⟨_, rfl, Ax73_0.fo Kx73 rfl z.l, z.ky Kx73⟩))))))
def impl_orMark.f (a0 : Item) : Option (ByteArray) :=
 ((impl_ItemOk.f a0).bind fun r6 => (if (!r6) = true then (some (⟨#[63]⟩ : ByteArray)) else ((impl_itemText.f a0).bind fun r13 => (some r13))))
def impl_orMark.Q (w : World) (F : Nat → Prop) (r : ByteArray) (v : Value) (w' : World) : Prop :=
 v = (.string r) ∧ Ky [] w w'
theorem impl_orMark.calls (a0 : Item) (w : World) (F : Nat → Prop) (w0_0 : Value) (w0_1 : Value) (hG : GT.rd w [] () F) (h0_0 : Kd.flt.rd w [w0_0] a0.F F) (h0_1 : Xj.rd w [w0_1] a0.T F) (r : ByteArray) (m : impl_orMark.f a0 = some r) :
  Calls prog 69 #[(.agg #[(iI a0.Kind), (iI a0.N), w0_0, w0_1])] w (RT (impl_orMark.Q w F) r) := by
 obtain ⟨s0, rfl, kp0, z⟩ := Xi w F
 have A0_0 := fl_of h0_0
 have A0_1 := z.rd h0_1
 refine Xc (args := [(.agg #[(iI a0.Kind), (iI a0.N), w0_0, w0_1])]) func69 ntmps69 rfl rfl m ?_
 unfold impl_orMark.f
 refine sr (bx (cs := [(iI a0.Kind), (iI a0.N), w0_0, w0_1]) 40 rfl rfl rfl rfl rfl rfl (fun b2 s2 p2 B2 => ?_))
 refine Xa rfl (dn (sq (sr (lda' (es := [(iI a0.Kind), (iI a0.N), w0_0, w0_1]) B2 u28 z28 rfl ?_))))
 have K4 := kp0.st p2 rfl
 refine clV 41 rfl func38 rfl (impl_ItemOk.calls a0 s2.w (mm [0] s2) w0_0 w0_1 ((Xf (s := s2) A0_0).sub (D := [0]) rfl) (A0_1.kp K4)) (fun r6 s7 p7 n7 => ?_)
 refine Xa rfl (dn (cd rfl (fun h8 => ?_) (fun h8 => ?_)))
 ·
  refine sr (Xa rfl (dn ?_))
  exact re rfl func69 rfl (r_t rfl Xd) rfl ⟨_, rfl, rfl, z.ky (K4.st p7 rfl)⟩
 refine sk (sr ?_)
 refine lda' (es := [(iI a0.Kind), (iI a0.N), w0_0, w0_1]) (B2.st p7 rfl) u28 z28 rfl ?_
 have K11 := K4.st p7 rfl
 refine clV 42 rfl func39 rfl (impl_itemText.calls a0 s7.w (mm [0] s7) w0_0 w0_1 ((z.rd hG).kp K11) ((Xf (s := s7) A0_0).sub (D := [0]) rfl) (A0_1.kp K11)) (fun r13 s14 p14 n14 => ?_)
 refine Xa rfl (dn ?_)
 exact re rfl func69 rfl (r_t rfl Xd) rfl ⟨_, rfl, rfl, z.ky (K11.st p14 rfl)⟩
section
open Go.Shelf
shelf_lay Lays.n156 Nm 156 at Tryd as lay_join
theorem join_extra : Builder.Extra Tryd.prog lay_join_ren where
  sizeBuilder := by kernel_rfl
  liesBuilder := by kernel_rfl
  t5 := Tryd.underlying5
  a5 := Tryd.isAgg5
  z5 := Tryd.sizeOf5
  v5 := Tryd.zeroValue5
  infoByte := by kernel_rfl
  cellsByte := by kernel_rfl
  sizeByte := by kernel_rfl
  neB5 := by decide
def strings_Join.f (a0 : (List ByteArray)) (a1 : ByteArray) : Option (ByteArray) := if a0.length ≤ Lim ∧ (Lib.join (a0.map (·.data.toList)) a1.data.toList).length ≤ Lim then some ⟨(Lib.join (a0.map (·.data.toList)) a1.data.toList).toArray⟩ else none
def strings_Join.Q (w : World) (F : Nat → Prop) (r : ByteArray) (v : Value) (w' : World) : Prop := v = (.string r) ∧ Ky [] w w'
theorem strings_Join.calls (a0 : (List ByteArray)) (a1 : ByteArray) (w : World) (F : Nat → Prop) (w0_0 : Value) (h0_0 : (Kd.sl 9 Kd.str).rd w [w0_0] a0 F) (r : ByteArray) (m : strings_Join.f a0 a1 = some r) :
    Calls Tryd.prog 70 #[w0_0, .string a1] w (RT (strings_Join.Q w F) r) := by
  unfold strings_Join.f at m
  split at m
  · rename_i h
    cases m
    obtain ⟨v1, e1, B, cap, cells, hv, hcap, hels, hc⟩ := h0_0
    obtain rfl : w0_0 = v1 := by simpa using e1
    subst hv
    have hcs := els_strs hels
    cases a0 with
    | nil => exact Calls.mono (Any.strings_Join_none lay_join join_extra B cap a1 w) fun e w' ⟨he, hw⟩ => ⟨_, he, rfl, by rw [hw]; exact Ky.refl w⟩
    | cons x xs =>
      obtain ⟨ad, rfl, _, hcell⟩ := hc (by rw [hcs]; simp)
      have h0 := hcell 0 (.string x) (by rw [hcs]; rfl)
      obtain ⟨bk, o, sp⟩ := ad
      have hsp : sp = none := by
        cases sp with
        | none => rfl
        | some q => simp [World.cell?, Addr.add] at h0; split at h0 <;> cases h0
      subst hsp
      have hj : ∀ (j : Nat) y, (x :: xs)[j]? = some y → w.cell? ⟨bk, o + j, none⟩ = some (.string y) := fun j y hy => by
        have h1 := hcell j (.string y) (by rw [hcs, List.getElem?_map, hy]; rfl)
        rwa [Addr.add_lit] at h1
      have hbk : bk < w.heap.size := by
        have := World.block_lt_of_cell? w _ h0
        simpa [Addr.add] using this
      exact Calls.mono (Any.strings_Join lay_join join_extra bk o cap (x :: xs) a1 w hj hbk (by have := h.1; unfold Lim at this; omega) hcap (by have := h.2; unfold Lim at this; omega)) fun e w' ⟨he, hw⟩ => ⟨_, he, rfl, Ky.of_below hw⟩
  · cases m
end

def impl_replyText.b0 (a0 : Reply) (x97 : (List ByteArray) × Int) : Option (((List ByteArray) × Int) ⊕ ByteArray) :=
 (if (decide (x97.2 < (a0.Rows.length : Int))) = true then (if 0 ≤ x97.2 ∧ x97.2 < (a0.Rows.length : Int) then ((impl_orMark.f ((at_ a0.Rows x97.2).Key)).bind fun r125 => (if r125.size + (⟨#[61]⟩ : ByteArray).size ≤ Lim then ((impl_orMark.f ((at_ a0.Rows x97.2).Value)).bind fun r134 => (if (r125 ++ (⟨#[61]⟩ : ByteArray)).size + r134.size ≤ Lim then (if x97.1.length + ([((r125 ++ (⟨#[61]⟩ : ByteArray)) ++ r134)]).length ≤ Lim then (some (Sum.inl ((x97.1 ++ [((r125 ++ (⟨#[61]⟩ : ByteArray)) ++ r134)]), (IntKind.wrap .i64 (x97.2 + (1 : Int)))))) else none) else none)) else none)) else none) else (((strings_Join.f x97.1 (⟨#[32]⟩ : ByteArray)).bind fun r147 => (some r147)).bind fun o => some (Sum.inr o)))
def impl_replyText.f (a0 : Reply) : Option (ByteArray) :=
 ((impl_within.f a0.Code (0 : Int) (99 : Int)).bind fun r5 => ((if r5 = true then ((strconv_Itoa.f (IntKind.wrap .i64 (a0.Code.tdiv (10 : Int)))).bind fun r22 => ((strconv_Itoa.f (a0.Code.tmod (10 : Int))).bind fun r27 => (if r22.size + r27.size ≤ Lim then (some (r22 ++ r27)) else none))) else (some (⟨#[63, 63]⟩ : ByteArray))).bind fun y7 => ((strconv_Itoa.f a0.Seat).bind fun r59 => ((strconv_Itoa.f a0.Kind).bind fun r68 => ((strconv_Itoa.f a0.N).bind fun r76 => ((impl_orMark.f a0.Value).bind fun r84 => ((impl_bitsText.f a0.Total).bind fun r89 => (iter (impl_replyText.b0 a0) ([y7, r59, r68, r76, r84, r89], (0 : Int))))))))))
def impl_replyText.Q (w : World) (F : Nat → Prop) (r : ByteArray) (v : Value) (w' : World) : Prop :=
 v = (.string r) ∧ Ky [] w w'
theorem impl_replyText.calls (a0 : Reply) (w : World) (F : Nat → Prop) (w0_0 : Value) (w0_1 : Value) (w0_2 : Value) (w0_3 : Value) (hG : GT.rd w [] () F) (h0_0 : Kd.flt.rd w [w0_0] a0.Value.F F) (h0_1 : Xj.rd w [w0_1] a0.Value.T F) (h0_2 : Xk.rd w [w0_2] a0.Rows F) (h0_3 : Kd.flt.rd w [w0_3] a0.Total F) (r : ByteArray) (m : impl_replyText.f a0 = some r) :
  Calls prog 46 #[(.agg #[(iI a0.Seat), (iI a0.Kind), (iI a0.Code), (iI a0.N), (iI a0.Value.Kind), (iI a0.Value.N), w0_0, w0_1, w0_2, w0_3])] w (RT (impl_replyText.Q w F) r) := by
 obtain ⟨s0, rfl, kp0, z⟩ := Xi w F
 have A0_2 := z.rd h0_2
 have AG := z.rd hG
 refine Xc (args := [(.agg #[(iI a0.Seat), (iI a0.Kind), (iI a0.Code), (iI a0.N), (iI a0.Value.Kind), (iI a0.Value.N), w0_0, w0_1, w0_2, w0_3])]) func46 ntmps46 rfl rfl m ?_
 unfold impl_replyText.f
 refine sr (bx (cs := [(iI a0.Seat), (iI a0.Kind), (iI a0.Code), (iI a0.N), (iI a0.Value.Kind), (iI a0.Value.N), w0_0, w0_1, w0_2, w0_3]) 40 rfl rfl rfl rfl rfl rfl (fun b3 s3 p3 B3 => ?_))
 refine Xa rfl (dn (sr (Xa rfl (dn (sq (sr (fa' fa42_2 rfl (ld' B3 u3 rfl (clV 41 rfl func62 rfl (impl_within.calls a0.Code (0 : Int) (99 : Int) s3.w (mm [] s3)) (fun r5 s6 p6 n6 => ?_))))))))))
 refine dn (jc (fun (y7 : ByteArray) e w => ∃ (s : St) (e0 : Env), w = s.w ∧ e = upd (upd e0 1 (pB b3)) 3 (.string y7) ∧ Kp s0 s ∧ BlF s b3 42 [(iI a0.Seat), (iI a0.Kind), (iI a0.Code), (iI a0.N), (iI a0.Value.Kind), (iI a0.Value.N), w0_0, w0_1, w0_2, w0_3] 40) (fun Gj7 Kj7 => ?_) ?_)
 ·
  refine cd rfl (fun h8 => ?_) (fun h8 => ?_)
  ·
   refine zdraw [[], [0], [1], [2], [], [4], [5], [6, 3], [3, 7], [8, 7, 0, 1, 2, 3, 4, 5, 6, 7, 8]] [some 10, some 11, some 12, some 13, some 14, some 15, some 16, some 17, some 18, some 3] [[1], [10], [11], [12], [1], [14], [15], [16], [13, 17], [18]] [0, 1, 2, 3, 4, 5, 6, 7, 8, 9] ⟨by kernel_rfl, by kernel_rfl, by kernel_rfl⟩ (by kernel_rfl) (fun s9 p9 l9 tb9 zd9 => ?_)
   refine zstep 3 [some 16, some 15, some 14] tb9 ((((((zd9.add 0 10 (pO b3 2) rfl).add 1 11 (iI a0.Code) rfl).add 2 12 (iI (IntKind.wrap .i64 (a0.Code.tdiv (10 : Int)))) rfl).add 4 14 (pO b3 2) rfl).add 5 15 (iI a0.Code) rfl).add 6 16 (iI (a0.Code.tmod (10 : Int))) rfl) (Xb (remK_q rfl rfl rfl rfl rfl rfl rfl rfl) rfl (Xb (ld_q (B3.st (tr2 p6 p9) rfl) u3 rfl rfl rfl rfl rfl rfl rfl rfl) rfl (Xb (fa_q fa42_2 rfl rfl rfl rfl rfl rfl) rfl (Xb (quoK_q rfl rfl rfl rfl rfl rfl rfl rfl) rfl (Xb (ld_q (B3.st (tr2 p6 p9) rfl) u3 rfl rfl rfl rfl rfl rfl rfl rfl) rfl (Xb (fa_q fa42_2 rfl rfl rfl rfl rfl rfl) rfl pq_nil)))))) (by kernel_rfl) rfl (fun l18 e18 zd18 => ?_)
   have K21 := kp0.st (tr3 p3 p6 p9) rfl
   refine clV 42 rfl func64 rfl (strconv_Itoa.calls (IntKind.wrap .i64 (a0.Code.tdiv (10 : Int))) s9.w (mm [0] s9) (AG.kp K21)) (fun r22 s23 p23 n23 => ?_)
   refine zdone (L' := [6, 5, 4]) (D' := [0, 1, 2, 3]) zd18 rfl rfl rfl (fun zd24 => ?_)
   refine zfin [7, 8, 9] tb9 zd24 (Xb (remK_q rfl rfl rfl rfl rfl rfl rfl rfl) rfl (Xb (ld_q (B3.st (tr3 p6 p9 p23) rfl) u3 rfl rfl rfl rfl rfl rfl rfl rfl) rfl (Xb (fa_q fa42_2 rfl rfl rfl rfl rfl rfl) rfl pq_nil))) (by kernel_rfl) (by decide) ?_
   have K26 := K21.st p23 rfl
   refine clV 43 rfl func64 rfl (strconv_Itoa.calls (a0.Code.tmod (10 : Int)) s23.w (mm [0] s23) (AG.kp K26)) (fun r27 s28 p28 n28 => ?_)
   refine sad rfl rfl rfl rfl rfl rfl rfl (Xa rfl (dn ?_))
   exact Kj7 _ _ _ ⟨s28, _, rfl, (ue (ue rfl rfl) rfl), (K26.st p28 rfl), (B3.st (tr4 p6 p9 p23 p28) rfl)⟩
  exact sk (Kj7 _ _ _ ⟨s6, _, rfl, (ue (ue rfl rfl) rfl), (kp0.st (tr2 p3 p6) rfl), (B3.st p6 rfl)⟩)
 rintro y7 _ _ ⟨s33, _, rfl, rfl, Ky7, By7_b3⟩
 refine sq (zdraw [[], [], [1], [2], [], [4], [5, 3], [], [7], [8, 6], [], [10], [11, 9], [], [13], [14, 12], [0, 3, 6, 9, 12, 15], [16, 15, 0, 1, 2, 3, 4, 5, 6, 7, 8, 9, 10, 11, 12, 13, 14, 15, 16]] [some 19, some 20, some 21, some 22, some 23, some 24, some 25, some 26, some 27, some 28, some 29, some 30, some 31, some 32, some 33, some 34, some 35, some 4] [[3], [1], [20], [21], [1], [23], [24], [1], [26], [27], [1], [29], [30], [1], [32], [33], [19, 22, 25, 28, 31, 34], [35]] [0, 1, 2, 3, 4, 5, 6, 7, 8, 9, 10, 11, 12, 13, 14, 15, 16, 17] ⟨by kernel_rfl, by kernel_rfl, by kernel_rfl⟩ (by kernel_rfl) (fun s35 p35 l35 tb35 zd35 => ?_))
 refine zstep 3 [some 33, some 32, some 30, some 29, some 27, some 26, some 24, some 23, some 19] tb35 (((((((((((zd35.add 0 19 (.string y7) rfl).add 1 20 (pB b3) rfl).add 2 21 (iI a0.Seat) rfl).add 4 23 (pO b3 1) rfl).add 5 24 (iI a0.Kind) rfl).add 7 26 (pO b3 3) rfl).add 8 27 (iI a0.N) rfl).add 10 29 (pO b3 4) rfl).add 11 30 (.agg #[(iI a0.Value.Kind), (iI a0.Value.N), w0_0, w0_1]) rfl).add 13 32 (pO b3 9) rfl).add 14 33 w0_3 rfl) (Xb (ld_q (By7_b3.st p35 rfl) u22 rfl rfl rfl rfl rfl rfl rfl rfl) rfl (Xb (fa_q fa42_6 rfl rfl rfl rfl rfl rfl) rfl (Xb (lda_q (es := [(iI a0.Value.Kind), (iI a0.Value.N), w0_0, w0_1]) (By7_b3.st p35 rfl) u28 z28 rfl rfl rfl rfl rfl rfl rfl rfl) rfl (Xb (fa_q fa42_4 rfl rfl rfl rfl rfl rfl) rfl (Xb (ld_q (By7_b3.st p35 rfl) u3 rfl rfl rfl rfl rfl rfl rfl rfl) rfl (Xb (fa_q fa42_3 rfl rfl rfl rfl rfl rfl) rfl (Xb (ld_q (By7_b3.st p35 rfl) u3 rfl rfl rfl rfl rfl rfl rfl rfl) rfl (Xb (fa_q fa42_1 rfl rfl rfl rfl rfl rfl) rfl (Xb (ld_q (By7_b3.st p35 rfl) u3 rfl rfl rfl rfl rfl rfl rfl rfl) rfl (Xb (fa_q fa42_0 rfl rfl rfl rfl rfl rfl) rfl (Xb (pu_q rfl rfl rfl rfl rfl rfl) rfl pq_nil))))))))))) (by kernel_rfl) rfl (fun l52 e52 zd52 => ?_)
 have K58 := Ky7.st p35 rfl
 refine clV 44 rfl func64 rfl (strconv_Itoa.calls a0.Seat s35.w (mm [0] s35) (AG.kp K58)) (fun r59 s60 p60 n60 => ?_)
 refine zdone (L' := [14, 13, 11, 10, 8, 7, 5, 4, 0]) (D' := [1, 2, 3]) zd52 rfl rfl rfl (fun zd61 => ?_)
 refine zstep 6 [some 33, some 32, some 30, some 29, some 27, some 26, some 19] tb35 zd61 (Xb (ld_q (By7_b3.st (tr2 p35 p60) rfl) u22 rfl rfl rfl rfl rfl rfl rfl rfl) rfl (Xb (fa_q fa42_6 rfl rfl rfl rfl rfl rfl) rfl (Xb (lda_q (es := [(iI a0.Value.Kind), (iI a0.Value.N), w0_0, w0_1]) (By7_b3.st (tr2 p35 p60) rfl) u28 z28 rfl rfl rfl rfl rfl rfl rfl rfl) rfl (Xb (fa_q fa42_4 rfl rfl rfl rfl rfl rfl) rfl (Xb (ld_q (By7_b3.st (tr2 p35 p60) rfl) u3 rfl rfl rfl rfl rfl rfl rfl rfl) rfl (Xb (fa_q fa42_3 rfl rfl rfl rfl rfl rfl) rfl (Xb (ld_q (By7_b3.st (tr2 p35 p60) rfl) u3 rfl rfl rfl rfl rfl rfl rfl rfl) rfl (Xb (fa_q fa42_1 rfl rfl rfl rfl rfl rfl) rfl (Xb (pu_q rfl rfl rfl rfl rfl rfl) rfl pq_nil))))))))) (by kernel_rfl) rfl (fun l62 e62 zd62 => ?_)
 have K67 := K58.st p60 rfl
 refine clV 45 rfl func64 rfl (strconv_Itoa.calls a0.Kind s60.w (mm [0] s60) (AG.kp K67)) (fun r68 s69 p69 n69 => ?_)
 refine zdone (L' := [14, 13, 11, 10, 8, 7, 0]) (D' := [4, 5, 6, 1, 2, 3]) zd62 rfl rfl rfl (fun zd70 => ?_)
 refine zstep 9 [some 33, some 32, some 30, some 29, some 19] tb35 zd70 (Xb (ld_q (By7_b3.st (tr3 p35 p60 p69) rfl) u22 rfl rfl rfl rfl rfl rfl rfl rfl) rfl (Xb (fa_q fa42_6 rfl rfl rfl rfl rfl rfl) rfl (Xb (lda_q (es := [(iI a0.Value.Kind), (iI a0.Value.N), w0_0, w0_1]) (By7_b3.st (tr3 p35 p60 p69) rfl) u28 z28 rfl rfl rfl rfl rfl rfl rfl rfl) rfl (Xb (fa_q fa42_4 rfl rfl rfl rfl rfl rfl) rfl (Xb (ld_q (By7_b3.st (tr3 p35 p60 p69) rfl) u3 rfl rfl rfl rfl rfl rfl rfl rfl) rfl (Xb (fa_q fa42_3 rfl rfl rfl rfl rfl rfl) rfl (Xb (pu_q rfl rfl rfl rfl rfl rfl) rfl pq_nil))))))) (by kernel_rfl) rfl (fun l71 e71 zd71 => ?_)
 have K75 := K67.st p69 rfl
 refine clV 46 rfl func64 rfl (strconv_Itoa.calls a0.N s69.w (mm [0] s69) (AG.kp K75)) (fun r76 s77 p77 n77 => ?_)
 refine zdone (L' := [14, 13, 11, 10, 0]) (D' := [7, 8, 9, 4, 5, 6, 1, 2, 3]) zd71 rfl rfl rfl (fun zd78 => ?_)
 refine zstep 12 [some 33, some 32, some 19] tb35 zd78 (Xb (ld_q (By7_b3.st (tr4 p35 p60 p69 p77) rfl) u22 rfl rfl rfl rfl rfl rfl rfl rfl) rfl (Xb (fa_q fa42_6 rfl rfl rfl rfl rfl rfl) rfl (Xb (lda_q (es := [(iI a0.Value.Kind), (iI a0.Value.N), w0_0, w0_1]) (By7_b3.st (tr4 p35 p60 p69 p77) rfl) u28 z28 rfl rfl rfl rfl rfl rfl rfl rfl) rfl (Xb (fa_q fa42_4 rfl rfl rfl rfl rfl rfl) rfl (Xb (pu_q rfl rfl rfl rfl rfl rfl) rfl pq_nil))))) (by kernel_rfl) rfl (fun l79 e79 zd79 => ?_)
 have K82 := K75.st p77 rfl
 refine clV 47 rfl func69 rfl (impl_orMark.calls a0.Value s77.w (mm [0] s77) w0_0 w0_1 (AG.kp K82) ((Xf (s := s77) (fl_of h0_0)).sub (D := [0]) rfl) ((z.rd h0_1).kp K82)) (fun r84 s85 p85 n85 => ?_)
 refine zdone (L' := [14, 13, 0]) (D' := [10, 11, 12, 7, 8, 9, 4, 5, 6, 1, 2, 3]) zd79 rfl rfl rfl (fun zd86 => ?_)
 refine zstep 15 [some 19] tb35 zd86 (Xb (ld_q (By7_b3.st (tr5 p35 p60 p69 p77 p85) rfl) u22 rfl rfl rfl rfl rfl rfl rfl rfl) rfl (Xb (fa_q fa42_6 rfl rfl rfl rfl rfl rfl) rfl (Xb (pu_q rfl rfl rfl rfl rfl rfl) rfl pq_nil))) (by kernel_rfl) rfl (fun l87 e87 zd87 => ?_)
 refine clV 48 rfl func65 rfl (impl_bitsText.calls a0.Total s85.w (mm [] s85) w0_3 (Xf (s := s85) (fl_of h0_3))) (fun r89 s90 p90 n90 => ?_)
 refine zdone (L' := [0]) (D' := [13, 14, 15, 10, 11, 12, 7, 8, 9, 4, 5, 6, 1, 2, 3]) zd87 rfl rfl rfl (fun zd91 => ?_)
 refine zfin [16, 17] tb35 zd91 (Xb (pu_q rfl rfl rfl rfl rfl rfl) rfl pq_nil) (by kernel_rfl) (by decide) (ltF' (K := Kd.str) (cells := [(.string y7), (.string r59), (.string r68), (.string r76), (.string r84), (.string r89)]) [y7, r59, r68, r76, r84, r89] 49 fl_str u80 z9 o9 (fun w => (Xh _ _ _)) rfl rfl (fun v92 s92 p92 A92 => ?_))
 refine asg' v92 rfl (dn (sq (sr (fa' fa42_5 rfl ?_))))
 refine ld' (By7_b3.st (tr7 p35 p60 p69 p77 p85 p90 p92) rfl) u40 rfl ?_
 have K95 := K82.st (tr3 p85 p90 p92) rfl
 refine ln' (A0_2.kp K95) u40 rfl (Xa rfl (dn (bl (lpI (fun (x97 : (List ByteArray) × Int) e w => ∃ (s : St) (e0 : Env) (vx97_0 : Value), w = s.w ∧ e = upd (upd (upd (upd e0 4 vx97_0) 37 w0_2) 38 (iI (a0.Rows.length : Int))) 39 (iI x97.2) ∧ Kp s0 s ∧ OwF (Kd.sl 9 Kd.str) s [vx97_0] x97.1 49) ⟨s92, _, v92, rfl, (ue (ue (ue (ue rfl rfl) rfl) rfl) rfl), K95, A92⟩ (fun g97 ih97 => ?_)))))
 rintro x97 _ _ ⟨s98, _, vx97_0, rfl, rfl, Kx97, Ax97_0⟩
 unfold impl_replyText.b0
 refine sr (Xa rfl (dn (sq (cd rfl (fun h100 => ?_) (fun h100 => ?_)))))
 ·
  refine sk (sq (bl (sr ?_)))
  refine ix' (A0_2.kp Kx97) u40 z73 rfl (fun ad102 es102 h0_102 h1_102 he102 ce102 ia102 => ?_)
  obtain ⟨v102_0, v102_1, v102_2, v102_3, rfl, A102_0, A102_1, A102_2, A102_3⟩ := op73 he102
  refine lca ce102 u73 z73 rfl rfl rfl rfl rfl rfl rfl (al (cs := [(iI 0), (iI 0), (.float .f64 0), (.slice none 0 0), (iI 0), (iI 0), (.float .f64 0), (.slice none 0 0)]) 50 rfl rfl rfl rfl rfl o73 rfl (fun b106 s106 p106 B106 => ?_))
  have A108 := A102_3.st p106 rfl
  have A109 := A102_1.st p106 rfl
  refine sva (vs := [(iI (((at_ a0.Rows x97.2).Key).Kind)), (iI (((at_ a0.Rows x97.2).Key).N)), v102_0, v102_1, (iI (((at_ a0.Rows x97.2).Value).Kind)), (iI (((at_ a0.Rows x97.2).Value).N)), v102_2, v102_3]) B106 z73 rfl rfl rfl rfl rfl rfl (Xe rfl (Xe rfl (Xe (FL.one A102_0) (Xe A109.one (Xe rfl (Xe rfl (Xe (FL.one A102_2) (Xe A108.one on_nil)))))))) rfl (fun s110 p110 B110 => ?_)
  refine dn (zdraw [[], [], [1], [2], [3], [], [5], [6, 3], [4, 7], [8], [0, 9, 7], [10, 10, 0, 1, 2, 3, 4, 5, 6, 7, 8, 9, 10]] [some 43, some 44, some 45, some 46, some 47, some 48, some 49, some 50, some 51, some 52, some 53, some 4] [[4], [6], [44], [45], [46], [6], [48], [49], [47, 50], [51], [43, 52], [53]] [0, 1, 2, 3, 4, 5, 6, 7, 8, 9, 10, 11] ⟨by kernel_rfl, by kernel_rfl, by kernel_rfl⟩ (by kernel_rfl) (fun s112 p112 l112 tb112 zd112 => ?_))
  refine zstep 3 [some 49, some 48, some 43] tb112 (((((zd112.add 0 43 vx97_0 rfl).add 1 44 (pB b106) rfl).add 2 45 (.agg #[(iI (((at_ a0.Rows x97.2).Key).Kind)), (iI (((at_ a0.Rows x97.2).Key).N)), v102_0, v102_1]) rfl).add 5 48 (pO b106 4) rfl).add 6 49 (.agg #[(iI (((at_ a0.Rows x97.2).Value).Kind)), (iI (((at_ a0.Rows x97.2).Value).N)), v102_2, v102_3]) rfl) (Xb (lda_q (es := [(iI (((at_ a0.Rows x97.2).Value).Kind)), (iI (((at_ a0.Rows x97.2).Value).N)), v102_2, v102_3]) (B110.st p112 rfl) u28 z28 rfl rfl rfl rfl rfl rfl rfl rfl) rfl (Xb (fa_q fa73_1 rfl rfl rfl rfl rfl rfl) rfl (Xb (lda_q (es := [(iI (((at_ a0.Rows x97.2).Key).Kind)), (iI (((at_ a0.Rows x97.2).Key).N)), v102_0, v102_1]) (B110.st p112 rfl) u28 z28 rfl rfl rfl rfl rfl rfl rfl rfl) rfl (Xb (fa_q fa73_0 rfl rfl rfl rfl rfl rfl) rfl (Xb (mv_q vx97_0 rfl rfl rfl rfl rfl rfl) rfl pq_nil))))) (by kernel_rfl) rfl (fun l120 e120 zd120 => ?_)
  have K124 := Kx97.st (tr3 p106 p110 p112) rfl
  refine clV 51 rfl func69 rfl (impl_orMark.calls ((at_ a0.Rows x97.2).Key) s112.w (mm [0] s112) v102_0 v102_1 (AG.kp K124) ((Xf (s := s112) A102_0).sub (D := [0]) rfl) (A109.st (tr2 p110 p112) rfl)) (fun r125 s126 p126 n126 => ?_)
  refine zdone (L' := [6, 5, 0]) (D' := [1, 2, 3]) zd120 rfl rfl rfl (fun zd127 => ?_)
  refine mg fun hg128 => (zstep 7 [some 47, some 43] tb112 (zd127.add 4 47 (.string (r125 ++ (⟨#[61]⟩ : ByteArray))) rfl) (Xb (sad_q hg128 rfl rfl rfl rfl rfl rfl rfl) rfl (Xb (lda_q (es := [(iI (((at_ a0.Rows x97.2).Value).Kind)), (iI (((at_ a0.Rows x97.2).Value).N)), v102_2, v102_3]) (B110.st (tr2 p112 p126) rfl) u28 z28 rfl rfl rfl rfl rfl rfl rfl rfl) rfl (Xb (fa_q fa73_1 rfl rfl rfl rfl rfl rfl) rfl (Xb (mv_q vx97_0 rfl rfl rfl rfl rfl rfl) rfl pq_nil)))) (by kernel_rfl) rfl (fun l130 e130 zd130 => ?_))
  have K133 := K124.st p126 rfl
  refine clV 52 rfl func69 rfl (impl_orMark.calls ((at_ a0.Rows x97.2).Value) s126.w (mm [0] s126) v102_2 v102_3 (AG.kp K133) ((Xf (s := s126) A102_2).sub (D := [0]) rfl) (A108.st (tr3 p110 p112 p126) rfl)) (fun r134 s135 p135 n135 => ?_)
  refine zdone (L' := [4, 0]) (D' := [5, 6, 7, 1, 2, 3]) zd130 rfl rfl rfl (fun zd136 => ?_)
  refine mg fun hg137 => (zstep 9 [some 43] tb112 (zd136.add 8 51 (.string ((r125 ++ (⟨#[61]⟩ : ByteArray)) ++ r134)) rfl) (Xb (sad_q hg137 rfl rfl rfl rfl rfl rfl rfl) rfl (Xb (sad_q hg128 rfl rfl rfl rfl rfl rfl rfl) rfl (Xb (mv_q vx97_0 rfl rfl rfl rfl rfl rfl) rfl pq_nil))) (by kernel_rfl) rfl (fun l139 e139 zd139 => ?_))
  refine ltF' (K := Kd.str) (cells := [(.string ((r125 ++ (⟨#[61]⟩ : ByteArray)) ++ r134))]) [((r125 ++ (⟨#[61]⟩ : ByteArray)) ++ r134)] 53 fl_str u80 z9 o9 (fun w => (Xh _ _ _)) rfl rfl (fun v140 s140 p140 A140 => ?_)
  refine zdone (L' := [0]) (D' := [4, 8, 9, 5, 6, 7, 1, 2, 3]) zd139 rfl rfl rfl (fun zd142 => ?_)
  refine zfin [10, 11] tb112 zd142 (Xb (mv_q vx97_0 rfl rfl rfl rfl rfl rfl) rfl pq_nil) (by kernel_rfl) (by decide) (apF fl_str sl80 (Ax97_0.st (tr6 p106 p110 p112 p126 p135 p140) rfl) A140.rd rfl rfl rfl rfl rfl rfl rfl (fun v144 s144 p144 A144 => ?_))
  refine asg' v144 rfl (dn (ib (rg (Xa rfl (Xa rfl (dn ?_))))))
  exact lb ih97 ⟨s144, _, v144, rfl, (ue (ue (ue (ue rfl rfl) rfl) rfl) rfl), (K133.st (tr3 p135 p140 p144) rfl), A144⟩
 refine xt rfl (sgb (sr (mv' vx97_0 rfl (clV 54 rfl func70 rfl (strings_Join.calls x97.1 (⟨#[32]⟩ : ByteArray) s98.w (mm [49] s98) vx97_0 Ax97_0.rd) (fun r147 s148 p148 n148 => ?_)))))
 refine Xa rfl (dn ?_)
 exact re rfl func46 rfl (r_t rfl Xd) rfl ⟨_, rfl, rfl, z.ky (Kx97.st p148 rfl)⟩
def impl_ReplyText.f (a0 : Reply) : Option ((List Int)) :=
 ((impl_replyText.f a0).bind fun r8 => (if r8.size ≤ Lim then (some (bts r8)) else none))
def impl_ReplyText.Q (w : World) (F : Nat → Prop) (r : (List Int)) (v : Value) (w' : World) : Prop :=
 FO Xj w w' [v] r ∧ Ky [] w w'
theorem impl_ReplyText.calls (a0 : Reply) (w : World) (F : Nat → Prop) (w0_0 : Value) (w0_1 : Value) (w0_2 : Value) (w0_3 : Value) (hG : GT.rd w [] () F) (h0_0 : Kd.flt.rd w [w0_0] a0.Value.F F) (h0_1 : Xj.rd w [w0_1] a0.Value.T F) (h0_2 : Xk.rd w [w0_2] a0.Rows F) (h0_3 : Kd.flt.rd w [w0_3] a0.Total F) (r : (List Int)) (m : impl_ReplyText.f a0 = some r) :
  Calls prog 19 #[(.agg #[(iI a0.Seat), (iI a0.Kind), (iI a0.Code), (iI a0.N), (iI a0.Value.Kind), (iI a0.Value.N), w0_0, w0_1, w0_2, w0_3])] w (RT (impl_ReplyText.Q w F) r) := by
 obtain ⟨s0, rfl, kp0, z⟩ := Xi w F
 refine Xc (args := [(.agg #[(iI a0.Seat), (iI a0.Kind), (iI a0.Code), (iI a0.N), (iI a0.Value.Kind), (iI a0.Value.N), w0_0, w0_1, w0_2, w0_3])]) func19 ntmps19 rfl rfl m ?_
 unfold impl_ReplyText.f
 refine sr (bx (cs := [(iI a0.Seat), (iI a0.Kind), (iI a0.Code), (iI a0.N), (iI a0.Value.Kind), (iI a0.Value.N), w0_0, w0_1, w0_2, w0_3]) 40 rfl rfl rfl rfl rfl rfl (fun b3 s3 p3 B3 => ?_))
 refine Xa rfl (dn (sr (lda' (es := [(iI a0.Seat), (iI a0.Kind), (iI a0.Code), (iI a0.N), (iI a0.Value.Kind), (iI a0.Value.N), w0_0, w0_1, w0_2, w0_3]) B3 u42 z42 rfl ?_)))
 have K5 := kp0.st p3 rfl
 refine clV 41 rfl func46 rfl (impl_replyText.calls a0 s3.w (mm [0] s3) w0_0 w0_1 w0_2 w0_3 ((z.rd hG).kp K5) ((Xf (s := s3) (fl_of h0_0)).sub (D := [0]) rfl) ((z.rd h0_1).kp K5) ((z.rd h0_2).kp K5) ((Xf (s := s3) (fl_of h0_3)).sub (D := [0]) rfl)) (fun r8 s9 p9 n9 => ?_)
 refine s2b 42 u9 u23 u5 rfl rfl rfl rfl rfl rfl (fun v10 s10 p10 A10 => ?_)
 refine asg' v10 rfl (dn ?_)
 have K12 := K5.st (tr2 p9 p10) rfl
 exact re rfl func19 rfl (r_t rfl Xd) rfl ⟨_, rfl, A10.fo K12 rfl z.l, z.ky K12⟩
def laws_eqPair.f (a0 : Pair) (a1 : Pair) : Option (Bool) :=
 ((laws_eqItem.f a0.Key a1.Key).bind fun r13 => (if (!r13) = true then (some false) else ((laws_eqItem.f a0.Value a1.Value).bind fun r22 => (if (!r22) = true then (some false) else (some true)))))
def laws_eqPair.Q (w : World) (F : Nat → Prop) (r : Bool) (v : Value) (w' : World) : Prop :=
 v = (.bool r) ∧ Ky [] w w'
theorem laws_eqPair.calls (a0 : Pair) (a1 : Pair) (w : World) (F : Nat → Prop) (w0_0 : Value) (w0_1 : Value) (w0_2 : Value) (w0_3 : Value) (w1_0 : Value) (w1_1 : Value) (w1_2 : Value) (w1_3 : Value) (h0_0 : Kd.flt.rd w [w0_0] a0.Key.F F) (h0_1 : Xj.rd w [w0_1] a0.Key.T F) (h0_2 : Kd.flt.rd w [w0_2] a0.Value.F F) (h0_3 : Xj.rd w [w0_3] a0.Value.T F) (h1_0 : Kd.flt.rd w [w1_0] a1.Key.F F) (h1_1 : Xj.rd w [w1_1] a1.Key.T F) (h1_2 : Kd.flt.rd w [w1_2] a1.Value.F F) (h1_3 : Xj.rd w [w1_3] a1.Value.T F) (r : Bool) (m : laws_eqPair.f a0 a1 = some r) :
  Calls prog 71 #[(.agg #[(iI a0.Key.Kind), (iI a0.Key.N), w0_0, w0_1, (iI a0.Value.Kind), (iI a0.Value.N), w0_2, w0_3]), (.agg #[(iI a1.Key.Kind), (iI a1.Key.N), w1_0, w1_1, (iI a1.Value.Kind), (iI a1.Value.N), w1_2, w1_3])] w (RT (laws_eqPair.Q w F) r) := by
 obtain ⟨s0, rfl, kp0, z⟩ := Xi w F
 refine Xc (args := [(.agg #[(iI a0.Key.Kind), (iI a0.Key.N), w0_0, w0_1, (iI a0.Value.Kind), (iI a0.Value.N), w0_2, w0_3]), (.agg #[(iI a1.Key.Kind), (iI a1.Key.N), w1_0, w1_1, (iI a1.Value.Kind), (iI a1.Value.N), w1_2, w1_3])]) func71 ntmps71 rfl rfl m ?_
 unfold laws_eqPair.f
 refine sr (bx (cs := [(iI a0.Key.Kind), (iI a0.Key.N), w0_0, w0_1, (iI a0.Value.Kind), (iI a0.Value.N), w0_2, w0_3]) 40 rfl rfl rfl rfl rfl rfl (fun b5 s5 p5 B5 => ?_))
 refine bx (cs := [(iI a1.Key.Kind), (iI a1.Key.N), w1_0, w1_1, (iI a1.Value.Kind), (iI a1.Value.N), w1_2, w1_3]) 41 rfl rfl rfl rfl rfl rfl (fun b7 s7 p7 B7 => ?_)
 refine Xa rfl (dn (sq (sr (fa' fa73_0 rfl ?_))))
 have A9 := B5.st p7 rfl
 refine lda' (es := [(iI a0.Key.Kind), (iI a0.Key.N), w0_0, w0_1]) A9 u28 z28 rfl (fa' fa73_0 rfl (lda' (es := [(iI a1.Key.Kind), (iI a1.Key.N), w1_0, w1_1]) B7 u28 z28 rfl ?_))
 have K10 := kp0.st (tr2 p5 p7) rfl
 refine clV 42 rfl func12 rfl (laws_eqItem.calls a0.Key a1.Key s7.w (mm [0] s7) w0_0 w0_1 w1_0 w1_1 ((Xf (s := s7) (fl_of h0_0)).sub (D := [0]) rfl) ((z.rd h0_1).kp K10) ((Xf (s := s7) (fl_of h1_0)).sub (D := [0]) rfl) ((z.rd h1_1).kp K10)) (fun r13 s14 p14 n14 => ?_)
 refine Xa rfl (dn (cd rfl (fun h15 => ?_) (fun h15 => ?_)))
 ·
  refine sr (Xa rfl (dn ?_))
  exact re rfl func71 rfl (r_t rfl Xd) rfl ⟨_, rfl, rfl, z.ky (K10.st p14 rfl)⟩
 refine sk (sq (sr (fa' fa73_1 rfl ?_)))
 refine lda' (es := [(iI a0.Value.Kind), (iI a0.Value.N), w0_2, w0_3]) (A9.st p14 rfl) u28 z28 rfl (fa' fa73_1 rfl ?_)
 refine lda' (es := [(iI a1.Value.Kind), (iI a1.Value.N), w1_2, w1_3]) (B7.st p14 rfl) u28 z28 rfl ?_
 have K19 := K10.st p14 rfl
 refine clV 43 rfl func12 rfl (laws_eqItem.calls a0.Value a1.Value s14.w (mm [0] s14) w0_2 w0_3 w1_2 w1_3 ((Xf (s := s14) (fl_of h0_2)).sub (D := [0]) rfl) ((z.rd h0_3).kp K19) ((Xf (s := s14) (fl_of h1_2)).sub (D := [0]) rfl) ((z.rd h1_3).kp K19)) (fun r22 s23 p23 n23 => ?_)
 refine Xa rfl (dn (cd rfl (fun h24 => ?_) (fun h24 => ?_)))
 ·
  refine sr (Xa rfl (dn ?_))
  exact re rfl func71 rfl (r_t rfl Xd) rfl ⟨_, rfl, rfl, z.ky (K19.st p23 rfl)⟩
 refine sk (sr (Xa rfl (dn ?_)))
 exact re rfl func71 rfl (r_t rfl Xd) rfl ⟨_, rfl, rfl, z.ky (K19.st p23 rfl)⟩
def laws_eqPairS.b0 (a0 : (List Pair)) (a1 : (List Pair)) (x4 : Int) : Option (Int ⊕ Bool) :=
 (if (decide (x4 < (a0.length : Int))) = true then (if 0 ≤ x4 ∧ x4 < (a0.length : Int) then (if 0 ≤ x4 ∧ x4 < (a1.length : Int) then ((laws_eqPair.f (Pair.mk ((at_ a0 x4).Key) ((at_ a0 x4).Value)) (Pair.mk ((at_ a1 x4).Key) ((at_ a1 x4).Value))).bind fun r28 => (if (!r28) = true then (some (Sum.inr false)) else (some (Sum.inl (IntKind.wrap .i64 (x4 + (1 : Int))))))) else none) else none) else ((some true).bind fun o => some (Sum.inr o)))
def laws_eqPairS.f (a0 : (List Pair)) (a1 : (List Pair)) : Option (Bool) :=
 (if ((a0.length : Int) != (a1.length : Int)) = true then (some false) else (iter (laws_eqPairS.b0 a0 a1) (0 : Int)))
def laws_eqPairS.Q (w : World) (F : Nat → Prop) (r : Bool) (v : Value) (w' : World) : Prop :=
 v = (.bool r) ∧ Ky [] w w'
theorem laws_eqPairS.calls (a0 : (List Pair)) (a1 : (List Pair)) (w : World) (F : Nat → Prop) (w0_0 : Value) (w1_0 : Value) (h0_0 : Xk.rd w [w0_0] a0 F) (h1_0 : Xk.rd w [w1_0] a1 F) (r : Bool) (m : laws_eqPairS.f a0 a1 = some r) :
  Calls prog 47 #[w0_0, w1_0] w (RT (laws_eqPairS.Q w F) r) := by
 obtain ⟨s0, rfl, kp0, z⟩ := Xi w F
 have A0_0 := z.rd h0_0
 have A1_0 := z.rd h1_0
 refine Xc (args := [w0_0, w1_0]) func47 ntmps47 rfl rfl m ?_
 unfold laws_eqPairS.f
 refine sr (Xa rfl (dn (sq (sr (mv' w0_0 rfl (ln' A0_0 u40 rfl (mv' w1_0 rfl (ln' A1_0 u40 rfl (Xa rfl (dn (cd rfl (fun h3 => ?_) (fun h3 => ?_))))))))))))
 ·
  exact sr (Xa rfl (dn (re rfl func47 rfl (r_t rfl Xd) rfl ⟨_, rfl, rfl, z.ky kp0⟩)))
 refine sk (sq (sr (Xa rfl (dn (bl (lpI (fun (x4 : Int) e w => ∃ (s : St) (e0 : Env), w = s.w ∧ e = upd (upd (upd e0 0 w0_0) 1 w1_0) 5 (iI x4) ∧ Kp s0 s) ⟨s0, _, rfl, (ue (ue (ue rfl rfl) rfl) rfl), kp0⟩ (fun g4 ih4 => ?_)))))))
 rintro x4 _ _ ⟨s5, _, rfl, rfl, Kx4⟩
 unfold laws_eqPairS.b0
 refine sq (sr (Xa rfl (mv' w0_0 rfl ?_)))
 refine ln' (A0_0.kp Kx4) u40 rfl (Xa rfl (dn (cd rfl (fun h7 => ?_) (fun h7 => ?_))))
 ·
  refine sk (sq (bl (sq (zdraw [[], [], [0, 1], [2], [], [], [4, 5], [6], [3, 7], [8]] [some 17, some 18, some 19, some 20, some 21, some 22, some 23, some 24, some 25, some 26] [[0], [5], [17, 18], [19], [1], [5], [21, 22], [23], [20, 24], [25]] [0, 1, 2, 3, 4, 5, 6, 7, 8, 9] ⟨by kernel_rfl, by kernel_rfl, by kernel_rfl⟩ (by kernel_rfl) (fun s8 p8 l8 tb8 zd8 => ?_)))))
  have K11 := Kx4.st p8 rfl
  have A12 := A0_0.kp K11
  refine mg fun hg13 => ?_
  obtain ⟨ad13, es13, he13, ce13, ia13⟩ := ix_e A12 rfl hg13.1 hg13.2
  obtain ⟨v13_0, v13_1, v13_2, v13_3, rfl, A13_0, A13_1, A13_2, A13_3⟩ := op73 he13
  have zd18 := (((zd8.add 0 17 w0_0 rfl).add 1 18 (iI x4) rfl).add 2 19 (.pointer (some ad13)) rfl).add 3 20 (.agg #[(iI (((at_ a0 x4).Key).Kind)), (iI (((at_ a0 x4).Key).N)), v13_0, v13_1, (iI (((at_ a0 x4).Value).Kind)), (iI (((at_ a0 x4).Value).N)), v13_2, v13_3]) rfl
  have A21 := A1_0.kp K11
  refine mg fun hg22 => ?_
  obtain ⟨ad22, es22, he22, ce22, ia22⟩ := ix_e A21 rfl hg22.1 hg22.2
  obtain ⟨v22_0, v22_1, v22_2, v22_3, rfl, A22_0, A22_1, A22_2, A22_3⟩ := op73 he22
  refine zfin [8, 9] tb8 ((((zd18.add 4 21 w1_0 rfl).add 5 22 (iI x4) rfl).add 6 23 (.pointer (some ad22)) rfl).add 7 24 (.agg #[(iI (((at_ a1 x4).Key).Kind)), (iI (((at_ a1 x4).Key).N)), v22_0, v22_1, (iI (((at_ a1 x4).Value).Kind)), (iI (((at_ a1 x4).Value).N)), v22_2, v22_3]) rfl) (Xb (lca_q ce22 u73 z73 rfl rfl rfl rfl rfl rfl rfl) rfl (Xb (ix_q A21 u40 z73 hg22.1 hg22.2 ia22 rfl rfl rfl rfl rfl rfl rfl) rfl (Xb (pu_q rfl rfl rfl rfl rfl rfl) rfl (Xb (mv_q w1_0 rfl rfl rfl rfl rfl rfl) rfl (Xb (lca_q ce13 u73 z73 rfl rfl rfl rfl rfl rfl rfl) rfl (Xb (ix_q A12 u40 z73 hg13.1 hg13.2 ia13 rfl rfl rfl rfl rfl rfl rfl) rfl (Xb (pu_q rfl rfl rfl rfl rfl rfl) rfl (Xb (mv_q w0_0 rfl rfl rfl rfl rfl rfl) rfl pq_nil)))))))) (by kernel_rfl) (by decide) (clV 40 rfl func71 rfl (laws_eqPair.calls (Pair.mk ((at_ a0 x4).Key) ((at_ a0 x4).Value)) (Pair.mk ((at_ a1 x4).Key) ((at_ a1 x4).Value)) s8.w (mm [0] s8) v13_0 v13_1 v13_2 v13_3 v22_0 v22_1 v22_2 v22_3 ((Xf (s := s8) A13_0).sub (D := [0]) rfl) A13_1 ((Xf (s := s8) A13_2).sub (D := [0]) rfl) A13_3 ((Xf (s := s8) A22_0).sub (D := [0]) rfl) A22_1 ((Xf (s := s8) A22_2).sub (D := [0]) rfl) A22_3) (fun r28 s29 p29 n29 => ?_))
  refine Xa rfl (dn (cd rfl (fun h30 => ?_) (fun h30 => ?_)))
  ·
   refine sr (Xa rfl (dn (sgi ?_)))
   exact re rfl func47 rfl (r_t rfl Xd) rfl ⟨_, rfl, rfl, z.ky (K11.st p29 rfl)⟩
  refine sk (ib (rg (Xa rfl (Xa rfl (Xa rfl (dn ?_))))))
  exact lb ih4 ⟨s29, _, rfl, (ue (ue (ue rfl rfl) rfl) rfl), (K11.st p29 rfl)⟩
 exact xt rfl (sgb (sr (Xa rfl (dn (re rfl func47 rfl (r_t rfl Xd) rfl ⟨_, rfl, rfl, z.ky Kx4⟩)))))
def laws_eqReply.f (a0 : Reply) (a1 : Reply) : Option (Bool) :=
 (if (a0.Seat != a1.Seat) = true then (some false) else (if (a0.Kind != a1.Kind) = true then (some false) else (if (a0.Code != a1.Code) = true then (some false) else (if (a0.N != a1.N) = true then (some false) else ((laws_eqItem.f a0.Value a1.Value).bind fun r21 => (if (!r21) = true then (some false) else ((laws_eqPairS.f a0.Rows a1.Rows).bind fun r30 => (if (!r30) = true then (some false) else ((laws_sameFloat.f a0.Total a1.Total).bind fun r36 => (if (!r36) = true then (some false) else (some true)))))))))))
def laws_eqReply.Q (w : World) (F : Nat → Prop) (r : Bool) (v : Value) (w' : World) : Prop :=
 v = (.bool r) ∧ Ky [] w w'
theorem laws_eqReply.calls (a0 : Reply) (a1 : Reply) (w : World) (F : Nat → Prop) (w0_0 : Value) (w0_1 : Value) (w0_2 : Value) (w0_3 : Value) (w1_0 : Value) (w1_1 : Value) (w1_2 : Value) (w1_3 : Value) (h0_0 : Kd.flt.rd w [w0_0] a0.Value.F F) (h0_1 : Xj.rd w [w0_1] a0.Value.T F) (h0_2 : Xk.rd w [w0_2] a0.Rows F) (h0_3 : Kd.flt.rd w [w0_3] a0.Total F) (h1_0 : Kd.flt.rd w [w1_0] a1.Value.F F) (h1_1 : Xj.rd w [w1_1] a1.Value.T F) (h1_2 : Xk.rd w [w1_2] a1.Rows F) (h1_3 : Kd.flt.rd w [w1_3] a1.Total F) (r : Bool) (m : laws_eqReply.f a0 a1 = some r) :
  Calls prog 20 #[(.agg #[(iI a0.Seat), (iI a0.Kind), (iI a0.Code), (iI a0.N), (iI a0.Value.Kind), (iI a0.Value.N), w0_0, w0_1, w0_2, w0_3]), (.agg #[(iI a1.Seat), (iI a1.Kind), (iI a1.Code), (iI a1.N), (iI a1.Value.Kind), (iI a1.Value.N), w1_0, w1_1, w1_2, w1_3])] w (RT (laws_eqReply.Q w F) r) := by
 obtain ⟨s0, rfl, kp0, z⟩ := Xi w F
 refine Xc (args := [(.agg #[(iI a0.Seat), (iI a0.Kind), (iI a0.Code), (iI a0.N), (iI a0.Value.Kind), (iI a0.Value.N), w0_0, w0_1, w0_2, w0_3]), (.agg #[(iI a1.Seat), (iI a1.Kind), (iI a1.Code), (iI a1.N), (iI a1.Value.Kind), (iI a1.Value.N), w1_0, w1_1, w1_2, w1_3])]) func20 ntmps20 rfl rfl m ?_
 unfold laws_eqReply.f
 refine sr (bx (cs := [(iI a0.Seat), (iI a0.Kind), (iI a0.Code), (iI a0.N), (iI a0.Value.Kind), (iI a0.Value.N), w0_0, w0_1, w0_2, w0_3]) 40 rfl rfl rfl rfl rfl rfl (fun b5 s5 p5 B5 => ?_))
 refine bx (cs := [(iI a1.Seat), (iI a1.Kind), (iI a1.Code), (iI a1.N), (iI a1.Value.Kind), (iI a1.Value.N), w1_0, w1_1, w1_2, w1_3]) 41 rfl rfl rfl rfl rfl rfl (fun b7 s7 p7 B7 => ?_)
 refine Xa rfl (dn (sq (sr (fa' fa42_0 rfl ?_))))
 have A9 := B5.st p7 rfl
 refine ld' A9 u3 rfl (fa' fa42_0 rfl (ld' B7 u3 rfl (Xa rfl (dn (cd rfl (fun h10 => ?_) (fun h10 => ?_))))))
 ·
  refine sr (Xa rfl (dn ?_))
  exact re rfl func20 rfl (r_t rfl Xd) rfl ⟨_, rfl, rfl, z.ky (kp0.st (tr2 p5 p7) rfl)⟩
 refine sk (sq (sr (fa' fa42_1 rfl (ld' A9 u3 rfl (fa' fa42_1 rfl (ld' B7 u3 rfl (Xa rfl (dn (cd rfl (fun h12 => ?_) (fun h12 => ?_))))))))))
 ·
  refine sr (Xa rfl (dn ?_))
  exact re rfl func20 rfl (r_t rfl Xd) rfl ⟨_, rfl, rfl, z.ky (kp0.st (tr2 p5 p7) rfl)⟩
 refine sk (sq (sr (fa' fa42_2 rfl (ld' A9 u3 rfl (fa' fa42_2 rfl (ld' B7 u3 rfl (Xa rfl (dn (cd rfl (fun h14 => ?_) (fun h14 => ?_))))))))))
 ·
  refine sr (Xa rfl (dn ?_))
  exact re rfl func20 rfl (r_t rfl Xd) rfl ⟨_, rfl, rfl, z.ky (kp0.st (tr2 p5 p7) rfl)⟩
 refine sk (sq (sr (fa' fa42_3 rfl (ld' A9 u3 rfl (fa' fa42_3 rfl (ld' B7 u3 rfl (Xa rfl (dn (cd rfl (fun h16 => ?_) (fun h16 => ?_))))))))))
 ·
  refine sr (Xa rfl (dn ?_))
  exact re rfl func20 rfl (r_t rfl Xd) rfl ⟨_, rfl, rfl, z.ky (kp0.st (tr2 p5 p7) rfl)⟩
 refine sk (sq (sr (fa' fa42_4 rfl (lda' (es := [(iI a0.Value.Kind), (iI a0.Value.N), w0_0, w0_1]) A9 u28 z28 rfl (fa' fa42_4 rfl (lda' (es := [(iI a1.Value.Kind), (iI a1.Value.N), w1_0, w1_1]) B7 u28 z28 rfl ?_))))))
 have K18 := kp0.st (tr2 p5 p7) rfl
 refine clV 42 rfl func12 rfl (laws_eqItem.calls a0.Value a1.Value s7.w (mm [0] s7) w0_0 w0_1 w1_0 w1_1 ((Xf (s := s7) (fl_of h0_0)).sub (D := [0]) rfl) ((z.rd h0_1).kp K18) ((Xf (s := s7) (fl_of h1_0)).sub (D := [0]) rfl) ((z.rd h1_1).kp K18)) (fun r21 s22 p22 n22 => ?_)
 refine Xa rfl (dn (cd rfl (fun h23 => ?_) (fun h23 => ?_)))
 ·
  refine sr (Xa rfl (dn ?_))
  exact re rfl func20 rfl (r_t rfl Xd) rfl ⟨_, rfl, rfl, z.ky (K18.st p22 rfl)⟩
 refine sk (sq (sr (fa' fa42_5 rfl ?_)))
 have A25 := A9.st p22 rfl
 refine ld' A25 u40 rfl (fa' fa42_5 rfl ?_)
 have A26 := B7.st p22 rfl
 refine ld' A26 u40 rfl ?_
 have K27 := K18.st p22 rfl
 refine clV 43 rfl func47 rfl (laws_eqPairS.calls a0.Rows a1.Rows s22.w (mm [0] s22) w0_2 w1_2 ((z.rd h0_2).kp K27) ((z.rd h1_2).kp K27)) (fun r30 s31 p31 n31 => ?_)
 refine Xa rfl (dn (cd rfl (fun h32 => ?_) (fun h32 => ?_)))
 ·
  refine sr (Xa rfl (dn ?_))
  exact re rfl func20 rfl (r_t rfl Xd) rfl ⟨_, rfl, rfl, z.ky (K27.st p31 rfl)⟩
 refine sk (sq (sr (fa' fa42_6 rfl ?_)))
 refine ld' (A25.st p31 rfl) u22 rfl (fa' fa42_6 rfl ?_)
 refine ld' (A26.st p31 rfl) u22 rfl (clV 44 rfl func40 rfl (laws_sameFloat.calls a0.Total a1.Total s31.w (mm [] s31) w0_3 w1_3 (Xf (s := s31) (fl_of h0_3)) (Xf (s := s31) (fl_of h1_3))) (fun r36 s37 p37 n37 => ?_))
 refine Xa rfl (dn (cd rfl (fun h38 => ?_) (fun h38 => ?_)))
 ·
  refine sr (Xa rfl (dn ?_))
  exact re rfl func20 rfl (r_t rfl Xd) rfl ⟨_, rfl, rfl, z.ky (K27.st (tr2 p31 p37) rfl)⟩
 refine sk (sr (Xa rfl (dn ?_)))
 exact re rfl func20 rfl (r_t rfl Xd) rfl ⟨_, rfl, rfl, z.ky (K27.st (tr2 p31 p37) rfl)⟩
def laws_markPairS.b0  (x2 : (List Pair) × Int × Int) : Option (((List Pair) × Int × Int) ⊕ (Int × (List Pair))) :=
 (if (decide (x2.2.2 < (x2.1.length : Int))) = true then (if 0 ≤ x2.2.2 ∧ x2.2.2 < (x2.1.length : Int) then ((some (x2.1.set (x2.2.2).toNat (Pair.mk (Item.mk x2.2.1 ((at_ x2.1 x2.2.2).Key).N ((at_ x2.1 x2.2.2).Key).F ((at_ x2.1 x2.2.2).Key).T) (at_ x2.1 x2.2.2).Value))).bind fun y12 => (if 0 ≤ x2.2.2 ∧ x2.2.2 < (y12.length : Int) then ((some (y12.set (x2.2.2).toNat (Pair.mk (Item.mk ((at_ y12 x2.2.2).Key).Kind (IntKind.wrap .i64 (x2.2.1 + (1 : Int))) ((at_ y12 x2.2.2).Key).F ((at_ y12 x2.2.2).Key).T) (at_ y12 x2.2.2).Value))).bind fun y19 => (if 0 ≤ x2.2.2 ∧ x2.2.2 < (y19.length : Int) then ((some (y19.set (x2.2.2).toNat (Pair.mk (Item.mk ((at_ y19 x2.2.2).Key).Kind ((at_ y19 x2.2.2).Key).N (FloatKind.f64.nearest (IntKind.wrap .i64 ((IntKind.wrap .i64 (x2.2.1 + (1 : Int))) + (1 : Int)))) ((at_ y19 x2.2.2).Key).T) (at_ y19 x2.2.2).Value))).bind fun y27 => (if 0 ≤ x2.2.2 ∧ x2.2.2 < (y27.length : Int) then ((laws_markByteS.f (((at_ y27 x2.2.2).Key).T) (IntKind.wrap .i64 ((IntKind.wrap .i64 ((IntKind.wrap .i64 (x2.2.1 + (1 : Int))) + (1 : Int))) + (1 : Int)))).bind fun r32 => ((some (y27.set (x2.2.2).toNat (Pair.mk (Item.mk ((at_ y27 x2.2.2).Key).Kind ((at_ y27 x2.2.2).Key).N ((at_ y27 x2.2.2).Key).F r32.2) (at_ y27 x2.2.2).Value))).bind fun y35 => (if 0 ≤ x2.2.2 ∧ x2.2.2 < (y35.length : Int) then ((some (y35.set (x2.2.2).toNat (Pair.mk (at_ y35 x2.2.2).Key (Item.mk r32.1 ((at_ y35 x2.2.2).Value).N ((at_ y35 x2.2.2).Value).F ((at_ y35 x2.2.2).Value).T)))).bind fun y42 => (if 0 ≤ x2.2.2 ∧ x2.2.2 < (y42.length : Int) then ((some (y42.set (x2.2.2).toNat (Pair.mk (at_ y42 x2.2.2).Key (Item.mk ((at_ y42 x2.2.2).Value).Kind (IntKind.wrap .i64 (r32.1 + (1 : Int))) ((at_ y42 x2.2.2).Value).F ((at_ y42 x2.2.2).Value).T)))).bind fun y49 => (if 0 ≤ x2.2.2 ∧ x2.2.2 < (y49.length : Int) then ((some (y49.set (x2.2.2).toNat (Pair.mk (at_ y49 x2.2.2).Key (Item.mk ((at_ y49 x2.2.2).Value).Kind ((at_ y49 x2.2.2).Value).N (FloatKind.f64.nearest (IntKind.wrap .i64 ((IntKind.wrap .i64 (r32.1 + (1 : Int))) + (1 : Int)))) ((at_ y49 x2.2.2).Value).T)))).bind fun y57 => (if 0 ≤ x2.2.2 ∧ x2.2.2 < (y57.length : Int) then ((laws_markByteS.f (((at_ y57 x2.2.2).Value).T) (IntKind.wrap .i64 ((IntKind.wrap .i64 ((IntKind.wrap .i64 (r32.1 + (1 : Int))) + (1 : Int))) + (1 : Int)))).bind fun r62 => ((some (y57.set (x2.2.2).toNat (Pair.mk (at_ y57 x2.2.2).Key (Item.mk ((at_ y57 x2.2.2).Value).Kind ((at_ y57 x2.2.2).Value).N ((at_ y57 x2.2.2).Value).F r62.2)))).bind fun y65 => (some (Sum.inl (y65, r62.1, (IntKind.wrap .i64 (x2.2.2 + (1 : Int)))))))) else none)) else none)) else none)) else none))) else none)) else none)) else none)) else none) else ((some (x2.2.1, x2.1)).bind fun o => some (Sum.inr o)))
def laws_markPairS.f (a0 : (List Pair)) (a1 : Int) : Option (Int × (List Pair)) :=
 (iter laws_markPairS.b0 (a0, a1, (0 : Int)))
def laws_markPairS.Q (w : World) (F : Nat → Prop) (os : List Nat) (w0_0 : Value) (r : Int × (List Pair)) (v : Value) (w' : World) : Prop :=
 v = (iI r.1) ∧ FW Xk os w w' [w0_0] r.2 ∧ Ky os w w'
theorem laws_markPairS.calls (a0 : (List Pair)) (a1 : Int) (w : World) (F : Nat → Prop) (w0_0 : Value) (os : List Nat) (h0_0 : Xk.ow w [w0_0] a0 os) (hn : os.Nodup) (hF : ∀ b, F b → b ∉ os) (r : Int × (List Pair)) (m : laws_markPairS.f a0 a1 = some r) :
  Calls prog 48 #[w0_0, (iI a1)] w (RT (laws_markPairS.Q w F os w0_0) r) := by
 obtain ⟨s0, rfl, kp0, z⟩ := start1 w F os hF
 refine Xc (args := [w0_0, (iI a1)]) func48 ntmps48 rfl rfl m ?_
 unfold laws_markPairS.f
 refine sr (Xa rfl (dn (sq (sr (Xa rfl (dn (bl (lpI (fun (x2 : (List Pair) × Int × Int) e w => ∃ (s : St) (e0 : Env), w = s.w ∧ e = upd (upd (upd e0 0 w0_0) 1 (iI x2.2.1)) 5 (iI x2.2.2) ∧ Kp s0 s ∧ OwF Xk s [w0_0] x2.1 2) ⟨s0, _, rfl, (ue (ue (ue rfl rfl) rfl) rfl), kp0, (z.ow h0_0 hn)⟩ (fun g2 ih2 => ?_)))))))))
 rintro x2 _ _ ⟨s3, _, rfl, rfl, Kx2, Ax2_0⟩
 unfold laws_markPairS.b0
 refine sq (sr (Xa rfl (mv' w0_0 rfl (ln' Ax2_0.rd u40 rfl (Xa rfl (dn (cd rfl (fun h5 => ?_) (fun h5 => ?_))))))))
 ·
  refine sk (sq (bl (sr (mv' w0_0 rfl (Xa rfl (Xa rfl (ix' Ax2_0.rd u40 z73 rfl (fun ad6 es6 h0_6 h1_6 he6 ce6 ia6 => ?_))))))))
  obtain ⟨v6_0, v6_1, v6_2, v6_3, rfl, A6_0, A6_1, A6_2, A6_3⟩ := op73 he6
  refine fa' fa73_0 rfl (fa' fa28_0 rfl (so (x' := (Pair.mk (Item.mk x2.2.1 ((at_ x2.1 x2.2.2).Key).N ((at_ x2.1 x2.2.2).Key).F ((at_ x2.1 x2.2.2).Key).T) (at_ x2.1 x2.2.2).Value)) Ax2_0 ia6 h0_6 h1_6 (cs_iso (cs_left (cs_iso (cs_left cs_flat)))) z3 rfl rfl rfl rfl rfl rfl (fun s10 p10 A10 => ?_)))
  refine nb (fun y12 h12 => ?_)
  have A12 : OwF Xk s10 [w0_0] y12 2 := by rw [h12]; exact A10
  refine dn (sr (Xa rfl (Xa rfl (Xa rfl (dn (sr (mv' w0_0 rfl (Xa rfl (Xa rfl (ix' A12.rd u40 z73 rfl (fun ad13 es13 h0_13 h1_13 he13 ce13 ia13 => ?_)))))))))))
  obtain ⟨v13_0, v13_1, v13_2, v13_3, rfl, A13_0, A13_1, A13_2, A13_3⟩ := op73 he13
  refine fa' fa73_0 rfl (fa' fa28_1 rfl (so (x' := (Pair.mk (Item.mk ((at_ y12 x2.2.2).Key).Kind (IntKind.wrap .i64 (x2.2.1 + (1 : Int))) ((at_ y12 x2.2.2).Key).F ((at_ y12 x2.2.2).Key).T) (at_ y12 x2.2.2).Value)) A12 ia13 h0_13 h1_13 (cs_iso (cs_left (cs_iso (cs_right (cs_left cs_flat))))) z3 rfl rfl rfl rfl rfl rfl (fun s17 p17 A17 => ?_)))
  refine nb (fun y19 h19 => ?_)
  have A19 : OwF Xk s17 [w0_0] y19 2 := by rw [h19]; exact A17
  refine dn (sr (Xa rfl (Xa rfl (Xa rfl (dn (sr (mv' w0_0 rfl (Xa rfl (Xa rfl (i2f u22 u3 rfl rfl rfl rfl rfl rfl (fun v20 A20 => ?_)))))))))))
  refine ix' A19.rd u40 z73 rfl (fun ad21 es21 h0_21 h1_21 he21 ce21 ia21 => ?_)
  obtain ⟨v21_0, v21_1, v21_2, v21_3, rfl, A21_0, A21_1, A21_2, A21_3⟩ := op73 he21
  refine fa' fa73_0 rfl (fa' fa28_2 rfl (so (x' := (Pair.mk (Item.mk ((at_ y19 x2.2.2).Key).Kind ((at_ y19 x2.2.2).Key).N (FloatKind.f64.nearest (IntKind.wrap .i64 ((IntKind.wrap .i64 (x2.2.1 + (1 : Int))) + (1 : Int)))) ((at_ y19 x2.2.2).Key).T) (at_ y19 x2.2.2).Value)) A19 ia21 h0_21 h1_21 (cs_iso (cs_left (cs_iso (cs_right (cs_right (cs_left (cs_flt A20))))))) z22 rfl rfl rfl rfl rfl rfl (fun s25 p25 A25 => ?_)))
  refine nb (fun y27 h27 => ?_)
  have A27 : OwF Xk s25 [w0_0] y27 2 := by rw [h27]; exact A25
  refine dn (sr (Xa rfl (Xa rfl (Xa rfl (dn (sr (mv' w0_0 rfl (Xa rfl (ix' A27.rd u40 z73 rfl (fun ad28 es28 h0_28 h1_28 he28 ce28 ia28 => ?_))))))))))
  obtain ⟨v28_0, v28_1, v28_2, v28_3, rfl, A28_0, A28_1, A28_2, A28_3⟩ := op73 he28
  refine fa' fa73_0 rfl (fa' fa28_3 rfl (lc ce28 u23 rfl rfl rfl rfl rfl rfl rfl rfl (Xa rfl ?_)))
  obtain ⟨os32, ho32, hn32, hc32, put32⟩ := focus (ln_iso (fun x : Pair => (x.Key, x.Value)) (fun x => x.Key.T) (fun x y => (Pair.mk (Item.mk x.Key.Kind x.Key.N x.Key.F y) x.Value)) (ln_left (ln_iso (fun x : Item => (x.Kind, x.N, x.F, x.T)) (fun x => x.T) (fun x y => (Item.mk x.Kind x.N x.F y)) (ln_right (ln_right (ln_right ln_sl))) (fun _ => rfl) (fun _ _ => rfl))) (fun _ => rfl) (fun _ _ => rfl)) A27 h0_28 h1_28 ia28 ce28 rfl rfl
  refine cl' rfl func14 rfl (laws_markByteS.calls (((at_ y27 x2.2.2).Key).T) (IntKind.wrap .i64 ((IntKind.wrap .i64 ((IntKind.wrap .i64 (x2.2.1 + (1 : Int))) + (1 : Int))) + (1 : Int))) s25.w (mm [] s25) v28_1 os32 ho32 hn32 (apart_of hc32 rfl)) ?_
  rintro r32 _ w32 m32 ⟨rfl, w32_, ky32⟩
  obtain ⟨s33, rfl, p33, A33⟩ := put32 w32 _ 40 ky32 w32_
  refine nb (fun y35 h35 => ?_)
  have A35 : OwF Xk s33 [w0_0] y35 2 := by rw [h35]; exact A33
  refine Xa rfl (dn (sr (mv' w0_0 rfl (Xa rfl (Xa rfl (ix' A35.rd u40 z73 rfl (fun ad36 es36 h0_36 h1_36 he36 ce36 ia36 => ?_)))))))
  obtain ⟨v36_0, v36_1, v36_2, v36_3, rfl, A36_0, A36_1, A36_2, A36_3⟩ := op73 he36
  refine fa' fa73_1 rfl (faq (q := 4) (q' := 0) (n := 4) fa28_0 rfl rfl rfl rfl rfl rfl rfl (so (x' := (Pair.mk (at_ y35 x2.2.2).Key (Item.mk r32.1 ((at_ y35 x2.2.2).Value).N ((at_ y35 x2.2.2).Value).F ((at_ y35 x2.2.2).Value).T))) A35 ia36 h0_36 h1_36 (cs_iso (cs_right (cs_iso (cs_left cs_flat)))) z3 rfl rfl rfl rfl rfl rfl (fun s40 p40 A40 => ?_)))
  refine nb (fun y42 h42 => ?_)
  have A42 : OwF Xk s40 [w0_0] y42 2 := by rw [h42]; exact A40
  refine dn (sr (Xa rfl (Xa rfl (Xa rfl (dn (sr (mv' w0_0 rfl (Xa rfl (Xa rfl (ix' A42.rd u40 z73 rfl (fun ad43 es43 h0_43 h1_43 he43 ce43 ia43 => ?_)))))))))))
  obtain ⟨v43_0, v43_1, v43_2, v43_3, rfl, A43_0, A43_1, A43_2, A43_3⟩ := op73 he43
  refine fa' fa73_1 rfl (faq (q := 4) (q' := 1) (n := 5) fa28_1 rfl rfl rfl rfl rfl rfl rfl (so (x' := (Pair.mk (at_ y42 x2.2.2).Key (Item.mk ((at_ y42 x2.2.2).Value).Kind (IntKind.wrap .i64 (r32.1 + (1 : Int))) ((at_ y42 x2.2.2).Value).F ((at_ y42 x2.2.2).Value).T))) A42 ia43 h0_43 h1_43 (cs_iso (cs_right (cs_iso (cs_right (cs_left cs_flat))))) z3 rfl rfl rfl rfl rfl rfl (fun s47 p47 A47 => ?_)))
  refine nb (fun y49 h49 => ?_)
  have A49 : OwF Xk s47 [w0_0] y49 2 := by rw [h49]; exact A47
  refine dn (sr (Xa rfl (Xa rfl (Xa rfl (dn (sr (mv' w0_0 rfl (Xa rfl (Xa rfl (i2f u22 u3 rfl rfl rfl rfl rfl rfl (fun v50 A50 => ?_)))))))))))
  refine ix' A49.rd u40 z73 rfl (fun ad51 es51 h0_51 h1_51 he51 ce51 ia51 => ?_)
  obtain ⟨v51_0, v51_1, v51_2, v51_3, rfl, A51_0, A51_1, A51_2, A51_3⟩ := op73 he51
  refine fa' fa73_1 rfl (faq (q := 4) (q' := 2) (n := 6) fa28_2 rfl rfl rfl rfl rfl rfl rfl (so (x' := (Pair.mk (at_ y49 x2.2.2).Key (Item.mk ((at_ y49 x2.2.2).Value).Kind ((at_ y49 x2.2.2).Value).N (FloatKind.f64.nearest (IntKind.wrap .i64 ((IntKind.wrap .i64 (r32.1 + (1 : Int))) + (1 : Int)))) ((at_ y49 x2.2.2).Value).T))) A49 ia51 h0_51 h1_51 (cs_iso (cs_right (cs_iso (cs_right (cs_right (cs_left (cs_flt A50))))))) z22 rfl rfl rfl rfl rfl rfl (fun s55 p55 A55 => ?_)))
  refine nb (fun y57 h57 => ?_)
  have A57 : OwF Xk s55 [w0_0] y57 2 := by rw [h57]; exact A55
  refine dn (sr (Xa rfl (Xa rfl (Xa rfl (dn (rg (mv' w0_0 rfl (Xa rfl (ix' A57.rd u40 z73 rfl (fun ad58 es58 h0_58 h1_58 he58 ce58 ia58 => ?_))))))))))
  obtain ⟨v58_0, v58_1, v58_2, v58_3, rfl, A58_0, A58_1, A58_2, A58_3⟩ := op73 he58
  refine fa' fa73_1 rfl (faq (q := 4) (q' := 3) (n := 7) fa28_3 rfl rfl rfl rfl rfl rfl rfl (lc ce58 u23 rfl rfl rfl rfl rfl rfl rfl rfl (Xa rfl ?_)))
  obtain ⟨os62, ho62, hn62, hc62, put62⟩ := focus (ln_iso (fun x : Pair => (x.Key, x.Value)) (fun x => x.Value.T) (fun x y => (Pair.mk x.Key (Item.mk x.Value.Kind x.Value.N x.Value.F y))) (ln_right (ln_iso (fun x : Item => (x.Kind, x.N, x.F, x.T)) (fun x => x.T) (fun x y => (Item.mk x.Kind x.N x.F y)) (ln_right (ln_right (ln_right ln_sl))) (fun _ => rfl) (fun _ _ => rfl))) (fun _ => rfl) (fun _ _ => rfl)) A57 h0_58 h1_58 ia58 ce58 rfl rfl
  refine cl' rfl func14 rfl (laws_markByteS.calls (((at_ y57 x2.2.2).Value).T) (IntKind.wrap .i64 ((IntKind.wrap .i64 ((IntKind.wrap .i64 (r32.1 + (1 : Int))) + (1 : Int))) + (1 : Int))) s55.w (mm [] s55) v58_3 os62 ho62 hn62 (apart_of hc62 rfl)) ?_
  rintro r62 _ w62 m62 ⟨rfl, w62_, ky62⟩
  obtain ⟨s63, rfl, p63, A63⟩ := put62 w62 _ 41 ky62 w62_
  refine nb (fun y65 h65 => ?_)
  have A65 : OwF Xk s63 [w0_0] y65 2 := by rw [h65]; exact A63
  refine Xa rfl (dn (ib (rg (Xa rfl (Xa rfl (Xa rfl (dn ?_)))))))
  exact lb ih2 ⟨s63, _, rfl, (ue (ue (ue rfl rfl) rfl) rfl), (Kx2.st (tr8 p10 p17 p25 p33 p40 p47 p55 p63) rfl), A65⟩
 exact xt rfl (sgb (sr (Xa rfl (Xa rfl (dn (re rfl func48 rfl (r_t rfl Xd) rfl ⟨_, rfl, rfl, z.fw Kx2 Ax2_0, z.ky Kx2⟩))))))
def laws_markReply.f (a0 : Reply) (a1 : Int) : Option (Int × Reply) :=
 ((laws_markItem.f a0.Value a1).bind fun r5 => ((laws_markPairS.f a0.Rows r5.1).bind fun r10 => (some (r10.1, (Reply.mk a0.Seat a0.Kind a0.Code a0.N (Item.mk a0.Value.Kind a0.Value.N a0.Value.F r5.2) r10.2 a0.Total)))))
def laws_markReply.Q (w : World) (F : Nat → Prop) (os : List Nat) (a0 : Reply) (w0_0 : Value) (w0_1 : Value) (w0_2 : Value) (w0_3 : Value) (r : Int × Reply) (v : Value) (w' : World) : Prop :=
 v = (iI r.1) ∧ FW kd42 os w w' [(iI a0.Seat), (iI a0.Kind), (iI a0.Code), (iI a0.N), (iI a0.Value.Kind), (iI a0.Value.N), w0_0, w0_1, w0_2, w0_3] r.2 ∧ Ky os w w'
theorem laws_markReply.calls (a0 : Reply) (a1 : Int) (w : World) (F : Nat → Prop) (w0_0 : Value) (w0_1 : Value) (w0_2 : Value) (w0_3 : Value) (os : List Nat) (h0 : kd42.ow w [(iI a0.Seat), (iI a0.Kind), (iI a0.Code), (iI a0.N), (iI a0.Value.Kind), (iI a0.Value.N), w0_0, w0_1, w0_2, w0_3] a0 os) (hn : os.Nodup) (hF : ∀ b, F b → b ∉ os) (r : Int × Reply) (m : laws_markReply.f a0 a1 = some r) :
  Calls prog 21 #[(.agg #[(iI a0.Seat), (iI a0.Kind), (iI a0.Code), (iI a0.N), (iI a0.Value.Kind), (iI a0.Value.N), w0_0, w0_1, w0_2, w0_3]), (iI a1)] w (RT (laws_markReply.Q w F os a0 w0_0 w0_1 w0_2 w0_3) r) := by
 obtain ⟨u0_0, u0_1, u0_2, u0_3, q0_1, q0_2, e0, eo0, h0_0, h0_1, h0_2, h0_3⟩ := po42 h0
 obtain ⟨y0_0, y0_1, y0_2, y0_3⟩ : w0_0 = u0_0 ∧ w0_1 = u0_1 ∧ w0_2 = u0_2 ∧ w0_3 = u0_3 := by simpa using e0
 subst y0_0
 subst y0_1
 subst y0_2
 subst y0_3
 subst eo0
 obtain ⟨s0, rfl, kp0, z⟩ := startN w F [(q0_1, 2), (q0_2, 3)] (by simpa [fl_] using hn) (fun b hb => by simpa [fl_] using hF b hb) rfl
 have ez : fl_ [(q0_1, 2), (q0_2, 3)] = q0_1 ++ (q0_2) := by simp [fl_]
 have hn0_1 : q0_1.Nodup := by simp only [List.nodup_append] at hn; simp [hn]
 have hn0_2 : q0_2.Nodup := by simp only [List.nodup_append] at hn; simp [hn]
 have A0_0 := h0_0
 refine Xc (args := [(.agg #[(iI a0.Seat), (iI a0.Kind), (iI a0.Code), (iI a0.N), (iI a0.Value.Kind), (iI a0.Value.N), w0_0, w0_1, w0_2, w0_3]), (iI a1)]) func21 ntmps21 rfl rfl m ?_
 unfold laws_markReply.f
 refine sr (bx (cs := [(iI a0.Seat), (iI a0.Kind), (iI a0.Code), (iI a0.N), (iI a0.Value.Kind), (iI a0.Value.N), w0_0, w0_1, w0_2, w0_3]) 40 rfl rfl rfl rfl rfl rfl (fun b3 s3 p3 B3 => ?_))
 refine Xa rfl (dn (sr (fa' fa42_4 rfl (lda' (es := [(iI a0.Value.Kind), (iI a0.Value.N), w0_0, w0_1]) B3 u28 z28 rfl (Xa rfl ?_)))))
 obtain ⟨os5, ho5, hn5, hc5⟩ := (z.ow (c := 2) (by simp) hn0_1 h0_1).st p3 rfl
 refine cl' rfl func13 rfl (laws_markItem.calls a0.Value a1 s3.w (mm [] s3) w0_0 w0_1 (Xf (s := s3) A0_0) os5 ho5 hn5 (apart_of hc5 rfl)) ?_
 rintro r5 _ w5 m5 ⟨rfl, w5_, ky5⟩
 obtain ⟨s7, rfl, p7, A7⟩ := nwo 41 hc5 ky5 w5_
 refine Xa rfl (dn (sr (fa' fa42_5 rfl ?_)))
 refine ld' (B3.st p7 rfl) u40 rfl (Xa rfl ?_)
 obtain ⟨os10, ho10, hn10, hc10⟩ := (z.ow (c := 3) (by simp) hn0_2 h0_2).st (tr2 p3 p7) rfl
 refine cl' rfl func48 rfl (laws_markPairS.calls a0.Rows r5.1 s7.w (mm [] s7) w0_2 os10 ho10 hn10 (apart_of hc10 rfl)) ?_
 rintro r10 _ w10 m10 ⟨rfl, w10_, ky10⟩
 obtain ⟨s12, rfl, p12, A12⟩ := nwo 42 hc10 ky10 w10_
 refine Xa rfl (dn (sr (Xa rfl (Xa rfl (dn ?_)))))
 have K15 := kp0.st (tr3 p3 p7 p12) rfl
 exact re rfl func21 rfl (r_t rfl Xd) rfl ⟨_, rfl, rfl, z.fw' ez K15 (oc_iso (fun x : Reply => (x.Seat, x.Kind, x.Code, x.N, x.Value, x.Rows, x.Total)) (Reply.mk a0.Seat a0.Kind a0.Code a0.N (Item.mk a0.Value.Kind a0.Value.N a0.Value.F r5.2) r10.2 a0.Total) (oc_pair (oc_z (fz_int .i64 a0.Seat)) (oc_pair (oc_z (fz_int .i64 a0.Kind)) (oc_pair (oc_z (fz_int .i64 a0.Code)) (oc_pair (oc_z (fz_int .i64 a0.N)) (oc_pair (oc_iso (fun x : Item => (x.Kind, x.N, x.F, x.T)) (Item.mk a0.Value.Kind a0.Value.N a0.Value.F r5.2) (oc_pair (oc_z (fz_int .i64 a0.Value.Kind)) (oc_pair (oc_z (fz_int .i64 a0.Value.N)) (oc_pair (oc_z (fz_flt A0_0)) (oc_ow (A7.st p12 rfl)) rfl) rfl) rfl)) (oc_pair (oc_ow A12) (oc_z (fz_flt h0_3)) rfl) rfl) rfl) rfl) rfl) rfl)) rfl, z.ky' ez K15⟩
def laws_FnExactReplyText.f (a0 : Reply) : Option (Bool) :=
 ((laws_szReply.f a0 (1048576 : Int)).bind fun r8 => (if (decide (r8 < (0 : Int))) = true then (some true) else ((laws_toReply.f a0).bind fun r16 => ((spec_ReplyText.f r16).bind fun r21 => ((laws_toReply.f a0).bind fun r28 => ((impl_ReplyText.f r28).bind fun r42 => ((laws_eqByteS.f r42 r21).bind fun r46 => (if (!r46) = true then (some false) else ((laws_toReply.f a0).bind fun r61 => ((laws_eqReply.f r28 r61).bind fun r70 => (if (!r70) = true then (some false) else ((laws_markReply.f r28 (1 : Int)).bind fun r81 => ((if (decide (r81.1 < (0 : Int))) = true then (some true) else ((laws_eqByteS.f r42 r21).bind fun r93 => (some (!r93)))).bind fun y86 => (if y86 = true then (some false) else ((laws_markByteS.f r42 (1 : Int)).bind fun r102 => ((laws_heldByteS.f r102.2 (1 : Int)).bind fun r105 => (if (decide (r105 < (0 : Int))) = true then (some false) else (if (r105 != r102.1) = true then (some false) else ((laws_toReply.f a0).bind fun r115 => ((impl_ReplyText.f r115).bind fun r121 => ((laws_eqByteS.f r121 r21).bind fun r125 => (if (!r125) = true then (some false) else ((laws_heldByteS.f r102.2 (1 : Int)).bind fun r130 => (if (decide (r130 < (0 : Int))) = true then (some false) else (if (r130 != r102.1) = true then (some false) else (some true))))))))))))))))))))))))))
def laws_FnExactReplyText.Q (w : World) (F : Nat → Prop) (r : Bool) (v : Value) (w' : World) : Prop :=
 v = (.bool r) ∧ Ky [] w w'
theorem laws_FnExactReplyText.calls (a0 : Reply) (w : World) (F : Nat → Prop) (w0_0 : Value) (w0_1 : Value) (w0_2 : Value) (w0_3 : Value) (hG : GT.rd w [] () F) (h0_0 : Kd.flt.rd w [w0_0] a0.Value.F F) (h0_1 : Xj.rd w [w0_1] a0.Value.T F) (h0_2 : (Kd.sl 98 kd98).rd w [w0_2] a0.Rows F) (h0_3 : Kd.flt.rd w [w0_3] a0.Total F) (r : Bool) (m : laws_FnExactReplyText.f a0 = some r) :
  Calls prog 4 #[(.agg #[(iI a0.Seat), (iI a0.Kind), (iI a0.Code), (iI a0.N), (iI a0.Value.Kind), (iI a0.Value.N), w0_0, w0_1, w0_2, w0_3])] w (RT (laws_FnExactReplyText.Q w F) r) := by
 obtain ⟨s0, rfl, kp0, z⟩ := Xi w F
 have A0_0 := fl_of h0_0
 have A0_1 := z.rd h0_1
 have A0_2 := z.rd h0_2
 have A0_3 := fl_of h0_3
 have AG := z.rd hG
 refine Xc (args := [(.agg #[(iI a0.Seat), (iI a0.Kind), (iI a0.Code), (iI a0.N), (iI a0.Value.Kind), (iI a0.Value.N), w0_0, w0_1, w0_2, w0_3])]) func4 ntmps4 rfl rfl m ?_
 unfold laws_FnExactReplyText.f
 refine sr (bx (cs := [(iI a0.Seat), (iI a0.Kind), (iI a0.Code), (iI a0.N), (iI a0.Value.Kind), (iI a0.Value.N), w0_0, w0_1, w0_2, w0_3]) 40 rfl rfl rfl rfl rfl rfl (fun b3 s3 p3 B3 => ?_))
 refine Xa rfl (dn (sr (Xa rfl (dn (sr (lda' (es := [(iI a0.Seat), (iI a0.Kind), (iI a0.Code), (iI a0.N), (iI a0.Value.Kind), (iI a0.Value.N), w0_0, w0_1, w0_2, w0_3]) B3 u37 z37 rfl (Xa rfl ?_)))))))
 have K5 := kp0.st p3 rfl
 refine clV 41 rfl func16 rfl (laws_szReply.calls a0 (1048576 : Int) s3.w (mm [0] s3) w0_0 w0_1 w0_2 w0_3 ((Xf (s := s3) A0_0).sub (D := [0]) rfl) (A0_1.kp K5) (A0_2.kp K5) ((Xf (s := s3) A0_3).sub (D := [0]) rfl)) (fun r8 s9 p9 n9 => ?_)
 refine Xa rfl (dn (sq (sr (Xa rfl (Xa rfl (dn (cd rfl (fun h10 => ?_) (fun h10 => ?_))))))))
 ·
  refine sr (Xa rfl (dn ?_))
  exact re rfl func4 rfl (r_t rfl Xd) rfl ⟨_, rfl, rfl, z.ky (K5.st p9 rfl)⟩
 refine sk (sr ?_)
 have A12 := B3.st p9 rfl
 refine lda' (es := [(iI a0.Seat), (iI a0.Kind), (iI a0.Code), (iI a0.N), (iI a0.Value.Kind), (iI a0.Value.N), w0_0, w0_1, w0_2, w0_3]) A12 u37 z37 rfl ?_
 have K13 := K5.st p9 rfl
 refine cl' rfl func18 rfl (laws_toReply.calls a0 s9.w (mm [0] s9) w0_0 w0_1 w0_2 w0_3 ((Xf (s := s9) A0_0).sub (D := [0]) rfl) (A0_1.kp K13) (A0_2.kp K13) ((Xf (s := s9) A0_3).sub (D := [0]) rfl)) ?_
 rintro r16 _ w16 m16 ⟨v16_0, v16_1, v16_2, v16_3, rfl, f16_0, ky16⟩
 obtain ⟨s17, rfl, p17, n17⟩ := nwx s9 w16 42 ky16
 obtain ⟨s18, hw18, p18, hu16_0_0, Au16_0_1, Au16_0_2, hu16_0_3⟩ := ap42 43 (f16_0.c n17) rfl
 rw [hw18]
 refine clO 44 rfl func17 rfl (spec_ReplyText.calls r16 s18.w (mm [42, 43] s18) v16_0 v16_1 v16_2 v16_3 ((Xf (s := s18) hu16_0_0).sub (D := [42, 43]) rfl) (Au16_0_1.rd.sub (D := [42, 43]) rfl) (Au16_0_2.rd.sub (D := [42, 43]) rfl) ((Xf (s := s18) hu16_0_3).sub (D := [42, 43]) rfl)) (fun r21 v21_0 s22 p22 A21_0 => ?_)
 refine asg' v21_0 rfl (dn (sr ?_))
 have A24 := A12.st (tr3 p17 p18 p22) rfl
 refine lda' (es := [(iI a0.Seat), (iI a0.Kind), (iI a0.Code), (iI a0.N), (iI a0.Value.Kind), (iI a0.Value.N), w0_0, w0_1, w0_2, w0_3]) A24 u37 z37 rfl ?_
 have K25 := K13.st (tr3 p17 p18 p22) rfl
 refine cl' rfl func18 rfl (laws_toReply.calls a0 s22.w (mm [0] s22) w0_0 w0_1 w0_2 w0_3 ((Xf (s := s22) A0_0).sub (D := [0]) rfl) (A0_1.kp K25) (A0_2.kp K25) ((Xf (s := s22) A0_3).sub (D := [0]) rfl)) ?_
 rintro r28 _ w28 m28 ⟨v28_0, v28_1, v28_2, v28_3, rfl, f28_0, ky28⟩
 obtain ⟨s29, rfl, p29, n29⟩ := nwx s22 w28 45 ky28
 obtain ⟨s30, hw30, p30, hu28_0_0, Au28_0_1, Au28_0_2, hu28_0_3⟩ := ap42 46 (f28_0.c n29) rfl
 rw [hw30]
 refine al (cs := [(iI 0), (iI 0), (iI 0), (iI 0), (iI 0), (iI 0), (.float .f64 0), (.slice none 0 0), (.slice none 0 0), (.float .f64 0)]) 47 rfl rfl rfl rfl rfl o42 rfl (fun b33 s33 p33 B33 => ?_)
 have A35 := Au28_0_2.st p33 rfl
 have A36 := Au28_0_1.st p33 rfl
 refine sva (vs := [(iI r28.Seat), (iI r28.Kind), (iI r28.Code), (iI r28.N), (iI r28.Value.Kind), (iI r28.Value.N), v28_0, v28_1, v28_2, v28_3]) B33 z42 rfl rfl rfl rfl rfl rfl (Xe rfl (Xe rfl (Xe rfl (Xe rfl (Xe rfl (Xe rfl (Xe (FL.one hu28_0_0) (Xe A36.rd.one (Xe A35.rd.one (Xe (FL.one hu28_0_3) on_nil)))))))))) rfl (fun s37 p37 B37 => ?_)
 refine dn (sr (lda' (es := [(iI r28.Seat), (iI r28.Kind), (iI r28.Code), (iI r28.N), (iI r28.Value.Kind), (iI r28.Value.N), v28_0, v28_1, v28_2, v28_3]) B37 u42 z42 rfl ?_))
 have A39 := A36.st p37 rfl
 have A40 := A35.st p37 rfl
 have K41 := K25.st (tr4 p29 p30 p33 p37) rfl
 refine clO 48 rfl func19 rfl (impl_ReplyText.calls r28 s37.w (mm [45, 46, 0] s37) v28_0 v28_1 v28_2 v28_3 ((AG.kp K41).sub (D := [45, 46, 0]) rfl) ((Xf (s := s37) hu28_0_0).sub (D := [45, 46, 0]) rfl) (A39.rd.sub (D := [45, 46, 0]) rfl) (A40.rd.sub (D := [45, 46, 0]) rfl) ((Xf (s := s37) hu28_0_3).sub (D := [45, 46, 0]) rfl)) (fun r42 v42_0 s43 p43 A42_0 => ?_)
 refine asg' v42_0 rfl (dn (sq (sr (mv' v42_0 rfl (mv' v21_0 rfl ?_)))))
 have A45 := A21_0.st (tr5 p29 p30 p33 p37 p43) rfl
 refine clV 49 rfl func11 rfl (laws_eqByteS.calls r42 r21 s43.w (mm [48, 44] s43) v42_0 v21_0 (A42_0.rd.sub (D := [48, 44]) rfl) (A45.rd.sub (D := [48, 44]) rfl)) (fun r46 s47 p47 n47 => ?_)
 refine Xa rfl (dn (cd rfl (fun h48 => ?_) (fun h48 => ?_)))
 ·
  refine sr (Xa rfl (dn ?_))
  exact re rfl func4 rfl (r_t rfl Xd) rfl ⟨_, rfl, rfl, z.ky (K41.st (tr2 p43 p47) rfl)⟩
 refine sk (sq (sq (zdraw [[], [], [1], [0, 2, 2], [3]] [some 27, some 28, some 29, some 30, some 31] [[5], [1], [28], [27, 29], [30]] [0, 1, 2, 3, 4] ⟨by kernel_rfl, by kernel_rfl, by kernel_rfl⟩ (by kernel_rfl) (fun s50 p50 l50 tb50 zd50 => ?_))))
 refine zstep 2 [some 27] tb50 ((zd50.add 0 27 (.agg #[(iI r28.Seat), (iI r28.Kind), (iI r28.Code), (iI r28.N), (iI r28.Value.Kind), (iI r28.Value.N), v28_0, v28_1, v28_2, v28_3]) rfl).add 1 28 (.agg #[(iI a0.Seat), (iI a0.Kind), (iI a0.Code), (iI a0.N), (iI a0.Value.Kind), (iI a0.Value.N), w0_0, w0_1, w0_2, w0_3]) rfl) (Xb (lda_q (es := [(iI a0.Seat), (iI a0.Kind), (iI a0.Code), (iI a0.N), (iI a0.Value.Kind), (iI a0.Value.N), w0_0, w0_1, w0_2, w0_3]) (A24.st (tr7 p29 p30 p33 p37 p43 p47 p50) rfl) u37 z37 rfl rfl rfl rfl rfl rfl rfl rfl) rfl (Xb (lda_q (es := [(iI r28.Seat), (iI r28.Kind), (iI r28.Code), (iI r28.N), (iI r28.Value.Kind), (iI r28.Value.N), v28_0, v28_1, v28_2, v28_3]) (B37.st (tr3 p43 p47 p50) rfl) u42 z42 rfl rfl rfl rfl rfl rfl rfl rfl) rfl pq_nil)) (by kernel_rfl) rfl (fun l55 e55 zd55 => ?_)
 have K58 := K41.st (tr3 p43 p47 p50) rfl
 refine cl' rfl func18 rfl (laws_toReply.calls a0 s50.w (mm [0] s50) w0_0 w0_1 w0_2 w0_3 ((Xf (s := s50) A0_0).sub (D := [0]) rfl) (A0_1.kp K58) (A0_2.kp K58) ((Xf (s := s50) A0_3).sub (D := [0]) rfl)) ?_
 rintro r61 _ w61 m61 ⟨v61_0, v61_1, v61_2, v61_3, rfl, f61_0, ky61⟩
 obtain ⟨s62, rfl, p62, n62⟩ := nwx s50 w61 50 ky61
 obtain ⟨s63, hw63, p63, hu61_0_0, Au61_0_1, Au61_0_2, hu61_0_3⟩ := ap42 51 (f61_0.c n62) rfl
 rw [hw63]
 refine zdone (L' := [0]) (D' := [1, 2]) zd55 rfl rfl rfl (fun zd66 => ?_)
 refine zfin [3, 4] tb50 zd66 (Xb (lda_q (es := [(iI r28.Seat), (iI r28.Kind), (iI r28.Code), (iI r28.N), (iI r28.Value.Kind), (iI r28.Value.N), v28_0, v28_1, v28_2, v28_3]) (B37.st (tr5 p43 p47 p50 p62 p63) rfl) u42 z42 rfl rfl rfl rfl rfl rfl rfl rfl) rfl pq_nil) (by kernel_rfl) (by decide) ?_
 have A68 := A39.st (tr5 p43 p47 p50 p62 p63) rfl
 have A69 := A40.st (tr5 p43 p47 p50 p62 p63) rfl
 refine clV 52 rfl func20 rfl (laws_eqReply.calls r28 r61 s63.w (mm [45, 46, 50, 51] s63) v28_0 v28_1 v28_2 v28_3 v61_0 v61_1 v61_2 v61_3 ((Xf (s := s63) hu28_0_0).sub (D := [45, 46, 50, 51]) rfl) (A68.rd.sub (D := [45, 46, 50, 51]) rfl) (A69.rd.sub (D := [45, 46, 50, 51]) rfl) ((Xf (s := s63) hu28_0_3).sub (D := [45, 46, 50, 51]) rfl) ((Xf (s := s63) hu61_0_0).sub (D := [45, 46, 50, 51]) rfl) (Au61_0_1.rd.sub (D := [45, 46, 50, 51]) rfl) (Au61_0_2.rd.sub (D := [45, 46, 50, 51]) rfl) ((Xf (s := s63) hu61_0_3).sub (D := [45, 46, 50, 51]) rfl)) (fun r70 s71 p71 n71 => ?_)
 refine Xa rfl (dn (cd rfl (fun h72 => ?_) (fun h72 => ?_)))
 ·
  refine sr (Xa rfl (dn ?_))
  exact re rfl func4 rfl (r_t rfl Xd) rfl ⟨_, rfl, rfl, z.ky (K58.st (tr3 p62 p63 p71) rfl)⟩
 refine sk (sr (Xa rfl (dn (sr ?_))))
 refine lda' (es := [(iI r28.Seat), (iI r28.Kind), (iI r28.Code), (iI r28.N), (iI r28.Value.Kind), (iI r28.Value.N), v28_0, v28_1, v28_2, v28_3]) (B37.st (tr6 p43 p47 p50 p62 p63 p71) rfl) u42 z42 rfl (Xa rfl ?_)
 obtain ⟨s77, hw77, p77, A77⟩ := ow_2 (ow_isoz (fun x : Item => (x.Kind, x.N, x.F, x.T)) r28.Value (ow_l (fz_int .i64 r28.Value.Kind) (ow_l (fz_int .i64 r28.Value.N) (ow_l (fz_flt hu28_0_0) (A68.st p71 rfl))))) (ow_r (A69.st p71 rfl) (fz_flt hu28_0_3)) rfl rfl
 rw [hw77]
 have A79 : OwF kd42 s77 [(iI r28.Seat), (iI r28.Kind), (iI r28.Code), (iI r28.N), (iI r28.Value.Kind), (iI r28.Value.N), v28_0, v28_1, v28_2, v28_3] r28 45 := (ow_isoz (fun x : Reply => (x.Seat, x.Kind, x.Code, x.N, x.Value, x.Rows, x.Total)) r28 (ow_l (fz_int .i64 r28.Seat) (ow_l (fz_int .i64 r28.Kind) (ow_l (fz_int .i64 r28.Code) (ow_l (fz_int .i64 r28.N) A77)))))
 obtain ⟨os81, ho81, hn81, hc81⟩ := A79
 refine cl' rfl func21 rfl (laws_markReply.calls r28 (1 : Int) s77.w (mm [] s77) v28_0 v28_1 v28_2 v28_3 os81 ho81 hn81 (apart_of hc81 rfl)) ?_
 rintro r81 _ w81 m81 ⟨rfl, w81_, ky81⟩
 obtain ⟨s82, rfl, p82, A82⟩ := nwo 53 hc81 ky81 w81_
 obtain ⟨s83, hw83, p83, hu81_w_0, Au81_w_1, Au81_w_2, hu81_w_3⟩ := ap42 54 A82 rfl
 rw [hw83]
 refine Xa rfl (dn (sq (sr (Xa rfl (Xa rfl (Xa rfl (ji [] (fun (y86 : Bool) e w => ∃ (s : St) (e0 : Env), w = s.w ∧ e = upd (upd (upd (upd e0 1 (pB b3)) 4 v21_0) 6 v42_0) 42 (.bool y86) ∧ Kp s0 s ∧ BlF s b3 37 [(iI a0.Seat), (iI a0.Kind), (iI a0.Code), (iI a0.N), (iI a0.Value.Kind), (iI a0.Value.N), w0_0, w0_1, w0_2, w0_3] 40 ∧ OwF Xj s [v21_0] r21 44 ∧ OwF Xj s [v42_0] r42 48) (fun Gj86 Kj86 => ?_) ?_)))))))
 ·
  rcases bft (decide (r81.1 < (0 : Int))) with hb86 | hb86
  ·
   refine sbT hb86 ?_
   rw [if_pos hb86]
   refine uw' rfl (uw' rfl (uw' rfl (uw' rfl (Xa rfl ?_))))
   exact Kj86 _ _ _ ⟨s83, _, rfl, (ue (ue (ue (ue rfl rfl) rfl) rfl) rfl), (K58.st (tr6 p62 p63 p71 p77 p82 p83) rfl), (A24.st (tr2 (tr12 p29 p30 p33 p37 p43 p47 p50 p62 p63 p71 p77 p82) p83) rfl), (A45.st (tr8 p47 p50 p62 p63 p71 p77 p82 p83) rfl), (A42_0.st (tr8 p47 p50 p62 p63 p71 p77 p82 p83) rfl)⟩
  refine sbT hb86 ?_
  rw [if_neg (by rw [hb86]; decide)]
  refine mv' v42_0 rfl (mv' v21_0 rfl ?_)
  have A91 := A42_0.st (tr8 p47 p50 p62 p63 p71 p77 p82 p83) rfl
  have A92 := A45.st (tr8 p47 p50 p62 p63 p71 p77 p82 p83) rfl
  refine clV 55 rfl func11 rfl (laws_eqByteS.calls r42 r21 s83.w (mm [48, 44] s83) v42_0 v21_0 (A91.rd.sub (D := [48, 44]) rfl) (A92.rd.sub (D := [48, 44]) rfl)) (fun r93 s94 p94 n94 => ?_)
  refine Xa rfl (Xa rfl ?_)
  exact Kj86 _ _ _ ⟨s94, _, rfl, (ue (ue (ue (ue rfl rfl) rfl) rfl) rfl), (K58.st (tr7 p62 p63 p71 p77 p82 p83 p94) rfl), (A24.st (tr3 (tr12 p29 p30 p33 p37 p43 p47 p50 p62 p63 p71 p77 p82) p83 p94) rfl), (A92.st p94 rfl), (A91.st p94 rfl)⟩
 rintro y86 _ _ ⟨s99, _, rfl, rfl, Ky86, By86_b3, Cy86_23, Cy86_44⟩
 refine dn (cd rfl (fun h101 => ?_) (fun h101 => ?_))
 ·
  exact sr (Xa rfl (dn (re rfl func4 rfl (r_t rfl Xd) rfl ⟨_, rfl, rfl, z.ky Ky86⟩)))
 refine sk (sr (Xa rfl (dn (sr (mv' v42_0 rfl (Xa rfl ?_))))))
 obtain ⟨os102, ho102, hn102, hc102⟩ := Cy86_44
 refine cl' rfl func14 rfl (laws_markByteS.calls r42 (1 : Int) s99.w (mm [] s99) v42_0 os102 ho102 hn102 (apart_of hc102 rfl)) ?_
 rintro r102 _ w102 m102 ⟨rfl, w102_, ky102⟩
 obtain ⟨s103, rfl, p103, A103⟩ := nwo 56 hc102 ky102 w102_
 refine Xa rfl (dn (sr (Xa rfl (dn (sr (mv' v42_0 rfl (Xa rfl (clV 57 rfl func15 rfl (laws_heldByteS.calls r102.2 (1 : Int) s103.w (mm [48] s103) v42_0 A103.rd) (fun r105 s106 p106 n106 => ?_)))))))))
 refine Xa rfl (dn (sq (sr (Xa rfl (Xa rfl (dn (cd rfl (fun h107 => ?_) (fun h107 => ?_))))))))
 ·
  refine sr (Xa rfl (dn ?_))
  exact re rfl func4 rfl (r_t rfl Xd) rfl ⟨_, rfl, rfl, z.ky (Ky86.st (tr2 p103 p106) rfl)⟩
 refine sk (sq (sr (Xa rfl (Xa rfl (Xa rfl (dn (cd rfl (fun h109 => ?_) (fun h109 => ?_))))))))
 ·
  refine sr (Xa rfl (dn ?_))
  exact re rfl func4 rfl (r_t rfl Xd) rfl ⟨_, rfl, rfl, z.ky (Ky86.st (tr2 p103 p106) rfl)⟩
 refine sk (sr ?_)
 refine lda' (es := [(iI a0.Seat), (iI a0.Kind), (iI a0.Code), (iI a0.N), (iI a0.Value.Kind), (iI a0.Value.N), w0_0, w0_1, w0_2, w0_3]) (By86_b3.st (tr2 p103 p106) rfl) u37 z37 rfl ?_
 have K112 := Ky86.st (tr2 p103 p106) rfl
 refine cl' rfl func18 rfl (laws_toReply.calls a0 s106.w (mm [0] s106) w0_0 w0_1 w0_2 w0_3 ((Xf (s := s106) A0_0).sub (D := [0]) rfl) (A0_1.kp K112) (A0_2.kp K112) ((Xf (s := s106) A0_3).sub (D := [0]) rfl)) ?_
 rintro r115 _ w115 m115 ⟨v115_0, v115_1, v115_2, v115_3, rfl, f115_0, ky115⟩
 obtain ⟨s116, rfl, p116, n116⟩ := nwx s106 w115 58 ky115
 obtain ⟨s117, hw117, p117, hu115_0_0, Au115_0_1, Au115_0_2, hu115_0_3⟩ := ap42 59 (f115_0.c n116) rfl
 rw [hw117]
 have K120 := K112.st (tr2 p116 p117) rfl
 refine clO 60 rfl func19 rfl (impl_ReplyText.calls r115 s117.w (mm [58, 59, 0] s117) v115_0 v115_1 v115_2 v115_3 ((AG.kp K120).sub (D := [58, 59, 0]) rfl) ((Xf (s := s117) hu115_0_0).sub (D := [58, 59, 0]) rfl) (Au115_0_1.rd.sub (D := [58, 59, 0]) rfl) (Au115_0_2.rd.sub (D := [58, 59, 0]) rfl) ((Xf (s := s117) hu115_0_3).sub (D := [58, 59, 0]) rfl)) (fun r121 v121_0 s122 p122 A121_0 => ?_)
 refine asg' v121_0 rfl (dn (sq (sr (mv' v121_0 rfl (mv' v21_0 rfl ?_)))))
 refine clV 61 rfl func11 rfl (laws_eqByteS.calls r121 r21 s122.w (mm [60, 44] s122) v121_0 v21_0 (A121_0.rd.sub (D := [60, 44]) rfl) ((Cy86_23.st (tr5 p103 p106 p116 p117 p122) rfl).rd.sub (D := [60, 44]) rfl)) (fun r125 s126 p126 n126 => ?_)
 refine Xa rfl (dn (cd rfl (fun h127 => ?_) (fun h127 => ?_)))
 ·
  refine sr (Xa rfl (dn ?_))
  exact re rfl func4 rfl (r_t rfl Xd) rfl ⟨_, rfl, rfl, z.ky (K120.st (tr2 p122 p126) rfl)⟩
 refine sk (sr (Xa rfl (dn (sr (mv' v42_0 rfl (Xa rfl ?_))))))
 refine clV 62 rfl func15 rfl (laws_heldByteS.calls r102.2 (1 : Int) s126.w (mm [48] s126) v42_0 (A103.st (tr5 p106 p116 p117 p122 p126) rfl).rd) (fun r130 s131 p131 n131 => ?_)
 refine Xa rfl (dn (sq (sr (Xa rfl (Xa rfl (dn (cd rfl (fun h132 => ?_) (fun h132 => ?_))))))))
 ·
  refine sr (Xa rfl (dn ?_))
  exact re rfl func4 rfl (r_t rfl Xd) rfl ⟨_, rfl, rfl, z.ky (K120.st (tr3 p122 p126 p131) rfl)⟩
 refine sk (sq (sr (Xa rfl (Xa rfl (Xa rfl (dn (cd rfl (fun h134 => ?_) (fun h134 => ?_))))))))
 ·
  refine sr (Xa rfl (dn ?_))
  exact re rfl func4 rfl (r_t rfl Xd) rfl ⟨_, rfl, rfl, z.ky (K120.st (tr3 p122 p126 p131) rfl)⟩
 refine sk (sr (Xa rfl (dn ?_)))
 exact re rfl func4 rfl (r_t rfl Xd) rfl ⟨_, rfl, rfl, z.ky (K120.st (tr3 p122 p126 p131) rfl)⟩
end Go.Proofs.YtiofnjnnocjbhaaDoor
