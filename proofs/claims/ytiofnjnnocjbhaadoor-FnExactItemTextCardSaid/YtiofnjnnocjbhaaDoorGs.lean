/- The functions as models, and that the calls come to what the models tell. -/
import Derived.Test.YtiofnjnnocjbhaaDoorGt
import Derived.Shelf.Strconv.Itoa3
import Derived.Shelf.Lay
import Derived.Ground.NamesProg
set_option linter.unusedVariables false
set_option linter.unusedSimpArgs false
set_option maxHeartbeats 4000000
set_option maxRecDepth 100000
noncomputable section
namespace Go.Proofs.YtiofnjnnocjbhaaDoor
open Go V Tryd
def laws_szByteS.f (a0 : (List Int)) (a1 : Int) : Option (Int) :=
 (if (decide ((IntKind.wrap .i64 (a1 - (a0.length : Int))) < (0 : Int))) = true then (some (-1 : Int)) else (some (IntKind.wrap .i64 (a1 - (a0.length : Int)))))
def laws_szByteS.Q (w : World) (F : Nat → Prop) (r : Int) (v : Value) (w' : World) : Prop :=
 v = (iI r) ∧ Ky [] w w'
theorem laws_szByteS.calls (a0 : (List Int)) (a1 : Int) (w : World) (F : Nat → Prop) (w0_0 : Value) (h0_0 : Xg.rd w [w0_0] a0 F) (r : Int) (m : laws_szByteS.f a0 a1 = some r) :
  Calls prog 32 #[w0_0, (iI a1)] w (RT (laws_szByteS.Q w F) r) := by
 obtain ⟨s0, rfl, kp0, z⟩ := start0 w F
 refine Xb (args := [w0_0, (iI a1)]) func32 ntmps32 rfl rfl m ?_
 unfold laws_szByteS.f
 refine sr (Xa rfl (dn (sr (Xa rfl (mv' w0_0 rfl (ln (z.rd h0_0) u23 rfl rfl rfl rfl rfl rfl (Xa rfl (Xa rfl (dn (sq (sr (Xa rfl (Xa rfl (dn ?_))))))))))))))
 refine cd rfl (fun h2 => ?_) (fun h2 => ?_)
 ·
  exact sr (Xa rfl (dn (re rfl func32 rfl (r_t rfl Xc) rfl ⟨_, rfl, rfl, z.ky kp0⟩)))
 exact sk (sr (Xa rfl (Xa rfl (dn (re rfl func32 rfl (r_t rfl Xc) rfl ⟨_, rfl, rfl, z.ky kp0⟩)))))
def laws_szItem.f (a0 : Item) (a1 : Int) : Option (Int) :=
 ((laws_szByteS.f a0.T a1).bind fun r6 => (if (decide (r6 < (0 : Int))) = true then (some (-1 : Int)) else (some r6)))
def laws_szItem.Q (w : World) (F : Nat → Prop) (r : Int) (v : Value) (w' : World) : Prop :=
 v = (iI r) ∧ Ky [] w w'
theorem laws_szItem.calls (a0 : Item) (a1 : Int) (w : World) (F : Nat → Prop) (w0_0 : Value) (w0_1 : Value) (h0_0 : Kd.flt.rd w [w0_0] a0.F F) (h0_1 : Xg.rd w [w0_1] a0.T F) (r : Int) (m : laws_szItem.f a0 a1 = some r) :
  Calls prog 7 #[(.agg #[(iI a0.Kind), (iI a0.N), w0_0, w0_1]), (iI a1)] w (RT (laws_szItem.Q w F) r) := by
 obtain ⟨s0, rfl, kp0, z⟩ := start0 w F
 refine Xb (args := [(.agg #[(iI a0.Kind), (iI a0.N), w0_0, w0_1]), (iI a1)]) func7 ntmps7 rfl rfl m ?_
 unfold laws_szItem.f
 refine sr (bx (cs := [(iI a0.Kind), (iI a0.N), w0_0, w0_1]) 40 rfl rfl rfl rfl rfl rfl (fun b2 s2 p2 B2 => ?_))
 refine Xa rfl (dn (sr (fa' fa25_3 rfl (ld' B2 u23 rfl (Xa rfl ?_)))))
 have K4 := kp0.st p2 rfl
 refine clV 41 rfl func32 rfl (laws_szByteS.calls a0.T a1 s2.w (mm [0] s2) w0_1 ((z.rd h0_1).kp K4)) (fun r6 s7 p7 n7 => ?_)
 refine Xa rfl (dn (sq (sr (Xa rfl (Xa rfl (dn (cd rfl (fun h8 => ?_) (fun h8 => ?_))))))))
 ·
  refine sr (Xa rfl (dn ?_))
  exact re rfl func7 rfl (r_t rfl Xc) rfl ⟨_, rfl, rfl, z.ky (K4.st p7 rfl)⟩
 refine sk (sr (Xa rfl (Xa rfl (dn ?_))))
 exact re rfl func7 rfl (r_t rfl Xc) rfl ⟨_, rfl, rfl, z.ky (K4.st p7 rfl)⟩
def laws_toByteS.b0 (a0 : (List Int)) (x4 : (List Int) × Int) : Option (((List Int) × Int) ⊕ (List Int)) :=
 (if (decide (x4.2 < (a0.length : Int))) = true then (if 0 ≤ x4.2 ∧ x4.2 < (a0.length : Int) then (if 0 ≤ x4.2 ∧ x4.2 < (x4.1.length : Int) then (some (Sum.inl ((x4.1.set (x4.2).toNat (at_ a0 x4.2)), (IntKind.wrap .i64 (x4.2 + (1 : Int)))))) else none) else none) else ((some x4.1).bind fun o => some (Sum.inr o)))
def laws_toByteS.f (a0 : (List Int)) : Option ((List Int)) :=
 (if 0 ≤ (a0.length : Int) ∧ (a0.length : Int) ≤ (Lim : Int) then (iter (laws_toByteS.b0 a0) ((List.replicate ((a0.length : Int)).toNat (0 : Int)), (0 : Int))) else none)
def laws_toByteS.Q (w : World) (F : Nat → Prop) (r : (List Int)) (v : Value) (w' : World) : Prop :=
 FO Xg w w' [v] r ∧ Ky [] w w'
theorem laws_toByteS.calls (a0 : (List Int)) (w : World) (F : Nat → Prop) (w0_0 : Value) (h0_0 : Xg.rd w [w0_0] a0 F) (r : (List Int)) (m : laws_toByteS.f a0 = some r) :
  Calls prog 29 #[w0_0] w (RT (laws_toByteS.Q w F) r) := by
 obtain ⟨s0, rfl, kp0, z⟩ := start0 w F
 have A0_0 := z.rd h0_0
 refine Xb (args := [w0_0]) func29 ntmps29 rfl rfl m ?_
 unfold laws_toByteS.f
 refine sr (Xa rfl (dn (sr (mv' w0_0 rfl (ln A0_0 u23 rfl rfl rfl rfl rfl rfl (mk (x0 := (0 : Int)) (K := (Kd.int .u8)) 40 sl23 o5 (fun _ => ⟨rfl, rfl⟩) rfl rfl rfl rfl rfl rfl rfl (fun v2 s2 p2 A2 => ?_)))))))
 refine asg' v2 rfl (dn (sq (sr (Xa rfl (dn (bl ?_))))))
 refine lpI (fun (x4 : (List Int) × Int) e w => ∃ (s : St) (e0 : Env), w = s.w ∧ e = upd (upd (upd e0 0 w0_0) 3 v2) 4 (iI x4.2) ∧ Kp s0 s ∧ OwF Xg s [v2] x4.1 40) ⟨s2, _, rfl, (ue (ue (ue rfl rfl) rfl) rfl), (kp0.st p2 rfl), A2⟩ (fun g4 ih4 => ?_)
 rintro x4 _ _ ⟨s6, _, rfl, rfl, Kx4, Ax4_0⟩
 unfold laws_toByteS.b0
 refine sq (sr (Xa rfl (mv' w0_0 rfl ?_)))
 have A8 := A0_0.kp Kx4
 refine ln A8 u23 rfl rfl rfl rfl rfl rfl (Xa rfl (dn (cd rfl (fun h9 => ?_) (fun h9 => ?_))))
 ·
  refine sk (sq (bl (rg (mv' v2 rfl (Xa rfl (mv' w0_0 rfl (Xa rfl (ix A8 u23 z5 rfl rfl rfl rfl rfl rfl rfl rfl (fun ad10 es10 h0_10 h1_10 he10 ce10 ia10 => ?_)))))))))
  obtain rfl := he10
  refine lc0 ce10 u5 rfl rfl rfl rfl rfl rfl rfl rfl (ix Ax4_0.rd u23 z5 rfl rfl rfl rfl rfl rfl rfl rfl (fun ad12 es12 h0_12 h1_12 he12 ce12 ia12 => ?_))
  obtain rfl := he12
  refine so (x' := (at_ a0 x4.2)) Ax4_0 ia12 h0_12 h1_12 cs_flat z5 rfl rfl rfl rfl rfl rfl (fun s14 p14 A14 => ?_)
  refine dn (ib (rg (Xa rfl (Xa rfl (Xa rfl (dn ?_))))))
  exact lb ih4 ⟨s14, _, rfl, (ue (ue (ue rfl rfl) rfl) rfl), (Kx4.st p14 rfl), A14⟩
 exact xt rfl (sgb (sr (mv' v2 rfl (asg' v2 rfl (dn (re rfl func29 rfl (r_t rfl Xc) rfl ⟨_, rfl, Ax4_0.fo Kx4 rfl z.l, z.ky Kx4⟩))))))
def laws_toItem.f (a0 : Item) : Option (Item) :=
 ((laws_toByteS.f a0.T).bind fun r20 => (some (Item.mk a0.Kind a0.N a0.F r20)))
def laws_toItem.Q (w : World) (F : Nat → Prop) (r : Item) (v : Value) (w' : World) : Prop :=
 ∃ (v0 : Value) (v1 : Value), v = (.agg #[(iI r.Kind), (iI r.N), v0, v1]) ∧ FO kd28 w w' [(iI r.Kind), (iI r.N), v0, v1] r ∧ Ky [] w w'
theorem laws_toItem.calls (a0 : Item) (w : World) (F : Nat → Prop) (w0_0 : Value) (w0_1 : Value) (h0_0 : Kd.flt.rd w [w0_0] a0.F F) (h0_1 : Xg.rd w [w0_1] a0.T F) (r : Item) (m : laws_toItem.f a0 = some r) :
  Calls prog 9 #[(.agg #[(iI a0.Kind), (iI a0.N), w0_0, w0_1])] w (RT (laws_toItem.Q w F) r) := by
 obtain ⟨s0, rfl, kp0, z⟩ := start0 w F
 have A0_0 := fl_of h0_0
 refine Xb (args := [(.agg #[(iI a0.Kind), (iI a0.N), w0_0, w0_1])]) func9 ntmps9 rfl rfl m ?_
 unfold laws_toItem.f
 refine sr (bx (cs := [(iI a0.Kind), (iI a0.N), w0_0, w0_1]) 40 rfl rfl rfl rfl rfl rfl (fun b2 s2 p2 B2 => ?_))
 refine al (cs := [(iI 0), (iI 0), (.float .f64 0), (.slice none 0 0)]) 41 rfl rfl rfl rfl rfl o28 rfl (fun b4 s4 p4 B4 => ?_)
 refine dn (sr (al (cs := [(iI 0), (iI 0), (.float .f64 0), (.slice none 0 0)]) 42 rfl rfl rfl rfl rfl o28 rfl (fun b6 s6 p6 B6 => ?_)))
 refine dn (sr (fa' fa25_0 rfl ?_))
 have A8 := B2.st (tr2 p4 p6) rfl
 refine ld' A8 u3 rfl (fa' fa28_0 rfl (sv B6 z3 rfl rfl rfl rfl rfl rfl rfl rfl (fun s9 p9 B9 => ?_)))
 refine dn (sr (fa' fa25_1 rfl ?_))
 have A11 := A8.st p9 rfl
 refine ld' A11 u3 rfl (fa' fa28_1 rfl (sv B9 z3 rfl rfl rfl rfl rfl rfl rfl rfl (fun s12 p12 B12 => ?_)))
 refine dn (sr (fa' fa25_2 rfl ?_))
 have A14 := A11.st p12 rfl
 refine ld' A14 u22 rfl (fa' fa28_2 rfl (sv B12 z22 rfl rfl rfl rfl rfl rfl (FL.one A0_0) rfl (fun s15 p15 B15 => ?_)))
 refine dn (sr (fa' fa25_3 rfl ?_))
 refine ld' (A14.st p15 rfl) u23 rfl ?_
 have K18 := kp0.st (tr6 p2 p4 p6 p9 p12 p15) rfl
 refine clO 43 rfl func29 rfl (laws_toByteS.calls a0.T s15.w (mm [0] s15) w0_1 ((z.rd h0_1).kp K18)) (fun r20 v20_0 s21 p21 A20_0 => ?_)
 refine fa' fa28_3 rfl (sv (B15.st p21 rfl) z23 rfl rfl rfl rfl rfl rfl A20_0.rd.one rfl (fun s24 p24 B24 => ?_))
 refine dn (sr (lda (es := [(iI a0.Kind), (iI a0.N), w0_0, v20_0]) B24 u28 z28 rfl rfl rfl rfl rfl rfl rfl rfl ?_))
 have A27 := A20_0.st p24 rfl
 refine sva (vs := [(iI a0.Kind), (iI a0.N), w0_0, v20_0]) (B4.st (tr6 p6 p9 p12 p15 p21 p24) rfl) z28 rfl rfl rfl rfl rfl rfl (on_cons rfl (on_cons rfl (on_cons (FL.one A0_0) (on_cons A27.rd.one on_nil)))) rfl (fun s28 p28 B28 => ?_)
 refine dn ?_
 have A30 : OwF kd28 s28 [(iI a0.Kind), (iI a0.N), w0_0, v20_0] (Item.mk a0.Kind a0.N a0.F r20) 43 := (ow_isoz (fun x : Item => (x.Kind, x.N, x.F, x.T)) (Item.mk a0.Kind a0.N a0.F r20) (ow_l (fz_int .i64 a0.Kind) (ow_l (fz_int .i64 a0.N) (ow_l (fz_flt A0_0) (A27.st p28 rfl)))))
 have K33 := K18.st (tr3 p21 p24 p28) rfl
 exact re rfl func9 rfl (r_b B28 u28 rfl z28 rfl Xc) rfl ⟨_, rfl, w0_0, v20_0, rfl, A30.fo K33 rfl z.l, z.ky K33⟩
def spec_FloatBits.b1 (y8 : Int × Nat) (x19 : Nat × Int) : Option ((Nat × Int) ⊕ Int) :=
 (if ((fcmp .f64 x19.1 (4607182418800017408 : Nat) == some .lt) && (decide (x19.2 > (-1022 : Int)))) = true then (some (Sum.inl ((far .mul x19.1 (4611686018427387904 : Nat)), (IntKind.wrap .i64 (x19.2 - (1 : Int)))))) else ((if (fcmp .f64 x19.1 (4607182418800017408 : Nat) == some .lt) = true then ((floatToIntVal .f64 (far .mul x19.1 (4841369599423283200 : Nat)) .u64).bind fun r27 => (some (ior .u64 y8.1 r27))) else ((floatToIntVal .f64 (far .mul (far .sub x19.1 (4607182418800017408 : Nat)) (4841369599423283200 : Nat)) .u64).bind fun r31 => (some (ior .u64 (ior .u64 y8.1 (ishl .u64 (IntKind.wrap .u64 (IntKind.wrap .i64 (x19.2 + (1023 : Int)))) (52 : Int))) r31)))).bind fun o => some (Sum.inr o)))
def spec_FloatBits.b0 (y8 : Int × Nat) (x14 : Nat × Int) : Option ((Nat × Int) ⊕ Int) :=
 (if (fcmp .f64 x14.1 (4611686018427387904 : Nat) == some .gt || fcmp .f64 x14.1 (4611686018427387904 : Nat) == some .eq) = true then (some (Sum.inl ((far .quo x14.1 (4611686018427387904 : Nat)), (IntKind.wrap .i64 (x14.2 + (1 : Int)))))) else ((iter (spec_FloatBits.b1 y8) (x14.1, x14.2)).bind fun o => some (Sum.inr o)))
def spec_FloatBits.f (a0 : Nat) : Option (Int) :=
 (if (fcmp .f64 a0 a0 != some .eq) = true then (some (9221120237041090560 : Int)) else ((if (fcmp .f64 a0 (0 : Nat) == some .lt) = true then (some true) else ((if (fcmp .f64 a0 (0 : Nat) == some .eq) = true then (some (fcmp .f64 (far .quo (4607182418800017408 : Nat) a0) (0 : Nat) == some .lt)) else (some false)).bind fun y3 => (some y3))).bind fun y2 => ((if y2 = true then (some ((9223372036854775808 : Int), (fneg a0))) else (some ((0 : Int), a0))).bind fun y8 => (if (fcmp .f64 y8.2 (0 : Nat) == some .eq) = true then (some y8.1) else (if (fcmp .f64 y8.2 (9218868437227405311 : Nat) == some .gt) = true then (some (ior .u64 y8.1 (9218868437227405312 : Int))) else (iter (spec_FloatBits.b0 y8) (y8.2, (0 : Int))))))))
def spec_FloatBits.Q (w : World) (F : Nat → Prop) (r : Int) (v : Value) (w' : World) : Prop :=
 v = (.int .u64 r) ∧ Ky [] w w'
theorem spec_FloatBits.calls (a0 : Nat) (w : World) (F : Nat → Prop) (w0_0 : Value) (h0_0 : Kd.flt.rd w [w0_0] a0 F) (r : Int) (m : spec_FloatBits.f a0 = some r) :
  Calls prog 37 #[w0_0] w (RT (spec_FloatBits.Q w F) r) := by
 obtain ⟨s0, rfl, kp0, z⟩ := start0 w F
 have A0_0 := fl_of h0_0
 refine Xb (args := [w0_0]) func37 ntmps37 rfl rfl m ?_
 unfold spec_FloatBits.f
 refine sr (Xa rfl (dn (sq (sr (mv' w0_0 rfl (mv' w0_0 rfl (fq_' A0_0 A0_0 rfl (dn (cd rfl (fun h1 => ?_) (fun h1 => ?_))))))))))
 ·
  exact sr (Xa rfl (dn (re rfl func37 rfl (r_t rfl Xc) rfl ⟨_, rfl, rfl, z.ky kp0⟩)))
 refine sk (sr (Xa rfl (dn (sr (mv' w0_0 rfl (asg' w0_0 rfl (dn (sq (sr (mv' w0_0 rfl (fq_' A0_0 (fl_c rfl) rfl (Xa rfl (ji [] (fun (y2 : Bool) e w => ∃ (s : St) (e0 : Env), w = s.w ∧ e = upd (upd (upd (upd e0 0 w0_0) 3 (.int .u64 (0 : Int))) 4 w0_0) 20 (.bool y2) ∧ Kp s0 s) (fun Gj2 Kj2 => ?_) ?_)))))))))))))
 ·
  rcases bft (fcmp .f64 a0 (0 : Nat) == some .lt) with hb2 | hb2
  ·
   refine sbT hb2 ?_
   rw [if_pos hb2]
   exact uw' rfl (uw' rfl (uw' rfl (uw' rfl (uw' rfl (uw' rfl (uw' rfl (Xa rfl (Kj2 _ _ _ ⟨s0, _, rfl, (ue (ue (ue (ue rfl rfl) rfl) rfl) rfl), kp0⟩))))))))
  refine sbT hb2 ?_
  rw [if_neg (by rw [hb2]; decide)]
  refine mv' w0_0 rfl (fq_' A0_0 (fl_c rfl) rfl (Xa rfl (ji [10] (fun (y3 : Bool) e w => ∃ (s : St) (e0 : Env), w = s.w ∧ e = upd (upd (upd (upd (upd e0 0 w0_0) 3 (.int .u64 (0 : Int))) 4 w0_0) 12 (.bool false)) 19 (.bool y3) ∧ Kp s0 s) (fun Gj3 Kj3 => ?_) ?_)))
  ·
   rcases bft (fcmp .f64 a0 (0 : Nat) == some .eq) with hb3 | hb3
   ·
    refine sbT hb3 ?_
    rw [if_pos hb3]
    refine mv' w0_0 rfl (fa_ (fl_c rfl) A0_0 (by simp) rfl rfl rfl rfl rfl rfl rfl (fun v4 s4 p4 A4 => ?_))
    refine fq_' A4 (fl_c rfl) rfl (Xa rfl ?_)
    exact Kj3 _ _ _ ⟨s4, _, rfl, (ue (ue (ue (ue (ue rfl rfl) rfl) rfl) rfl) rfl), (kp0.st p4 rfl)⟩
   refine sbT hb3 ?_
   rw [if_neg (by rw [hb3]; decide)]
   exact uw' rfl (uw' rfl (uw' rfl (Xa rfl (Kj3 _ _ _ ⟨s0, _, rfl, (ue (ue (ue (ue (ue rfl rfl) rfl) rfl) rfl) rfl), kp0⟩))))
  rintro y3 _ _ ⟨s6, _, rfl, rfl, Ky3⟩
  exact Xa rfl (Kj2 _ _ _ ⟨s6, _, rfl, (ue (ue (ue (ue rfl rfl) rfl) rfl) rfl), Ky3⟩)
 rintro y2 _ _ ⟨s7, _, rfl, rfl, Ky2⟩
 refine dn (jc (fun (y8 : Int × Nat) e w => ∃ (s : St) (e0 : Env) (uy8_0 : Value), w = s.w ∧ e = upd (upd e0 3 (.int .u64 y8.1)) 4 uy8_0 ∧ Kp s0 s ∧ FL uy8_0 y8.2) (fun Gj8 Kj8 => ?_) ?_)
 ·
  refine cd rfl (fun h9 => ?_) (fun h9 => ?_)
  ·
   refine sr (Xa rfl (dn (rg (mv' w0_0 rfl (fng_ A0_0 rfl rfl rfl rfl rfl rfl (fun v10 A10 => ?_))))))
   exact asg' v10 rfl (dn (Kj8 _ _ _ ⟨s7, _, v10, rfl, (ue (ue rfl rfl) rfl), Ky2, A10⟩))
  exact sk (Kj8 _ _ _ ⟨s7, _, w0_0, rfl, (ue (ue rfl rfl) rfl), Ky2, A0_0⟩)
 rintro y8 _ _ ⟨s11, _, uy8_0, rfl, rfl, Ky8, Fy8_0⟩
 refine sq (sr (mv' uy8_0 rfl (fq_' Fy8_0 (fl_c rfl) rfl (dn (cd rfl (fun h12 => ?_) (fun h12 => ?_))))))
 ·
  exact sr (Xa rfl (Xa rfl (dn (re rfl func37 rfl (r_t rfl Xc) rfl ⟨_, rfl, rfl, z.ky Ky8⟩))))
 refine sk (sq (sr (mv' uy8_0 rfl (fq_' Fy8_0 (fl_c rfl) rfl (dn (cd rfl (fun h13 => ?_) (fun h13 => ?_)))))))
 ·
  exact sr (Xa rfl (Xa rfl (Xa rfl (dn (re rfl func37 rfl (r_t rfl Xc) rfl ⟨_, rfl, rfl, z.ky Ky8⟩)))))
 refine sk (sr (Xa rfl (dn (sq (bl (lpI (fun (x14 : Nat × Int) e w => ∃ (s : St) (e0 : Env) (ux14_0 : Value), w = s.w ∧ e = upd (upd (upd e0 3 (.int .u64 y8.1)) 4 ux14_0) 5 (iI x14.2) ∧ Kp s0 s ∧ FL ux14_0 x14.1) ⟨s11, _, uy8_0, rfl, (ue (ue (ue rfl rfl) rfl) rfl), Ky8, Fy8_0⟩ (fun g14 ih14 => ?_)))))))
 rintro x14 _ _ ⟨s15, _, ux14_0, rfl, rfl, Kx14, Fx14_0⟩
 unfold spec_FloatBits.b0
 refine sq (sr (mv' ux14_0 rfl (fq_' Fx14_0 (fl_c rfl) rfl (dn (cd rfl (fun h16 => ?_) (fun h16 => ?_))))))
 ·
  refine sk (bl (sr (mv' ux14_0 rfl (fa_ Fx14_0 (fl_c rfl) (by simp) rfl rfl rfl rfl rfl rfl rfl (fun v17 s17 p17 A17 => ?_)))))
  refine asg' v17 rfl (dn (rg (Xa rfl (Xa rfl (Xa rfl (dn (ib ?_)))))))
  exact lb ih14 ⟨s17, _, v17, rfl, (ue (ue (ue rfl rfl) rfl) rfl), (Kx14.st p17 rfl), A17⟩
 refine xt rfl (sgb (sq (bl (lpI (fun (x19 : Nat × Int) e w => ∃ (s : St) (e0 : Env) (ux19_0 : Value), w = s.w ∧ e = upd (upd (upd e0 3 (.int .u64 y8.1)) 4 ux19_0) 5 (iI x19.2) ∧ Kp s0 s ∧ FL ux19_0 x19.1) ⟨s15, _, ux14_0, rfl, (ue (ue (ue rfl rfl) rfl) rfl), Kx14, Fx14_0⟩ (fun g19 ih19 => ?_)))))
 rintro x19 _ _ ⟨s20, _, ux19_0, rfl, rfl, Kx19, Fx19_0⟩
 unfold spec_FloatBits.b1
 refine sq (sr (mv' ux19_0 rfl (fq_' Fx19_0 (fl_c rfl) rfl (Xa rfl (jy [38, 39, 40, 41] [] 41 (.bool ((fcmp .f64 x19.1 (4607182418800017408 : Nat) == some .lt) && (decide (x19.2 > (-1022 : Int))))) rfl (fun Kg21 => ?_) (fun j21 => ?_))))))
 ·
  rcases bft (fcmp .f64 x19.1 (4607182418800017408 : Nat) == some .lt) with hb21 | hb21
  ·
   exact sbT hb21 (Xa rfl (Xa rfl (Xa rfl (Kg21 _ (Ag.put ((Ag.put ((Ag.put (Ag.base rfl) rfl)) rfl)) rfl) (by rw [hb21]; rfl)))))
  exact sbT hb21 (uw' rfl (uw' rfl (Xa rfl (Kg21 _ (Ag.put ((Ag.put ((Ag.put (Ag.base rfl) rfl)) rfl)) rfl) (by rw [hb21]; rfl)))))
 refine dn (cd rfl (fun h22 => ?_) (fun h22 => ?_))
 ·
  refine sk (bl (sr (mv' ux19_0 rfl (fa_ Fx19_0 (fl_c rfl) (by simp) rfl rfl rfl rfl rfl rfl rfl (fun v23 s23 p23 A23 => ?_)))))
  refine asg' v23 rfl (dn (rg (Xa rfl (Xa rfl (Xa rfl (dn (ib ?_)))))))
  exact lb ih19 ⟨s23, _, v23, rfl, (ue (ue (ue rfl rfl) rfl) rfl), (Kx19.st p23 rfl), A23⟩
 refine xt rfl (sgb (sq (sr (mv' ux19_0 rfl (fq_' Fx19_0 (fl_c rfl) rfl (dn (cd rfl (fun h25 => ?_) (fun h25 => ?_))))))))
 ·
  refine sr (Xa rfl (mv' ux19_0 rfl (fa_ Fx19_0 (fl_c rfl) (by simp) rfl rfl rfl rfl rfl rfl rfl (fun v26 s26 p26 A26 => ?_))))
  refine f2i A26 u65 u22 rfl rfl rfl rfl rfl rfl (fun r27 m27 => ?_)
  refine Xa rfl (Xa rfl (dn ?_))
  exact re rfl func37 rfl (r_t rfl Xc) rfl ⟨_, rfl, rfl, z.ky (Kx19.st p26 rfl)⟩
 refine sk (sr (Xa rfl (Xa rfl (Xa rfl (cv u65 u3 rfl rfl rfl rfl rfl rfl (shlK rfl rfl rfl rfl rfl rfl rfl rfl (Xa rfl (mv' ux19_0 rfl (fa_ Fx19_0 (fl_c rfl) (by simp) rfl rfl rfl rfl rfl rfl rfl (fun v29 s29 p29 A29 => ?_))))))))))
 refine fa_ A29 (fl_c rfl) (by simp) rfl rfl rfl rfl rfl rfl rfl (fun v30 s30 p30 A30 => ?_)
 refine f2i A30 u65 u22 rfl rfl rfl rfl rfl rfl (fun r31 m31 => ?_)
 refine Xa rfl (Xa rfl (dn ?_))
 exact re rfl func37 rfl (r_t rfl Xc) rfl ⟨_, rfl, rfl, z.ky (Kx19.st (tr2 p29 p30) rfl)⟩
def spec_ItemOk.f (a0 : Item) : Option (Bool) :=
 (if (((decide (a0.Kind < (0 : Int))) || (decide (a0.Kind > (3 : Int)))) || (decide ((a0.T.length : Int) > (40 : Int)))) = true then (some false) else (if ((a0.Kind != (1 : Int)) && (a0.N != (0 : Int))) = true then (some false) else ((if (a0.Kind != (2 : Int)) = true then ((spec_FloatBits.f a0.F).bind fun r14 => (some (r14 != (0 : Int)))) else (some false)).bind fun y13 => (if y13 = true then (some false) else (some ((a0.Kind == (3 : Int)) || ((a0.T.length : Int) == (0 : Int))))))))
def spec_ItemOk.Q (w : World) (F : Nat → Prop) (r : Bool) (v : Value) (w' : World) : Prop :=
 v = (.bool r) ∧ Ky [] w w'
theorem spec_ItemOk.calls (a0 : Item) (w : World) (F : Nat → Prop) (w0_0 : Value) (w0_1 : Value) (h0_0 : Kd.flt.rd w [w0_0] a0.F F) (h0_1 : Xg.rd w [w0_1] a0.T F) (r : Bool) (m : spec_ItemOk.f a0 = some r) :
  Calls prog 33 #[(.agg #[(iI a0.Kind), (iI a0.N), w0_0, w0_1])] w (RT (spec_ItemOk.Q w F) r) := by
 obtain ⟨s0, rfl, kp0, z⟩ := start0 w F
 have A0_1 := z.rd h0_1
 refine Xb (args := [(.agg #[(iI a0.Kind), (iI a0.N), w0_0, w0_1])]) func33 ntmps33 rfl rfl m ?_
 unfold spec_ItemOk.f
 refine sr (bx (cs := [(iI a0.Kind), (iI a0.N), w0_0, w0_1]) 40 rfl rfl rfl rfl rfl rfl (fun b2 s2 p2 B2 => ?_))
 refine Xa rfl (dn (sq (sr (fa' fa28_0 rfl (ld' B2 u3 rfl (Xa rfl (Xa rfl (jy [6, 7, 8, 9, 10] [8, 9, 10, 11, 12, 13] 10 (.bool ((decide (a0.Kind < (0 : Int))) || (decide (a0.Kind > (3 : Int))))) rfl (fun Kg4 => ?_) (fun j4 => ?_)))))))))
 ·
  rcases bft (decide (a0.Kind < (0 : Int))) with hb4 | hb4
  ·
   exact sbT hb4 (uw' rfl (uw' rfl (uw' rfl (Xa rfl (Kg4 _ (Ag.put ((Ag.put ((Ag.put ((Ag.put (Ag.base rfl) rfl)) rfl)) rfl)) rfl) (by rw [hb4]; rfl))))))
  exact sbT hb4 (fa' fa28_0 rfl (ld' B2 u3 rfl (Xa rfl (Xa rfl (Kg4 _ (Ag.put ((Ag.put ((Ag.put ((Ag.put (Ag.base rfl) rfl)) rfl)) rfl)) rfl) (by rw [hb4]; rfl))))))
 refine Xa rfl (jy [11, 12, 13, 14, 15, 16] [] 16 (.bool (((decide (a0.Kind < (0 : Int))) || (decide (a0.Kind > (3 : Int)))) || (decide ((a0.T.length : Int) > (40 : Int))))) rfl (fun Kg5 => ?_) (fun j5 => ?_))
 ·
  rcases bft ((decide (a0.Kind < (0 : Int))) || (decide (a0.Kind > (3 : Int)))) with hb5 | hb5
  ·
   exact sbT hb5 (uw' rfl (uw' rfl (uw' rfl (uw' rfl (Xa rfl (Kg5 _ (Ag.put ((Ag.put ((Ag.put ((Ag.put ((Ag.put (Ag.base rfl) rfl)) rfl)) rfl)) rfl)) rfl) (by rw [hb5]; rfl)))))))
  refine sbT hb5 (fa' fa28_3 rfl (ld' B2 u23 rfl ?_))
  exact ln (A0_1.kp (kp0.st p2 rfl)) u23 rfl rfl rfl rfl rfl rfl (Xa rfl (Xa rfl (Kg5 _ (Ag.put ((Ag.put ((Ag.put ((Ag.put ((Ag.put (Ag.base rfl) rfl)) rfl)) rfl)) rfl)) rfl) (by rw [hb5]; rfl))))
 refine dn (cd rfl (fun h8 => ?_) (fun h8 => ?_))
 ·
  refine sr (Xa rfl (dn ?_))
  exact re rfl func33 rfl (r_t rfl Xc) rfl ⟨_, rfl, rfl, z.ky (kp0.st p2 rfl)⟩
 refine sk (sq (sr (fa' fa28_0 rfl (ld' B2 u3 rfl (Xa rfl (Xa rfl (jy [20, 21, 22, 23, 24] [] 24 (.bool ((a0.Kind != (1 : Int)) && (a0.N != (0 : Int)))) rfl (fun Kg10 => ?_) (fun j10 => ?_))))))))
 ·
  rcases bft (a0.Kind != (1 : Int)) with hb10 | hb10
  ·
   exact sbT hb10 (fa' fa28_1 rfl (ld' B2 u3 rfl (Xa rfl (Xa rfl (Kg10 _ (Ag.put ((Ag.put ((Ag.put ((Ag.put (Ag.base rfl) rfl)) rfl)) rfl)) rfl) (by rw [hb10]; rfl))))))
  exact sbT hb10 (uw' rfl (uw' rfl (uw' rfl (Xa rfl (Kg10 _ (Ag.put ((Ag.put ((Ag.put ((Ag.put (Ag.base rfl) rfl)) rfl)) rfl)) rfl) (by rw [hb10]; rfl))))))
 refine dn (cd rfl (fun h11 => ?_) (fun h11 => ?_))
 ·
  refine sr (Xa rfl (dn ?_))
  exact re rfl func33 rfl (r_t rfl Xc) rfl ⟨_, rfl, rfl, z.ky (kp0.st p2 rfl)⟩
 refine sk (sq (sr (fa' fa28_0 rfl (ld' B2 u3 rfl (Xa rfl (Xa rfl (ji [] (fun (y13 : Bool) e w => ∃ (s : St) (e0 : Env), w = s.w ∧ e = upd (upd e0 1 (pB b2)) 33 (.bool y13) ∧ Kp s0 s ∧ BlF s b2 28 [(iI a0.Kind), (iI a0.N), w0_0, w0_1] 40) (fun Gj13 Kj13 => ?_) ?_)))))))
 ·
  rcases bft (a0.Kind != (2 : Int)) with hb13 | hb13
  ·
   refine sbT hb13 ?_
   rw [if_pos hb13]
   refine fa' fa28_2 rfl (ld' B2 u22 rfl (clV 41 rfl func37 rfl (spec_FloatBits.calls a0.F s2.w (mm [] s2) w0_0 (fl_rdf (s := s2) (fl_of h0_0))) (fun r14 s15 p15 n15 => ?_)))
   refine Xa rfl (Xa rfl ?_)
   exact Kj13 _ _ _ ⟨s15, _, rfl, (ue (ue rfl rfl) rfl), (kp0.st (tr2 p2 p15) rfl), (B2.st p15 rfl)⟩
  refine sbT hb13 ?_
  rw [if_neg (by rw [hb13]; decide)]
  refine uw' rfl (uw' rfl (uw' rfl (uw' rfl (Xa rfl ?_))))
  exact Kj13 _ _ _ ⟨s2, _, rfl, (ue (ue rfl rfl) rfl), (kp0.st p2 rfl), B2⟩
 rintro y13 _ _ ⟨s19, _, rfl, rfl, Ky13, By13_b2⟩
 refine dn (cd rfl (fun h21 => ?_) (fun h21 => ?_))
 ·
  exact sr (Xa rfl (dn (re rfl func33 rfl (r_t rfl Xc) rfl ⟨_, rfl, rfl, z.ky Ky13⟩)))
 refine sk (sr (fa' fa28_0 rfl (ld' By13_b2 u3 rfl (Xa rfl (Xa rfl (jy [37, 38, 39, 40, 41, 42] [9] 42 (.bool ((a0.Kind == (3 : Int)) || ((a0.T.length : Int) == (0 : Int)))) rfl (fun Kg22 => ?_) (fun j22 => ?_)))))))
 ·
  rcases bft (a0.Kind == (3 : Int)) with hb22 | hb22
  ·
   exact sbT hb22 (uw' rfl (uw' rfl (uw' rfl (uw' rfl (Xa rfl (Kg22 _ (Ag.put ((Ag.put ((Ag.put ((Ag.put ((Ag.put (Ag.base rfl) rfl)) rfl)) rfl)) rfl)) rfl) (by rw [hb22]; rfl)))))))
  refine sbT hb22 (fa' fa28_3 rfl (ld' By13_b2 u23 rfl ?_))
  exact ln (A0_1.kp Ky13) u23 rfl rfl rfl rfl rfl rfl (Xa rfl (Xa rfl (Kg22 _ (Ag.put ((Ag.put ((Ag.put ((Ag.put ((Ag.put (Ag.base rfl) rfl)) rfl)) rfl)) rfl)) rfl) (by rw [hb22]; rfl))))
 exact Xa rfl (dn (re rfl func33 rfl (r_t rfl Xc) rfl ⟨_, rfl, rfl, z.ky Ky13⟩))
def spec_l18digits0.b1 (x12 : Int × (List Int)) (x27 : (List Int) × Int) : Option (((List Int) × Int) ⊕ (List Int)) :=
 (if (decide (x27.2 ≥ (0 : Int))) = true then (if 0 ≤ x27.2 ∧ x27.2 < ((x12.2 ++ [(IntKind.wrap .u8 (IntKind.wrap .i64 ((48 : Int) + x12.1)))]).length : Int) then (if x27.1.length + ([(at_ (x12.2 ++ [(IntKind.wrap .u8 (IntKind.wrap .i64 ((48 : Int) + x12.1)))]) x27.2)]).length ≤ Lim then (some (Sum.inl ((x27.1 ++ [(at_ (x12.2 ++ [(IntKind.wrap .u8 (IntKind.wrap .i64 ((48 : Int) + x12.1)))]) x27.2)]), (IntKind.wrap .i64 (x27.2 - (1 : Int)))))) else none) else none) else ((some x27.1).bind fun o => some (Sum.inr o)))
def spec_l18digits0.b0  (x12 : Int × (List Int)) : Option ((Int × (List Int)) ⊕ (List Int)) :=
 (if (decide (x12.1 > (9 : Int))) = true then (if x12.2.length + ([(IntKind.wrap .u8 (IntKind.wrap .i64 ((48 : Int) + (x12.1.tmod (10 : Int)))))]).length ≤ Lim then (some (Sum.inl ((IntKind.wrap .i64 (x12.1.tdiv (10 : Int))), (x12.2 ++ [(IntKind.wrap .u8 (IntKind.wrap .i64 ((48 : Int) + (x12.1.tmod (10 : Int)))))])))) else none) else ((if x12.2.length + ([(IntKind.wrap .u8 (IntKind.wrap .i64 ((48 : Int) + x12.1)))]).length ≤ Lim then (iter (spec_l18digits0.b1 x12) (([] : (List Int)), (IntKind.wrap .i64 (((x12.2 ++ [(IntKind.wrap .u8 (IntKind.wrap .i64 ((48 : Int) + x12.1)))]).length : Int) - (1 : Int))))) else none).bind fun o => some (Sum.inr o)))
def spec_l18digits0.f (a0 : Int) : Option ((List Int)) :=
 (if (a0 == (-9223372036854775808 : Int)) = true then (some ([(45 : Int), (57 : Int), (50 : Int), (50 : Int), (51 : Int), (51 : Int), (55 : Int), (50 : Int), (48 : Int), (51 : Int), (54 : Int), (56 : Int), (53 : Int), (52 : Int), (55 : Int), (55 : Int), (53 : Int), (56 : Int), (48 : Int), (56 : Int)])) else (if (decide (a0 < (0 : Int))) = true then none else (iter spec_l18digits0.b0 (a0, ([] : (List Int))))))
def spec_l18digits0.Q (w : World) (F : Nat → Prop) (r : (List Int)) (v : Value) (w' : World) : Prop :=
 FO Xg w w' [v] r ∧ Ky [] w w'
theorem spec_l18digits0.calls (a0 : Int) (w : World) (F : Nat → Prop)   (r : (List Int)) (m : spec_l18digits0.f a0 = some r) :
  Calls prog 34 #[(iI a0)] w (RT (spec_l18digits0.Q w F) r) := by
 obtain ⟨s0, rfl, kp0, z⟩ := start0 w F
 refine Xb (args := [(iI a0)]) func34 ntmps34 rfl rfl m ?_
 unfold spec_l18digits0.f
 refine sr (Xa rfl (dn (sq (sr (Xa rfl (Xa rfl (dn (cd rfl (fun h1 => ?_) (fun h1 => ?_)))))))))
 ·
  refine sr (ltF' (K := (Kd.int .u8)) (cells := [(.int .u8 (45 : Int)), (.int .u8 (57 : Int)), (.int .u8 (50 : Int)), (.int .u8 (50 : Int)), (.int .u8 (51 : Int)), (.int .u8 (51 : Int)), (.int .u8 (55 : Int)), (.int .u8 (50 : Int)), (.int .u8 (48 : Int)), (.int .u8 (51 : Int)), (.int .u8 (54 : Int)), (.int .u8 (56 : Int)), (.int .u8 (53 : Int)), (.int .u8 (52 : Int)), (.int .u8 (55 : Int)), (.int .u8 (55 : Int)), (.int .u8 (53 : Int)), (.int .u8 (56 : Int)), (.int .u8 (48 : Int)), (.int .u8 (56 : Int))]) [(45 : Int), (57 : Int), (50 : Int), (50 : Int), (51 : Int), (51 : Int), (55 : Int), (50 : Int), (48 : Int), (51 : Int), (54 : Int), (56 : Int), (53 : Int), (52 : Int), (55 : Int), (55 : Int), (53 : Int), (56 : Int), (48 : Int), (56 : Int)] 40 Xd u23 z5 o5 (fun w => (Xf _ _ _)) rfl (lfill_c rfl rfl rfl rfl rfl) (fun v2 s2 p2 A2 => ?_))
  refine cvm A2 rfl u23 u5 rfl rfl rfl rfl rfl rfl (fun s4 p4 A4 => ?_)
  refine asg' v2 rfl (dn ?_)
  have K6 := kp0.st (tr2 p2 p4) rfl
  exact re rfl func34 rfl (r_t rfl Xc) rfl ⟨_, rfl, A4.fo K6 rfl z.l, z.ky K6⟩
 refine sk (sq (sr (Xa rfl (Xa rfl (dn (cd rfl (fun h7 => ?_) (fun h7 => ?_)))))))
 ·
  refine sr (ltF' (K := (Kd.int .u8)) (cells := [(.int .u8 (45 : Int))]) [(45 : Int)] 41 Xd u23 z5 o5 (fun w => (Xf _ _ _)) rfl rfl (fun v8 s8 p8 A8 => ?_))
  refine cvm A8 rfl u23 u5 rfl rfl rfl rfl rfl rfl (fun s10 p10 A10 => ?_)
  exact Xa rfl (Xa rfl mn)
 refine sk (sr (Xa rfl (dn (sq (bl (lpI (fun (x12 : Int × (List Int)) e w => ∃ (s : St) (e0 : Env) (vx12_0 : Value), w = s.w ∧ e = upd (upd e0 0 (iI x12.1)) 3 vx12_0 ∧ Kp s0 s ∧ OwF Xg s [vx12_0] x12.2 42) ⟨s0, _, (.slice none 0 0), rfl, (ue (ue rfl rfl) rfl), kp0, (ow_nil 5 (Kd.int .u8) _ 42)⟩ (fun g12 ih12 => ?_)))))))
 rintro x12 _ _ ⟨s13, _, vx12_0, rfl, rfl, Kx12, Ax12_0⟩
 unfold spec_l18digits0.b0
 refine sq (sr (Xa rfl (Xa rfl (dn (cd rfl (fun h15 => ?_) (fun h15 => ?_))))))
 ·
  refine sk (bl (sr (mv' vx12_0 rfl (Xa rfl (remK rfl rfl rfl rfl rfl rfl rfl rfl (Xa rfl (cv u5 u3 rfl rfl rfl rfl rfl rfl (ltF' (K := (Kd.int .u8)) (cells := [(.int .u8 (IntKind.wrap .u8 (IntKind.wrap .i64 ((48 : Int) + (x12.1.tmod (10 : Int))))))]) [(IntKind.wrap .u8 (IntKind.wrap .i64 ((48 : Int) + (x12.1.tmod (10 : Int)))))] 43 Xd u23 z5 o5 (fun w => (Xf _ _ _)) rfl rfl (fun v16 s16 p16 A16 => ?_)))))))))
  refine apF Xd sl23 (Ax12_0.st p16 rfl) A16.rd rfl rfl rfl rfl rfl rfl rfl (fun v19 s19 p19 A19 => ?_)
  refine asg' v19 rfl (dn (rg (Xa rfl (quoK rfl rfl rfl rfl rfl rfl rfl rfl (Xa rfl (dn (ib ?_)))))))
  exact lb ih12 ⟨s19, _, v19, rfl, (ue (ue rfl rfl) rfl), (Kx12.st (tr2 p16 p19) rfl), A19⟩
 refine xt rfl (sgb (sr (mv' vx12_0 rfl (Xa rfl (Xa rfl (cv u5 u3 rfl rfl rfl rfl rfl rfl (ltF' (K := (Kd.int .u8)) (cells := [(.int .u8 (IntKind.wrap .u8 (IntKind.wrap .i64 ((48 : Int) + x12.1))))]) [(IntKind.wrap .u8 (IntKind.wrap .i64 ((48 : Int) + x12.1)))] 44 Xd u23 z5 o5 (fun w => (Xf _ _ _)) rfl rfl (fun v22 s22 p22 A22 => ?_))))))))
 refine apF Xd sl23 (Ax12_0.st p22 rfl) A22.rd rfl rfl rfl rfl rfl rfl rfl (fun v25 s25 p25 A25 => ?_)
 refine asg' v25 rfl (dn (sr (Xa rfl (dn (sq (sr (mv' v25 rfl (ln A25.rd u23 rfl rfl rfl rfl rfl rfl (Xa rfl (Xa rfl (dn (bl ?_))))))))))))
 refine lpI (fun (x27 : (List Int) × Int) e w => ∃ (s : St) (e0 : Env) (vx27_0 : Value), w = s.w ∧ e = upd (upd (upd e0 3 v25) 4 vx27_0) 5 (iI x27.2) ∧ Kp s0 s ∧ OwF Xg s [vx27_0] x27.1 45 ∧ OwF Xg s [v25] (x12.2 ++ [(IntKind.wrap .u8 (IntKind.wrap .i64 ((48 : Int) + x12.1)))]) 42) ⟨s25, _, (.slice none 0 0), rfl, (ue (ue (ue rfl rfl) rfl) rfl), (Kx12.st (tr2 p22 p25) rfl), (ow_nil 5 (Kd.int .u8) _ 45), A25⟩ (fun g27 ih27 => ?_)
 rintro x27 _ _ ⟨s29, _, vx27_0, rfl, rfl, Kx27, Ax27_0, Cx27_26⟩
 unfold spec_l18digits0.b1
 refine sq (sr (Xa rfl (Xa rfl (dn (cd rfl (fun h31 => ?_) (fun h31 => ?_))))))
 ·
  refine sk (sq (bl (rg (mv' vx27_0 rfl (mv' v25 rfl (Xa rfl (ix Cx27_26.rd u23 z5 rfl rfl rfl rfl rfl rfl rfl rfl (fun ad32 es32 h0_32 h1_32 he32 ce32 ia32 => ?_))))))))
  obtain rfl := he32
  refine lc0 ce32 u5 rfl rfl rfl rfl rfl rfl rfl rfl (ltF' (K := (Kd.int .u8)) (cells := [(.int .u8 (at_ (x12.2 ++ [(IntKind.wrap .u8 (IntKind.wrap .i64 ((48 : Int) + x12.1)))]) x27.2))]) [(at_ (x12.2 ++ [(IntKind.wrap .u8 (IntKind.wrap .i64 ((48 : Int) + x12.1)))]) x27.2)] 46 Xd u23 z5 o5 (fun w => (Xf _ _ _)) rfl rfl (fun v34 s34 p34 A34 => ?_))
  refine apF Xd sl23 (Ax27_0.st p34 rfl) A34.rd rfl rfl rfl rfl rfl rfl rfl (fun v37 s37 p37 A37 => ?_)
  refine asg' v37 rfl (dn (ib (rg (Xa rfl (Xa rfl (Xa rfl (dn ?_)))))))
  exact lb ih27 ⟨s37, _, v37, rfl, (ue (ue (ue rfl rfl) rfl) rfl), (Kx27.st (tr2 p34 p37) rfl), A37, (Cx27_26.st (tr2 p34 p37) rfl)⟩
 exact xt rfl (sgb (sr (mv' vx27_0 rfl (asg' vx27_0 rfl (dn (re rfl func34 rfl (r_t rfl Xc) rfl ⟨_, rfl, Ax27_0.fo Kx27 rfl z.l, z.ky Kx27⟩))))))
def spec_l18digits.b1 (x19 : Int × (List Int)) (x34 : (List Int) × Int) : Option (((List Int) × Int) ⊕ (List Int)) :=
 (if (decide (x34.2 ≥ (0 : Int))) = true then (if 0 ≤ x34.2 ∧ x34.2 < ((x19.2 ++ [(IntKind.wrap .u8 (IntKind.wrap .i64 ((48 : Int) + x19.1)))]).length : Int) then (if x34.1.length + ([(at_ (x19.2 ++ [(IntKind.wrap .u8 (IntKind.wrap .i64 ((48 : Int) + x19.1)))]) x34.2)]).length ≤ Lim then (some (Sum.inl ((x34.1 ++ [(at_ (x19.2 ++ [(IntKind.wrap .u8 (IntKind.wrap .i64 ((48 : Int) + x19.1)))]) x34.2)]), (IntKind.wrap .i64 (x34.2 - (1 : Int)))))) else none) else none) else ((some x34.1).bind fun o => some (Sum.inr o)))
def spec_l18digits.b0  (x19 : Int × (List Int)) : Option ((Int × (List Int)) ⊕ (List Int)) :=
 (if (decide (x19.1 > (9 : Int))) = true then (if x19.2.length + ([(IntKind.wrap .u8 (IntKind.wrap .i64 ((48 : Int) + (x19.1.tmod (10 : Int)))))]).length ≤ Lim then (some (Sum.inl ((IntKind.wrap .i64 (x19.1.tdiv (10 : Int))), (x19.2 ++ [(IntKind.wrap .u8 (IntKind.wrap .i64 ((48 : Int) + (x19.1.tmod (10 : Int)))))])))) else none) else ((if x19.2.length + ([(IntKind.wrap .u8 (IntKind.wrap .i64 ((48 : Int) + x19.1)))]).length ≤ Lim then (iter (spec_l18digits.b1 x19) (([] : (List Int)), (IntKind.wrap .i64 (((x19.2 ++ [(IntKind.wrap .u8 (IntKind.wrap .i64 ((48 : Int) + x19.1)))]).length : Int) - (1 : Int))))) else none).bind fun o => some (Sum.inr o)))
def spec_l18digits.f (a0 : Int) : Option ((List Int)) :=
 (if (a0 == (-9223372036854775808 : Int)) = true then (some ([(45 : Int), (57 : Int), (50 : Int), (50 : Int), (51 : Int), (51 : Int), (55 : Int), (50 : Int), (48 : Int), (51 : Int), (54 : Int), (56 : Int), (53 : Int), (52 : Int), (55 : Int), (55 : Int), (53 : Int), (56 : Int), (48 : Int), (56 : Int)])) else (if (decide (a0 < (0 : Int))) = true then ((spec_l18digits0.f (IntKind.wrap .i64 (0 - a0))).bind fun r12 => (if ([(45 : Int)]).length + r12.length ≤ Lim then (some ([(45 : Int)] ++ r12)) else none)) else (iter spec_l18digits.b0 (a0, ([] : (List Int))))))
def spec_l18digits.Q (w : World) (F : Nat → Prop) (r : (List Int)) (v : Value) (w' : World) : Prop :=
 FO Xg w w' [v] r ∧ Ky [] w w'
theorem spec_l18digits.calls (a0 : Int) (w : World) (F : Nat → Prop)   (r : (List Int)) (m : spec_l18digits.f a0 = some r) :
  Calls prog 34 #[(iI a0)] w (RT (spec_l18digits.Q w F) r) := by
 obtain ⟨s0, rfl, kp0, z⟩ := start0 w F
 refine Xb (args := [(iI a0)]) func34 ntmps34 rfl rfl m ?_
 unfold spec_l18digits.f
 refine sr (Xa rfl (dn (sq (sr (Xa rfl (Xa rfl (dn (cd rfl (fun h1 => ?_) (fun h1 => ?_)))))))))
 ·
  refine sr (ltF' (K := (Kd.int .u8)) (cells := [(.int .u8 (45 : Int)), (.int .u8 (57 : Int)), (.int .u8 (50 : Int)), (.int .u8 (50 : Int)), (.int .u8 (51 : Int)), (.int .u8 (51 : Int)), (.int .u8 (55 : Int)), (.int .u8 (50 : Int)), (.int .u8 (48 : Int)), (.int .u8 (51 : Int)), (.int .u8 (54 : Int)), (.int .u8 (56 : Int)), (.int .u8 (53 : Int)), (.int .u8 (52 : Int)), (.int .u8 (55 : Int)), (.int .u8 (55 : Int)), (.int .u8 (53 : Int)), (.int .u8 (56 : Int)), (.int .u8 (48 : Int)), (.int .u8 (56 : Int))]) [(45 : Int), (57 : Int), (50 : Int), (50 : Int), (51 : Int), (51 : Int), (55 : Int), (50 : Int), (48 : Int), (51 : Int), (54 : Int), (56 : Int), (53 : Int), (52 : Int), (55 : Int), (55 : Int), (53 : Int), (56 : Int), (48 : Int), (56 : Int)] 40 Xd u23 z5 o5 (fun w => (Xf _ _ _)) rfl (lfill_c rfl rfl rfl rfl rfl) (fun v2 s2 p2 A2 => ?_))
  refine cvm A2 rfl u23 u5 rfl rfl rfl rfl rfl rfl (fun s4 p4 A4 => ?_)
  refine asg' v2 rfl (dn ?_)
  have K6 := kp0.st (tr2 p2 p4) rfl
  exact re rfl func34 rfl (r_t rfl Xc) rfl ⟨_, rfl, A4.fo K6 rfl z.l, z.ky K6⟩
 refine sk (sq (sr (Xa rfl (Xa rfl (dn (cd rfl (fun h7 => ?_) (fun h7 => ?_)))))))
 ·
  refine sr (ltF' (K := (Kd.int .u8)) (cells := [(.int .u8 (45 : Int))]) [(45 : Int)] 41 Xd u23 z5 o5 (fun w => (Xf _ _ _)) rfl rfl (fun v8 s8 p8 A8 => ?_))
  refine cvm A8 rfl u23 u5 rfl rfl rfl rfl rfl rfl (fun s10 p10 A10 => ?_)
  refine Xa rfl (Xa rfl (clO 42 rfl func34 rfl (spec_l18digits0.calls (IntKind.wrap .i64 (0 - a0)) s10.w (mm [] s10)) (fun r12 v12_0 s13 p13 A12_0 => ?_)))
  refine apF Xd sl23 (A10.st p13 rfl) A12_0.rd rfl rfl rfl rfl rfl rfl rfl (fun v16 s16 p16 A16 => ?_)
  refine asg' v16 rfl (dn ?_)
  have K18 := kp0.st (tr4 p8 p10 p13 p16) rfl
  exact re rfl func34 rfl (r_t rfl Xc) rfl ⟨_, rfl, A16.fo K18 rfl z.l, z.ky K18⟩
 refine sk (sr (Xa rfl (dn (sq (bl (lpI (fun (x19 : Int × (List Int)) e w => ∃ (s : St) (e0 : Env) (vx19_0 : Value), w = s.w ∧ e = upd (upd e0 0 (iI x19.1)) 3 vx19_0 ∧ Kp s0 s ∧ OwF Xg s [vx19_0] x19.2 43) ⟨s0, _, (.slice none 0 0), rfl, (ue (ue rfl rfl) rfl), kp0, (ow_nil 5 (Kd.int .u8) _ 43)⟩ (fun g19 ih19 => ?_)))))))
 rintro x19 _ _ ⟨s20, _, vx19_0, rfl, rfl, Kx19, Ax19_0⟩
 unfold spec_l18digits.b0
 refine sq (sr (Xa rfl (Xa rfl (dn (cd rfl (fun h22 => ?_) (fun h22 => ?_))))))
 ·
  refine sk (bl (sr (mv' vx19_0 rfl (Xa rfl (remK rfl rfl rfl rfl rfl rfl rfl rfl (Xa rfl (cv u5 u3 rfl rfl rfl rfl rfl rfl (ltF' (K := (Kd.int .u8)) (cells := [(.int .u8 (IntKind.wrap .u8 (IntKind.wrap .i64 ((48 : Int) + (x19.1.tmod (10 : Int))))))]) [(IntKind.wrap .u8 (IntKind.wrap .i64 ((48 : Int) + (x19.1.tmod (10 : Int)))))] 44 Xd u23 z5 o5 (fun w => (Xf _ _ _)) rfl rfl (fun v23 s23 p23 A23 => ?_)))))))))
  refine apF Xd sl23 (Ax19_0.st p23 rfl) A23.rd rfl rfl rfl rfl rfl rfl rfl (fun v26 s26 p26 A26 => ?_)
  refine asg' v26 rfl (dn (rg (Xa rfl (quoK rfl rfl rfl rfl rfl rfl rfl rfl (Xa rfl (dn (ib ?_)))))))
  exact lb ih19 ⟨s26, _, v26, rfl, (ue (ue rfl rfl) rfl), (Kx19.st (tr2 p23 p26) rfl), A26⟩
 refine xt rfl (sgb (sr (mv' vx19_0 rfl (Xa rfl (Xa rfl (cv u5 u3 rfl rfl rfl rfl rfl rfl (ltF' (K := (Kd.int .u8)) (cells := [(.int .u8 (IntKind.wrap .u8 (IntKind.wrap .i64 ((48 : Int) + x19.1))))]) [(IntKind.wrap .u8 (IntKind.wrap .i64 ((48 : Int) + x19.1)))] 45 Xd u23 z5 o5 (fun w => (Xf _ _ _)) rfl rfl (fun v29 s29 p29 A29 => ?_))))))))
 refine apF Xd sl23 (Ax19_0.st p29 rfl) A29.rd rfl rfl rfl rfl rfl rfl rfl (fun v32 s32 p32 A32 => ?_)
 refine asg' v32 rfl (dn (sr (Xa rfl (dn (sq (sr (mv' v32 rfl (ln A32.rd u23 rfl rfl rfl rfl rfl rfl (Xa rfl (Xa rfl (dn (bl ?_))))))))))))
 refine lpI (fun (x34 : (List Int) × Int) e w => ∃ (s : St) (e0 : Env) (vx34_0 : Value), w = s.w ∧ e = upd (upd (upd e0 3 v32) 4 vx34_0) 5 (iI x34.2) ∧ Kp s0 s ∧ OwF Xg s [vx34_0] x34.1 46 ∧ OwF Xg s [v32] (x19.2 ++ [(IntKind.wrap .u8 (IntKind.wrap .i64 ((48 : Int) + x19.1)))]) 43) ⟨s32, _, (.slice none 0 0), rfl, (ue (ue (ue rfl rfl) rfl) rfl), (Kx19.st (tr2 p29 p32) rfl), (ow_nil 5 (Kd.int .u8) _ 46), A32⟩ (fun g34 ih34 => ?_)
 rintro x34 _ _ ⟨s36, _, vx34_0, rfl, rfl, Kx34, Ax34_0, Cx34_33⟩
 unfold spec_l18digits.b1
 refine sq (sr (Xa rfl (Xa rfl (dn (cd rfl (fun h38 => ?_) (fun h38 => ?_))))))
 ·
  refine sk (sq (bl (rg (mv' vx34_0 rfl (mv' v32 rfl (Xa rfl (ix Cx34_33.rd u23 z5 rfl rfl rfl rfl rfl rfl rfl rfl (fun ad39 es39 h0_39 h1_39 he39 ce39 ia39 => ?_))))))))
  obtain rfl := he39
  refine lc0 ce39 u5 rfl rfl rfl rfl rfl rfl rfl rfl (ltF' (K := (Kd.int .u8)) (cells := [(.int .u8 (at_ (x19.2 ++ [(IntKind.wrap .u8 (IntKind.wrap .i64 ((48 : Int) + x19.1)))]) x34.2))]) [(at_ (x19.2 ++ [(IntKind.wrap .u8 (IntKind.wrap .i64 ((48 : Int) + x19.1)))]) x34.2)] 47 Xd u23 z5 o5 (fun w => (Xf _ _ _)) rfl rfl (fun v41 s41 p41 A41 => ?_))
  refine apF Xd sl23 (Ax34_0.st p41 rfl) A41.rd rfl rfl rfl rfl rfl rfl rfl (fun v44 s44 p44 A44 => ?_)
  refine asg' v44 rfl (dn (ib (rg (Xa rfl (Xa rfl (Xa rfl (dn ?_)))))))
  exact lb ih34 ⟨s44, _, v44, rfl, (ue (ue (ue rfl rfl) rfl) rfl), (Kx34.st (tr2 p41 p44) rfl), A44, (Cx34_33.st (tr2 p41 p44) rfl)⟩
 exact xt rfl (sgb (sr (mv' vx34_0 rfl (asg' vx34_0 rfl (dn (re rfl func34 rfl (r_t rfl Xc) rfl ⟨_, rfl, Ax34_0.fo Kx34 rfl z.l, z.ky Kx34⟩))))))
def spec_l3high.b0 (a0 : Int) (x1 : (List Int) × Int) : Option (((List Int) × Int) ⊕ (List Int)) :=
 (if (decide (x1.2 ≥ (0 : Int))) = true then (if 0 ≤ (IntKind.wrap .u64 (IntKind.wrap .i64 ((8 : Int) * x1.2))) then (if x1.1.length + ([(IntKind.wrap .u8 (iand .u64 (ishr .u64 a0 (IntKind.wrap .u64 (IntKind.wrap .i64 ((8 : Int) * x1.2)))) (255 : Int)))]).length ≤ Lim then (some (Sum.inl ((x1.1 ++ [(IntKind.wrap .u8 (iand .u64 (ishr .u64 a0 (IntKind.wrap .u64 (IntKind.wrap .i64 ((8 : Int) * x1.2)))) (255 : Int)))]), (IntKind.wrap .i64 (x1.2 - (1 : Int)))))) else none) else none) else ((some x1.1).bind fun o => some (Sum.inr o)))
def spec_l3high.f (a0 : Int) : Option ((List Int)) :=
 (iter (spec_l3high.b0 a0) (([] : (List Int)), (7 : Int)))
def spec_l3high.Q (w : World) (F : Nat → Prop) (r : (List Int)) (v : Value) (w' : World) : Prop :=
 FO Xg w w' [v] r ∧ Ky [] w w'
theorem spec_l3high.calls (a0 : Int) (w : World) (F : Nat → Prop)   (r : (List Int)) (m : spec_l3high.f a0 = some r) :
  Calls prog 36 #[(.int .u64 a0)] w (RT (spec_l3high.Q w F) r) := by
 obtain ⟨s0, rfl, kp0, z⟩ := start0 w F
 refine Xb (args := [(.int .u64 a0)]) func36 ntmps36 rfl rfl m ?_
 unfold spec_l3high.f
 refine sr (Xa rfl (dn (sr (Xa rfl (dn (sq (sr (Xa rfl (dn (bl (lpI (fun (x1 : (List Int) × Int) e w => ∃ (s : St) (e0 : Env) (vx1_0 : Value), w = s.w ∧ e = upd (upd (upd e0 0 (.int .u64 a0)) 3 vx1_0) 4 (iI x1.2) ∧ Kp s0 s ∧ OwF Xg s [vx1_0] x1.1 40) ⟨s0, _, (.slice none 0 0), rfl, (ue (ue (ue rfl rfl) rfl) rfl), kp0, (ow_nil 5 (Kd.int .u8) _ 40)⟩ (fun g1 ih1 => ?_))))))))))))
 rintro x1 _ _ ⟨s2, _, vx1_0, rfl, rfl, Kx1, Ax1_0⟩
 unfold spec_l3high.b0
 refine sq (sr (Xa rfl (Xa rfl (dn (cd rfl (fun h4 => ?_) (fun h4 => ?_))))))
 ·
  refine sk (sq (bl (rg (mv' vx1_0 rfl (Xa rfl (Xa rfl (Xa rfl (cv u92 u3 rfl rfl rfl rfl rfl rfl (shr_ rfl rfl rfl rfl rfl rfl rfl (Xa rfl (cv u5 u65 rfl rfl rfl rfl rfl rfl (ltF' (K := (Kd.int .u8)) (cells := [(.int .u8 (IntKind.wrap .u8 (iand .u64 (ishr .u64 a0 (IntKind.wrap .u64 (IntKind.wrap .i64 ((8 : Int) * x1.2)))) (255 : Int))))]) [(IntKind.wrap .u8 (iand .u64 (ishr .u64 a0 (IntKind.wrap .u64 (IntKind.wrap .i64 ((8 : Int) * x1.2)))) (255 : Int)))] 41 Xd u23 z5 o5 (fun w => (Xf _ _ _)) rfl rfl (fun v5 s5 p5 A5 => ?_)))))))))))))
  refine apF Xd sl23 (Ax1_0.st p5 rfl) A5.rd rfl rfl rfl rfl rfl rfl rfl (fun v8 s8 p8 A8 => ?_)
  refine asg' v8 rfl (dn (ib (rg (Xa rfl (Xa rfl (Xa rfl (dn ?_)))))))
  exact lb ih1 ⟨s8, _, v8, rfl, (ue (ue (ue rfl rfl) rfl) rfl), (Kx1.st (tr2 p5 p8) rfl), A8⟩
 exact xt rfl (sgb (sr (mv' vx1_0 rfl (asg' vx1_0 rfl (dn (re rfl func36 rfl (r_t rfl Xc) rfl ⟨_, rfl, Ax1_0.fo Kx1 rfl z.l, z.ky Kx1⟩))))))
def spec_l18hex.b0 (a0 : (List Int)) (x6 : (List Int) × Int) : Option (((List Int) × Int) ⊕ (List Int)) :=
 (if (decide (x6.2 < (a0.length : Int))) = true then (if 0 ≤ x6.2 ∧ x6.2 < (a0.length : Int) then (if 0 ≤ (IntKind.wrap .u8 ((at_ a0 x6.2).tdiv (16 : Int))) ∧ (IntKind.wrap .u8 ((at_ a0 x6.2).tdiv (16 : Int))) < (([(48 : Int), (49 : Int), (50 : Int), (51 : Int), (52 : Int), (53 : Int), (54 : Int), (55 : Int), (56 : Int), (57 : Int), (97 : Int), (98 : Int), (99 : Int), (100 : Int), (101 : Int), (102 : Int)]).length : Int) then (if x6.1.length + ([(at_ ([(48 : Int), (49 : Int), (50 : Int), (51 : Int), (52 : Int), (53 : Int), (54 : Int), (55 : Int), (56 : Int), (57 : Int), (97 : Int), (98 : Int), (99 : Int), (100 : Int), (101 : Int), (102 : Int)]) (IntKind.wrap .u8 ((at_ a0 x6.2).tdiv (16 : Int))))]).length ≤ Lim then (if 0 ≤ x6.2 ∧ x6.2 < (a0.length : Int) then (if 0 ≤ ((at_ a0 x6.2).tmod (16 : Int)) ∧ ((at_ a0 x6.2).tmod (16 : Int)) < (([(48 : Int), (49 : Int), (50 : Int), (51 : Int), (52 : Int), (53 : Int), (54 : Int), (55 : Int), (56 : Int), (57 : Int), (97 : Int), (98 : Int), (99 : Int), (100 : Int), (101 : Int), (102 : Int)]).length : Int) then (if (x6.1 ++ [(at_ ([(48 : Int), (49 : Int), (50 : Int), (51 : Int), (52 : Int), (53 : Int), (54 : Int), (55 : Int), (56 : Int), (57 : Int), (97 : Int), (98 : Int), (99 : Int), (100 : Int), (101 : Int), (102 : Int)]) (IntKind.wrap .u8 ((at_ a0 x6.2).tdiv (16 : Int))))]).length + ([(at_ ([(48 : Int), (49 : Int), (50 : Int), (51 : Int), (52 : Int), (53 : Int), (54 : Int), (55 : Int), (56 : Int), (57 : Int), (97 : Int), (98 : Int), (99 : Int), (100 : Int), (101 : Int), (102 : Int)]) ((at_ a0 x6.2).tmod (16 : Int)))]).length ≤ Lim then (some (Sum.inl (((x6.1 ++ [(at_ ([(48 : Int), (49 : Int), (50 : Int), (51 : Int), (52 : Int), (53 : Int), (54 : Int), (55 : Int), (56 : Int), (57 : Int), (97 : Int), (98 : Int), (99 : Int), (100 : Int), (101 : Int), (102 : Int)]) (IntKind.wrap .u8 ((at_ a0 x6.2).tdiv (16 : Int))))]) ++ [(at_ ([(48 : Int), (49 : Int), (50 : Int), (51 : Int), (52 : Int), (53 : Int), (54 : Int), (55 : Int), (56 : Int), (57 : Int), (97 : Int), (98 : Int), (99 : Int), (100 : Int), (101 : Int), (102 : Int)]) ((at_ a0 x6.2).tmod (16 : Int)))]), (IntKind.wrap .i64 (x6.2 + (1 : Int)))))) else none) else none) else none) else none) else none) else none) else ((some x6.1).bind fun o => some (Sum.inr o)))
def spec_l18hex.f (a0 : (List Int)) : Option ((List Int)) :=
 (iter (spec_l18hex.b0 a0) (([] : (List Int)), (0 : Int)))
def spec_l18hex.Q (w : World) (F : Nat → Prop) (r : (List Int)) (v : Value) (w' : World) : Prop :=
 FO Xg w w' [v] r ∧ Ky [] w w'
theorem spec_l18hex.calls (a0 : (List Int)) (w : World) (F : Nat → Prop) (w0_0 : Value) (h0_0 : Xg.rd w [w0_0] a0 F) (r : (List Int)) (m : spec_l18hex.f a0 = some r) :
  Calls prog 35 #[w0_0] w (RT (spec_l18hex.Q w F) r) := by
 obtain ⟨s0, rfl, kp0, z⟩ := start0 w F
 have A0_0 := z.rd h0_0
 refine Xb (args := [w0_0]) func35 ntmps35 rfl rfl m ?_
 unfold spec_l18hex.f
 refine sr (Xa rfl (dn (sr (Xa rfl (dn (sr (ltF' (K := (Kd.int .u8)) (cells := [(.int .u8 (48 : Int)), (.int .u8 (49 : Int)), (.int .u8 (50 : Int)), (.int .u8 (51 : Int)), (.int .u8 (52 : Int)), (.int .u8 (53 : Int)), (.int .u8 (54 : Int)), (.int .u8 (55 : Int)), (.int .u8 (56 : Int)), (.int .u8 (57 : Int)), (.int .u8 (97 : Int)), (.int .u8 (98 : Int)), (.int .u8 (99 : Int)), (.int .u8 (100 : Int)), (.int .u8 (101 : Int)), (.int .u8 (102 : Int))]) [(48 : Int), (49 : Int), (50 : Int), (51 : Int), (52 : Int), (53 : Int), (54 : Int), (55 : Int), (56 : Int), (57 : Int), (97 : Int), (98 : Int), (99 : Int), (100 : Int), (101 : Int), (102 : Int)] 40 Xd u23 z5 o5 (fun w => (Xf _ _ _)) rfl (lfill_c rfl rfl rfl rfl rfl) (fun v2 s2 p2 A2 => ?_))))))))
 refine cvm A2 rfl u23 u5 rfl rfl rfl rfl rfl rfl (fun s4 p4 A4 => ?_)
 refine asg' v2 rfl (dn (sq (sr (Xa rfl (dn (bl ?_))))))
 refine lpI (fun (x6 : (List Int) × Int) e w => ∃ (s : St) (e0 : Env) (vx6_0 : Value), w = s.w ∧ e = upd (upd (upd (upd e0 0 w0_0) 3 vx6_0) 4 v2) 5 (iI x6.2) ∧ Kp s0 s ∧ OwF Xg s [vx6_0] x6.1 41 ∧ OwF Xg s [v2] ([(48 : Int), (49 : Int), (50 : Int), (51 : Int), (52 : Int), (53 : Int), (54 : Int), (55 : Int), (56 : Int), (57 : Int), (97 : Int), (98 : Int), (99 : Int), (100 : Int), (101 : Int), (102 : Int)]) 40) ⟨s4, _, (.slice none 0 0), rfl, (ue (ue (ue (ue rfl rfl) rfl) rfl) rfl), (kp0.st (tr2 p2 p4) rfl), (ow_nil 5 (Kd.int .u8) _ 41), A4⟩ (fun g6 ih6 => ?_)
 rintro x6 _ _ ⟨s8, _, vx6_0, rfl, rfl, Kx6, Ax6_0, Cx6_5⟩
 unfold spec_l18hex.b0
 refine sq (sr (Xa rfl (mv' w0_0 rfl ?_)))
 have A10 := A0_0.kp Kx6
 refine ln A10 u23 rfl rfl rfl rfl rfl rfl (Xa rfl (dn (cd rfl (fun h11 => ?_) (fun h11 => ?_))))
 ·
  refine sk (sq (bl (sr (mv' vx6_0 rfl (mv' v2 rfl (mv' w0_0 rfl (Xa rfl (ix A10 u23 z5 rfl rfl rfl rfl rfl rfl rfl rfl (fun ad12 es12 h0_12 h1_12 he12 ce12 ia12 => ?_)))))))))
  obtain rfl := he12
  refine lc0 ce12 u5 rfl rfl rfl rfl rfl rfl rfl rfl (quoK rfl rfl rfl rfl rfl rfl rfl rfl (ix Cx6_5.rd u23 z5 rfl rfl rfl rfl rfl rfl rfl rfl (fun ad14 es14 h0_14 h1_14 he14 ce14 ia14 => ?_)))
  obtain rfl := he14
  refine lc0 ce14 u5 rfl rfl rfl rfl rfl rfl rfl rfl (ltF' (K := (Kd.int .u8)) (cells := [(.int .u8 (at_ ([(48 : Int), (49 : Int), (50 : Int), (51 : Int), (52 : Int), (53 : Int), (54 : Int), (55 : Int), (56 : Int), (57 : Int), (97 : Int), (98 : Int), (99 : Int), (100 : Int), (101 : Int), (102 : Int)]) (IntKind.wrap .u8 ((at_ a0 x6.2).tdiv (16 : Int)))))]) [(at_ ([(48 : Int), (49 : Int), (50 : Int), (51 : Int), (52 : Int), (53 : Int), (54 : Int), (55 : Int), (56 : Int), (57 : Int), (97 : Int), (98 : Int), (99 : Int), (100 : Int), (101 : Int), (102 : Int)]) (IntKind.wrap .u8 ((at_ a0 x6.2).tdiv (16 : Int))))] 42 Xd u23 z5 o5 (fun w => (Xf _ _ _)) rfl rfl (fun v16 s16 p16 A16 => ?_))
  refine apF Xd sl23 (Ax6_0.st p16 rfl) A16.rd rfl rfl rfl rfl rfl rfl rfl (fun v19 s19 p19 A19 => ?_)
  refine asg' v19 rfl (dn (rg (mv' v19 rfl (mv' v2 rfl (mv' w0_0 rfl (Xa rfl ?_))))))
  have K21 := Kx6.st (tr2 p16 p19) rfl
  refine ix (A0_0.kp K21) u23 z5 rfl rfl rfl rfl rfl rfl rfl rfl (fun ad23 es23 h0_23 h1_23 he23 ce23 ia23 => ?_)
  obtain rfl := he23
  refine lc0 ce23 u5 rfl rfl rfl rfl rfl rfl rfl rfl (remK rfl rfl rfl rfl rfl rfl rfl rfl ?_)
  have A25 := Cx6_5.st (tr2 p16 p19) rfl
  refine ix A25.rd u23 z5 rfl rfl rfl rfl rfl rfl rfl rfl (fun ad26 es26 h0_26 h1_26 he26 ce26 ia26 => ?_)
  obtain rfl := he26
  refine lc0 ce26 u5 rfl rfl rfl rfl rfl rfl rfl rfl (ltF' (K := (Kd.int .u8)) (cells := [(.int .u8 (at_ ([(48 : Int), (49 : Int), (50 : Int), (51 : Int), (52 : Int), (53 : Int), (54 : Int), (55 : Int), (56 : Int), (57 : Int), (97 : Int), (98 : Int), (99 : Int), (100 : Int), (101 : Int), (102 : Int)]) ((at_ a0 x6.2).tmod (16 : Int))))]) [(at_ ([(48 : Int), (49 : Int), (50 : Int), (51 : Int), (52 : Int), (53 : Int), (54 : Int), (55 : Int), (56 : Int), (57 : Int), (97 : Int), (98 : Int), (99 : Int), (100 : Int), (101 : Int), (102 : Int)]) ((at_ a0 x6.2).tmod (16 : Int)))] 43 Xd u23 z5 o5 (fun w => (Xf _ _ _)) rfl rfl (fun v28 s28 p28 A28 => ?_))
  refine apF Xd sl23 (A19.st p28 rfl) A28.rd rfl rfl rfl rfl rfl rfl rfl (fun v31 s31 p31 A31 => ?_)
  refine asg' v31 rfl (dn (ib (rg (Xa rfl (Xa rfl (Xa rfl (dn ?_)))))))
  exact lb ih6 ⟨s31, _, v31, rfl, (ue (ue (ue (ue rfl rfl) rfl) rfl) rfl), (K21.st (tr2 p28 p31) rfl), A31, (A25.st (tr2 p28 p31) rfl)⟩
 exact xt rfl (sgb (sr (mv' vx6_0 rfl (asg' vx6_0 rfl (dn (re rfl func35 rfl (r_t rfl Xc) rfl ⟨_, rfl, Ax6_0.fo Kx6 rfl z.l, z.ky Kx6⟩))))))
def spec_ItemText.f (a0 : Item) : Option ((List Int)) :=
 ((spec_ItemOk.f a0).bind fun r6 => (if (!r6) = true then (some ([] : (List Int))) else (if (a0.Kind == (1 : Int)) = true then ((spec_l18digits.f a0.N).bind fun r17 => (if ([(105 : Int)]).length + r17.length ≤ Lim then (some ([(105 : Int)] ++ r17)) else none)) else (if (a0.Kind == (2 : Int)) = true then ((spec_FloatBits.f a0.F).bind fun r30 => ((spec_l3high.f r30).bind fun r32 => ((spec_l18hex.f r32).bind fun r35 => (if ([(102 : Int)]).length + r35.length ≤ Lim then (some ([(102 : Int)] ++ r35)) else none)))) else (if (a0.Kind == (3 : Int)) = true then ((spec_l18hex.f a0.T).bind fun r50 => (if ([(116 : Int)]).length + r50.length ≤ Lim then (some ([(116 : Int)] ++ r50)) else none)) else (some ([(45 : Int)])))))))
def spec_ItemText.Q (w : World) (F : Nat → Prop) (r : (List Int)) (v : Value) (w' : World) : Prop :=
 FO Xg w w' [v] r ∧ Ky [] w w'
theorem spec_ItemText.calls (a0 : Item) (w : World) (F : Nat → Prop) (w0_0 : Value) (w0_1 : Value) (h0_0 : Kd.flt.rd w [w0_0] a0.F F) (h0_1 : Xg.rd w [w0_1] a0.T F) (r : (List Int)) (m : spec_ItemText.f a0 = some r) :
  Calls prog 8 #[(.agg #[(iI a0.Kind), (iI a0.N), w0_0, w0_1])] w (RT (spec_ItemText.Q w F) r) := by
 obtain ⟨s0, rfl, kp0, z⟩ := start0 w F
 have A0_0 := fl_of h0_0
 have A0_1 := z.rd h0_1
 refine Xb (args := [(.agg #[(iI a0.Kind), (iI a0.N), w0_0, w0_1])]) func8 ntmps8 rfl rfl m ?_
 unfold spec_ItemText.f
 refine sr (bx (cs := [(iI a0.Kind), (iI a0.N), w0_0, w0_1]) 40 rfl rfl rfl rfl rfl rfl (fun b2 s2 p2 B2 => ?_))
 refine Xa rfl (dn (sq (sr (lda (es := [(iI a0.Kind), (iI a0.N), w0_0, w0_1]) B2 u28 z28 rfl rfl rfl rfl rfl rfl rfl rfl ?_))))
 have K4 := kp0.st p2 rfl
 refine clV 41 rfl func33 rfl (spec_ItemOk.calls a0 s2.w (mm [0] s2) w0_0 w0_1 ((fl_rdf (s := s2) A0_0).sub (D := [0]) rfl) (A0_1.kp K4)) (fun r6 s7 p7 n7 => ?_)
 refine Xa rfl (dn (cd rfl (fun h8 => ?_) (fun h8 => ?_)))
 ·
  refine sr (Xa rfl (dn ?_))
  have K9 := K4.st p7 rfl
  exact re rfl func8 rfl (r_t rfl Xc) rfl ⟨_, rfl, (ow_nil 5 (Kd.int .u8) s7 40).fo K9 rfl z.l, z.ky K9⟩
 refine sk (sq (sr (fa' fa28_0 rfl ?_)))
 have A10 := B2.st p7 rfl
 refine ld' A10 u3 rfl (dn (bl (sr (Xa rfl (Xa rfl (dn (cd rfl (fun h11 => ?_) (fun h11 => ?_))))))))
 ·
  refine sr (ltF' (K := (Kd.int .u8)) (cells := [(.int .u8 (105 : Int))]) [(105 : Int)] 42 Xd u23 z5 o5 (fun w => (Xf _ _ _)) rfl rfl (fun v12 s12 p12 A12 => ?_))
  refine cvm A12 rfl u23 u5 rfl rfl rfl rfl rfl rfl (fun s14 p14 A14 => ?_)
  refine fa' fa28_1 rfl (ld' (A10.st (tr2 p12 p14) rfl) u3 rfl (clO 43 rfl func34 rfl (spec_l18digits.calls a0.N s14.w (mm [] s14)) (fun r17 v17_0 s18 p18 A17_0 => ?_)))
  refine apF Xd sl23 (A14.st p18 rfl) A17_0.rd rfl rfl rfl rfl rfl rfl rfl (fun v21 s21 p21 A21 => ?_)
  refine asg' v21 rfl (dn ?_)
  have K23 := K4.st (tr5 p7 p12 p14 p18 p21) rfl
  exact re rfl func8 rfl (r_t rfl Xc) rfl ⟨_, rfl, A21.fo K23 rfl z.l, z.ky K23⟩
 refine sr (Xa rfl (Xa rfl (dn (cd rfl (fun h24 => ?_) (fun h24 => ?_)))))
 ·
  refine sr (ltF' (K := (Kd.int .u8)) (cells := [(.int .u8 (102 : Int))]) [(102 : Int)] 44 Xd u23 z5 o5 (fun w => (Xf _ _ _)) rfl rfl (fun v25 s25 p25 A25 => ?_))
  refine cvm A25 rfl u23 u5 rfl rfl rfl rfl rfl rfl (fun s27 p27 A27 => ?_)
  refine fa' fa28_2 rfl (ld' (A10.st (tr2 p25 p27) rfl) u22 rfl (clV 45 rfl func37 rfl (spec_FloatBits.calls a0.F s27.w (mm [] s27) w0_0 (fl_rdf (s := s27) A0_0)) (fun r30 s31 p31 n31 => ?_)))
  refine clO 46 rfl func36 rfl (spec_l3high.calls r30 s31.w (mm [] s31)) (fun r32 v32_0 s33 p33 A32_0 => ?_)
  refine clO 47 rfl func35 rfl (spec_l18hex.calls r32 s33.w (mm [46] s33) v32_0 A32_0.rd) (fun r35 v35_0 s36 p36 A35_0 => ?_)
  refine apF Xd sl23 (A27.st (tr3 p31 p33 p36) rfl) A35_0.rd rfl rfl rfl rfl rfl rfl rfl (fun v39 s39 p39 A39 => ?_)
  refine asg' v39 rfl (dn ?_)
  have K41 := K4.st (tr7 p7 p25 p27 p31 p33 p36 p39) rfl
  exact re rfl func8 rfl (r_t rfl Xc) rfl ⟨_, rfl, A39.fo K41 rfl z.l, z.ky K41⟩
 refine sr (Xa rfl (Xa rfl (dn (cd rfl (fun h42 => ?_) (fun h42 => ?_)))))
 ·
  refine sr (ltF' (K := (Kd.int .u8)) (cells := [(.int .u8 (116 : Int))]) [(116 : Int)] 48 Xd u23 z5 o5 (fun w => (Xf _ _ _)) rfl rfl (fun v43 s43 p43 A43 => ?_))
  refine cvm A43 rfl u23 u5 rfl rfl rfl rfl rfl rfl (fun s45 p45 A45 => ?_)
  refine fa' fa28_3 rfl (ld' (A10.st (tr2 p43 p45) rfl) u23 rfl ?_)
  have K48 := K4.st (tr3 p7 p43 p45) rfl
  refine clO 49 rfl func35 rfl (spec_l18hex.calls a0.T s45.w (mm [0] s45) w0_1 (A0_1.kp K48)) (fun r50 v50_0 s51 p51 A50_0 => ?_)
  refine apF Xd sl23 (A45.st p51 rfl) A50_0.rd rfl rfl rfl rfl rfl rfl rfl (fun v54 s54 p54 A54 => ?_)
  refine asg' v54 rfl (dn ?_)
  have K56 := K48.st (tr2 p51 p54) rfl
  exact re rfl func8 rfl (r_t rfl Xc) rfl ⟨_, rfl, A54.fo K56 rfl z.l, z.ky K56⟩
 refine sk (ib (sr (ltF' (K := (Kd.int .u8)) (cells := [(.int .u8 (45 : Int))]) [(45 : Int)] 50 Xd u23 z5 o5 (fun w => (Xf _ _ _)) rfl rfl (fun v57 s57 p57 A57 => ?_))))
 refine cvm A57 rfl u23 u5 rfl rfl rfl rfl rfl rfl (fun s59 p59 A59 => ?_)
 refine asg' v57 rfl (dn ?_)
 have K61 := K4.st (tr3 p7 p57 p59) rfl
 exact re rfl func8 rfl (r_t rfl Xc) rfl ⟨_, rfl, A59.fo K61 rfl z.l, z.ky K61⟩
def impl_within.f (a0 : Int) (a1 : Int) (a2 : Int) : Option (Bool) :=
 (some ((decide (a1 ≤ a0)) && (decide (a0 ≤ a2))))
def impl_within.Q (w : World) (F : Nat → Prop) (r : Bool) (v : Value) (w' : World) : Prop :=
 v = (.bool r) ∧ Ky [] w w'
theorem impl_within.calls (a0 : Int) (a1 : Int) (a2 : Int) (w : World) (F : Nat → Prop)   (r : Bool) (m : impl_within.f a0 a1 a2 = some r) :
  Calls prog 62 #[(iI a0), (iI a1), (iI a2)] w (RT (impl_within.Q w F) r) := by
 obtain ⟨s0, rfl, kp0, z⟩ := start0 w F
 refine Xb (args := [(iI a0), (iI a1), (iI a2)]) func62 ntmps62 rfl rfl m ?_
 unfold impl_within.f
 refine sr (Xa rfl (dn (sr (Xa rfl (Xa rfl (Xa rfl (Xa rfl (jy [10, 11, 12, 13, 14] [8] 14 (.bool ((decide (a1 ≤ a0)) && (decide (a0 ≤ a2)))) rfl (fun Kg1 => ?_) (fun j1 => ?_)))))))))
 ·
  rcases bft (decide (a1 ≤ a0)) with hb1 | hb1
  ·
   exact sbT hb1 (Xa rfl (Xa rfl (Xa rfl (Xa rfl (Kg1 _ (Ag.put ((Ag.put ((Ag.put ((Ag.put (Ag.base rfl) rfl)) rfl)) rfl)) rfl) (by rw [hb1]; rfl))))))
  exact sbT hb1 (uw' rfl (uw' rfl (uw' rfl (Xa rfl (Kg1 _ (Ag.put ((Ag.put ((Ag.put ((Ag.put (Ag.base rfl) rfl)) rfl)) rfl)) rfl) (by rw [hb1]; rfl))))))
 exact Xa rfl (dn (re rfl func62 rfl (r_t rfl Xc) rfl ⟨_, rfl, rfl, z.ky kp0⟩))
def impl_ItemOk.f (a0 : Item) : Option (Bool) :=
 ((impl_within.f a0.Kind (0 : Int) (3 : Int)).bind fun r4 => (some (((r4 && ((a0.N == (0 : Int)) || (a0.Kind == (1 : Int)))) && (((a0.F : Int) == 0) || (a0.Kind == (2 : Int)))) && (((a0.T.length : Int) == (0 : Int)) || ((a0.Kind == (3 : Int)) && (decide ((a0.T.length : Int) ≤ (40 : Int))))))))
def impl_ItemOk.Q (w : World) (F : Nat → Prop) (r : Bool) (v : Value) (w' : World) : Prop :=
 v = (.bool r) ∧ Ky [] w w'
theorem impl_ItemOk.calls (a0 : Item) (w : World) (F : Nat → Prop) (w0_0 : Value) (w0_1 : Value) (h0_0 : Kd.flt.rd w [w0_0] a0.F F) (h0_1 : Xg.rd w [w0_1] a0.T F) (r : Bool) (m : impl_ItemOk.f a0 = some r) :
  Calls prog 38 #[(.agg #[(iI a0.Kind), (iI a0.N), w0_0, w0_1])] w (RT (impl_ItemOk.Q w F) r) := by
 obtain ⟨s0, rfl, kp0, z⟩ := start0 w F
 refine Xb (args := [(.agg #[(iI a0.Kind), (iI a0.N), w0_0, w0_1])]) func38 ntmps38 rfl rfl m ?_
 unfold impl_ItemOk.f
 refine sr (bx (cs := [(iI a0.Kind), (iI a0.N), w0_0, w0_1]) 40 rfl rfl rfl rfl rfl rfl (fun b2 s2 p2 B2 => ?_))
 refine Xa rfl (dn (sr (fa' fa28_0 rfl (ld' B2 u3 rfl (clV 41 rfl func62 rfl (impl_within.calls a0.Kind (0 : Int) (3 : Int) s2.w (mm [] s2)) (fun r4 s5 p5 n5 => ?_))))))
 refine Xa rfl (jy [6, 7, 8, 9, 10, 11, 12, 13, 14, 15] [13, 14, 15, 16, 17, 18, 19, 20, 21, 22, 23, 24, 25, 26, 27, 28, 29, 30, 31, 32, 33, 34, 35, 36, 37, 38, 39, 40, 41] 15 (.bool (r4 && ((a0.N == (0 : Int)) || (a0.Kind == (1 : Int))))) rfl (fun Kg6 => ?_) (fun j6 => ?_))
 ·
  rcases bft r4 with hb6 | hb6
  ·
   refine sbT hb6 (fa' fa28_1 rfl ?_)
   have A7 := B2.st p5 rfl
   refine ld' A7 u3 rfl (Xa rfl (Xa rfl (jy [10, 11, 12, 13, 14] [12, 13, 14, 15, 16, 17, 18, 19, 20, 21, 22, 23, 24, 25, 26, 27, 28, 29, 30, 31, 32, 33, 34, 35, 36, 37, 38, 39, 40, 41] 14 (.bool ((a0.N == (0 : Int)) || (a0.Kind == (1 : Int)))) rfl (fun Kg8 => ?_) (fun j8 => ?_))))
   ·
    rcases bft (a0.N == (0 : Int)) with hb8 | hb8
    ·
     exact sbT hb8 (uw' rfl (uw' rfl (uw' rfl (Xa rfl (Kg8 _ (Ag.put ((Ag.put ((Ag.put ((Ag.put (Ag.base rfl) rfl)) rfl)) rfl)) rfl) (by rw [hb8]; rfl))))))
    exact sbT hb8 (fa' fa28_0 rfl (ld' A7 u3 rfl (Xa rfl (Xa rfl (Kg8 _ (Ag.put ((Ag.put ((Ag.put ((Ag.put (Ag.base rfl) rfl)) rfl)) rfl)) rfl) (by rw [hb8]; rfl))))))
   exact Xa rfl (Kg6 _ (Ag.put ((Ag.put ((Ag.ov ((Ag.put ((Ag.put ((Ag.put ((Ag.put (Ag.base rfl) rfl)) rfl)) rfl)) rfl)) rfl)) rfl)) rfl) (by rw [hb6]; rfl))
  exact sbT hb6 (uw' rfl (uw' rfl (uw' rfl (uw' rfl (uw' rfl (uw' rfl (uw' rfl (uw' rfl (Xa rfl (Kg6 _ (Ag.put ((Ag.put ((Ag.put ((Ag.put ((Ag.put ((Ag.put ((Ag.put ((Ag.put ((Ag.put (Ag.base rfl) rfl)) rfl)) rfl)) rfl)) rfl)) rfl)) rfl)) rfl)) rfl) (by rw [hb6]; rfl)))))))))))
 refine Xa rfl (jy [16, 17, 18, 19, 20, 21, 22, 23, 24, 25, 26] [24, 25, 26, 27, 28, 29, 30, 31, 32, 33, 34, 35, 36, 37, 38, 39, 40, 41] 26 (.bool ((r4 && ((a0.N == (0 : Int)) || (a0.Kind == (1 : Int)))) && (((a0.F : Int) == 0) || (a0.Kind == (2 : Int))))) rfl (fun Kg9 => ?_) (fun j9 => ?_))
 ·
  rcases bft (r4 && ((a0.N == (0 : Int)) || (a0.Kind == (1 : Int)))) with hb9 | hb9
  ·
   refine sbT hb9 (fa' fa28_2 rfl ?_)
   have A10 := B2.st p5 rfl
   refine ld' A10 u22 rfl (fbu (fl_of h0_0) rfl rfl rfl rfl rfl func63 rfl rfl xn63 xf63 rfl (fun b11 A11 => ?_))
   refine fz0 A11 rfl rfl rfl rfl rfl rfl rfl (Xa rfl (jy [21, 22, 23, 24, 25] [23, 24, 25, 26, 27, 28, 29, 30, 31, 32, 33, 34, 35, 36, 37, 38, 39, 40, 41] 25 (.bool (((a0.F : Int) == 0) || (a0.Kind == (2 : Int)))) rfl (fun Kg12 => ?_) (fun j12 => ?_)))
   ·
    rcases bft ((a0.F : Int) == 0) with hb12 | hb12
    ·
     exact sbT hb12 (uw' rfl (uw' rfl (uw' rfl (Xa rfl (Kg12 _ (Ag.put ((Ag.put ((Ag.put ((Ag.put (Ag.base rfl) rfl)) rfl)) rfl)) rfl) (by rw [hb12]; rfl))))))
    exact sbT hb12 (fa' fa28_0 rfl (ld' A10 u3 rfl (Xa rfl (Xa rfl (Kg12 _ (Ag.put ((Ag.put ((Ag.put ((Ag.put (Ag.base rfl) rfl)) rfl)) rfl)) rfl) (by rw [hb12]; rfl))))))
   exact Xa rfl (Kg9 _ (Ag.put ((Ag.put ((Ag.ov ((Ag.put ((Ag.put ((Ag.put ((Ag.put ((Ag.put (Ag.base rfl) rfl)) rfl)) rfl)) rfl)) rfl)) rfl)) rfl)) rfl) (by rw [hb9]; rfl))
  exact sbT hb9 (uw' rfl (uw' rfl (uw' rfl (uw' rfl (uw' rfl (uw' rfl (uw' rfl (uw' rfl (uw' rfl (Xa rfl (Kg9 _ (Ag.put ((Ag.put ((Ag.put ((Ag.put ((Ag.put ((Ag.put ((Ag.put ((Ag.put ((Ag.put ((Ag.put (Ag.base rfl) rfl)) rfl)) rfl)) rfl)) rfl)) rfl)) rfl)) rfl)) rfl)) rfl) (by rw [hb9]; rfl))))))))))))
 refine Xa rfl (jy [27, 28, 29, 30, 31, 32, 33, 34, 35, 36, 37, 38, 39, 40, 41, 42, 43] [41] 43 (.bool (((r4 && ((a0.N == (0 : Int)) || (a0.Kind == (1 : Int)))) && (((a0.F : Int) == 0) || (a0.Kind == (2 : Int)))) && (((a0.T.length : Int) == (0 : Int)) || ((a0.Kind == (3 : Int)) && (decide ((a0.T.length : Int) ≤ (40 : Int))))))) rfl (fun Kg13 => ?_) (fun j13 => ?_))
 ·
  rcases bft ((r4 && ((a0.N == (0 : Int)) || (a0.Kind == (1 : Int)))) && (((a0.F : Int) == 0) || (a0.Kind == (2 : Int)))) with hb13 | hb13
  ·
   refine sbT hb13 (fa' fa28_3 rfl ?_)
   have A14 := B2.st p5 rfl
   refine ld' A14 u23 rfl ?_
   have A16 := (z.rd h0_1).kp (kp0.st (tr2 p2 p5) rfl)
   refine ln A16 u23 rfl rfl rfl rfl rfl rfl (Xa rfl (Xa rfl (jy [32, 33, 34, 35, 36, 37, 38, 39, 40, 41, 42] [40, 41] 42 (.bool (((a0.T.length : Int) == (0 : Int)) || ((a0.Kind == (3 : Int)) && (decide ((a0.T.length : Int) ≤ (40 : Int)))))) rfl (fun Kg17 => ?_) (fun j17 => ?_))))
   ·
    rcases bft ((a0.T.length : Int) == (0 : Int)) with hb17 | hb17
    ·
     exact sbT hb17 (uw' rfl (uw' rfl (uw' rfl (uw' rfl (uw' rfl (uw' rfl (uw' rfl (uw' rfl (uw' rfl (Xa rfl (Kg17 _ (Ag.put ((Ag.put ((Ag.put ((Ag.put ((Ag.put ((Ag.put ((Ag.put ((Ag.put ((Ag.put ((Ag.put (Ag.base rfl) rfl)) rfl)) rfl)) rfl)) rfl)) rfl)) rfl)) rfl)) rfl)) rfl) (by rw [hb17]; rfl))))))))))))
    refine sbT hb17 (fa' fa28_0 rfl (ld' A14 u3 rfl (Xa rfl (Xa rfl (jy [36, 37, 38, 39, 40, 41] [39, 40, 41] 41 (.bool ((a0.Kind == (3 : Int)) && (decide ((a0.T.length : Int) ≤ (40 : Int))))) rfl (fun Kg18 => ?_) (fun j18 => ?_))))))
    ·
     rcases bft (a0.Kind == (3 : Int)) with hb18 | hb18
     ·
      exact sbT hb18 (fa' fa28_3 rfl (ld' A14 u23 rfl (ln A16 u23 rfl rfl rfl rfl rfl rfl (Xa rfl (Xa rfl (Kg18 _ (Ag.put ((Ag.put ((Ag.put ((Ag.put ((Ag.put (Ag.base rfl) rfl)) rfl)) rfl)) rfl)) rfl) (by rw [hb18]; rfl)))))))
     exact sbT hb18 (uw' rfl (uw' rfl (uw' rfl (uw' rfl (Xa rfl (Kg18 _ (Ag.put ((Ag.put ((Ag.put ((Ag.put ((Ag.put (Ag.base rfl) rfl)) rfl)) rfl)) rfl)) rfl) (by rw [hb18]; rfl)))))))
    exact Xa rfl (Kg17 _ (Ag.put ((Ag.put ((Ag.ov ((Ag.put ((Ag.put ((Ag.put ((Ag.put (Ag.base rfl) rfl)) rfl)) rfl)) rfl)) rfl)) rfl)) rfl) (by rw [hb17]; rfl))
   exact Xa rfl (Kg13 _ (Ag.put ((Ag.put ((Ag.ov ((Ag.put ((Ag.put ((Ag.put ((Ag.put ((Ag.put (Ag.base rfl) rfl)) rfl)) rfl)) rfl)) rfl)) rfl)) rfl)) rfl) (by rw [hb13]; rfl))
  refine sbT hb13 (uw' rfl (uw' rfl (uw' rfl (uw' rfl (uw' rfl (uw' rfl (uw' rfl (uw' rfl (uw' rfl (uw' rfl (uw' rfl (uw' rfl (uw' rfl (uw' rfl ?_))))))))))))))
  exact uw' rfl (Xa rfl (Kg13 _ (Ag.put ((Ag.put ((Ag.put ((Ag.put ((Ag.put ((Ag.put ((Ag.put ((Ag.put ((Ag.put ((Ag.put ((Ag.put ((Ag.put ((Ag.put ((Ag.put ((Ag.put ((Ag.put (Ag.base rfl) rfl)) rfl)) rfl)) rfl)) rfl)) rfl)) rfl)) rfl)) rfl)) rfl)) rfl)) rfl)) rfl)) rfl)) rfl)) rfl) (by rw [hb13]; rfl)))
 refine Xa rfl (dn ?_)
 exact re rfl func38 rfl (r_t rfl Xc) rfl ⟨_, rfl, rfl, z.ky (kp0.st (tr2 p2 p5) rfl)⟩
section
open Go.Shelf
shelf_lay LaysM.n171 Nm 171 at Tryd as lay_itoa
theorem grow_ky (w : World) (k : Nat) (os : Array Obj) : Ky [] w (Sort.grow (w.drewN k) os) := by
  refine ⟨rfl, ?_, rfl, ?_, fun b hb _ => ?_⟩
  · simp [Sort.grow]
  · simp [Sort.grow]
  · simp [Sort.grow, Array.getElem?_append_left hb]
def strconv_Itoa.f (a0 : Int) : Option (ByteArray) := if -9223372036854775808 ≤ a0 ∧ a0 ≤ 9223372036854775807 then some ⟨(Lib.itoa a0).toArray⟩ else none
def strconv_Itoa.Q (w : World) (F : Nat → Prop) (r : ByteArray) (v : Value) (w' : World) : Prop := v = (.string r) ∧ Ky [] w w'
theorem strconv_Itoa.calls (a0 : Int) (w : World) (F : Nat → Prop) (hG : GT.rd w [] () F) (r : ByteArray) (m : strconv_Itoa.f a0 = some r) :
    Calls Tryd.prog 64 #[.int .i64 a0] w (RT (strconv_Itoa.Q w F) r) := by
  unfold strconv_Itoa.f at m
  split at m
  · rename_i h
    cases m
    refine Calls.mono (Any.strconv_Itoa lay_itoa a0 h.1 h.2 w hG.2.1) fun e w' ⟨he, k, os, hw⟩ => ⟨_, he, rfl, ?_⟩
    rw [hw]; exact grow_ky w k os
  · cases m
end

def impl_FloatBits.f (a0 : Nat) : Option (Int) :=
 (if (fcmp .f64 a0 a0 != some .eq) = true then (some (9221120237041090560 : Int)) else (if isN a0 = false then (some (a0 : Int)) else none))
def impl_FloatBits.Q (w : World) (F : Nat → Prop) (r : Int) (v : Value) (w' : World) : Prop :=
 v = (.int .u64 r) ∧ Ky [] w w'
theorem impl_FloatBits.calls (a0 : Nat) (w : World) (F : Nat → Prop) (w0_0 : Value) (h0_0 : Kd.flt.rd w [w0_0] a0 F) (r : Int) (m : impl_FloatBits.f a0 = some r) :
  Calls prog 84 #[w0_0] w (RT (impl_FloatBits.Q w F) r) := by
 obtain ⟨s0, rfl, kp0, z⟩ := start0 w F
 have A0_0 := fl_of h0_0
 refine Xb (args := [w0_0]) func84 ntmps84 rfl rfl m ?_
 unfold impl_FloatBits.f
 refine sr (Xa rfl (dn (sq (sr (mv' w0_0 rfl (mv' w0_0 rfl (fq_' A0_0 A0_0 rfl (dn (cd rfl (fun h1 => ?_) (fun h1 => ?_))))))))))
 ·
  exact sr (Xa rfl (dn (re rfl func84 rfl (r_t rfl Xc) rfl ⟨_, rfl, rfl, z.ky kp0⟩)))
 exact sk (sr (mv' w0_0 rfl (fb_ A0_0 rfl rfl rfl rfl rfl func63 rfl rfl xn63 xf63 rfl (Xa rfl (dn (re rfl func84 rfl (r_t rfl Xc) rfl ⟨_, rfl, rfl, z.ky kp0⟩))))))
def impl_highFirst.b0 (a0 : Int) (x1 : (List Int) × Int) : Option (((List Int) × Int) ⊕ (List Int)) :=
 (if (decide (x1.2 ≥ (0 : Int))) = true then (if 0 ≤ x1.2 then (if x1.1.length + ([(IntKind.wrap .u8 (ishr .u64 a0 x1.2))]).length ≤ Lim then (some (Sum.inl ((x1.1 ++ [(IntKind.wrap .u8 (ishr .u64 a0 x1.2))]), (IntKind.wrap .i64 (x1.2 - (8 : Int)))))) else none) else none) else ((some x1.1).bind fun o => some (Sum.inr o)))
def impl_highFirst.f (a0 : Int) : Option ((List Int)) :=
 (iter (impl_highFirst.b0 a0) (([] : (List Int)), (56 : Int)))
def impl_highFirst.Q (w : World) (F : Nat → Prop) (r : (List Int)) (v : Value) (w' : World) : Prop :=
 FO Xg w w' [v] r ∧ Ky [] w w'
theorem impl_highFirst.calls (a0 : Int) (w : World) (F : Nat → Prop)   (r : (List Int)) (m : impl_highFirst.f a0 = some r) :
  Calls prog 83 #[(.int .u64 a0)] w (RT (impl_highFirst.Q w F) r) := by
 obtain ⟨s0, rfl, kp0, z⟩ := start0 w F
 refine Xb (args := [(.int .u64 a0)]) func83 ntmps83 rfl rfl m ?_
 unfold impl_highFirst.f
 refine sr (Xa rfl (dn (sr (Xa rfl (dn (sq (sr (Xa rfl (dn (bl (lpI (fun (x1 : (List Int) × Int) e w => ∃ (s : St) (e0 : Env) (vx1_0 : Value), w = s.w ∧ e = upd (upd (upd e0 0 (.int .u64 a0)) 3 vx1_0) 4 (iI x1.2) ∧ Kp s0 s ∧ OwF Xg s [vx1_0] x1.1 40) ⟨s0, _, (.slice none 0 0), rfl, (ue (ue (ue rfl rfl) rfl) rfl), kp0, (ow_nil 5 (Kd.int .u8) _ 40)⟩ (fun g1 ih1 => ?_))))))))))))
 rintro x1 _ _ ⟨s2, _, vx1_0, rfl, rfl, Kx1, Ax1_0⟩
 unfold impl_highFirst.b0
 refine sq (sr (Xa rfl (Xa rfl (dn (cd rfl (fun h4 => ?_) (fun h4 => ?_))))))
 ·
  refine sk (sq (bl (rg (mv' vx1_0 rfl (Xa rfl (Xa rfl (shr_ rfl rfl rfl rfl rfl rfl rfl (cv u5 u65 rfl rfl rfl rfl rfl rfl (ltF' (K := (Kd.int .u8)) (cells := [(.int .u8 (IntKind.wrap .u8 (ishr .u64 a0 x1.2)))]) [(IntKind.wrap .u8 (ishr .u64 a0 x1.2))] 41 Xd u23 z5 o5 (fun w => (Xf _ _ _)) rfl rfl (fun v5 s5 p5 A5 => ?_))))))))))
  refine apF Xd sl23 (Ax1_0.st p5 rfl) A5.rd rfl rfl rfl rfl rfl rfl rfl (fun v8 s8 p8 A8 => ?_)
  refine asg' v8 rfl (dn (ib (rg (Xa rfl (Xa rfl (Xa rfl (dn ?_)))))))
  exact lb ih1 ⟨s8, _, v8, rfl, (ue (ue (ue rfl rfl) rfl) rfl), (Kx1.st (tr2 p5 p8) rfl), A8⟩
 exact xt rfl (sgb (sr (mv' vx1_0 rfl (asg' vx1_0 rfl (dn (re rfl func83 rfl (r_t rfl Xc) rfl ⟨_, rfl, Ax1_0.fo Kx1 rfl z.l, z.ky Kx1⟩))))))
def impl_hexText.b0 (a0 : (List Int)) (x2 : (List Int) × Int) : Option (((List Int) × Int) ⊕ ByteArray) :=
 (if (decide (x2.2 < (a0.length : Int))) = true then (if 0 ≤ x2.2 ∧ x2.2 < (a0.length : Int) then ((if 0 ≤ (ishr .u8 (at_ a0 x2.2) (4 : Int)) ∧ (ishr .u8 (at_ a0 x2.2) (4 : Int)) < ((⟨#[48, 49, 50, 51, 52, 53, 54, 55, 56, 57, 97, 98, 99, 100, 101, 102]⟩ : ByteArray).size : Int) then (if 0 ≤ (iand .u8 (at_ a0 x2.2) (15 : Int)) ∧ (iand .u8 (at_ a0 x2.2) (15 : Int)) < ((⟨#[48, 49, 50, 51, 52, 53, 54, 55, 56, 57, 97, 98, 99, 100, 101, 102]⟩ : ByteArray).size : Int) then (some ([(at_ (bts (⟨#[48, 49, 50, 51, 52, 53, 54, 55, 56, 57, 97, 98, 99, 100, 101, 102]⟩ : ByteArray)) (ishr .u8 (at_ a0 x2.2) (4 : Int))), (at_ (bts (⟨#[48, 49, 50, 51, 52, 53, 54, 55, 56, 57, 97, 98, 99, 100, 101, 102]⟩ : ByteArray)) (iand .u8 (at_ a0 x2.2) (15 : Int)))])) else none) else none).bind fun y15 => (if x2.1.length + y15.length ≤ Lim then (some (Sum.inl ((x2.1 ++ y15), (IntKind.wrap .i64 (x2.2 + (1 : Int)))))) else none)) else none) else ((some (str x2.1)).bind fun o => some (Sum.inr o)))
def impl_hexText.f (a0 : (List Int)) : Option (ByteArray) :=
 (iter (impl_hexText.b0 a0) (([] : (List Int)), (0 : Int)))
def impl_hexText.Q (w : World) (F : Nat → Prop) (r : ByteArray) (v : Value) (w' : World) : Prop :=
 v = (.string r) ∧ Ky [] w w'
theorem impl_hexText.calls (a0 : (List Int)) (w : World) (F : Nat → Prop) (w0_0 : Value) (h0_0 : Xg.rd w [w0_0] a0 F) (r : ByteArray) (m : impl_hexText.f a0 = some r) :
  Calls prog 66 #[w0_0] w (RT (impl_hexText.Q w F) r) := by
 obtain ⟨s0, rfl, kp0, z⟩ := start0 w F
 have A0_0 := z.rd h0_0
 refine Xb (args := [w0_0]) func66 ntmps66 rfl rfl m ?_
 unfold impl_hexText.f
 refine sr (Xa rfl (dn (sr (Xa rfl (dn (sq (sr (mv' w0_0 rfl (ln A0_0 u23 rfl rfl rfl rfl rfl rfl (Xa rfl (dn (bl (lpI (fun (x2 : (List Int) × Int) e w => ∃ (s : St) (e0 : Env) (vx2_0 : Value), w = s.w ∧ e = upd (upd (upd (upd e0 3 vx2_0) 6 w0_0) 7 (iI (a0.length : Int))) 8 (iI x2.2) ∧ Kp s0 s ∧ OwF Xg s [vx2_0] x2.1 40) ⟨s0, _, (.slice none 0 0), rfl, (ue (ue (ue (ue rfl rfl) rfl) rfl) rfl), kp0, (ow_nil 5 (Kd.int .u8) _ 40)⟩ (fun g2 ih2 => ?_))))))))))))))
 rintro x2 _ _ ⟨s3, _, vx2_0, rfl, rfl, Kx2, Ax2_0⟩
 unfold impl_hexText.b0
 refine sr (Xa rfl (dn (sq (cd rfl (fun h5 => ?_) (fun h5 => ?_)))))
 ·
  refine sk (sq (bl (sr ?_)))
  refine ix (A0_0.kp Kx2) u23 z5 rfl rfl rfl rfl rfl rfl rfl rfl (fun ad7 es7 h0_7 h1_7 he7 ce7 ia7 => ?_)
  obtain rfl := he7
  refine lc0 ce7 u5 rfl rfl rfl rfl rfl rfl rfl rfl (Xa rfl (dn (zdraw [[], [], [1], [2], [], [4], [5], [3, 6], [0, 7], [8, 8, 0, 1, 2, 3, 4, 5, 6, 7, 8]] [some 12, some 13, some 14, some 15, some 16, some 17, some 18, some 19, some 20, some 3] [[3], [5], [13], [14], [5], [16], [17], [15, 18], [12, 19], [20]] [0, 1, 2, 3, 4, 5, 6, 7, 8, 9] ⟨by kernel_rfl, by kernel_rfl, by kernel_rfl⟩ (by kernel_rfl) (fun s9 p9 l9 tb9 zd9 => ?_))))
  refine ji [8, 9] (fun (y15 : (List Int)) e w => ∃ (s : St) (e0 : Env) (vy15_0 : Value), w = s.w ∧ e = upd (upd (upd (upd (upd e0 6 w0_0) 7 (iI (a0.length : Int))) 8 (iI x2.2)) 12 vx2_0) 19 vy15_0 ∧ Kp s0 s ∧ OwF Xg s [vy15_0] y15 41 ∧ OwF Xg s [vx2_0] x2.1 40) (fun Gj15 Kj15 => ?_) ?_
  ·
   refine zstep2 3 6 [some 17, some 16, some 12] [some 14, some 13, some 12] tb9 (((((zd9.add 0 12 vx2_0 rfl).add 1 13 (.int .u8 (at_ a0 x2.2)) rfl).add 2 14 (.int .u8 (ishr .u8 (at_ a0 x2.2) (4 : Int))) rfl).add 4 16 (.int .u8 (at_ a0 x2.2)) rfl).add 5 17 (.int .u8 (iand .u8 (at_ a0 x2.2) (15 : Int))) rfl) (Xe (pu_q rfl rfl rfl rfl rfl rfl) rfl (Xe (pu_q rfl rfl rfl rfl rfl rfl) rfl (Xe (shrK_q rfl rfl rfl rfl rfl rfl rfl rfl) rfl (Xe (pu_q rfl rfl rfl rfl rfl rfl) rfl (Xe (mv_q vx2_0 rfl rfl rfl rfl rfl rfl) rfl pq_nil))))) (by kernel_rfl) (by kernel_rfl) (fun l16 e16 zd16 => ?_) (fun l17 e17 zd17 => ?_)
   ·
    refine sxi u9 rfl rfl rfl rfl rfl rfl rfl (zdone (L' := [5, 4, 0]) (D' := [1, 2, 3]) zd16 rfl rfl rfl (fun zd18 => ?_))
    refine zstep 6 [some 12] tb9 zd18 (Xe (pu_q rfl rfl rfl rfl rfl rfl) rfl (Xe (pu_q rfl rfl rfl rfl rfl rfl) rfl (Xe (mv_q vx2_0 rfl rfl rfl rfl rfl rfl) rfl pq_nil))) (by kernel_rfl) rfl (fun l19 e19 zd19 => ?_)
    refine sxi u9 rfl rfl rfl rfl rfl rfl rfl (zdone (L' := [0]) (D' := [4, 5, 6, 1, 2, 3]) zd19 rfl rfl rfl (fun zd20 => ?_))
    refine zstep 7 [some 12] tb9 zd20 (Xe (mv_q vx2_0 rfl rfl rfl rfl rfl rfl) rfl pq_nil) (by kernel_rfl) rfl (fun l21 e21 zd21 => ?_)
    refine ltF' (K := (Kd.int .u8)) (cells := [(.int .u8 (at_ (bts (⟨#[48, 49, 50, 51, 52, 53, 54, 55, 56, 57, 97, 98, 99, 100, 101, 102]⟩ : ByteArray)) (ishr .u8 (at_ a0 x2.2) (4 : Int)))), (.int .u8 (at_ (bts (⟨#[48, 49, 50, 51, 52, 53, 54, 55, 56, 57, 97, 98, 99, 100, 101, 102]⟩ : ByteArray)) (iand .u8 (at_ a0 x2.2) (15 : Int))))]) [(at_ (bts (⟨#[48, 49, 50, 51, 52, 53, 54, 55, 56, 57, 97, 98, 99, 100, 101, 102]⟩ : ByteArray)) (ishr .u8 (at_ a0 x2.2) (4 : Int))), (at_ (bts (⟨#[48, 49, 50, 51, 52, 53, 54, 55, 56, 57, 97, 98, 99, 100, 101, 102]⟩ : ByteArray)) (iand .u8 (at_ a0 x2.2) (15 : Int)))] 42 Xd u23 z5 o5 (fun w => (Xf _ _ _)) rfl rfl (fun v22 s22 p22 A22 => ?_)
    refine zdone (L' := [0]) (D' := [7, 4, 5, 6, 1, 2, 3]) zd21 rfl rfl rfl (fun zd24 => ?_)
    refine zfin [8, 9] tb9 zd24 (Xe (mv_q vx2_0 rfl rfl rfl rfl rfl rfl) rfl pq_nil) (by kernel_rfl) (by decide) ?_
    obtain ⟨s25, hw25, p25, A25⟩ := A22.rc 41 rfl
    rw [hw25]
    exact Kj15 _ _ _ ⟨s25, _, v22, rfl, (ue (ue (ue (ue (ue rfl rfl) rfl) rfl) rfl) rfl), (Kx2.st (tr3 p9 p22 p25) rfl), A25, (Ax2_0.st (tr3 p9 p22 p25) rfl)⟩
   refine mgs (sxi u9 rfl rfl rfl rfl rfl rfl rfl (zdone (L' := [2, 1, 0]) (D' := [4, 5, 6]) zd17 rfl rfl rfl (fun zd28 => ?_)))
   refine zstep 3 [some 12] tb9 zd28 (Xe (shrK_q rfl rfl rfl rfl rfl rfl rfl rfl) rfl (Xe (pu_q rfl rfl rfl rfl rfl rfl) rfl (Xe (mv_q vx2_0 rfl rfl rfl rfl rfl rfl) rfl pq_nil))) (by kernel_rfl) rfl (fun l29 e29 zd29 => ?_)
   refine sxi u9 rfl rfl rfl rfl rfl rfl rfl (zdone (L' := [0]) (D' := [1, 2, 3, 4, 5, 6]) zd29 rfl rfl rfl (fun zd30 => ?_))
   refine zstep 7 [some 12] tb9 zd30 (Xe (mv_q vx2_0 rfl rfl rfl rfl rfl rfl) rfl pq_nil) (by kernel_rfl) rfl (fun l31 e31 zd31 => ?_)
   refine ltF' (K := (Kd.int .u8)) (cells := [(.int .u8 (at_ (bts (⟨#[48, 49, 50, 51, 52, 53, 54, 55, 56, 57, 97, 98, 99, 100, 101, 102]⟩ : ByteArray)) (ishr .u8 (at_ a0 x2.2) (4 : Int)))), (.int .u8 (at_ (bts (⟨#[48, 49, 50, 51, 52, 53, 54, 55, 56, 57, 97, 98, 99, 100, 101, 102]⟩ : ByteArray)) (iand .u8 (at_ a0 x2.2) (15 : Int))))]) [(at_ (bts (⟨#[48, 49, 50, 51, 52, 53, 54, 55, 56, 57, 97, 98, 99, 100, 101, 102]⟩ : ByteArray)) (ishr .u8 (at_ a0 x2.2) (4 : Int))), (at_ (bts (⟨#[48, 49, 50, 51, 52, 53, 54, 55, 56, 57, 97, 98, 99, 100, 101, 102]⟩ : ByteArray)) (iand .u8 (at_ a0 x2.2) (15 : Int)))] 43 Xd u23 z5 o5 (fun w => (Xf _ _ _)) rfl rfl (fun v32 s32 p32 A32 => ?_)
   refine zdone (L' := [0]) (D' := [7, 1, 2, 3, 4, 5, 6]) zd31 rfl rfl rfl (fun zd34 => ?_)
   refine zfin [8, 9] tb9 zd34 (Xe (mv_q vx2_0 rfl rfl rfl rfl rfl rfl) rfl pq_nil) (by kernel_rfl) (by decide) ?_
   obtain ⟨s35, hw35, p35, A35⟩ := A32.rc 41 rfl
   rw [hw35]
   exact Kj15 _ _ _ ⟨s35, _, v32, rfl, (ue (ue (ue (ue (ue rfl rfl) rfl) rfl) rfl) rfl), (Kx2.st (tr3 p9 p32 p35) rfl), A35, (Ax2_0.st (tr3 p9 p32 p35) rfl)⟩
  rintro y15 _ _ ⟨s38, _, vy15_0, rfl, rfl, Ky15, Ay15_0, Cy15_4⟩
  refine apF Xd sl23 Cy15_4 Ay15_0.rd rfl rfl rfl rfl rfl rfl rfl (fun v40 s40 p40 A40 => ?_)
  refine asg' v40 rfl (dn (ib (rg (Xa rfl (Xa rfl (dn ?_))))))
  exact lb ih2 ⟨s40, _, v40, rfl, (ue (ue (ue (ue rfl rfl) rfl) rfl) rfl), (Ky15.st p40 rfl), A40⟩
 exact xt rfl (sgb (sr (mv' vx2_0 rfl (b2s Ax2_0.rd u23 u9 u5 rfl rfl rfl rfl rfl rfl (Xa rfl (dn (re rfl func66 rfl (r_t rfl Xc) rfl ⟨_, rfl, rfl, z.ky Kx2⟩)))))))
def impl_bitsText.f (a0 : Nat) : Option (ByteArray) :=
 ((impl_FloatBits.f a0).bind fun r1 => ((impl_highFirst.f r1).bind fun r3 => ((impl_hexText.f r3).bind fun r6 => (some r6))))
def impl_bitsText.Q (w : World) (F : Nat → Prop) (r : ByteArray) (v : Value) (w' : World) : Prop :=
 v = (.string r) ∧ Ky [] w w'
theorem impl_bitsText.calls (a0 : Nat) (w : World) (F : Nat → Prop) (w0_0 : Value) (h0_0 : Kd.flt.rd w [w0_0] a0 F) (r : ByteArray) (m : impl_bitsText.f a0 = some r) :
  Calls prog 65 #[w0_0] w (RT (impl_bitsText.Q w F) r) := by
 obtain ⟨s0, rfl, kp0, z⟩ := start0 w F
 refine Xb (args := [w0_0]) func65 ntmps65 rfl rfl m ?_
 unfold impl_bitsText.f
 refine sr (Xa rfl (dn (sr (mv' w0_0 rfl (clV 40 rfl func84 rfl (impl_FloatBits.calls a0 s0.w (mm [] s0) w0_0 (fl_rdf (s := s0) (fl_of h0_0))) (fun r1 s2 p2 n2 => ?_))))))
 refine clO 41 rfl func83 rfl (impl_highFirst.calls r1 s2.w (mm [] s2)) (fun r3 v3_0 s4 p4 A3_0 => ?_)
 refine clV 42 rfl func66 rfl (impl_hexText.calls r3 s4.w (mm [41] s4) v3_0 A3_0.rd) (fun r6 s7 p7 n7 => ?_)
 refine Xa rfl (dn ?_)
 exact re rfl func65 rfl (r_t rfl Xc) rfl ⟨_, rfl, rfl, z.ky (kp0.st (tr3 p2 p4 p7) rfl)⟩
def impl_itemText.f (a0 : Item) : Option (ByteArray) :=
 (if (a0.Kind == (1 : Int)) = true then ((strconv_Itoa.f a0.N).bind fun r6 => (if (⟨#[105]⟩ : ByteArray).size + r6.size ≤ Lim then (some ((⟨#[105]⟩ : ByteArray) ++ r6)) else none)) else (if (a0.Kind == (2 : Int)) = true then ((impl_bitsText.f a0.F).bind fun r10 => (if (⟨#[102]⟩ : ByteArray).size + r10.size ≤ Lim then (some ((⟨#[102]⟩ : ByteArray) ++ r10)) else none)) else (if (a0.Kind == (3 : Int)) = true then ((impl_hexText.f a0.T).bind fun r16 => (if (⟨#[116]⟩ : ByteArray).size + r16.size ≤ Lim then (some ((⟨#[116]⟩ : ByteArray) ++ r16)) else none)) else (some (⟨#[45]⟩ : ByteArray)))))
def impl_itemText.Q (w : World) (F : Nat → Prop) (r : ByteArray) (v : Value) (w' : World) : Prop :=
 v = (.string r) ∧ Ky [] w w'
theorem impl_itemText.calls (a0 : Item) (w : World) (F : Nat → Prop) (w0_0 : Value) (w0_1 : Value) (hG : GT.rd w [] () F) (h0_0 : Kd.flt.rd w [w0_0] a0.F F) (h0_1 : Xg.rd w [w0_1] a0.T F) (r : ByteArray) (m : impl_itemText.f a0 = some r) :
  Calls prog 39 #[(.agg #[(iI a0.Kind), (iI a0.N), w0_0, w0_1])] w (RT (impl_itemText.Q w F) r) := by
 obtain ⟨s0, rfl, kp0, z⟩ := start0 w F
 refine Xb (args := [(.agg #[(iI a0.Kind), (iI a0.N), w0_0, w0_1])]) func39 ntmps39 rfl rfl m ?_
 unfold impl_itemText.f
 refine sr (bx (cs := [(iI a0.Kind), (iI a0.N), w0_0, w0_1]) 40 rfl rfl rfl rfl rfl rfl (fun b2 s2 p2 B2 => ?_))
 refine Xa rfl (dn (sq (sr (fa' fa28_0 rfl (ld' B2 u3 rfl (dn (bl (sr (Xa rfl (Xa rfl (dn (cd rfl (fun h4 => ?_) (fun h4 => ?_)))))))))))))
 ·
  refine sr (fa' fa28_1 rfl (ld' B2 u3 rfl ?_))
  have K5 := kp0.st p2 rfl
  refine clV 41 rfl func64 rfl (strconv_Itoa.calls a0.N s2.w (mm [0] s2) ((z.rd hG).kp K5)) (fun r6 s7 p7 n7 => ?_)
  refine sad rfl rfl rfl rfl rfl rfl rfl (Xa rfl (dn ?_))
  exact re rfl func39 rfl (r_t rfl Xc) rfl ⟨_, rfl, rfl, z.ky (K5.st p7 rfl)⟩
 refine sr (Xa rfl (Xa rfl (dn (cd rfl (fun h9 => ?_) (fun h9 => ?_)))))
 ·
  refine sr (fa' fa28_2 rfl (ld' B2 u22 rfl (clV 42 rfl func65 rfl (impl_bitsText.calls a0.F s2.w (mm [] s2) w0_0 (fl_rdf (s := s2) (fl_of h0_0))) (fun r10 s11 p11 n11 => ?_))))
  refine sad rfl rfl rfl rfl rfl rfl rfl (Xa rfl (dn ?_))
  exact re rfl func39 rfl (r_t rfl Xc) rfl ⟨_, rfl, rfl, z.ky (kp0.st (tr2 p2 p11) rfl)⟩
 refine sr (Xa rfl (Xa rfl (dn (cd rfl (fun h13 => ?_) (fun h13 => ?_)))))
 ·
  refine sr (fa' fa28_3 rfl (ld' B2 u23 rfl ?_))
  have K14 := kp0.st p2 rfl
  refine clV 43 rfl func66 rfl (impl_hexText.calls a0.T s2.w (mm [0] s2) w0_1 ((z.rd h0_1).kp K14)) (fun r16 s17 p17 n17 => ?_)
  refine sad rfl rfl rfl rfl rfl rfl rfl (Xa rfl (dn ?_))
  exact re rfl func39 rfl (r_t rfl Xc) rfl ⟨_, rfl, rfl, z.ky (K14.st p17 rfl)⟩
 refine sk (ib (sr (Xa rfl (dn ?_))))
 exact re rfl func39 rfl (r_t rfl Xc) rfl ⟨_, rfl, rfl, z.ky (kp0.st p2 rfl)⟩
def impl_ItemText.f (a0 : Item) : Option ((List Int)) :=
 ((impl_ItemOk.f a0).bind fun r6 => (if (!r6) = true then (some ([] : (List Int))) else ((impl_itemText.f a0).bind fun r13 => (if r13.size ≤ Lim then (some (bts r13)) else none))))
def impl_ItemText.Q (w : World) (F : Nat → Prop) (r : (List Int)) (v : Value) (w' : World) : Prop :=
 FO Xg w w' [v] r ∧ Ky [] w w'
theorem impl_ItemText.calls (a0 : Item) (w : World) (F : Nat → Prop) (w0_0 : Value) (w0_1 : Value) (hG : GT.rd w [] () F) (h0_0 : Kd.flt.rd w [w0_0] a0.F F) (h0_1 : Xg.rd w [w0_1] a0.T F) (r : (List Int)) (m : impl_ItemText.f a0 = some r) :
  Calls prog 10 #[(.agg #[(iI a0.Kind), (iI a0.N), w0_0, w0_1])] w (RT (impl_ItemText.Q w F) r) := by
 obtain ⟨s0, rfl, kp0, z⟩ := start0 w F
 have A0_0 := fl_of h0_0
 have A0_1 := z.rd h0_1
 refine Xb (args := [(.agg #[(iI a0.Kind), (iI a0.N), w0_0, w0_1])]) func10 ntmps10 rfl rfl m ?_
 unfold impl_ItemText.f
 refine sr (bx (cs := [(iI a0.Kind), (iI a0.N), w0_0, w0_1]) 40 rfl rfl rfl rfl rfl rfl (fun b2 s2 p2 B2 => ?_))
 refine Xa rfl (dn (sq (sr (lda (es := [(iI a0.Kind), (iI a0.N), w0_0, w0_1]) B2 u28 z28 rfl rfl rfl rfl rfl rfl rfl rfl ?_))))
 have K4 := kp0.st p2 rfl
 refine clV 41 rfl func38 rfl (impl_ItemOk.calls a0 s2.w (mm [0] s2) w0_0 w0_1 ((fl_rdf (s := s2) A0_0).sub (D := [0]) rfl) (A0_1.kp K4)) (fun r6 s7 p7 n7 => ?_)
 refine Xa rfl (dn (cd rfl (fun h8 => ?_) (fun h8 => ?_)))
 ·
  refine sr (Xa rfl (dn ?_))
  have K9 := K4.st p7 rfl
  exact re rfl func10 rfl (r_t rfl Xc) rfl ⟨_, rfl, (ow_nil 5 (Kd.int .u8) s7 40).fo K9 rfl z.l, z.ky K9⟩
 refine sk (sr ?_)
 refine lda (es := [(iI a0.Kind), (iI a0.N), w0_0, w0_1]) (B2.st p7 rfl) u28 z28 rfl rfl rfl rfl rfl rfl rfl rfl ?_
 have K11 := K4.st p7 rfl
 refine clV 42 rfl func39 rfl (impl_itemText.calls a0 s7.w (mm [0] s7) w0_0 w0_1 ((z.rd hG).kp K11) ((fl_rdf (s := s7) A0_0).sub (D := [0]) rfl) (A0_1.kp K11)) (fun r13 s14 p14 n14 => ?_)
 refine s2b 43 u9 u23 u5 rfl rfl rfl rfl rfl rfl (fun v15 s15 p15 A15 => ?_)
 refine asg' v15 rfl (dn ?_)
 have K17 := K11.st (tr2 p14 p15) rfl
 exact re rfl func10 rfl (r_t rfl Xc) rfl ⟨_, rfl, A15.fo K17 rfl z.l, z.ky K17⟩
def laws_eqByteS.b0 (a0 : (List Int)) (a1 : (List Int)) (x4 : Int) : Option (Int ⊕ Bool) :=
 (if (decide (x4 < (a0.length : Int))) = true then (if 0 ≤ x4 ∧ x4 < (a0.length : Int) then (if 0 ≤ x4 ∧ x4 < (a1.length : Int) then (if ((at_ a0 x4) != (at_ a1 x4)) = true then (some (Sum.inr false)) else (some (Sum.inl (IntKind.wrap .i64 (x4 + (1 : Int)))))) else none) else none) else ((some true).bind fun o => some (Sum.inr o)))
def laws_eqByteS.f (a0 : (List Int)) (a1 : (List Int)) : Option (Bool) :=
 (if ((a0.length : Int) != (a1.length : Int)) = true then (some false) else (iter (laws_eqByteS.b0 a0 a1) (0 : Int)))
def laws_eqByteS.Q (w : World) (F : Nat → Prop) (r : Bool) (v : Value) (w' : World) : Prop :=
 v = (.bool r) ∧ Ky [] w w'
theorem laws_eqByteS.calls (a0 : (List Int)) (a1 : (List Int)) (w : World) (F : Nat → Prop) (w0_0 : Value) (w1_0 : Value) (h0_0 : Xg.rd w [w0_0] a0 F) (h1_0 : Xg.rd w [w1_0] a1 F) (r : Bool) (m : laws_eqByteS.f a0 a1 = some r) :
  Calls prog 11 #[w0_0, w1_0] w (RT (laws_eqByteS.Q w F) r) := by
 obtain ⟨s0, rfl, kp0, z⟩ := start0 w F
 have A0_0 := z.rd h0_0
 have A1_0 := z.rd h1_0
 refine Xb (args := [w0_0, w1_0]) func11 ntmps11 rfl rfl m ?_
 unfold laws_eqByteS.f
 refine sr (Xa rfl (dn (sq (sr (mv' w0_0 rfl (ln A0_0 u23 rfl rfl rfl rfl rfl rfl (mv' w1_0 rfl (ln A1_0 u23 rfl rfl rfl rfl rfl rfl (Xa rfl (dn (cd rfl (fun h3 => ?_) (fun h3 => ?_))))))))))))
 ·
  exact sr (Xa rfl (dn (re rfl func11 rfl (r_t rfl Xc) rfl ⟨_, rfl, rfl, z.ky kp0⟩)))
 refine sk (sq (sr (Xa rfl (dn (bl (lpI (fun (x4 : Int) e w => ∃ (s : St) (e0 : Env), w = s.w ∧ e = upd (upd (upd e0 0 w0_0) 1 w1_0) 5 (iI x4) ∧ Kp s0 s) ⟨s0, _, rfl, (ue (ue (ue rfl rfl) rfl) rfl), kp0⟩ (fun g4 ih4 => ?_)))))))
 rintro x4 _ _ ⟨s5, _, rfl, rfl, Kx4⟩
 unfold laws_eqByteS.b0
 refine sq (sr (Xa rfl (mv' w0_0 rfl ?_)))
 refine ln (A0_0.kp Kx4) u23 rfl rfl rfl rfl rfl rfl (Xa rfl (dn (cd rfl (fun h7 => ?_) (fun h7 => ?_))))
 ·
  refine sk (sq (bl (sq (zdraw [[], [], [0, 1], [2], [], [], [4, 5], [6], [3, 7]] [some 17, some 18, some 19, some 20, some 21, some 22, some 23, some 24, some 25] [[0], [5], [17, 18], [19], [1], [5], [21, 22], [23], [20, 24]] [0, 1, 2, 3, 4, 5, 6, 7, 8] ⟨by kernel_rfl, by kernel_rfl, by kernel_rfl⟩ (by kernel_rfl) (fun s8 p8 l8 tb8 zd8 => ?_)))))
  have K11 := Kx4.st p8 rfl
  have A12 := A0_0.kp K11
  refine mg fun hg13 => ?_
  obtain ⟨ad13, es13, he13, ce13, ia13⟩ := ix_e A12 rfl hg13.1 hg13.2
  obtain rfl := he13
  have A19 := A1_0.kp K11
  refine mg fun hg20 => ?_
  obtain ⟨ad20, es20, he20, ce20, ia20⟩ := ix_e A19 rfl hg20.1 hg20.2
  obtain rfl := he20
  refine zfin [8] tb8 ((((((((zd8.add 0 17 w0_0 rfl).add 1 18 (iI x4) rfl).add 2 19 (.pointer (some ad13)) rfl).add 3 20 (.int .u8 (at_ a0 x4)) rfl).add 4 21 w1_0 rfl).add 5 22 (iI x4) rfl).add 6 23 (.pointer (some ad20)) rfl).add 7 24 (.int .u8 (at_ a1 x4)) rfl) (Xe (lc0_q ce20 u5 rfl rfl rfl rfl rfl rfl rfl rfl) rfl (Xe (ix_q A19 u23 z5 hg20.1 hg20.2 ia20 rfl rfl rfl rfl rfl rfl rfl) rfl (Xe (pu_q rfl rfl rfl rfl rfl rfl) rfl (Xe (mv_q w1_0 rfl rfl rfl rfl rfl rfl) rfl (Xe (lc0_q ce13 u5 rfl rfl rfl rfl rfl rfl rfl rfl) rfl (Xe (ix_q A12 u23 z5 hg13.1 hg13.2 ia13 rfl rfl rfl rfl rfl rfl rfl) rfl (Xe (pu_q rfl rfl rfl rfl rfl rfl) rfl (Xe (mv_q w0_0 rfl rfl rfl rfl rfl rfl) rfl pq_nil)))))))) (by kernel_rfl) (by decide) (Xa rfl (dn (cd rfl (fun h24 => ?_) (fun h24 => ?_))))
  ·
   exact sr (Xa rfl (dn (sgi (re rfl func11 rfl (r_t rfl Xc) rfl ⟨_, rfl, rfl, z.ky K11⟩))))
  exact sk (ib (rg (Xa rfl (Xa rfl (Xa rfl (dn (lb ih4 ⟨s8, _, rfl, (ue (ue (ue rfl rfl) rfl) rfl), K11⟩)))))))
 exact xt rfl (sgb (sr (Xa rfl (dn (re rfl func11 rfl (r_t rfl Xc) rfl ⟨_, rfl, rfl, z.ky Kx4⟩)))))
def laws_sameFloat.f (a0 : Nat) (a1 : Nat) : Option (Bool) :=
 (if ((fcmp .f64 a0 a0 != some .eq) || (fcmp .f64 a1 a1 != some .eq)) = true then (some ((fcmp .f64 a0 a0 != some .eq) && (fcmp .f64 a1 a1 != some .eq))) else (if ((fcmp .f64 a0 (0 : Nat) == some .eq) && (fcmp .f64 a1 (0 : Nat) == some .eq)) = true then (some ((fcmp .f64 (far .quo (4607182418800017408 : Nat) a0) (0 : Nat) == some .gt) == (fcmp .f64 (far .quo (4607182418800017408 : Nat) a1) (0 : Nat) == some .gt))) else (some (fcmp .f64 a0 a1 == some .eq))))
def laws_sameFloat.Q (w : World) (F : Nat → Prop) (r : Bool) (v : Value) (w' : World) : Prop :=
 v = (.bool r) ∧ Ky [] w w'
theorem laws_sameFloat.calls (a0 : Nat) (a1 : Nat) (w : World) (F : Nat → Prop) (w0_0 : Value) (w1_0 : Value) (h0_0 : Kd.flt.rd w [w0_0] a0 F) (h1_0 : Kd.flt.rd w [w1_0] a1 F) (r : Bool) (m : laws_sameFloat.f a0 a1 = some r) :
  Calls prog 40 #[w0_0, w1_0] w (RT (laws_sameFloat.Q w F) r) := by
 obtain ⟨s0, rfl, kp0, z⟩ := start0 w F
 have A0_0 := fl_of h0_0
 have A1_0 := fl_of h1_0
 refine Xb (args := [w0_0, w1_0]) func40 ntmps40 rfl rfl m ?_
 unfold laws_sameFloat.f
 refine sr (Xa rfl (dn (sq (sr (mv' w0_0 rfl (mv' w0_0 rfl (fq_' A0_0 A0_0 rfl (Xa rfl (jy [8, 9, 10, 11, 12] [] 12 (.bool ((fcmp .f64 a0 a0 != some .eq) || (fcmp .f64 a1 a1 != some .eq))) rfl (fun Kg1 => ?_) (fun j1 => ?_))))))))))
 ·
  rcases bft (fcmp .f64 a0 a0 != some .eq) with hb1 | hb1
  ·
   exact sbT hb1 (uw' rfl (uw' rfl (uw' rfl (Xa rfl (Kg1 _ (Ag.put ((Ag.put ((Ag.put ((Ag.put (Ag.base rfl) rfl)) rfl)) rfl)) rfl) (by rw [hb1]; rfl))))))
  exact sbT hb1 (mv' w1_0 rfl (mv' w1_0 rfl (fq_' A1_0 A1_0 rfl (Xa rfl (Kg1 _ (Ag.put ((Ag.put ((Ag.put ((Ag.put (Ag.base rfl) rfl)) rfl)) rfl)) rfl) (by rw [hb1]; rfl))))))
 refine dn (cd rfl (fun h2 => ?_) (fun h2 => ?_))
 ·
  refine sr (mv' w0_0 rfl (mv' w0_0 rfl (fq_' A0_0 A0_0 rfl (Xa rfl (jy [16, 17, 18, 19, 20] [8] 20 (.bool ((fcmp .f64 a0 a0 != some .eq) && (fcmp .f64 a1 a1 != some .eq))) rfl (fun Kg3 => ?_) (fun j3 => ?_))))))
  ·
   rcases bft (fcmp .f64 a0 a0 != some .eq) with hb3 | hb3
   ·
    exact sbT hb3 (mv' w1_0 rfl (mv' w1_0 rfl (fq_' A1_0 A1_0 rfl (Xa rfl (Kg3 _ (Ag.put ((Ag.put ((Ag.put ((Ag.put (Ag.base rfl) rfl)) rfl)) rfl)) rfl) (by rw [hb3]; rfl))))))
   exact sbT hb3 (uw' rfl (uw' rfl (uw' rfl (Xa rfl (Kg3 _ (Ag.put ((Ag.put ((Ag.put ((Ag.put (Ag.base rfl) rfl)) rfl)) rfl)) rfl) (by rw [hb3]; rfl))))))
  exact Xa rfl (dn (re rfl func40 rfl (r_t rfl Xc) rfl ⟨_, rfl, rfl, z.ky kp0⟩))
 refine sk (sq (sr (mv' w0_0 rfl (fq_' A0_0 (fl_c rfl) rfl (Xa rfl (jy [23, 24, 25, 26] [] 26 (.bool ((fcmp .f64 a0 (0 : Nat) == some .eq) && (fcmp .f64 a1 (0 : Nat) == some .eq))) rfl (fun Kg4 => ?_) (fun j4 => ?_)))))))
 ·
  rcases bft (fcmp .f64 a0 (0 : Nat) == some .eq) with hb4 | hb4
  ·
   exact sbT hb4 (mv' w1_0 rfl (fq_' A1_0 (fl_c rfl) rfl (Xa rfl (Kg4 _ (Ag.put ((Ag.put ((Ag.put (Ag.base rfl) rfl)) rfl)) rfl) (by rw [hb4]; rfl)))))
  exact sbT hb4 (uw' rfl (uw' rfl (Xa rfl (Kg4 _ (Ag.put ((Ag.put ((Ag.put (Ag.base rfl) rfl)) rfl)) rfl) (by rw [hb4]; rfl)))))
 refine dn (cd rfl (fun h5 => ?_) (fun h5 => ?_))
 ·
  refine sr (mv' w0_0 rfl (fa_ (fl_c rfl) A0_0 (by simp) rfl rfl rfl rfl rfl rfl rfl (fun v6 s6 p6 A6 => ?_)))
  refine fq_' A6 (fl_c rfl) rfl (mv' w1_0 rfl (fa_ (fl_c rfl) A1_0 (by simp) rfl rfl rfl rfl rfl rfl rfl (fun v7 s7 p7 A7 => ?_)))
  refine fq_' A7 (fl_c rfl) rfl (beq_ u4 rfl rfl rfl rfl rfl rfl rfl (Xa rfl (dn ?_)))
  exact re rfl func40 rfl (r_t rfl Xc) rfl ⟨_, rfl, rfl, z.ky (kp0.st (tr2 p6 p7) rfl)⟩
 exact sk (sr (mv' w0_0 rfl (mv' w1_0 rfl (fq_' A0_0 A1_0 rfl (Xa rfl (dn (re rfl func40 rfl (r_t rfl Xc) rfl ⟨_, rfl, rfl, z.ky kp0⟩)))))))
def laws_eqItem.f (a0 : Item) (a1 : Item) : Option (Bool) :=
 (if (a0.Kind != a1.Kind) = true then (some false) else (if (a0.N != a1.N) = true then (some false) else ((laws_sameFloat.f a0.F a1.F).bind fun r12 => (if (!r12) = true then (some false) else ((laws_eqByteS.f a0.T a1.T).bind fun r21 => (if (!r21) = true then (some false) else (some true)))))))
def laws_eqItem.Q (w : World) (F : Nat → Prop) (r : Bool) (v : Value) (w' : World) : Prop :=
 v = (.bool r) ∧ Ky [] w w'
theorem laws_eqItem.calls (a0 : Item) (a1 : Item) (w : World) (F : Nat → Prop) (w0_0 : Value) (w0_1 : Value) (w1_0 : Value) (w1_1 : Value) (h0_0 : Kd.flt.rd w [w0_0] a0.F F) (h0_1 : Xg.rd w [w0_1] a0.T F) (h1_0 : Kd.flt.rd w [w1_0] a1.F F) (h1_1 : Xg.rd w [w1_1] a1.T F) (r : Bool) (m : laws_eqItem.f a0 a1 = some r) :
  Calls prog 12 #[(.agg #[(iI a0.Kind), (iI a0.N), w0_0, w0_1]), (.agg #[(iI a1.Kind), (iI a1.N), w1_0, w1_1])] w (RT (laws_eqItem.Q w F) r) := by
 obtain ⟨s0, rfl, kp0, z⟩ := start0 w F
 refine Xb (args := [(.agg #[(iI a0.Kind), (iI a0.N), w0_0, w0_1]), (.agg #[(iI a1.Kind), (iI a1.N), w1_0, w1_1])]) func12 ntmps12 rfl rfl m ?_
 unfold laws_eqItem.f
 refine sr (bx (cs := [(iI a0.Kind), (iI a0.N), w0_0, w0_1]) 40 rfl rfl rfl rfl rfl rfl (fun b3 s3 p3 B3 => ?_))
 refine bx (cs := [(iI a1.Kind), (iI a1.N), w1_0, w1_1]) 41 rfl rfl rfl rfl rfl rfl (fun b5 s5 p5 B5 => ?_)
 refine Xa rfl (dn (sq (sr (fa' fa28_0 rfl ?_))))
 have A7 := B3.st p5 rfl
 refine ld' A7 u3 rfl (fa' fa28_0 rfl (ld' B5 u3 rfl (Xa rfl (dn (cd rfl (fun h8 => ?_) (fun h8 => ?_))))))
 ·
  refine sr (Xa rfl (dn ?_))
  exact re rfl func12 rfl (r_t rfl Xc) rfl ⟨_, rfl, rfl, z.ky (kp0.st (tr2 p3 p5) rfl)⟩
 refine sk (sq (sr (fa' fa28_1 rfl (ld' A7 u3 rfl (fa' fa28_1 rfl (ld' B5 u3 rfl (Xa rfl (dn (cd rfl (fun h10 => ?_) (fun h10 => ?_))))))))))
 ·
  refine sr (Xa rfl (dn ?_))
  exact re rfl func12 rfl (r_t rfl Xc) rfl ⟨_, rfl, rfl, z.ky (kp0.st (tr2 p3 p5) rfl)⟩
 refine sk (sq (sr (fa' fa28_2 rfl (ld' A7 u22 rfl (fa' fa28_2 rfl (ld' B5 u22 rfl (clV 42 rfl func40 rfl (laws_sameFloat.calls a0.F a1.F s5.w (mm [] s5) w0_0 w1_0 (fl_rdf (s := s5) (fl_of h0_0)) (fl_rdf (s := s5) (fl_of h1_0))) (fun r12 s13 p13 n13 => ?_))))))))
 refine Xa rfl (dn (cd rfl (fun h14 => ?_) (fun h14 => ?_)))
 ·
  refine sr (Xa rfl (dn ?_))
  exact re rfl func12 rfl (r_t rfl Xc) rfl ⟨_, rfl, rfl, z.ky (kp0.st (tr3 p3 p5 p13) rfl)⟩
 refine sk (sq (sr (fa' fa28_3 rfl ?_)))
 refine ld' (A7.st p13 rfl) u23 rfl (fa' fa28_3 rfl ?_)
 refine ld' (B5.st p13 rfl) u23 rfl ?_
 have K18 := kp0.st (tr3 p3 p5 p13) rfl
 refine clV 43 rfl func11 rfl (laws_eqByteS.calls a0.T a1.T s13.w (mm [0] s13) w0_1 w1_1 ((z.rd h0_1).kp K18) ((z.rd h1_1).kp K18)) (fun r21 s22 p22 n22 => ?_)
 refine Xa rfl (dn (cd rfl (fun h23 => ?_) (fun h23 => ?_)))
 ·
  refine sr (Xa rfl (dn ?_))
  exact re rfl func12 rfl (r_t rfl Xc) rfl ⟨_, rfl, rfl, z.ky (K18.st p22 rfl)⟩
 refine sk (sr (Xa rfl (dn ?_)))
 exact re rfl func12 rfl (r_t rfl Xc) rfl ⟨_, rfl, rfl, z.ky (K18.st p22 rfl)⟩
def laws_markByteS.b0  (x2 : (List Int) × Int × Int) : Option (((List Int) × Int × Int) ⊕ (Int × (List Int))) :=
 (if (decide (x2.2.2 < (x2.1.length : Int))) = true then (if 0 ≤ x2.2.2 ∧ x2.2.2 < (x2.1.length : Int) then (some (Sum.inl ((x2.1.set (x2.2.2).toNat (IntKind.wrap .u8 x2.2.1)), (IntKind.wrap .i64 (x2.2.1 + (1 : Int))), (IntKind.wrap .i64 (x2.2.2 + (1 : Int)))))) else none) else ((some (x2.2.1, x2.1)).bind fun o => some (Sum.inr o)))
def laws_markByteS.f (a0 : (List Int)) (a1 : Int) : Option (Int × (List Int)) :=
 (iter laws_markByteS.b0 (a0, a1, (0 : Int)))
def laws_markByteS.Q (w : World) (F : Nat → Prop) (os : List Nat) (w0_0 : Value) (r : Int × (List Int)) (v : Value) (w' : World) : Prop :=
 v = (iI r.1) ∧ FW Xg os w w' [w0_0] r.2 ∧ Ky os w w'
theorem laws_markByteS.calls (a0 : (List Int)) (a1 : Int) (w : World) (F : Nat → Prop) (w0_0 : Value) (os : List Nat) (h0_0 : Xg.ow w [w0_0] a0 os) (hn : os.Nodup) (hF : ∀ b, F b → b ∉ os) (r : Int × (List Int)) (m : laws_markByteS.f a0 a1 = some r) :
  Calls prog 14 #[w0_0, (iI a1)] w (RT (laws_markByteS.Q w F os w0_0) r) := by
 obtain ⟨s0, rfl, kp0, z⟩ := start1 w F os hF
 refine Xb (args := [w0_0, (iI a1)]) func14 ntmps14 rfl rfl m ?_
 unfold laws_markByteS.f
 refine sr (Xa rfl (dn (sq (sr (Xa rfl (dn (bl (lpI (fun (x2 : (List Int) × Int × Int) e w => ∃ (s : St) (e0 : Env), w = s.w ∧ e = upd (upd (upd e0 0 w0_0) 1 (iI x2.2.1)) 5 (iI x2.2.2) ∧ Kp s0 s ∧ OwF Xg s [w0_0] x2.1 2) ⟨s0, _, rfl, (ue (ue (ue rfl rfl) rfl) rfl), kp0, (z.ow h0_0 hn)⟩ (fun g2 ih2 => ?_)))))))))
 rintro x2 _ _ ⟨s3, _, rfl, rfl, Kx2, Ax2_0⟩
 unfold laws_markByteS.b0
 refine sq (sr (Xa rfl (mv' w0_0 rfl (ln Ax2_0.rd u23 rfl rfl rfl rfl rfl rfl (Xa rfl (dn (cd rfl (fun h5 => ?_) (fun h5 => ?_))))))))
 ·
  refine sk (sq (bl (sr (mv' w0_0 rfl (Xa rfl (Xa rfl (cv u5 u3 rfl rfl rfl rfl rfl rfl (ix Ax2_0.rd u23 z5 rfl rfl rfl rfl rfl rfl rfl rfl (fun ad6 es6 h0_6 h1_6 he6 ce6 ia6 => ?_)))))))))
  obtain rfl := he6
  refine so (x' := (IntKind.wrap .u8 x2.2.1)) Ax2_0 ia6 h0_6 h1_6 cs_flat z5 rfl rfl rfl rfl rfl rfl (fun s8 p8 A8 => ?_)
  refine dn (rg (Xa rfl (Xa rfl (Xa rfl (dn (ib (rg (Xa rfl (Xa rfl (Xa rfl (dn ?_)))))))))))
  exact lb ih2 ⟨s8, _, rfl, (ue (ue (ue rfl rfl) rfl) rfl), (Kx2.st p8 rfl), A8⟩
 exact xt rfl (sgb (sr (Xa rfl (Xa rfl (dn (re rfl func14 rfl (r_t rfl Xc) rfl ⟨_, rfl, rfl, z.fw Kx2 Ax2_0, z.ky Kx2⟩))))))
def laws_markItem.f (a0 : Item) (a1 : Int) : Option (Int × (List Int)) :=
 ((laws_markByteS.f a0.T a1).bind fun r4 => (some (r4.1, r4.2)))
def laws_markItem.Q (w : World) (F : Nat → Prop) (os : List Nat) (w0_1 : Value) (r : Int × (List Int)) (v : Value) (w' : World) : Prop :=
 v = (iI r.1) ∧ FW Xg os w w' [w0_1] r.2 ∧ Ky os w w'
theorem laws_markItem.calls (a0 : Item) (a1 : Int) (w : World) (F : Nat → Prop) (w0_0 : Value) (w0_1 : Value) (h0_0 : Kd.flt.rd w [w0_0] a0.F F) (os : List Nat) (h0_1 : Xg.ow w [w0_1] a0.T os) (hn : os.Nodup) (hF : ∀ b, F b → b ∉ os) (r : Int × (List Int)) (m : laws_markItem.f a0 a1 = some r) :
  Calls prog 13 #[(.agg #[(iI a0.Kind), (iI a0.N), w0_0, w0_1]), (iI a1)] w (RT (laws_markItem.Q w F os w0_1) r) := by
 obtain ⟨s0, rfl, kp0, z⟩ := start1 w F os hF
 refine Xb (args := [(.agg #[(iI a0.Kind), (iI a0.N), w0_0, w0_1]), (iI a1)]) func13 ntmps13 rfl rfl m ?_
 unfold laws_markItem.f
 refine sr (bx (cs := [(iI a0.Kind), (iI a0.N), w0_0, w0_1]) 40 rfl rfl rfl rfl rfl rfl (fun b2 s2 p2 B2 => ?_))
 refine Xa rfl (dn (sr (fa' fa28_3 rfl (ld' B2 u23 rfl (Xa rfl ?_)))))
 obtain ⟨os4, ho4, hn4, hc4⟩ := (z.ow h0_1 hn).st p2 rfl
 refine cl' rfl func14 rfl (laws_markByteS.calls a0.T a1 s2.w (mm [] s2) w0_1 os4 ho4 hn4 (apart_of hc4 rfl)) ?_
 rintro r4 _ w4 m4 ⟨rfl, w4_, ky4⟩
 obtain ⟨s6, rfl, p6, A6⟩ := nwo 41 hc4 ky4 w4_
 refine Xa rfl (dn (sr (Xa rfl (Xa rfl (dn ?_)))))
 have K8 := kp0.st (tr2 p2 p6) rfl
 exact re rfl func13 rfl (r_t rfl Xc) rfl ⟨_, rfl, rfl, z.fw K8 A6, z.ky K8⟩
def laws_heldByteS.b0 (a0 : (List Int)) (x2 : Int × Int) : Option ((Int × Int) ⊕ Int) :=
 (if (decide (x2.2 < (a0.length : Int))) = true then (if 0 ≤ x2.2 ∧ x2.2 < (a0.length : Int) then (if ((at_ a0 x2.2) != (IntKind.wrap .u8 x2.1)) = true then (some (Sum.inr (-1 : Int))) else (some (Sum.inl ((IntKind.wrap .i64 (x2.1 + (1 : Int))), (IntKind.wrap .i64 (x2.2 + (1 : Int))))))) else none) else ((some x2.1).bind fun o => some (Sum.inr o)))
def laws_heldByteS.f (a0 : (List Int)) (a1 : Int) : Option (Int) :=
 (iter (laws_heldByteS.b0 a0) (a1, (0 : Int)))
def laws_heldByteS.Q (w : World) (F : Nat → Prop) (r : Int) (v : Value) (w' : World) : Prop :=
 v = (iI r) ∧ Ky [] w w'
theorem laws_heldByteS.calls (a0 : (List Int)) (a1 : Int) (w : World) (F : Nat → Prop) (w0_0 : Value) (h0_0 : Xg.rd w [w0_0] a0 F) (r : Int) (m : laws_heldByteS.f a0 a1 = some r) :
  Calls prog 15 #[w0_0, (iI a1)] w (RT (laws_heldByteS.Q w F) r) := by
 obtain ⟨s0, rfl, kp0, z⟩ := start0 w F
 refine Xb (args := [w0_0, (iI a1)]) func15 ntmps15 rfl rfl m ?_
 unfold laws_heldByteS.f
 refine sr (Xa rfl (dn (sq (sr (Xa rfl (dn (bl (lpI (fun (x2 : Int × Int) e w => ∃ (s : St) (e0 : Env), w = s.w ∧ e = upd (upd (upd e0 0 w0_0) 1 (iI x2.1)) 5 (iI x2.2) ∧ Kp s0 s) ⟨s0, _, rfl, (ue (ue (ue rfl rfl) rfl) rfl), kp0⟩ (fun g2 ih2 => ?_)))))))))
 rintro x2 _ _ ⟨s3, _, rfl, rfl, Kx2⟩
 unfold laws_heldByteS.b0
 refine sq (sr (Xa rfl (mv' w0_0 rfl ?_)))
 have A4 := (z.rd h0_0).kp Kx2
 refine ln A4 u23 rfl rfl rfl rfl rfl rfl (Xa rfl (dn (cd rfl (fun h5 => ?_) (fun h5 => ?_))))
 ·
  refine sk (sq (bl (sq (sr (mv' w0_0 rfl (Xa rfl (ix A4 u23 z5 rfl rfl rfl rfl rfl rfl rfl rfl (fun ad6 es6 h0_6 h1_6 he6 ce6 ia6 => ?_))))))))
  obtain rfl := he6
  refine lc0 ce6 u5 rfl rfl rfl rfl rfl rfl rfl rfl (Xa rfl (cv u5 u3 rfl rfl rfl rfl rfl rfl (Xa rfl (dn (cd rfl (fun h8 => ?_) (fun h8 => ?_))))))
  ·
   exact sr (Xa rfl (dn (sgi (re rfl func15 rfl (r_t rfl Xc) rfl ⟨_, rfl, rfl, z.ky Kx2⟩))))
  exact sk (rg (Xa rfl (Xa rfl (Xa rfl (dn (ib (rg (Xa rfl (Xa rfl (Xa rfl (dn (lb ih2 ⟨s3, _, rfl, (ue (ue (ue rfl rfl) rfl) rfl), Kx2⟩))))))))))))
 exact xt rfl (sgb (sr (Xa rfl (Xa rfl (dn (re rfl func15 rfl (r_t rfl Xc) rfl ⟨_, rfl, rfl, z.ky Kx2⟩))))))
def laws_FnExactItemText.f (a0 : Item) : Option (Bool) :=
 ((laws_szItem.f a0 (1048576 : Int)).bind fun r6 => (if (decide (r6 < (0 : Int))) = true then (some true) else ((laws_toItem.f a0).bind fun r13 => ((spec_ItemText.f r13).bind fun r16 => ((laws_toItem.f a0).bind fun r22 => ((impl_ItemText.f r22).bind fun r32 => ((laws_eqByteS.f r32 r16).bind fun r36 => (if (!r36) = true then (some false) else ((laws_toItem.f a0).bind fun r50 => ((laws_eqItem.f r22 r50).bind fun r56 => (if (!r56) = true then (some false) else ((laws_markItem.f r22 (1 : Int)).bind fun r61 => ((if (decide (r61.1 < (0 : Int))) = true then (some true) else ((laws_eqByteS.f r32 r16).bind fun r72 => (some (!r72)))).bind fun y65 => (if y65 = true then (some false) else ((laws_markByteS.f r32 (1 : Int)).bind fun r81 => ((laws_heldByteS.f r81.2 (1 : Int)).bind fun r84 => (if (decide (r84 < (0 : Int))) = true then (some false) else (if (r84 != r81.1) = true then (some false) else ((laws_toItem.f a0).bind fun r93 => ((impl_ItemText.f r93).bind fun r97 => ((laws_eqByteS.f r97 r16).bind fun r101 => (if (!r101) = true then (some false) else ((laws_heldByteS.f r81.2 (1 : Int)).bind fun r106 => (if (decide (r106 < (0 : Int))) = true then (some false) else (if (r106 != r81.1) = true then (some false) else (some true))))))))))))))))))))))))))
def laws_FnExactItemText.Q (w : World) (F : Nat → Prop) (r : Bool) (v : Value) (w' : World) : Prop :=
 v = (.bool r) ∧ Ky [] w w'
theorem laws_FnExactItemText.calls (a0 : Item) (w : World) (F : Nat → Prop) (w0_0 : Value) (w0_1 : Value) (hG : GT.rd w [] () F) (h0_0 : Kd.flt.rd w [w0_0] a0.F F) (h0_1 : Xg.rd w [w0_1] a0.T F) (r : Bool) (m : laws_FnExactItemText.f a0 = some r) :
  Calls prog 3 #[(.agg #[(iI a0.Kind), (iI a0.N), w0_0, w0_1])] w (RT (laws_FnExactItemText.Q w F) r) := by
 obtain ⟨s0, rfl, kp0, z⟩ := start0 w F
 have A0_0 := fl_of h0_0
 have A0_1 := z.rd h0_1
 have AG := z.rd hG
 refine Xb (args := [(.agg #[(iI a0.Kind), (iI a0.N), w0_0, w0_1])]) func3 ntmps3 rfl rfl m ?_
 unfold laws_FnExactItemText.f
 refine sr (bx (cs := [(iI a0.Kind), (iI a0.N), w0_0, w0_1]) 40 rfl rfl rfl rfl rfl rfl (fun b2 s2 p2 B2 => ?_))
 refine Xa rfl (dn (sr (Xa rfl (dn (sr (lda (es := [(iI a0.Kind), (iI a0.N), w0_0, w0_1]) B2 u25 z25 rfl rfl rfl rfl rfl rfl rfl rfl (Xa rfl ?_)))))))
 have K4 := kp0.st p2 rfl
 refine clV 41 rfl func7 rfl (laws_szItem.calls a0 (1048576 : Int) s2.w (mm [0] s2) w0_0 w0_1 ((fl_rdf (s := s2) A0_0).sub (D := [0]) rfl) (A0_1.kp K4)) (fun r6 s7 p7 n7 => ?_)
 refine Xa rfl (dn (sq (sr (Xa rfl (Xa rfl (dn (cd rfl (fun h8 => ?_) (fun h8 => ?_))))))))
 ·
  refine sr (Xa rfl (dn ?_))
  exact re rfl func3 rfl (r_t rfl Xc) rfl ⟨_, rfl, rfl, z.ky (K4.st p7 rfl)⟩
 refine sk (sr ?_)
 have A10 := B2.st p7 rfl
 refine lda (es := [(iI a0.Kind), (iI a0.N), w0_0, w0_1]) A10 u25 z25 rfl rfl rfl rfl rfl rfl rfl rfl ?_
 have K11 := K4.st p7 rfl
 refine cl' rfl func9 rfl (laws_toItem.calls a0 s7.w (mm [0] s7) w0_0 w0_1 ((fl_rdf (s := s7) A0_0).sub (D := [0]) rfl) (A0_1.kp K11)) ?_
 rintro r13 _ w13 m13 ⟨v13_0, v13_1, rfl, f13_0, ky13⟩
 obtain ⟨s14, rfl, p14, n14⟩ := nwx s7 w13 42 ky13
 obtain ⟨hu13_0_0, Au13_0_1⟩ := ap28 (f13_0.c n14)
 refine clO 43 rfl func8 rfl (spec_ItemText.calls r13 s14.w (mm [42] s14) v13_0 v13_1 ((fl_rdf (s := s14) hu13_0_0).sub (D := [42]) rfl) Au13_0_1.rd) (fun r16 v16_0 s17 p17 A16_0 => ?_)
 refine asg' v16_0 rfl (dn (sr ?_))
 have A19 := A10.st (tr2 p14 p17) rfl
 refine lda (es := [(iI a0.Kind), (iI a0.N), w0_0, w0_1]) A19 u25 z25 rfl rfl rfl rfl rfl rfl rfl rfl ?_
 have K20 := K11.st (tr2 p14 p17) rfl
 refine cl' rfl func9 rfl (laws_toItem.calls a0 s17.w (mm [0] s17) w0_0 w0_1 ((fl_rdf (s := s17) A0_0).sub (D := [0]) rfl) (A0_1.kp K20)) ?_
 rintro r22 _ w22 m22 ⟨v22_0, v22_1, rfl, f22_0, ky22⟩
 obtain ⟨s23, rfl, p23, n23⟩ := nwx s17 w22 44 ky22
 obtain ⟨hu22_0_0, Au22_0_1⟩ := ap28 (f22_0.c n23)
 refine al (cs := [(iI 0), (iI 0), (.float .f64 0), (.slice none 0 0)]) 45 rfl rfl rfl rfl rfl o28 rfl (fun b25 s25 p25 B25 => ?_)
 have A27 := Au22_0_1.st p25 rfl
 refine sva (vs := [(iI r22.Kind), (iI r22.N), v22_0, v22_1]) B25 z28 rfl rfl rfl rfl rfl rfl (on_cons rfl (on_cons rfl (on_cons (FL.one hu22_0_0) (on_cons A27.rd.one on_nil)))) rfl (fun s28 p28 B28 => ?_)
 refine dn (sr (lda (es := [(iI r22.Kind), (iI r22.N), v22_0, v22_1]) B28 u28 z28 rfl rfl rfl rfl rfl rfl rfl rfl ?_))
 have A30 := A27.st p28 rfl
 have K31 := K20.st (tr3 p23 p25 p28) rfl
 refine clO 46 rfl func10 rfl (impl_ItemText.calls r22 s28.w (mm [44, 0] s28) v22_0 v22_1 ((AG.kp K31).sub (D := [44, 0]) rfl) ((fl_rdf (s := s28) hu22_0_0).sub (D := [44, 0]) rfl) (A30.rd.sub (D := [44, 0]) rfl)) (fun r32 v32_0 s33 p33 A32_0 => ?_)
 refine asg' v32_0 rfl (dn (sq (sr (mv' v32_0 rfl (mv' v16_0 rfl ?_)))))
 have A35 := A16_0.st (tr4 p23 p25 p28 p33) rfl
 refine clV 47 rfl func11 rfl (laws_eqByteS.calls r32 r16 s33.w (mm [46, 43] s33) v32_0 v16_0 (A32_0.rd.sub (D := [46, 43]) rfl) (A35.rd.sub (D := [46, 43]) rfl)) (fun r36 s37 p37 n37 => ?_)
 refine Xa rfl (dn (cd rfl (fun h38 => ?_) (fun h38 => ?_)))
 ·
  refine sr (Xa rfl (dn ?_))
  exact re rfl func3 rfl (r_t rfl Xc) rfl ⟨_, rfl, rfl, z.ky (K31.st (tr2 p33 p37) rfl)⟩
 refine sk (sq (sq (zdraw [[], [], [1], [0, 2, 2], [3]] [some 27, some 28, some 29, some 30, some 31] [[5], [1], [28], [27, 29], [30]] [0, 1, 2, 3, 4] ⟨by kernel_rfl, by kernel_rfl, by kernel_rfl⟩ (by kernel_rfl) (fun s40 p40 l40 tb40 zd40 => ?_))))
 refine zstep 2 [some 27] tb40 ((zd40.add 0 27 (.agg #[(iI r22.Kind), (iI r22.N), v22_0, v22_1]) rfl).add 1 28 (.agg #[(iI a0.Kind), (iI a0.N), w0_0, w0_1]) rfl) (Xe (lda_q (es := [(iI a0.Kind), (iI a0.N), w0_0, w0_1]) (A19.st (tr6 p23 p25 p28 p33 p37 p40) rfl) u25 z25 rfl rfl rfl rfl rfl rfl rfl rfl) rfl (Xe (lda_q (es := [(iI r22.Kind), (iI r22.N), v22_0, v22_1]) (B28.st (tr3 p33 p37 p40) rfl) u28 z28 rfl rfl rfl rfl rfl rfl rfl rfl) rfl pq_nil)) (by kernel_rfl) rfl (fun l45 e45 zd45 => ?_)
 have K48 := K31.st (tr3 p33 p37 p40) rfl
 refine cl' rfl func9 rfl (laws_toItem.calls a0 s40.w (mm [0] s40) w0_0 w0_1 ((fl_rdf (s := s40) A0_0).sub (D := [0]) rfl) (A0_1.kp K48)) ?_
 rintro r50 _ w50 m50 ⟨v50_0, v50_1, rfl, f50_0, ky50⟩
 obtain ⟨s51, rfl, p51, n51⟩ := nwx s40 w50 48 ky50
 obtain ⟨hu50_0_0, Au50_0_1⟩ := ap28 (f50_0.c n51)
 refine zdone (L' := [0]) (D' := [1, 2]) zd45 rfl rfl rfl (fun zd53 => ?_)
 refine zfin [3, 4] tb40 zd53 (Xe (lda_q (es := [(iI r22.Kind), (iI r22.N), v22_0, v22_1]) (B28.st (tr4 p33 p37 p40 p51) rfl) u28 z28 rfl rfl rfl rfl rfl rfl rfl rfl) rfl pq_nil) (by kernel_rfl) (by decide) ?_
 have A55 := A30.st (tr4 p33 p37 p40 p51) rfl
 refine clV 49 rfl func12 rfl (laws_eqItem.calls r22 r50 s51.w (mm [44, 48] s51) v22_0 v22_1 v50_0 v50_1 ((fl_rdf (s := s51) hu22_0_0).sub (D := [44, 48]) rfl) (A55.rd.sub (D := [44, 48]) rfl) ((fl_rdf (s := s51) hu50_0_0).sub (D := [44, 48]) rfl) (Au50_0_1.rd.sub (D := [44, 48]) rfl)) (fun r56 s57 p57 n57 => ?_)
 refine Xa rfl (dn (cd rfl (fun h58 => ?_) (fun h58 => ?_)))
 ·
  refine sr (Xa rfl (dn ?_))
  exact re rfl func3 rfl (r_t rfl Xc) rfl ⟨_, rfl, rfl, z.ky (K48.st (tr2 p51 p57) rfl)⟩
 refine sk (sr (Xa rfl (dn (sr ?_))))
 refine lda (es := [(iI r22.Kind), (iI r22.N), v22_0, v22_1]) (B28.st (tr5 p33 p37 p40 p51 p57) rfl) u28 z28 rfl rfl rfl rfl rfl rfl rfl rfl (Xa rfl ?_)
 obtain ⟨os61, ho61, hn61, hc61⟩ := A55.st p57 rfl
 refine cl' rfl func13 rfl (laws_markItem.calls r22 (1 : Int) s57.w (mm [] s57) v22_0 v22_1 (fl_rdf (s := s57) hu22_0_0) os61 ho61 hn61 (apart_of hc61 rfl)) ?_
 rintro r61 _ w61 m61 ⟨rfl, w61_, ky61⟩
 obtain ⟨s63, rfl, p63, A63⟩ := nwo 50 hc61 ky61 w61_
 refine Xa rfl (dn (sq (sr (Xa rfl (Xa rfl (Xa rfl (ji [] (fun (y65 : Bool) e w => ∃ (s : St) (e0 : Env), w = s.w ∧ e = upd (upd (upd (upd e0 1 (pB b2)) 4 v16_0) 6 v32_0) 42 (.bool y65) ∧ Kp s0 s ∧ BlF s b2 25 [(iI a0.Kind), (iI a0.N), w0_0, w0_1] 40 ∧ OwF Xg s [v16_0] r16 43 ∧ OwF Xg s [v32_0] r32 46) (fun Gj65 Kj65 => ?_) ?_)))))))
 ·
  rcases bft (decide (r61.1 < (0 : Int))) with hb65 | hb65
  ·
   refine sbT hb65 ?_
   rw [if_pos hb65]
   refine uw' rfl (uw' rfl (uw' rfl (uw' rfl (Xa rfl ?_))))
   exact Kj65 _ _ _ ⟨s63, _, rfl, (ue (ue (ue (ue rfl rfl) rfl) rfl) rfl), (K48.st (tr3 p51 p57 p63) rfl), (A19.st (tr9 p23 p25 p28 p33 p37 p40 p51 p57 p63) rfl), (A35.st (tr5 p37 p40 p51 p57 p63) rfl), (A32_0.st (tr5 p37 p40 p51 p57 p63) rfl)⟩
  refine sbT hb65 ?_
  rw [if_neg (by rw [hb65]; decide)]
  refine mv' v32_0 rfl (mv' v16_0 rfl ?_)
  have A70 := A32_0.st (tr5 p37 p40 p51 p57 p63) rfl
  have A71 := A35.st (tr5 p37 p40 p51 p57 p63) rfl
  refine clV 51 rfl func11 rfl (laws_eqByteS.calls r32 r16 s63.w (mm [46, 43] s63) v32_0 v16_0 (A70.rd.sub (D := [46, 43]) rfl) (A71.rd.sub (D := [46, 43]) rfl)) (fun r72 s73 p73 n73 => ?_)
  refine Xa rfl (Xa rfl ?_)
  exact Kj65 _ _ _ ⟨s73, _, rfl, (ue (ue (ue (ue rfl rfl) rfl) rfl) rfl), (K48.st (tr4 p51 p57 p63 p73) rfl), (A19.st (tr10 p23 p25 p28 p33 p37 p40 p51 p57 p63 p73) rfl), (A71.st p73 rfl), (A70.st p73 rfl)⟩
 rintro y65 _ _ ⟨s78, _, rfl, rfl, Ky65, By65_b2, Cy65_18, Cy65_34⟩
 refine dn (cd rfl (fun h80 => ?_) (fun h80 => ?_))
 ·
  exact sr (Xa rfl (dn (re rfl func3 rfl (r_t rfl Xc) rfl ⟨_, rfl, rfl, z.ky Ky65⟩)))
 refine sk (sr (Xa rfl (dn (sr (mv' v32_0 rfl (Xa rfl ?_))))))
 obtain ⟨os81, ho81, hn81, hc81⟩ := Cy65_34
 refine cl' rfl func14 rfl (laws_markByteS.calls r32 (1 : Int) s78.w (mm [] s78) v32_0 os81 ho81 hn81 (apart_of hc81 rfl)) ?_
 rintro r81 _ w81 m81 ⟨rfl, w81_, ky81⟩
 obtain ⟨s82, rfl, p82, A82⟩ := nwo 52 hc81 ky81 w81_
 refine Xa rfl (dn (sr (Xa rfl (dn (sr (mv' v32_0 rfl (Xa rfl (clV 53 rfl func15 rfl (laws_heldByteS.calls r81.2 (1 : Int) s82.w (mm [46] s82) v32_0 A82.rd) (fun r84 s85 p85 n85 => ?_)))))))))
 refine Xa rfl (dn (sq (sr (Xa rfl (Xa rfl (dn (cd rfl (fun h86 => ?_) (fun h86 => ?_))))))))
 ·
  refine sr (Xa rfl (dn ?_))
  exact re rfl func3 rfl (r_t rfl Xc) rfl ⟨_, rfl, rfl, z.ky (Ky65.st (tr2 p82 p85) rfl)⟩
 refine sk (sq (sr (Xa rfl (Xa rfl (Xa rfl (dn (cd rfl (fun h88 => ?_) (fun h88 => ?_))))))))
 ·
  refine sr (Xa rfl (dn ?_))
  exact re rfl func3 rfl (r_t rfl Xc) rfl ⟨_, rfl, rfl, z.ky (Ky65.st (tr2 p82 p85) rfl)⟩
 refine sk (sr ?_)
 refine lda (es := [(iI a0.Kind), (iI a0.N), w0_0, w0_1]) (By65_b2.st (tr2 p82 p85) rfl) u25 z25 rfl rfl rfl rfl rfl rfl rfl rfl ?_
 have K91 := Ky65.st (tr2 p82 p85) rfl
 refine cl' rfl func9 rfl (laws_toItem.calls a0 s85.w (mm [0] s85) w0_0 w0_1 ((fl_rdf (s := s85) A0_0).sub (D := [0]) rfl) (A0_1.kp K91)) ?_
 rintro r93 _ w93 m93 ⟨v93_0, v93_1, rfl, f93_0, ky93⟩
 obtain ⟨s94, rfl, p94, n94⟩ := nwx s85 w93 54 ky93
 obtain ⟨hu93_0_0, Au93_0_1⟩ := ap28 (f93_0.c n94)
 have K96 := K91.st p94 rfl
 refine clO 55 rfl func10 rfl (impl_ItemText.calls r93 s94.w (mm [54, 0] s94) v93_0 v93_1 ((AG.kp K96).sub (D := [54, 0]) rfl) ((fl_rdf (s := s94) hu93_0_0).sub (D := [54, 0]) rfl) (Au93_0_1.rd.sub (D := [54, 0]) rfl)) (fun r97 v97_0 s98 p98 A97_0 => ?_)
 refine asg' v97_0 rfl (dn (sq (sr (mv' v97_0 rfl (mv' v16_0 rfl ?_)))))
 refine clV 56 rfl func11 rfl (laws_eqByteS.calls r97 r16 s98.w (mm [55, 43] s98) v97_0 v16_0 (A97_0.rd.sub (D := [55, 43]) rfl) ((Cy65_18.st (tr4 p82 p85 p94 p98) rfl).rd.sub (D := [55, 43]) rfl)) (fun r101 s102 p102 n102 => ?_)
 refine Xa rfl (dn (cd rfl (fun h103 => ?_) (fun h103 => ?_)))
 ·
  refine sr (Xa rfl (dn ?_))
  exact re rfl func3 rfl (r_t rfl Xc) rfl ⟨_, rfl, rfl, z.ky (K96.st (tr2 p98 p102) rfl)⟩
 refine sk (sr (Xa rfl (dn (sr (mv' v32_0 rfl (Xa rfl ?_))))))
 refine clV 57 rfl func15 rfl (laws_heldByteS.calls r81.2 (1 : Int) s102.w (mm [46] s102) v32_0 (A82.st (tr4 p85 p94 p98 p102) rfl).rd) (fun r106 s107 p107 n107 => ?_)
 refine Xa rfl (dn (sq (sr (Xa rfl (Xa rfl (dn (cd rfl (fun h108 => ?_) (fun h108 => ?_))))))))
 ·
  refine sr (Xa rfl (dn ?_))
  exact re rfl func3 rfl (r_t rfl Xc) rfl ⟨_, rfl, rfl, z.ky (K96.st (tr3 p98 p102 p107) rfl)⟩
 refine sk (sq (sr (Xa rfl (Xa rfl (Xa rfl (dn (cd rfl (fun h110 => ?_) (fun h110 => ?_))))))))
 ·
  refine sr (Xa rfl (dn ?_))
  exact re rfl func3 rfl (r_t rfl Xc) rfl ⟨_, rfl, rfl, z.ky (K96.st (tr3 p98 p102 p107) rfl)⟩
 refine sk (sr (Xa rfl (dn ?_)))
 exact re rfl func3 rfl (r_t rfl Xc) rfl ⟨_, rfl, rfl, z.ky (K96.st (tr3 p98 p102 p107) rfl)⟩
end Go.Proofs.YtiofnjnnocjbhaaDoor
