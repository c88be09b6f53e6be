/- The functions as models, and that the calls come to what the models tell. -/
import Derived.Test.YtiofnjnnocjbhaaDoorGt
import Derived.Shelf.Strconv.Itoa3
import Derived.Shelf.Lay
import Derived.Ground.NamesProg
import Derived.Shelf.Strings.OnBuilder
set_option linter.unusedVariables false
set_option linter.unusedSimpArgs false
set_option maxHeartbeats 4000000
set_option maxRecDepth 100000
noncomputable section
namespace Go.Proofs.YtiofnjnnocjbhaaDoor
open Go V Tryd
def laws_szByteS.f (a0 : (List Int)) (a1 : Int) : Option (Int) :=
 (if (decide ((IntKind.wrap .i64 (a1 - (a0.length : Int))) < (0 : Int))) = true then (some (-1 : Int)) else (some (IntKind.wrap .i64 (a1 - (a0.length : Int)))))
def laws_szByteS.Q (w : World) (F : Nat → Prop) (r : Int) (v : Value) (w' : World) : Prop :=
 v = (iI r) ∧ Ky [] w w'
theorem laws_szByteS.calls (a0 : (List Int)) (a1 : Int) (w : World) (F : Nat → Prop) (w0_0 : Value) (h0_0 : Xp.rd w [w0_0] a0 F) (r : Int) (m : laws_szByteS.f a0 a1 = some r) :
  Calls prog 32 #[w0_0, (iI a1)] w (RT (laws_szByteS.Q w F) r) := by
 obtain ⟨s0, rfl, kp0, z⟩ := Xh w F
 refine Xb (args := [w0_0, (iI a1)]) func32 ntmps32 rfl rfl m ?_
 unfold laws_szByteS.f
 refine sr (Xa rfl (dn (sr (Xa rfl (Xo w0_0 rfl (ln' (z.rd h0_0) u23 rfl (Xa rfl (Xa rfl (dn (sq (sr (Xa rfl (Xa rfl (dn ?_))))))))))))))
 refine cd rfl (fun h2 => ?_) (fun h2 => ?_)
 ·
  exact sr (Xa rfl (dn (re rfl func32 rfl (r_t rfl Xe) rfl ⟨_, rfl, rfl, z.ky kp0⟩)))
 exact sk (sr (Xa rfl (Xa rfl (dn (re rfl func32 rfl (r_t rfl Xe) rfl ⟨_, rfl, rfl, z.ky kp0⟩)))))
def laws_szItem.f (a0 : Item) (a1 : Int) : Option (Int) :=
 ((laws_szByteS.f a0.T a1).bind fun r6 => (if (decide (r6 < (0 : Int))) = true then (some (-1 : Int)) else (some r6)))
def laws_szItem.Q (w : World) (F : Nat → Prop) (r : Int) (v : Value) (w' : World) : Prop :=
 v = (iI r) ∧ Ky [] w w'
theorem laws_szItem.calls (a0 : Item) (a1 : Int) (w : World) (F : Nat → Prop) (w0_0 : Value) (w0_1 : Value) (h0_0 : Kd.flt.rd w [w0_0] a0.F F) (h0_1 : Xp.rd w [w0_1] a0.T F) (r : Int) (m : laws_szItem.f a0 a1 = some r) :
  Calls prog 7 #[(.agg #[(iI a0.Kind), (iI a0.N), w0_0, w0_1]), (iI a1)] w (RT (laws_szItem.Q w F) r) := by
 obtain ⟨s0, rfl, kp0, z⟩ := Xh w F
 refine Xb (args := [(.agg #[(iI a0.Kind), (iI a0.N), w0_0, w0_1]), (iI a1)]) func7 ntmps7 rfl rfl m ?_
 unfold laws_szItem.f
 refine sr (bx' (cs := [(iI a0.Kind), (iI a0.N), w0_0, w0_1]) 40 rfl (fun b2 s2 p2 B2 => ?_))
 refine Xa rfl (dn (sr (Xl fa25_3 rfl (ld' B2 u23 rfl (Xa rfl ?_)))))
 have K4 := kp0.st p2 rfl
 refine clV 41 rfl func32 rfl (laws_szByteS.calls a0.T a1 s2.w (mm [0] s2) w0_1 ((z.rd h0_1).kp K4)) (fun r6 s7 p7 n7 => ?_)
 refine Xa rfl (dn (sq (sr (Xa rfl (Xa rfl (dn (cd rfl (fun h8 => ?_) (fun h8 => ?_))))))))
 ·
  refine sr (Xa rfl (dn ?_))
  exact re rfl func7 rfl (r_t rfl Xe) rfl ⟨_, rfl, rfl, z.ky (K4.st p7 rfl)⟩
 refine sk (sr (Xa rfl (Xa rfl (dn ?_))))
 exact re rfl func7 rfl (r_t rfl Xe) rfl ⟨_, rfl, rfl, z.ky (K4.st p7 rfl)⟩
def laws_toByteS.b0 (a0 : (List Int)) (x4 : (List Int) × Int) : Option (((List Int) × Int) ⊕ (List Int)) :=
 (if (decide (x4.2 < (a0.length : Int))) = true then (if 0 ≤ x4.2 ∧ x4.2 < (a0.length : Int) then (if 0 ≤ x4.2 ∧ x4.2 < (x4.1.length : Int) then (some (Sum.inl ((x4.1.set (x4.2).toNat (at_ a0 x4.2)), (IntKind.wrap .i64 (x4.2 + (1 : Int)))))) else none) else none) else ((some x4.1).bind fun o => some (Sum.inr o)))
def laws_toByteS.f (a0 : (List Int)) : Option ((List Int)) :=
 (if 0 ≤ (a0.length : Int) ∧ (a0.length : Int) ≤ (Lim : Int) then (iter (laws_toByteS.b0 a0) ((List.replicate ((a0.length : Int)).toNat (0 : Int)), (0 : Int))) else none)
def laws_toByteS.Q (w : World) (F : Nat → Prop) (r : (List Int)) (v : Value) (w' : World) : Prop :=
 FO Xp w w' [v] r ∧ Ky [] w w'
theorem laws_toByteS.calls (a0 : (List Int)) (w : World) (F : Nat → Prop) (w0_0 : Value) (h0_0 : Xp.rd w [w0_0] a0 F) (r : (List Int)) (m : laws_toByteS.f a0 = some r) :
  Calls prog 29 #[w0_0] w (RT (laws_toByteS.Q w F) r) := by
 obtain ⟨s0, rfl, kp0, z⟩ := Xh w F
 have A0_0 := z.rd h0_0
 refine Xb (args := [w0_0]) func29 ntmps29 rfl rfl m ?_
 unfold laws_toByteS.f
 refine sr (Xa rfl (dn (sr (Xo w0_0 rfl (ln' A0_0 u23 rfl (mk (x0 := (0 : Int)) (K := (Kd.int .u8)) 40 sl23 o5 (fun _ => ⟨rfl, rfl⟩) rfl rfl rfl rfl rfl rfl rfl (fun v2 s2 p2 A2 => ?_)))))))
 refine Xn v2 rfl (dn (sq (sr (Xa rfl (dn (bl ?_))))))
 refine lpI (fun (x4 : (List Int) × Int) e w => ∃ (s : St) (e0 : Env), w = s.w ∧ e = upd (upd (upd e0 0 w0_0) 3 v2) 4 (iI x4.2) ∧ Kp s0 s ∧ OwF Xp s [v2] x4.1 40) ⟨s2, _, rfl, (ue (ue (ue rfl rfl) rfl) rfl), (kp0.st p2 rfl), A2⟩ (fun g4 ih4 => ?_)
 rintro x4 _ _ ⟨s6, _, rfl, rfl, Kx4, Ax4_0⟩
 unfold laws_toByteS.b0
 refine sq (sr (Xa rfl (Xo w0_0 rfl ?_)))
 have A8 := A0_0.kp Kx4
 refine ln' A8 u23 rfl (Xa rfl (dn (cd rfl (fun h9 => ?_) (fun h9 => ?_))))
 ·
  refine sk (sq (bl (rg (Xo v2 rfl (Xa rfl (Xo w0_0 rfl (Xa rfl (ix' A8 u23 z5 rfl (fun ad10 es10 h0_10 h1_10 he10 ce10 ia10 => ?_)))))))))
  obtain rfl := he10
  refine lc0 ce10 u5 rfl rfl rfl rfl rfl rfl rfl rfl (ix' Ax4_0.rd u23 z5 rfl (fun ad12 es12 h0_12 h1_12 he12 ce12 ia12 => ?_))
  obtain rfl := he12
  refine so (x' := (at_ a0 x4.2)) Ax4_0 ia12 h0_12 h1_12 cs_flat z5 rfl rfl rfl rfl rfl rfl (fun s14 p14 A14 => ?_)
  refine dn (ib (rg (Xa rfl (Xa rfl (Xa rfl (dn ?_))))))
  exact lb ih4 ⟨s14, _, rfl, (ue (ue (ue rfl rfl) rfl) rfl), (Kx4.st p14 rfl), A14⟩
 exact xt rfl (sgb (sr (Xo v2 rfl (Xn v2 rfl (dn (re rfl func29 rfl (r_t rfl Xe) rfl ⟨_, rfl, Ax4_0.fo Kx4 rfl z.l, z.ky Kx4⟩))))))
def laws_toItem.f (a0 : Item) : Option (Item) :=
 ((laws_toByteS.f a0.T).bind fun r20 => (some (Item.mk a0.Kind a0.N a0.F r20)))
def laws_toItem.Q (w : World) (F : Nat → Prop) (r : Item) (v : Value) (w' : World) : Prop :=
 ∃ (v0 : Value) (v1 : Value), v = (.agg #[(iI r.Kind), (iI r.N), v0, v1]) ∧ FO kd28 w w' [(iI r.Kind), (iI r.N), v0, v1] r ∧ Ky [] w w'
theorem laws_toItem.calls (a0 : Item) (w : World) (F : Nat → Prop) (w0_0 : Value) (w0_1 : Value) (h0_0 : Kd.flt.rd w [w0_0] a0.F F) (h0_1 : Xp.rd w [w0_1] a0.T F) (r : Item) (m : laws_toItem.f a0 = some r) :
  Calls prog 9 #[(.agg #[(iI a0.Kind), (iI a0.N), w0_0, w0_1])] w (RT (laws_toItem.Q w F) r) := by
 obtain ⟨s0, rfl, kp0, z⟩ := Xh w F
 have A0_0 := Xm h0_0
 refine Xb (args := [(.agg #[(iI a0.Kind), (iI a0.N), w0_0, w0_1])]) func9 ntmps9 rfl rfl m ?_
 unfold laws_toItem.f
 refine sr (bx' (cs := [(iI a0.Kind), (iI a0.N), w0_0, w0_1]) 40 rfl (fun b2 s2 p2 B2 => ?_))
 refine al (cs := [(iI 0), (iI 0), (.float .f64 0), (.slice none 0 0)]) 41 rfl rfl rfl rfl rfl o28 rfl (fun b4 s4 p4 B4 => ?_)
 refine dn (sr (al (cs := [(iI 0), (iI 0), (.float .f64 0), (.slice none 0 0)]) 42 rfl rfl rfl rfl rfl o28 rfl (fun b6 s6 p6 B6 => ?_)))
 refine dn (sr (Xl fa25_0 rfl ?_))
 have A8 := B2.st (tr2 p4 p6) rfl
 refine ld' A8 u3 rfl (Xl fa28_0 rfl (sv B6 z3 rfl rfl rfl rfl rfl rfl rfl rfl (fun s9 p9 B9 => ?_)))
 refine dn (sr (Xl fa25_1 rfl ?_))
 have A11 := A8.st p9 rfl
 refine ld' A11 u3 rfl (Xl fa28_1 rfl (sv B9 z3 rfl rfl rfl rfl rfl rfl rfl rfl (fun s12 p12 B12 => ?_)))
 refine dn (sr (Xl fa25_2 rfl ?_))
 have A14 := A11.st p12 rfl
 refine ld' A14 u22 rfl (Xl fa28_2 rfl (sv B12 z22 rfl rfl rfl rfl rfl rfl (FL.one A0_0) rfl (fun s15 p15 B15 => ?_)))
 refine dn (sr (Xl fa25_3 rfl ?_))
 refine ld' (A14.st p15 rfl) u23 rfl ?_
 have K18 := kp0.st (tr6 p2 p4 p6 p9 p12 p15) rfl
 refine clO 43 rfl func29 rfl (laws_toByteS.calls a0.T s15.w (mm [0] s15) w0_1 ((z.rd h0_1).kp K18)) (fun r20 v20_0 s21 p21 A20_0 => ?_)
 refine Xl fa28_3 rfl (sv (B15.st p21 rfl) z23 rfl rfl rfl rfl rfl rfl A20_0.rd.one rfl (fun s24 p24 B24 => ?_))
 refine dn (sr (lda' (es := [(iI a0.Kind), (iI a0.N), w0_0, v20_0]) B24 u28 z28 rfl ?_))
 have A27 := A20_0.st p24 rfl
 refine sva (vs := [(iI a0.Kind), (iI a0.N), w0_0, v20_0]) (B4.st (tr6 p6 p9 p12 p15 p21 p24) rfl) z28 rfl rfl rfl rfl rfl rfl (Xd rfl (Xd rfl (Xd (FL.one A0_0) (Xd A27.rd.one on_nil)))) rfl (fun s28 p28 B28 => ?_)
 refine dn ?_
 have A30 : OwF kd28 s28 [(iI a0.Kind), (iI a0.N), w0_0, v20_0] (Item.mk a0.Kind a0.N a0.F r20) 43 := (ow_isoz (fun x : Item => (x.Kind, x.N, x.F, x.T)) (Item.mk a0.Kind a0.N a0.F r20) (ow_l (Xk .i64 a0.Kind) (ow_l (Xk .i64 a0.N) (ow_l (fz_flt A0_0) (A27.st p28 rfl)))))
 have K33 := K18.st (tr3 p21 p24 p28) rfl
 exact re rfl func9 rfl (r_b B28 u28 rfl z28 rfl Xe) rfl ⟨_, rfl, w0_0, v20_0, rfl, A30.fo K33 rfl z.l, z.ky K33⟩
def spec_FloatBits.b1 (y8 : Int × Nat) (x19 : Nat × Int) : Option ((Nat × Int) ⊕ Int) :=
 (if ((fcmp .f64 x19.1 (4607182418800017408 : Nat) == some .lt) && (decide (x19.2 > (-1022 : Int)))) = true then (some (Sum.inl ((far .mul x19.1 (4611686018427387904 : Nat)), (IntKind.wrap .i64 (x19.2 - (1 : Int)))))) else ((if (fcmp .f64 x19.1 (4607182418800017408 : Nat) == some .lt) = true then ((floatToIntVal .f64 (far .mul x19.1 (4841369599423283200 : Nat)) .u64).bind fun r27 => (some (ior .u64 y8.1 r27))) else ((floatToIntVal .f64 (far .mul (far .sub x19.1 (4607182418800017408 : Nat)) (4841369599423283200 : Nat)) .u64).bind fun r31 => (some (ior .u64 (ior .u64 y8.1 (ishl .u64 (IntKind.wrap .u64 (IntKind.wrap .i64 (x19.2 + (1023 : Int)))) (52 : Int))) r31)))).bind fun o => some (Sum.inr o)))
def spec_FloatBits.b0 (y8 : Int × Nat) (x14 : Nat × Int) : Option ((Nat × Int) ⊕ Int) :=
 (if (fcmp .f64 x14.1 (4611686018427387904 : Nat) == some .gt || fcmp .f64 x14.1 (4611686018427387904 : Nat) == some .eq) = true then (some (Sum.inl ((far .quo x14.1 (4611686018427387904 : Nat)), (IntKind.wrap .i64 (x14.2 + (1 : Int)))))) else ((iter (spec_FloatBits.b1 y8) (x14.1, x14.2)).bind fun o => some (Sum.inr o)))
def spec_FloatBits.f (a0 : Nat) : Option (Int) :=
 (if (fcmp .f64 a0 a0 != some .eq) = true then (some (9221120237041090560 : Int)) else ((if (fcmp .f64 a0 (0 : Nat) == some .lt) = true then (some true) else ((if (fcmp .f64 a0 (0 : Nat) == some .eq) = true then (some (fcmp .f64 (far .quo (4607182418800017408 : Nat) a0) (0 : Nat) == some .lt)) else (some false)).bind fun y3 => (some y3))).bind fun y2 => ((if y2 = true then (some ((9223372036854775808 : Int), (fneg a0))) else (some ((0 : Int), a0))).bind fun y8 => (if (fcmp .f64 y8.2 (0 : Nat) == some .eq) = true then (some y8.1) else (if (fcmp .f64 y8.2 (9218868437227405311 : Nat) == some .gt) = true then (some (ior .u64 y8.1 (9218868437227405312 : Int))) else (iter (spec_FloatBits.b0 y8) (y8.2, (0 : Int))))))))
def spec_FloatBits.Q (w : World) (F : Nat → Prop) (r : Int) (v : Value) (w' : World) : Prop :=
 v = (.int .u64 r) ∧ Ky [] w w'
theorem spec_FloatBits.calls (a0 : Nat) (w : World) (F : Nat → Prop) (w0_0 : Value) (h0_0 : Kd.flt.rd w [w0_0] a0 F) (r : Int) (m : spec_FloatBits.f a0 = some r) :
  Calls prog 37 #[w0_0] w (RT (spec_FloatBits.Q w F) r) := by
 obtain ⟨s0, rfl, kp0, z⟩ := Xh w F
 have A0_0 := Xm h0_0
 refine Xb (args := [w0_0]) func37 ntmps37 rfl rfl m ?_
 unfold spec_FloatBits.f
 refine sr (Xa rfl (dn (sq (sr (Xo w0_0 rfl (Xo w0_0 rfl (fq_' A0_0 A0_0 rfl (dn (cd rfl (fun h1 => ?_) (fun h1 => ?_))))))))))
 ·
  exact sr (Xa rfl (dn (re rfl func37 rfl (r_t rfl Xe) rfl ⟨_, rfl, rfl, z.ky kp0⟩)))
 refine sk (sr (Xa rfl (dn (sr (Xo w0_0 rfl (Xn w0_0 rfl (dn (sq (sr (Xo w0_0 rfl (fq_' A0_0 (fl_c rfl) rfl (Xa rfl (ji [] (fun (y2 : Bool) e w => ∃ (s : St) (e0 : Env), w = s.w ∧ e = upd (upd (upd (upd e0 0 w0_0) 3 (.int .u64 (0 : Int))) 4 w0_0) 20 (.bool y2) ∧ Kp s0 s) (fun Gj2 Kj2 => ?_) ?_)))))))))))))
 ·
  rcases bft (fcmp .f64 a0 (0 : Nat) == some .lt) with hb2 | hb2
  ·
   refine sbT hb2 ?_
   rw [if_pos hb2]
   exact Xj rfl (Xj rfl (Xj rfl (Xj rfl (Xj rfl (Xj rfl (Xj rfl (Xa rfl (Kj2 _ _ _ ⟨s0, _, rfl, (ue (ue (ue (ue rfl rfl) rfl) rfl) rfl), kp0⟩))))))))
  refine sbT hb2 ?_
  rw [if_neg (by rw [hb2]; decide)]
  refine Xo w0_0 rfl (fq_' A0_0 (fl_c rfl) rfl (Xa rfl (ji [10] (fun (y3 : Bool) e w => ∃ (s : St) (e0 : Env), w = s.w ∧ e = upd (upd (upd (upd (upd e0 0 w0_0) 3 (.int .u64 (0 : Int))) 4 w0_0) 12 (.bool false)) 19 (.bool y3) ∧ Kp s0 s) (fun Gj3 Kj3 => ?_) ?_)))
  ·
   rcases bft (fcmp .f64 a0 (0 : Nat) == some .eq) with hb3 | hb3
   ·
    refine sbT hb3 ?_
    rw [if_pos hb3]
    refine Xo w0_0 rfl (fa_ (fl_c rfl) A0_0 (by simp) rfl rfl rfl rfl rfl rfl rfl (fun v4 s4 p4 A4 => ?_))
    refine fq_' A4 (fl_c rfl) rfl (Xa rfl ?_)
    exact Kj3 _ _ _ ⟨s4, _, rfl, (ue (ue (ue (ue (ue rfl rfl) rfl) rfl) rfl) rfl), (kp0.st p4 rfl)⟩
   refine sbT hb3 ?_
   rw [if_neg (by rw [hb3]; decide)]
   exact Xj rfl (Xj rfl (Xj rfl (Xa rfl (Kj3 _ _ _ ⟨s0, _, rfl, (ue (ue (ue (ue (ue rfl rfl) rfl) rfl) rfl) rfl), kp0⟩))))
  rintro y3 _ _ ⟨s6, _, rfl, rfl, Ky3⟩
  exact Xa rfl (Kj2 _ _ _ ⟨s6, _, rfl, (ue (ue (ue (ue rfl rfl) rfl) rfl) rfl), Ky3⟩)
 rintro y2 _ _ ⟨s7, _, rfl, rfl, Ky2⟩
 refine dn (jc (fun (y8 : Int × Nat) e w => ∃ (s : St) (e0 : Env) (uy8_0 : Value), w = s.w ∧ e = upd (upd e0 3 (.int .u64 y8.1)) 4 uy8_0 ∧ Kp s0 s ∧ FL uy8_0 y8.2) (fun Gj8 Kj8 => ?_) ?_)
 ·
  refine cd rfl (fun h9 => ?_) (fun h9 => ?_)
  ·
   refine sr (Xa rfl (dn (rg (Xo w0_0 rfl (fng_ A0_0 rfl rfl rfl rfl rfl rfl (fun v10 A10 => ?_))))))
   exact Xn v10 rfl (dn (Kj8 _ _ _ ⟨s7, _, v10, rfl, (ue (ue rfl rfl) rfl), Ky2, A10⟩))
  exact sk (Kj8 _ _ _ ⟨s7, _, w0_0, rfl, (ue (ue rfl rfl) rfl), Ky2, A0_0⟩)
 rintro y8 _ _ ⟨s11, _, uy8_0, rfl, rfl, Ky8, Fy8_0⟩
 refine sq (sr (Xo uy8_0 rfl (fq_' Fy8_0 (fl_c rfl) rfl (dn (cd rfl (fun h12 => ?_) (fun h12 => ?_))))))
 ·
  exact sr (Xa rfl (Xa rfl (dn (re rfl func37 rfl (r_t rfl Xe) rfl ⟨_, rfl, rfl, z.ky Ky8⟩))))
 refine sk (sq (sr (Xo uy8_0 rfl (fq_' Fy8_0 (fl_c rfl) rfl (dn (cd rfl (fun h13 => ?_) (fun h13 => ?_)))))))
 ·
  exact sr (Xa rfl (Xa rfl (Xa rfl (dn (re rfl func37 rfl (r_t rfl Xe) rfl ⟨_, rfl, rfl, z.ky Ky8⟩)))))
 refine sk (sr (Xa rfl (dn (sq (bl (lpI (fun (x14 : Nat × Int) e w => ∃ (s : St) (e0 : Env) (ux14_0 : Value), w = s.w ∧ e = upd (upd (upd e0 3 (.int .u64 y8.1)) 4 ux14_0) 5 (iI x14.2) ∧ Kp s0 s ∧ FL ux14_0 x14.1) ⟨s11, _, uy8_0, rfl, (ue (ue (ue rfl rfl) rfl) rfl), Ky8, Fy8_0⟩ (fun g14 ih14 => ?_)))))))
 rintro x14 _ _ ⟨s15, _, ux14_0, rfl, rfl, Kx14, Fx14_0⟩
 unfold spec_FloatBits.b0
 refine sq (sr (Xo ux14_0 rfl (fq_' Fx14_0 (fl_c rfl) rfl (dn (cd rfl (fun h16 => ?_) (fun h16 => ?_))))))
 ·
  refine sk (bl (sr (Xo ux14_0 rfl (fa_ Fx14_0 (fl_c rfl) (by simp) rfl rfl rfl rfl rfl rfl rfl (fun v17 s17 p17 A17 => ?_)))))
  refine Xn v17 rfl (dn (rg (Xa rfl (Xa rfl (Xa rfl (dn (ib ?_)))))))
  exact lb ih14 ⟨s17, _, v17, rfl, (ue (ue (ue rfl rfl) rfl) rfl), (Kx14.st p17 rfl), A17⟩
 refine xt rfl (sgb (sq (bl (lpI (fun (x19 : Nat × Int) e w => ∃ (s : St) (e0 : Env) (ux19_0 : Value), w = s.w ∧ e = upd (upd (upd e0 3 (.int .u64 y8.1)) 4 ux19_0) 5 (iI x19.2) ∧ Kp s0 s ∧ FL ux19_0 x19.1) ⟨s15, _, ux14_0, rfl, (ue (ue (ue rfl rfl) rfl) rfl), Kx14, Fx14_0⟩ (fun g19 ih19 => ?_)))))
 rintro x19 _ _ ⟨s20, _, ux19_0, rfl, rfl, Kx19, Fx19_0⟩
 unfold spec_FloatBits.b1
 refine sq (sr (Xo ux19_0 rfl (fq_' Fx19_0 (fl_c rfl) rfl (Xa rfl (jy [38, 39, 40, 41] [] 41 (.bool ((fcmp .f64 x19.1 (4607182418800017408 : Nat) == some .lt) && (decide (x19.2 > (-1022 : Int))))) rfl (fun Kg21 => ?_) (fun j21 => ?_))))))
 ·
  rcases bft (fcmp .f64 x19.1 (4607182418800017408 : Nat) == some .lt) with hb21 | hb21
  ·
   exact sbT hb21 (Xa rfl (Xa rfl (Xa rfl (Kg21 _ (Ag.put ((Ag.put ((Ag.put (Ag.base rfl) rfl)) rfl)) rfl) (by rw [hb21]; rfl)))))
  exact sbT hb21 (Xj rfl (Xj rfl (Xa rfl (Kg21 _ (Ag.put ((Ag.put ((Ag.put (Ag.base rfl) rfl)) rfl)) rfl) (by rw [hb21]; rfl)))))
 refine dn (cd rfl (fun h22 => ?_) (fun h22 => ?_))
 ·
  refine sk (bl (sr (Xo ux19_0 rfl (fa_ Fx19_0 (fl_c rfl) (by simp) rfl rfl rfl rfl rfl rfl rfl (fun v23 s23 p23 A23 => ?_)))))
  refine Xn v23 rfl (dn (rg (Xa rfl (Xa rfl (Xa rfl (dn (ib ?_)))))))
  exact lb ih19 ⟨s23, _, v23, rfl, (ue (ue (ue rfl rfl) rfl) rfl), (Kx19.st p23 rfl), A23⟩
 refine xt rfl (sgb (sq (sr (Xo ux19_0 rfl (fq_' Fx19_0 (fl_c rfl) rfl (dn (cd rfl (fun h25 => ?_) (fun h25 => ?_))))))))
 ·
  refine sr (Xa rfl (Xo ux19_0 rfl (fa_ Fx19_0 (fl_c rfl) (by simp) rfl rfl rfl rfl rfl rfl rfl (fun v26 s26 p26 A26 => ?_))))
  refine f2i A26 u65 u22 rfl rfl rfl rfl rfl rfl (fun r27 m27 => ?_)
  refine Xa rfl (Xa rfl (dn ?_))
  exact re rfl func37 rfl (r_t rfl Xe) rfl ⟨_, rfl, rfl, z.ky (Kx19.st p26 rfl)⟩
 refine sk (sr (Xa rfl (Xa rfl (Xa rfl (cv u65 u3 rfl rfl rfl rfl rfl rfl (shlK rfl rfl rfl rfl rfl rfl rfl rfl (Xa rfl (Xo ux19_0 rfl (fa_ Fx19_0 (fl_c rfl) (by simp) rfl rfl rfl rfl rfl rfl rfl (fun v29 s29 p29 A29 => ?_))))))))))
 refine fa_ A29 (fl_c rfl) (by simp) rfl rfl rfl rfl rfl rfl rfl (fun v30 s30 p30 A30 => ?_)
 refine f2i A30 u65 u22 rfl rfl rfl rfl rfl rfl (fun r31 m31 => ?_)
 refine Xa rfl (Xa rfl (dn ?_))
 exact re rfl func37 rfl (r_t rfl Xe) rfl ⟨_, rfl, rfl, z.ky (Kx19.st (tr2 p29 p30) rfl)⟩
def spec_ItemOk.f (a0 : Item) : Option (Bool) :=
 (if (((decide (a0.Kind < (0 : Int))) || (decide (a0.Kind > (3 : Int)))) || (decide ((a0.T.length : Int) > (40 : Int)))) = true then (some false) else (if ((a0.Kind != (1 : Int)) && (a0.N != (0 : Int))) = true then (some false) else ((if (a0.Kind != (2 : Int)) = true then ((spec_FloatBits.f a0.F).bind fun r14 => (some (r14 != (0 : Int)))) else (some false)).bind fun y13 => (if y13 = true then (some false) else (some ((a0.Kind == (3 : Int)) || ((a0.T.length : Int) == (0 : Int))))))))
def spec_ItemOk.Q (w : World) (F : Nat → Prop) (r : Bool) (v : Value) (w' : World) : Prop :=
 v = (.bool r) ∧ Ky [] w w'
theorem spec_ItemOk.calls (a0 : Item) (w : World) (F : Nat → Prop) (w0_0 : Value) (w0_1 : Value) (h0_0 : Kd.flt.rd w [w0_0] a0.F F) (h0_1 : Xp.rd w [w0_1] a0.T F) (r : Bool) (m : spec_ItemOk.f a0 = some r) :
  Calls prog 33 #[(.agg #[(iI a0.Kind), (iI a0.N), w0_0, w0_1])] w (RT (spec_ItemOk.Q w F) r) := by
 obtain ⟨s0, rfl, kp0, z⟩ := Xh w F
 have A0_1 := z.rd h0_1
 refine Xb (args := [(.agg #[(iI a0.Kind), (iI a0.N), w0_0, w0_1])]) func33 ntmps33 rfl rfl m ?_
 unfold spec_ItemOk.f
 refine sr (bx' (cs := [(iI a0.Kind), (iI a0.N), w0_0, w0_1]) 40 rfl (fun b2 s2 p2 B2 => ?_))
 refine Xa rfl (dn (sq (sr (Xl fa28_0 rfl (ld' B2 u3 rfl (Xa rfl (Xa rfl (jy [6, 7, 8, 9, 10] [8, 9, 10, 11, 12, 13] 10 (.bool ((decide (a0.Kind < (0 : Int))) || (decide (a0.Kind > (3 : Int))))) rfl (fun Kg4 => ?_) (fun j4 => ?_)))))))))
 ·
  rcases bft (decide (a0.Kind < (0 : Int))) with hb4 | hb4
  ·
   exact sbT hb4 (Xj rfl (Xj rfl (Xj rfl (Xa rfl (Kg4 _ (Ag.put ((Ag.put ((Ag.put ((Ag.put (Ag.base rfl) rfl)) rfl)) rfl)) rfl) (by rw [hb4]; rfl))))))
  exact sbT hb4 (Xl fa28_0 rfl (ld' B2 u3 rfl (Xa rfl (Xa rfl (Kg4 _ (Ag.put ((Ag.put ((Ag.put ((Ag.put (Ag.base rfl) rfl)) rfl)) rfl)) rfl) (by rw [hb4]; rfl))))))
 refine Xa rfl (jy [11, 12, 13, 14, 15, 16] [] 16 (.bool (((decide (a0.Kind < (0 : Int))) || (decide (a0.Kind > (3 : Int)))) || (decide ((a0.T.length : Int) > (40 : Int))))) rfl (fun Kg5 => ?_) (fun j5 => ?_))
 ·
  rcases bft ((decide (a0.Kind < (0 : Int))) || (decide (a0.Kind > (3 : Int)))) with hb5 | hb5
  ·
   exact sbT hb5 (Xj rfl (Xj rfl (Xj rfl (Xj rfl (Xa rfl (Kg5 _ (Ag.put ((Ag.put ((Ag.put ((Ag.put ((Ag.put (Ag.base rfl) rfl)) rfl)) rfl)) rfl)) rfl) (by rw [hb5]; rfl)))))))
  refine sbT hb5 (Xl fa28_3 rfl (ld' B2 u23 rfl ?_))
  exact ln' (A0_1.kp (kp0.st p2 rfl)) u23 rfl (Xa rfl (Xa rfl (Kg5 _ (Ag.put ((Ag.put ((Ag.put ((Ag.put ((Ag.put (Ag.base rfl) rfl)) rfl)) rfl)) rfl)) rfl) (by rw [hb5]; rfl))))
 refine dn (cd rfl (fun h8 => ?_) (fun h8 => ?_))
 ·
  refine sr (Xa rfl (dn ?_))
  exact re rfl func33 rfl (r_t rfl Xe) rfl ⟨_, rfl, rfl, z.ky (kp0.st p2 rfl)⟩
 refine sk (sq (sr (Xl fa28_0 rfl (ld' B2 u3 rfl (Xa rfl (Xa rfl (jy [20, 21, 22, 23, 24] [] 24 (.bool ((a0.Kind != (1 : Int)) && (a0.N != (0 : Int)))) rfl (fun Kg10 => ?_) (fun j10 => ?_))))))))
 ·
  rcases bft (a0.Kind != (1 : Int)) with hb10 | hb10
  ·
   exact sbT hb10 (Xl fa28_1 rfl (ld' B2 u3 rfl (Xa rfl (Xa rfl (Kg10 _ (Ag.put ((Ag.put ((Ag.put ((Ag.put (Ag.base rfl) rfl)) rfl)) rfl)) rfl) (by rw [hb10]; rfl))))))
  exact sbT hb10 (Xj rfl (Xj rfl (Xj rfl (Xa rfl (Kg10 _ (Ag.put ((Ag.put ((Ag.put ((Ag.put (Ag.base rfl) rfl)) rfl)) rfl)) rfl) (by rw [hb10]; rfl))))))
 refine dn (cd rfl (fun h11 => ?_) (fun h11 => ?_))
 ·
  refine sr (Xa rfl (dn ?_))
  exact re rfl func33 rfl (r_t rfl Xe) rfl ⟨_, rfl, rfl, z.ky (kp0.st p2 rfl)⟩
 refine sk (sq (sr (Xl fa28_0 rfl (ld' B2 u3 rfl (Xa rfl (Xa rfl (ji [] (fun (y13 : Bool) e w => ∃ (s : St) (e0 : Env), w = s.w ∧ e = upd (upd e0 1 (pB b2)) 33 (.bool y13) ∧ Kp s0 s ∧ BlF s b2 28 [(iI a0.Kind), (iI a0.N), w0_0, w0_1] 40) (fun Gj13 Kj13 => ?_) ?_)))))))
 ·
  rcases bft (a0.Kind != (2 : Int)) with hb13 | hb13
  ·
   refine sbT hb13 ?_
   rw [if_pos hb13]
   refine Xl fa28_2 rfl (ld' B2 u22 rfl (clV 41 rfl func37 rfl (spec_FloatBits.calls a0.F s2.w (mm [] s2) w0_0 (Xc (s := s2) (Xm h0_0))) (fun r14 s15 p15 n15 => ?_)))
   refine Xa rfl (Xa rfl ?_)
   exact Kj13 _ _ _ ⟨s15, _, rfl, (ue (ue rfl rfl) rfl), (kp0.st (tr2 p2 p15) rfl), (B2.st p15 rfl)⟩
  refine sbT hb13 ?_
  rw [if_neg (by rw [hb13]; decide)]
  refine Xj rfl (Xj rfl (Xj rfl (Xj rfl (Xa rfl ?_))))
  exact Kj13 _ _ _ ⟨s2, _, rfl, (ue (ue rfl rfl) rfl), (kp0.st p2 rfl), B2⟩
 rintro y13 _ _ ⟨s19, _, rfl, rfl, Ky13, By13_b2⟩
 refine dn (cd rfl (fun h21 => ?_) (fun h21 => ?_))
 ·
  exact sr (Xa rfl (dn (re rfl func33 rfl (r_t rfl Xe) rfl ⟨_, rfl, rfl, z.ky Ky13⟩)))
 refine sk (sr (Xl fa28_0 rfl (ld' By13_b2 u3 rfl (Xa rfl (Xa rfl (jy [37, 38, 39, 40, 41, 42] [9] 42 (.bool ((a0.Kind == (3 : Int)) || ((a0.T.length : Int) == (0 : Int)))) rfl (fun Kg22 => ?_) (fun j22 => ?_)))))))
 ·
  rcases bft (a0.Kind == (3 : Int)) with hb22 | hb22
  ·
   exact sbT hb22 (Xj rfl (Xj rfl (Xj rfl (Xj rfl (Xa rfl (Kg22 _ (Ag.put ((Ag.put ((Ag.put ((Ag.put ((Ag.put (Ag.base rfl) rfl)) rfl)) rfl)) rfl)) rfl) (by rw [hb22]; rfl)))))))
  refine sbT hb22 (Xl fa28_3 rfl (ld' By13_b2 u23 rfl ?_))
  exact ln' (A0_1.kp Ky13) u23 rfl (Xa rfl (Xa rfl (Kg22 _ (Ag.put ((Ag.put ((Ag.put ((Ag.put ((Ag.put (Ag.base rfl) rfl)) rfl)) rfl)) rfl)) rfl) (by rw [hb22]; rfl))))
 exact Xa rfl (dn (re rfl func33 rfl (r_t rfl Xe) rfl ⟨_, rfl, rfl, z.ky Ky13⟩))
def spec_l18digits0.b1 (x12 : Int × (List Int)) (x27 : (List Int) × Int) : Option (((List Int) × Int) ⊕ (List Int)) :=
 (if (decide (x27.2 ≥ (0 : Int))) = true then (if 0 ≤ x27.2 ∧ x27.2 < ((x12.2 ++ [(IntKind.wrap .u8 (IntKind.wrap .i64 ((48 : Int) + x12.1)))]).length : Int) then (if x27.1.length + ([(at_ (x12.2 ++ [(IntKind.wrap .u8 (IntKind.wrap .i64 ((48 : Int) + x12.1)))]) x27.2)]).length ≤ Lim then (some (Sum.inl ((x27.1 ++ [(at_ (x12.2 ++ [(IntKind.wrap .u8 (IntKind.wrap .i64 ((48 : Int) + x12.1)))]) x27.2)]), (IntKind.wrap .i64 (x27.2 - (1 : Int)))))) else none) else none) else ((some x27.1).bind fun o => some (Sum.inr o)))
def spec_l18digits0.b0  (x12 : Int × (List Int)) : Option ((Int × (List Int)) ⊕ (List Int)) :=
 (if (decide (x12.1 > (9 : Int))) = true then (if x12.2.length + ([(IntKind.wrap .u8 (IntKind.wrap .i64 ((48 : Int) + (x12.1.tmod (10 : Int)))))]).length ≤ Lim then (some (Sum.inl ((IntKind.wrap .i64 (x12.1.tdiv (10 : Int))), (x12.2 ++ [(IntKind.wrap .u8 (IntKind.wrap .i64 ((48 : Int) + (x12.1.tmod (10 : Int)))))])))) else none) else ((if x12.2.length + ([(IntKind.wrap .u8 (IntKind.wrap .i64 ((48 : Int) + x12.1)))]).length ≤ Lim then (iter (spec_l18digits0.b1 x12) (([] : (List Int)), (IntKind.wrap .i64 (((x12.2 ++ [(IntKind.wrap .u8 (IntKind.wrap .i64 ((48 : Int) + x12.1)))]).length : Int) - (1 : Int))))) else none).bind fun o => some (Sum.inr o)))
def spec_l18digits0.f (a0 : Int) : Option ((List Int)) :=
 (if (a0 == (-9223372036854775808 : Int)) = true then (some ([(45 : Int), (57 : Int), (50 : Int), (50 : Int), (51 : Int), (51 : Int), (55 : Int), (50 : Int), (48 : Int), (51 : Int), (54 : Int), (56 : Int), (53 : Int), (52 : Int), (55 : Int), (55 : Int), (53 : Int), (56 : Int), (48 : Int), (56 : Int)])) else (if (decide (a0 < (0 : Int))) = true then none else (iter spec_l18digits0.b0 (a0, ([] : (List Int))))))
def spec_l18digits0.Q (w : World) (F : Nat → Prop) (r : (List Int)) (v : Value) (w' : World) : Prop :=
 FO Xp w w' [v] r ∧ Ky [] w w'
theorem spec_l18digits0.calls (a0 : Int) (w : World) (F : Nat → Prop)   (r : (List Int)) (m : spec_l18digits0.f a0 = some r) :
  Calls prog 34 #[(iI a0)] w (RT (spec_l18digits0.Q w F) r) := by
 obtain ⟨s0, rfl, kp0, z⟩ := Xh w F
 refine Xb (args := [(iI a0)]) func34 ntmps34 rfl rfl m ?_
 unfold spec_l18digits0.f
 refine sr (Xa rfl (dn (sq (sr (Xa rfl (Xa rfl (dn (cd rfl (fun h1 => ?_) (fun h1 => ?_)))))))))
 ·
  refine sr (ltF' (K := (Kd.int .u8)) (cells := [(.int .u8 (45 : Int)), (.int .u8 (57 : Int)), (.int .u8 (50 : Int)), (.int .u8 (50 : Int)), (.int .u8 (51 : Int)), (.int .u8 (51 : Int)), (.int .u8 (55 : Int)), (.int .u8 (50 : Int)), (.int .u8 (48 : Int)), (.int .u8 (51 : Int)), (.int .u8 (54 : Int)), (.int .u8 (56 : Int)), (.int .u8 (53 : Int)), (.int .u8 (52 : Int)), (.int .u8 (55 : Int)), (.int .u8 (55 : Int)), (.int .u8 (53 : Int)), (.int .u8 (56 : Int)), (.int .u8 (48 : Int)), (.int .u8 (56 : Int))]) [(45 : Int), (57 : Int), (50 : Int), (50 : Int), (51 : Int), (51 : Int), (55 : Int), (50 : Int), (48 : Int), (51 : Int), (54 : Int), (56 : Int), (53 : Int), (52 : Int), (55 : Int), (55 : Int), (53 : Int), (56 : Int), (48 : Int), (56 : Int)] 40 Xi u23 z5 o5 (fun w => (Xg _ _ _)) rfl (lfill_c rfl rfl rfl rfl rfl) (fun v2 s2 p2 A2 => ?_))
  refine cvm A2 rfl u23 u5 rfl rfl rfl rfl rfl rfl (fun s4 p4 A4 => ?_)
  refine Xn v2 rfl (dn ?_)
  have K6 := kp0.st (tr2 p2 p4) rfl
  exact re rfl func34 rfl (r_t rfl Xe) rfl ⟨_, rfl, A4.fo K6 rfl z.l, z.ky K6⟩
 refine sk (sq (sr (Xa rfl (Xa rfl (dn (cd rfl (fun h7 => ?_) (fun h7 => ?_)))))))
 ·
  refine sr (ltF' (K := (Kd.int .u8)) (cells := [(.int .u8 (45 : Int))]) [(45 : Int)] 41 Xi u23 z5 o5 (fun w => (Xg _ _ _)) rfl rfl (fun v8 s8 p8 A8 => ?_))
  refine cvm A8 rfl u23 u5 rfl rfl rfl rfl rfl rfl (fun s10 p10 A10 => ?_)
  exact Xa rfl (Xa rfl mn)
 refine sk (sr (Xa rfl (dn (sq (bl (lpI (fun (x12 : Int × (List Int)) e w => ∃ (s : St) (e0 : Env) (vx12_0 : Value), w = s.w ∧ e = upd (upd e0 0 (iI x12.1)) 3 vx12_0 ∧ Kp s0 s ∧ OwF Xp s [vx12_0] x12.2 42) ⟨s0, _, (.slice none 0 0), rfl, (ue (ue rfl rfl) rfl), kp0, (ow_nil 5 (Kd.int .u8) _ 42)⟩ (fun g12 ih12 => ?_)))))))
 rintro x12 _ _ ⟨s13, _, vx12_0, rfl, rfl, Kx12, Ax12_0⟩
 unfold spec_l18digits0.b0
 refine sq (sr (Xa rfl (Xa rfl (dn (cd rfl (fun h15 => ?_) (fun h15 => ?_))))))
 ·
  refine sk (bl (sr (Xo vx12_0 rfl (Xa rfl (remK rfl rfl rfl rfl rfl rfl rfl rfl (Xa rfl (cv u5 u3 rfl rfl rfl rfl rfl rfl (ltF' (K := (Kd.int .u8)) (cells := [(.int .u8 (IntKind.wrap .u8 (IntKind.wrap .i64 ((48 : Int) + (x12.1.tmod (10 : Int))))))]) [(IntKind.wrap .u8 (IntKind.wrap .i64 ((48 : Int) + (x12.1.tmod (10 : Int)))))] 43 Xi u23 z5 o5 (fun w => (Xg _ _ _)) rfl rfl (fun v16 s16 p16 A16 => ?_)))))))))
  refine apF' Xi sl23 (Ax12_0.st p16 rfl) A16.rd rfl (fun v19 s19 p19 A19 => ?_)
  refine Xn v19 rfl (dn (rg (Xa rfl (quoK rfl rfl rfl rfl rfl rfl rfl rfl (Xa rfl (dn (ib ?_)))))))
  exact lb ih12 ⟨s19, _, v19, rfl, (ue (ue rfl rfl) rfl), (Kx12.st (tr2 p16 p19) rfl), A19⟩
 refine xt rfl (sgb (sr (Xo vx12_0 rfl (Xa rfl (Xa rfl (cv u5 u3 rfl rfl rfl rfl rfl rfl (ltF' (K := (Kd.int .u8)) (cells := [(.int .u8 (IntKind.wrap .u8 (IntKind.wrap .i64 ((48 : Int) + x12.1))))]) [(IntKind.wrap .u8 (IntKind.wrap .i64 ((48 : Int) + x12.1)))] 44 Xi u23 z5 o5 (fun w => (Xg _ _ _)) rfl rfl (fun v22 s22 p22 A22 => ?_))))))))
 refine apF' Xi sl23 (Ax12_0.st p22 rfl) A22.rd rfl (fun v25 s25 p25 A25 => ?_)
 refine Xn v25 rfl (dn (sr (Xa rfl (dn (sq (sr (Xo v25 rfl (ln' A25.rd u23 rfl (Xa rfl (Xa rfl (dn (bl ?_))))))))))))
 refine lpI (fun (x27 : (List Int) × Int) e w => ∃ (s : St) (e0 : Env) (vx27_0 : Value), w = s.w ∧ e = upd (upd (upd e0 3 v25) 4 vx27_0) 5 (iI x27.2) ∧ Kp s0 s ∧ OwF Xp s [vx27_0] x27.1 45 ∧ OwF Xp s [v25] (x12.2 ++ [(IntKind.wrap .u8 (IntKind.wrap .i64 ((48 : Int) + x12.1)))]) 42) ⟨s25, _, (.slice none 0 0), rfl, (ue (ue (ue rfl rfl) rfl) rfl), (Kx12.st (tr2 p22 p25) rfl), (ow_nil 5 (Kd.int .u8) _ 45), A25⟩ (fun g27 ih27 => ?_)
 rintro x27 _ _ ⟨s29, _, vx27_0, rfl, rfl, Kx27, Ax27_0, Cx27_26⟩
 unfold spec_l18digits0.b1
 refine sq (sr (Xa rfl (Xa rfl (dn (cd rfl (fun h31 => ?_) (fun h31 => ?_))))))
 ·
  refine sk (sq (bl (rg (Xo vx27_0 rfl (Xo v25 rfl (Xa rfl (ix' Cx27_26.rd u23 z5 rfl (fun ad32 es32 h0_32 h1_32 he32 ce32 ia32 => ?_))))))))
  obtain rfl := he32
  refine lc0 ce32 u5 rfl rfl rfl rfl rfl rfl rfl rfl (ltF' (K := (Kd.int .u8)) (cells := [(.int .u8 (at_ (x12.2 ++ [(IntKind.wrap .u8 (IntKind.wrap .i64 ((48 : Int) + x12.1)))]) x27.2))]) [(at_ (x12.2 ++ [(IntKind.wrap .u8 (IntKind.wrap .i64 ((48 : Int) + x12.1)))]) x27.2)] 46 Xi u23 z5 o5 (fun w => (Xg _ _ _)) rfl rfl (fun v34 s34 p34 A34 => ?_))
  refine apF' Xi sl23 (Ax27_0.st p34 rfl) A34.rd rfl (fun v37 s37 p37 A37 => ?_)
  refine Xn v37 rfl (dn (ib (rg (Xa rfl (Xa rfl (Xa rfl (dn ?_)))))))
  exact lb ih27 ⟨s37, _, v37, rfl, (ue (ue (ue rfl rfl) rfl) rfl), (Kx27.st (tr2 p34 p37) rfl), A37, (Cx27_26.st (tr2 p34 p37) rfl)⟩
 exact xt rfl (sgb (sr (Xo vx27_0 rfl (Xn vx27_0 rfl (dn (re rfl func34 rfl (r_t rfl Xe) rfl ⟨_, rfl, Ax27_0.fo Kx27 rfl z.l, z.ky Kx27⟩))))))
def spec_l18digits.b1 (x19 : Int × (List Int)) (x34 : (List Int) × Int) : Option (((List Int) × Int) ⊕ (List Int)) :=
 (if (decide (x34.2 ≥ (0 : Int))) = true then (if 0 ≤ x34.2 ∧ x34.2 < ((x19.2 ++ [(IntKind.wrap .u8 (IntKind.wrap .i64 ((48 : Int) + x19.1)))]).length : Int) then (if x34.1.length + ([(at_ (x19.2 ++ [(IntKind.wrap .u8 (IntKind.wrap .i64 ((48 : Int) + x19.1)))]) x34.2)]).length ≤ Lim then (some (Sum.inl ((x34.1 ++ [(at_ (x19.2 ++ [(IntKind.wrap .u8 (IntKind.wrap .i64 ((48 : Int) + x19.1)))]) x34.2)]), (IntKind.wrap .i64 (x34.2 - (1 : Int)))))) else none) else none) else ((some x34.1).bind fun o => some (Sum.inr o)))
def spec_l18digits.b0  (x19 : Int × (List Int)) : Option ((Int × (List Int)) ⊕ (List Int)) :=
 (if (decide (x19.1 > (9 : Int))) = true then (if x19.2.length + ([(IntKind.wrap .u8 (IntKind.wrap .i64 ((48 : Int) + (x19.1.tmod (10 : Int)))))]).length ≤ Lim then (some (Sum.inl ((IntKind.wrap .i64 (x19.1.tdiv (10 : Int))), (x19.2 ++ [(IntKind.wrap .u8 (IntKind.wrap .i64 ((48 : Int) + (x19.1.tmod (10 : Int)))))])))) else none) else ((if x19.2.length + ([(IntKind.wrap .u8 (IntKind.wrap .i64 ((48 : Int) + x19.1)))]).length ≤ Lim then (iter (spec_l18digits.b1 x19) (([] : (List Int)), (IntKind.wrap .i64 (((x19.2 ++ [(IntKind.wrap .u8 (IntKind.wrap .i64 ((48 : Int) + x19.1)))]).length : Int) - (1 : Int))))) else none).bind fun o => some (Sum.inr o)))
def spec_l18digits.f (a0 : Int) : Option ((List Int)) :=
 (if (a0 == (-9223372036854775808 : Int)) = true then (some ([(45 : Int), (57 : Int), (50 : Int), (50 : Int), (51 : Int), (51 : Int), (55 : Int), (50 : Int), (48 : Int), (51 : Int), (54 : Int), (56 : Int), (53 : Int), (52 : Int), (55 : Int), (55 : Int), (53 : Int), (56 : Int), (48 : Int), (56 : Int)])) else (if (decide (a0 < (0 : Int))) = true then ((spec_l18digits0.f (IntKind.wrap .i64 (0 - a0))).bind fun r12 => (if ([(45 : Int)]).length + r12.length ≤ Lim then (some ([(45 : Int)] ++ r12)) else none)) else (iter spec_l18digits.b0 (a0, ([] : (List Int))))))
def spec_l18digits.Q (w : World) (F : Nat → Prop) (r : (List Int)) (v : Value) (w' : World) : Prop :=
 FO Xp w w' [v] r ∧ Ky [] w w'
theorem spec_l18digits.calls (a0 : Int) (w : World) (F : Nat → Prop)   (r : (List Int)) (m : spec_l18digits.f a0 = some r) :
  Calls prog 34 #[(iI a0)] w (RT (spec_l18digits.Q w F) r) := by
 obtain ⟨s0, rfl, kp0, z⟩ := Xh w F
 refine Xb (args := [(iI a0)]) func34 ntmps34 rfl rfl m ?_
 unfold spec_l18digits.f
 refine sr (Xa rfl (dn (sq (sr (Xa rfl (Xa rfl (dn (cd rfl (fun h1 => ?_) (fun h1 => ?_)))))))))
 ·
  refine sr (ltF' (K := (Kd.int .u8)) (cells := [(.int .u8 (45 : Int)), (.int .u8 (57 : Int)), (.int .u8 (50 : Int)), (.int .u8 (50 : Int)), (.int .u8 (51 : Int)), (.int .u8 (51 : Int)), (.int .u8 (55 : Int)), (.int .u8 (50 : Int)), (.int .u8 (48 : Int)), (.int .u8 (51 : Int)), (.int .u8 (54 : Int)), (.int .u8 (56 : Int)), (.int .u8 (53 : Int)), (.int .u8 (52 : Int)), (.int .u8 (55 : Int)), (.int .u8 (55 : Int)), (.int .u8 (53 : Int)), (.int .u8 (56 : Int)), (.int .u8 (48 : Int)), (.int .u8 (56 : Int))]) [(45 : Int), (57 : Int), (50 : Int), (50 : Int), (51 : Int), (51 : Int), (55 : Int), (50 : Int), (48 : Int), (51 : Int), (54 : Int), (56 : Int), (53 : Int), (52 : Int), (55 : Int), (55 : Int), (53 : Int), (56 : Int), (48 : Int), (56 : Int)] 40 Xi u23 z5 o5 (fun w => (Xg _ _ _)) rfl (lfill_c rfl rfl rfl rfl rfl) (fun v2 s2 p2 A2 => ?_))
  refine cvm A2 rfl u23 u5 rfl rfl rfl rfl rfl rfl (fun s4 p4 A4 => ?_)
  refine Xn v2 rfl (dn ?_)
  have K6 := kp0.st (tr2 p2 p4) rfl
  exact re rfl func34 rfl (r_t rfl Xe) rfl ⟨_, rfl, A4.fo K6 rfl z.l, z.ky K6⟩
 refine sk (sq (sr (Xa rfl (Xa rfl (dn (cd rfl (fun h7 => ?_) (fun h7 => ?_)))))))
 ·
  refine sr (ltF' (K := (Kd.int .u8)) (cells := [(.int .u8 (45 : Int))]) [(45 : Int)] 41 Xi u23 z5 o5 (fun w => (Xg _ _ _)) rfl rfl (fun v8 s8 p8 A8 => ?_))
  refine cvm A8 rfl u23 u5 rfl rfl rfl rfl rfl rfl (fun s10 p10 A10 => ?_)
  refine Xa rfl (Xa rfl (clO 42 rfl func34 rfl (spec_l18digits0.calls (IntKind.wrap .i64 (0 - a0)) s10.w (mm [] s10)) (fun r12 v12_0 s13 p13 A12_0 => ?_)))
  refine apF' Xi sl23 (A10.st p13 rfl) A12_0.rd rfl (fun v16 s16 p16 A16 => ?_)
  refine Xn v16 rfl (dn ?_)
  have K18 := kp0.st (tr4 p8 p10 p13 p16) rfl
  exact re rfl func34 rfl (r_t rfl Xe) rfl ⟨_, rfl, A16.fo K18 rfl z.l, z.ky K18⟩
 refine sk (sr (Xa rfl (dn (sq (bl (lpI (fun (x19 : Int × (List Int)) e w => ∃ (s : St) (e0 : Env) (vx19_0 : Value), w = s.w ∧ e = upd (upd e0 0 (iI x19.1)) 3 vx19_0 ∧ Kp s0 s ∧ OwF Xp s [vx19_0] x19.2 43) ⟨s0, _, (.slice none 0 0), rfl, (ue (ue rfl rfl) rfl), kp0, (ow_nil 5 (Kd.int .u8) _ 43)⟩ (fun g19 ih19 => ?_)))))))
 rintro x19 _ _ ⟨s20, _, vx19_0, rfl, rfl, Kx19, Ax19_0⟩
 unfold spec_l18digits.b0
 refine sq (sr (Xa rfl (Xa rfl (dn (cd rfl (fun h22 => ?_) (fun h22 => ?_))))))
 ·
  refine sk (bl (sr (Xo vx19_0 rfl (Xa rfl (remK rfl rfl rfl rfl rfl rfl rfl rfl (Xa rfl (cv u5 u3 rfl rfl rfl rfl rfl rfl (ltF' (K := (Kd.int .u8)) (cells := [(.int .u8 (IntKind.wrap .u8 (IntKind.wrap .i64 ((48 : Int) + (x19.1.tmod (10 : Int))))))]) [(IntKind.wrap .u8 (IntKind.wrap .i64 ((48 : Int) + (x19.1.tmod (10 : Int)))))] 44 Xi u23 z5 o5 (fun w => (Xg _ _ _)) rfl rfl (fun v23 s23 p23 A23 => ?_)))))))))
  refine apF' Xi sl23 (Ax19_0.st p23 rfl) A23.rd rfl (fun v26 s26 p26 A26 => ?_)
  refine Xn v26 rfl (dn (rg (Xa rfl (quoK rfl rfl rfl rfl rfl rfl rfl rfl (Xa rfl (dn (ib ?_)))))))
  exact lb ih19 ⟨s26, _, v26, rfl, (ue (ue rfl rfl) rfl), (Kx19.st (tr2 p23 p26) rfl), A26⟩
 refine xt rfl (sgb (sr (Xo vx19_0 rfl (Xa rfl (Xa rfl (cv u5 u3 rfl rfl rfl rfl rfl rfl (ltF' (K := (Kd.int .u8)) (cells := [(.int .u8 (IntKind.wrap .u8 (IntKind.wrap .i64 ((48 : Int) + x19.1))))]) [(IntKind.wrap .u8 (IntKind.wrap .i64 ((48 : Int) + x19.1)))] 45 Xi u23 z5 o5 (fun w => (Xg _ _ _)) rfl rfl (fun v29 s29 p29 A29 => ?_))))))))
 refine apF' Xi sl23 (Ax19_0.st p29 rfl) A29.rd rfl (fun v32 s32 p32 A32 => ?_)
 refine Xn v32 rfl (dn (sr (Xa rfl (dn (sq (sr (Xo v32 rfl (ln' A32.rd u23 rfl (Xa rfl (Xa rfl (dn (bl ?_))))))))))))
 refine lpI (fun (x34 : (List Int) × Int) e w => ∃ (s : St) (e0 : Env) (vx34_0 : Value), w = s.w ∧ e = upd (upd (upd e0 3 v32) 4 vx34_0) 5 (iI x34.2) ∧ Kp s0 s ∧ OwF Xp s [vx34_0] x34.1 46 ∧ OwF Xp s [v32] (x19.2 ++ [(IntKind.wrap .u8 (IntKind.wrap .i64 ((48 : Int) + x19.1)))]) 43) ⟨s32, _, (.slice none 0 0), rfl, (ue (ue (ue rfl rfl) rfl) rfl), (Kx19.st (tr2 p29 p32) rfl), (ow_nil 5 (Kd.int .u8) _ 46), A32⟩ (fun g34 ih34 => ?_)
 rintro x34 _ _ ⟨s36, _, vx34_0, rfl, rfl, Kx34, Ax34_0, Cx34_33⟩
 unfold spec_l18digits.b1
 refine sq (sr (Xa rfl (Xa rfl (dn (cd rfl (fun h38 => ?_) (fun h38 => ?_))))))
 ·
  refine sk (sq (bl (rg (Xo vx34_0 rfl (Xo v32 rfl (Xa rfl (ix' Cx34_33.rd u23 z5 rfl (fun ad39 es39 h0_39 h1_39 he39 ce39 ia39 => ?_))))))))
  obtain rfl := he39
  refine lc0 ce39 u5 rfl rfl rfl rfl rfl rfl rfl rfl (ltF' (K := (Kd.int .u8)) (cells := [(.int .u8 (at_ (x19.2 ++ [(IntKind.wrap .u8 (IntKind.wrap .i64 ((48 : Int) + x19.1)))]) x34.2))]) [(at_ (x19.2 ++ [(IntKind.wrap .u8 (IntKind.wrap .i64 ((48 : Int) + x19.1)))]) x34.2)] 47 Xi u23 z5 o5 (fun w => (Xg _ _ _)) rfl rfl (fun v41 s41 p41 A41 => ?_))
  refine apF' Xi sl23 (Ax34_0.st p41 rfl) A41.rd rfl (fun v44 s44 p44 A44 => ?_)
  refine Xn v44 rfl (dn (ib (rg (Xa rfl (Xa rfl (Xa rfl (dn ?_)))))))
  exact lb ih34 ⟨s44, _, v44, rfl, (ue (ue (ue rfl rfl) rfl) rfl), (Kx34.st (tr2 p41 p44) rfl), A44, (Cx34_33.st (tr2 p41 p44) rfl)⟩
 exact xt rfl (sgb (sr (Xo vx34_0 rfl (Xn vx34_0 rfl (dn (re rfl func34 rfl (r_t rfl Xe) rfl ⟨_, rfl, Ax34_0.fo Kx34 rfl z.l, z.ky Kx34⟩))))))
def spec_l3high.b0 (a0 : Int) (x1 : (List Int) × Int) : Option (((List Int) × Int) ⊕ (List Int)) :=
 (if (decide (x1.2 ≥ (0 : Int))) = true then (if 0 ≤ (IntKind.wrap .u64 (IntKind.wrap .i64 ((8 : Int) * x1.2))) then (if x1.1.length + ([(IntKind.wrap .u8 (iand .u64 (ishr .u64 a0 (IntKind.wrap .u64 (IntKind.wrap .i64 ((8 : Int) * x1.2)))) (255 : Int)))]).length ≤ Lim then (some (Sum.inl ((x1.1 ++ [(IntKind.wrap .u8 (iand .u64 (ishr .u64 a0 (IntKind.wrap .u64 (IntKind.wrap .i64 ((8 : Int) * x1.2)))) (255 : Int)))]), (IntKind.wrap .i64 (x1.2 - (1 : Int)))))) else none) else none) else ((some x1.1).bind fun o => some (Sum.inr o)))
def spec_l3high.f (a0 : Int) : Option ((List Int)) :=
 (iter (spec_l3high.b0 a0) (([] : (List Int)), (7 : Int)))
def spec_l3high.Q (w : World) (F : Nat → Prop) (r : (List Int)) (v : Value) (w' : World) : Prop :=
 FO Xp w w' [v] r ∧ Ky [] w w'
theorem spec_l3high.calls (a0 : Int) (w : World) (F : Nat → Prop)   (r : (List Int)) (m : spec_l3high.f a0 = some r) :
  Calls prog 36 #[(.int .u64 a0)] w (RT (spec_l3high.Q w F) r) := by
 obtain ⟨s0, rfl, kp0, z⟩ := Xh w F
 refine Xb (args := [(.int .u64 a0)]) func36 ntmps36 rfl rfl m ?_
 unfold spec_l3high.f
 refine sr (Xa rfl (dn (sr (Xa rfl (dn (sq (sr (Xa rfl (dn (bl (lpI (fun (x1 : (List Int) × Int) e w => ∃ (s : St) (e0 : Env) (vx1_0 : Value), w = s.w ∧ e = upd (upd (upd e0 0 (.int .u64 a0)) 3 vx1_0) 4 (iI x1.2) ∧ Kp s0 s ∧ OwF Xp s [vx1_0] x1.1 40) ⟨s0, _, (.slice none 0 0), rfl, (ue (ue (ue rfl rfl) rfl) rfl), kp0, (ow_nil 5 (Kd.int .u8) _ 40)⟩ (fun g1 ih1 => ?_))))))))))))
 rintro x1 _ _ ⟨s2, _, vx1_0, rfl, rfl, Kx1, Ax1_0⟩
 unfold spec_l3high.b0
 refine sq (sr (Xa rfl (Xa rfl (dn (cd rfl (fun h4 => ?_) (fun h4 => ?_))))))
 ·
  refine sk (sq (bl (rg (Xo vx1_0 rfl (Xa rfl (Xa rfl (Xa rfl (cv u92 u3 rfl rfl rfl rfl rfl rfl (shr_ rfl rfl rfl rfl rfl rfl rfl (Xa rfl (cv u5 u65 rfl rfl rfl rfl rfl rfl (ltF' (K := (Kd.int .u8)) (cells := [(.int .u8 (IntKind.wrap .u8 (iand .u64 (ishr .u64 a0 (IntKind.wrap .u64 (IntKind.wrap .i64 ((8 : Int) * x1.2)))) (255 : Int))))]) [(IntKind.wrap .u8 (iand .u64 (ishr .u64 a0 (IntKind.wrap .u64 (IntKind.wrap .i64 ((8 : Int) * x1.2)))) (255 : Int)))] 41 Xi u23 z5 o5 (fun w => (Xg _ _ _)) rfl rfl (fun v5 s5 p5 A5 => ?_)))))))))))))
  refine apF' Xi sl23 (Ax1_0.st p5 rfl) A5.rd rfl (fun v8 s8 p8 A8 => ?_)
  refine Xn v8 rfl (dn (ib (rg (Xa rfl (Xa rfl (Xa rfl (dn ?_)))))))
  exact lb ih1 ⟨s8, _, v8, rfl, (ue (ue (ue rfl rfl) rfl) rfl), (Kx1.st (tr2 p5 p8) rfl), A8⟩
 exact xt rfl (sgb (sr (Xo vx1_0 rfl (Xn vx1_0 rfl (dn (re rfl func36 rfl (r_t rfl Xe) rfl ⟨_, rfl, Ax1_0.fo Kx1 rfl z.l, z.ky Kx1⟩))))))
def spec_l18hex.b0 (a0 : (List Int)) (x6 : (List Int) × Int) : Option (((List Int) × Int) ⊕ (List Int)) :=
 (if (decide (x6.2 < (a0.length : Int))) = true then (if 0 ≤ x6.2 ∧ x6.2 < (a0.length : Int) then (if 0 ≤ (IntKind.wrap .u8 ((at_ a0 x6.2).tdiv (16 : Int))) ∧ (IntKind.wrap .u8 ((at_ a0 x6.2).tdiv (16 : Int))) < (([(48 : Int), (49 : Int), (50 : Int), (51 : Int), (52 : Int), (53 : Int), (54 : Int), (55 : Int), (56 : Int), (57 : Int), (97 : Int), (98 : Int), (99 : Int), (100 : Int), (101 : Int), (102 : Int)]).length : Int) then (if x6.1.length + ([(at_ ([(48 : Int), (49 : Int), (50 : Int), (51 : Int), (52 : Int), (53 : Int), (54 : Int), (55 : Int), (56 : Int), (57 : Int), (97 : Int), (98 : Int), (99 : Int), (100 : Int), (101 : Int), (102 : Int)]) (IntKind.wrap .u8 ((at_ a0 x6.2).tdiv (16 : Int))))]).length ≤ Lim then (if 0 ≤ x6.2 ∧ x6.2 < (a0.length : Int) then (if 0 ≤ ((at_ a0 x6.2).tmod (16 : Int)) ∧ ((at_ a0 x6.2).tmod (16 : Int)) < (([(48 : Int), (49 : Int), (50 : Int), (51 : Int), (52 : Int), (53 : Int), (54 : Int), (55 : Int), (56 : Int), (57 : Int), (97 : Int), (98 : Int), (99 : Int), (100 : Int), (101 : Int), (102 : Int)]).length : Int) then (if (x6.1 ++ [(at_ ([(48 : Int), (49 : Int), (50 : Int), (51 : Int), (52 : Int), (53 : Int), (54 : Int), (55 : Int), (56 : Int), (57 : Int), (97 : Int), (98 : Int), (99 : Int), (100 : Int), (101 : Int), (102 : Int)]) (IntKind.wrap .u8 ((at_ a0 x6.2).tdiv (16 : Int))))]).length + ([(at_ ([(48 : Int), (49 : Int), (50 : Int), (51 : Int), (52 : Int), (53 : Int), (54 : Int), (55 : Int), (56 : Int), (57 : Int), (97 : Int), (98 : Int), (99 : Int), (100 : Int), (101 : Int), (102 : Int)]) ((at_ a0 x6.2).tmod (16 : Int)))]).length ≤ Lim then (some (Sum.inl (((x6.1 ++ [(at_ ([(48 : Int), (49 : Int), (50 : Int), (51 : Int), (52 : Int), (53 : Int), (54 : Int), (55 : Int), (56 : Int), (57 : Int), (97 : Int), (98 : Int), (99 : Int), (100 : Int), (101 : Int), (102 : Int)]) (IntKind.wrap .u8 ((at_ a0 x6.2).tdiv (16 : Int))))]) ++ [(at_ ([(48 : Int), (49 : Int), (50 : Int), (51 : Int), (52 : Int), (53 : Int), (54 : Int), (55 : Int), (56 : Int), (57 : Int), (97 : Int), (98 : Int), (99 : Int), (100 : Int), (101 : Int), (102 : Int)]) ((at_ a0 x6.2).tmod (16 : Int)))]), (IntKind.wrap .i64 (x6.2 + (1 : Int)))))) else none) else none) else none) else none) else none) else none) else ((some x6.1).bind fun o => some (Sum.inr o)))
def spec_l18hex.f (a0 : (List Int)) : Option ((List Int)) :=
 (iter (spec_l18hex.b0 a0) (([] : (List Int)), (0 : Int)))
def spec_l18hex.Q (w : World) (F : Nat → Prop) (r : (List Int)) (v : Value) (w' : World) : Prop :=
 FO Xp w w' [v] r ∧ Ky [] w w'
theorem spec_l18hex.calls (a0 : (List Int)) (w : World) (F : Nat → Prop) (w0_0 : Value) (h0_0 : Xp.rd w [w0_0] a0 F) (r : (List Int)) (m : spec_l18hex.f a0 = some r) :
  Calls prog 35 #[w0_0] w (RT (spec_l18hex.Q w F) r) := by
 obtain ⟨s0, rfl, kp0, z⟩ := Xh w F
 have A0_0 := z.rd h0_0
 refine Xb (args := [w0_0]) func35 ntmps35 rfl rfl m ?_
 unfold spec_l18hex.f
 refine sr (Xa rfl (dn (sr (Xa rfl (dn (sr (ltF' (K := (Kd.int .u8)) (cells := [(.int .u8 (48 : Int)), (.int .u8 (49 : Int)), (.int .u8 (50 : Int)), (.int .u8 (51 : Int)), (.int .u8 (52 : Int)), (.int .u8 (53 : Int)), (.int .u8 (54 : Int)), (.int .u8 (55 : Int)), (.int .u8 (56 : Int)), (.int .u8 (57 : Int)), (.int .u8 (97 : Int)), (.int .u8 (98 : Int)), (.int .u8 (99 : Int)), (.int .u8 (100 : Int)), (.int .u8 (101 : Int)), (.int .u8 (102 : Int))]) [(48 : Int), (49 : Int), (50 : Int), (51 : Int), (52 : Int), (53 : Int), (54 : Int), (55 : Int), (56 : Int), (57 : Int), (97 : Int), (98 : Int), (99 : Int), (100 : Int), (101 : Int), (102 : Int)] 40 Xi u23 z5 o5 (fun w => (Xg _ _ _)) rfl (lfill_c rfl rfl rfl rfl rfl) (fun v2 s2 p2 A2 => ?_))))))))
 refine cvm A2 rfl u23 u5 rfl rfl rfl rfl rfl rfl (fun s4 p4 A4 => ?_)
 refine Xn v2 rfl (dn (sq (sr (Xa rfl (dn (bl ?_))))))
 refine lpI (fun (x6 : (List Int) × Int) e w => ∃ (s : St) (e0 : Env) (vx6_0 : Value), w = s.w ∧ e = upd (upd (upd (upd e0 0 w0_0) 3 vx6_0) 4 v2) 5 (iI x6.2) ∧ Kp s0 s ∧ OwF Xp s [vx6_0] x6.1 41 ∧ OwF Xp s [v2] ([(48 : Int), (49 : Int), (50 : Int), (51 : Int), (52 : Int), (53 : Int), (54 : Int), (55 : Int), (56 : Int), (57 : Int), (97 : Int), (98 : Int), (99 : Int), (100 : Int), (101 : Int), (102 : Int)]) 40) ⟨s4, _, (.slice none 0 0), rfl, (ue (ue (ue (ue rfl rfl) rfl) rfl) rfl), (kp0.st (tr2 p2 p4) rfl), (ow_nil 5 (Kd.int .u8) _ 41), A4⟩ (fun g6 ih6 => ?_)
 rintro x6 _ _ ⟨s8, _, vx6_0, rfl, rfl, Kx6, Ax6_0, Cx6_5⟩
 unfold spec_l18hex.b0
 refine sq (sr (Xa rfl (Xo w0_0 rfl ?_)))
 have A10 := A0_0.kp Kx6
 refine ln' A10 u23 rfl (Xa rfl (dn (cd rfl (fun h11 => ?_) (fun h11 => ?_))))
 ·
  refine sk (sq (bl (sr (Xo vx6_0 rfl (Xo v2 rfl (Xo w0_0 rfl (Xa rfl (ix' A10 u23 z5 rfl (fun ad12 es12 h0_12 h1_12 he12 ce12 ia12 => ?_)))))))))
  obtain rfl := he12
  refine lc0 ce12 u5 rfl rfl rfl rfl rfl rfl rfl rfl (quoK rfl rfl rfl rfl rfl rfl rfl rfl (ix' Cx6_5.rd u23 z5 rfl (fun ad14 es14 h0_14 h1_14 he14 ce14 ia14 => ?_)))
  obtain rfl := he14
  refine lc0 ce14 u5 rfl rfl rfl rfl rfl rfl rfl rfl (ltF' (K := (Kd.int .u8)) (cells := [(.int .u8 (at_ ([(48 : Int), (49 : Int), (50 : Int), (51 : Int), (52 : Int), (53 : Int), (54 : Int), (55 : Int), (56 : Int), (57 : Int), (97 : Int), (98 : Int), (99 : Int), (100 : Int), (101 : Int), (102 : Int)]) (IntKind.wrap .u8 ((at_ a0 x6.2).tdiv (16 : Int)))))]) [(at_ ([(48 : Int), (49 : Int), (50 : Int), (51 : Int), (52 : Int), (53 : Int), (54 : Int), (55 : Int), (56 : Int), (57 : Int), (97 : Int), (98 : Int), (99 : Int), (100 : Int), (101 : Int), (102 : Int)]) (IntKind.wrap .u8 ((at_ a0 x6.2).tdiv (16 : Int))))] 42 Xi u23 z5 o5 (fun w => (Xg _ _ _)) rfl rfl (fun v16 s16 p16 A16 => ?_))
  refine apF' Xi sl23 (Ax6_0.st p16 rfl) A16.rd rfl (fun v19 s19 p19 A19 => ?_)
  refine Xn v19 rfl (dn (rg (Xo v19 rfl (Xo v2 rfl (Xo w0_0 rfl (Xa rfl ?_))))))
  have K21 := Kx6.st (tr2 p16 p19) rfl
  refine ix' (A0_0.kp K21) u23 z5 rfl (fun ad23 es23 h0_23 h1_23 he23 ce23 ia23 => ?_)
  obtain rfl := he23
  refine lc0 ce23 u5 rfl rfl rfl rfl rfl rfl rfl rfl (remK rfl rfl rfl rfl rfl rfl rfl rfl ?_)
  have A25 := Cx6_5.st (tr2 p16 p19) rfl
  refine ix' A25.rd u23 z5 rfl (fun ad26 es26 h0_26 h1_26 he26 ce26 ia26 => ?_)
  obtain rfl := he26
  refine lc0 ce26 u5 rfl rfl rfl rfl rfl rfl rfl rfl (ltF' (K := (Kd.int .u8)) (cells := [(.int .u8 (at_ ([(48 : Int), (49 : Int), (50 : Int), (51 : Int), (52 : Int), (53 : Int), (54 : Int), (55 : Int), (56 : Int), (57 : Int), (97 : Int), (98 : Int), (99 : Int), (100 : Int), (101 : Int), (102 : Int)]) ((at_ a0 x6.2).tmod (16 : Int))))]) [(at_ ([(48 : Int), (49 : Int), (50 : Int), (51 : Int), (52 : Int), (53 : Int), (54 : Int), (55 : Int), (56 : Int), (57 : Int), (97 : Int), (98 : Int), (99 : Int), (100 : Int), (101 : Int), (102 : Int)]) ((at_ a0 x6.2).tmod (16 : Int)))] 43 Xi u23 z5 o5 (fun w => (Xg _ _ _)) rfl rfl (fun v28 s28 p28 A28 => ?_))
  refine apF' Xi sl23 (A19.st p28 rfl) A28.rd rfl (fun v31 s31 p31 A31 => ?_)
  refine Xn v31 rfl (dn (ib (rg (Xa rfl (Xa rfl (Xa rfl (dn ?_)))))))
  exact lb ih6 ⟨s31, _, v31, rfl, (ue (ue (ue (ue rfl rfl) rfl) rfl) rfl), (K21.st (tr2 p28 p31) rfl), A31, (A25.st (tr2 p28 p31) rfl)⟩
 exact xt rfl (sgb (sr (Xo vx6_0 rfl (Xn vx6_0 rfl (dn (re rfl func35 rfl (r_t rfl Xe) rfl ⟨_, rfl, Ax6_0.fo Kx6 rfl z.l, z.ky Kx6⟩))))))
def spec_ItemText.f (a0 : Item) : Option ((List Int)) :=
 ((spec_ItemOk.f a0).bind fun r6 => (if (!r6) = true then (some ([] : (List Int))) else (if (a0.Kind == (1 : Int)) = true then ((spec_l18digits.f a0.N).bind fun r17 => (if ([(105 : Int)]).length + r17.length ≤ Lim then (some ([(105 : Int)] ++ r17)) else none)) else (if (a0.Kind == (2 : Int)) = true then ((spec_FloatBits.f a0.F).bind fun r30 => ((spec_l3high.f r30).bind fun r32 => ((spec_l18hex.f r32).bind fun r35 => (if ([(102 : Int)]).length + r35.length ≤ Lim then (some ([(102 : Int)] ++ r35)) else none)))) else (if (a0.Kind == (3 : Int)) = true then ((spec_l18hex.f a0.T).bind fun r50 => (if ([(116 : Int)]).length + r50.length ≤ Lim then (some ([(116 : Int)] ++ r50)) else none)) else (some ([(45 : Int)])))))))
def spec_ItemText.Q (w : World) (F : Nat → Prop) (r : (List Int)) (v : Value) (w' : World) : Prop :=
 FO Xp w w' [v] r ∧ Ky [] w w'
theorem spec_ItemText.calls (a0 : Item) (w : World) (F : Nat → Prop) (w0_0 : Value) (w0_1 : Value) (h0_0 : Kd.flt.rd w [w0_0] a0.F F) (h0_1 : Xp.rd w [w0_1] a0.T F) (r : (List Int)) (m : spec_ItemText.f a0 = some r) :
  Calls prog 8 #[(.agg #[(iI a0.Kind), (iI a0.N), w0_0, w0_1])] w (RT (spec_ItemText.Q w F) r) := by
 obtain ⟨s0, rfl, kp0, z⟩ := Xh w F
 have A0_0 := Xm h0_0
 have A0_1 := z.rd h0_1
 refine Xb (args := [(.agg #[(iI a0.Kind), (iI a0.N), w0_0, w0_1])]) func8 ntmps8 rfl rfl m ?_
 unfold spec_ItemText.f
 refine sr (bx' (cs := [(iI a0.Kind), (iI a0.N), w0_0, w0_1]) 40 rfl (fun b2 s2 p2 B2 => ?_))
 refine Xa rfl (dn (sq (sr (lda' (es := [(iI a0.Kind), (iI a0.N), w0_0, w0_1]) B2 u28 z28 rfl ?_))))
 have K4 := kp0.st p2 rfl
 refine clV 41 rfl func33 rfl (spec_ItemOk.calls a0 s2.w (mm [0] s2) w0_0 w0_1 ((Xc (s := s2) A0_0).sub (D := [0]) rfl) (A0_1.kp K4)) (fun r6 s7 p7 n7 => ?_)
 refine Xa rfl (dn (cd rfl (fun h8 => ?_) (fun h8 => ?_)))
 ·
  refine sr (Xa rfl (dn ?_))
  have K9 := K4.st p7 rfl
  exact re rfl func8 rfl (r_t rfl Xe) rfl ⟨_, rfl, (ow_nil 5 (Kd.int .u8) s7 40).fo K9 rfl z.l, z.ky K9⟩
 refine sk (sq (sr (Xl fa28_0 rfl ?_)))
 have A10 := B2.st p7 rfl
 refine ld' A10 u3 rfl (dn (bl (sr (Xa rfl (Xa rfl (dn (cd rfl (fun h11 => ?_) (fun h11 => ?_))))))))
 ·
  refine sr (ltF' (K := (Kd.int .u8)) (cells := [(.int .u8 (105 : Int))]) [(105 : Int)] 42 Xi u23 z5 o5 (fun w => (Xg _ _ _)) rfl rfl (fun v12 s12 p12 A12 => ?_))
  refine cvm A12 rfl u23 u5 rfl rfl rfl rfl rfl rfl (fun s14 p14 A14 => ?_)
  refine Xl fa28_1 rfl (ld' (A10.st (tr2 p12 p14) rfl) u3 rfl (clO 43 rfl func34 rfl (spec_l18digits.calls a0.N s14.w (mm [] s14)) (fun r17 v17_0 s18 p18 A17_0 => ?_)))
  refine apF' Xi sl23 (A14.st p18 rfl) A17_0.rd rfl (fun v21 s21 p21 A21 => ?_)
  refine Xn v21 rfl (dn ?_)
  have K23 := K4.st (tr5 p7 p12 p14 p18 p21) rfl
  exact re rfl func8 rfl (r_t rfl Xe) rfl ⟨_, rfl, A21.fo K23 rfl z.l, z.ky K23⟩
 refine sr (Xa rfl (Xa rfl (dn (cd rfl (fun h24 => ?_) (fun h24 => ?_)))))
 ·
  refine sr (ltF' (K := (Kd.int .u8)) (cells := [(.int .u8 (102 : Int))]) [(102 : Int)] 44 Xi u23 z5 o5 (fun w => (Xg _ _ _)) rfl rfl (fun v25 s25 p25 A25 => ?_))
  refine cvm A25 rfl u23 u5 rfl rfl rfl rfl rfl rfl (fun s27 p27 A27 => ?_)
  refine Xl fa28_2 rfl (ld' (A10.st (tr2 p25 p27) rfl) u22 rfl (clV 45 rfl func37 rfl (spec_FloatBits.calls a0.F s27.w (mm [] s27) w0_0 (Xc (s := s27) A0_0)) (fun r30 s31 p31 n31 => ?_)))
  refine clO 46 rfl func36 rfl (spec_l3high.calls r30 s31.w (mm [] s31)) (fun r32 v32_0 s33 p33 A32_0 => ?_)
  refine clO 47 rfl func35 rfl (spec_l18hex.calls r32 s33.w (mm [46] s33) v32_0 A32_0.rd) (fun r35 v35_0 s36 p36 A35_0 => ?_)
  refine apF' Xi sl23 (A27.st (tr3 p31 p33 p36) rfl) A35_0.rd rfl (fun v39 s39 p39 A39 => ?_)
  refine Xn v39 rfl (dn ?_)
  have K41 := K4.st (tr7 p7 p25 p27 p31 p33 p36 p39) rfl
  exact re rfl func8 rfl (r_t rfl Xe) rfl ⟨_, rfl, A39.fo K41 rfl z.l, z.ky K41⟩
 refine sr (Xa rfl (Xa rfl (dn (cd rfl (fun h42 => ?_) (fun h42 => ?_)))))
 ·
  refine sr (ltF' (K := (Kd.int .u8)) (cells := [(.int .u8 (116 : Int))]) [(116 : Int)] 48 Xi u23 z5 o5 (fun w => (Xg _ _ _)) rfl rfl (fun v43 s43 p43 A43 => ?_))
  refine cvm A43 rfl u23 u5 rfl rfl rfl rfl rfl rfl (fun s45 p45 A45 => ?_)
  refine Xl fa28_3 rfl (ld' (A10.st (tr2 p43 p45) rfl) u23 rfl ?_)
  have K48 := K4.st (tr3 p7 p43 p45) rfl
  refine clO 49 rfl func35 rfl (spec_l18hex.calls a0.T s45.w (mm [0] s45) w0_1 (A0_1.kp K48)) (fun r50 v50_0 s51 p51 A50_0 => ?_)
  refine apF' Xi sl23 (A45.st p51 rfl) A50_0.rd rfl (fun v54 s54 p54 A54 => ?_)
  refine Xn v54 rfl (dn ?_)
  have K56 := K48.st (tr2 p51 p54) rfl
  exact re rfl func8 rfl (r_t rfl Xe) rfl ⟨_, rfl, A54.fo K56 rfl z.l, z.ky K56⟩
 refine sk (ib (sr (ltF' (K := (Kd.int .u8)) (cells := [(.int .u8 (45 : Int))]) [(45 : Int)] 50 Xi u23 z5 o5 (fun w => (Xg _ _ _)) rfl rfl (fun v57 s57 p57 A57 => ?_))))
 refine cvm A57 rfl u23 u5 rfl rfl rfl rfl rfl rfl (fun s59 p59 A59 => ?_)
 refine Xn v57 rfl (dn ?_)
 have K61 := K4.st (tr3 p7 p57 p59) rfl
 exact re rfl func8 rfl (r_t rfl Xe) rfl ⟨_, rfl, A59.fo K61 rfl z.l, z.ky K61⟩
def impl_within.f (a0 : Int) (a1 : Int) (a2 : Int) : Option (Bool) :=
 (some ((decide (a1 ≤ a0)) && (decide (a0 ≤ a2))))
def impl_within.Q (w : World) (F : Nat → Prop) (r : Bool) (v : Value) (w' : World) : Prop :=
 v = (.bool r) ∧ Ky [] w w'
theorem impl_within.calls (a0 : Int) (a1 : Int) (a2 : Int) (w : World) (F : Nat → Prop)   (r : Bool) (m : impl_within.f a0 a1 a2 = some r) :
  Calls prog 62 #[(iI a0), (iI a1), (iI a2)] w (RT (impl_within.Q w F) r) := by
 obtain ⟨s0, rfl, kp0, z⟩ := Xh w F
 refine Xb (args := [(iI a0), (iI a1), (iI a2)]) func62 ntmps62 rfl rfl m ?_
 unfold impl_within.f
 refine sr (Xa rfl (dn (sr (Xa rfl (Xa rfl (Xa rfl (Xa rfl (jy [10, 11, 12, 13, 14] [8] 14 (.bool ((decide (a1 ≤ a0)) && (decide (a0 ≤ a2)))) rfl (fun Kg1 => ?_) (fun j1 => ?_)))))))))
 ·
  rcases bft (decide (a1 ≤ a0)) with hb1 | hb1
  ·
   exact sbT hb1 (Xa rfl (Xa rfl (Xa rfl (Xa rfl (Kg1 _ (Ag.put ((Ag.put ((Ag.put ((Ag.put (Ag.base rfl) rfl)) rfl)) rfl)) rfl) (by rw [hb1]; rfl))))))
  exact sbT hb1 (Xj rfl (Xj rfl (Xj rfl (Xa rfl (Kg1 _ (Ag.put ((Ag.put ((Ag.put ((Ag.put (Ag.base rfl) rfl)) rfl)) rfl)) rfl) (by rw [hb1]; rfl))))))
 exact Xa rfl (dn (re rfl func62 rfl (r_t rfl Xe) rfl ⟨_, rfl, rfl, z.ky kp0⟩))
def impl_ItemOk.f (a0 : Item) : Option (Bool) :=
 ((impl_within.f a0.Kind (0 : Int) (3 : Int)).bind fun r4 => (some (((r4 && ((a0.N == (0 : Int)) || (a0.Kind == (1 : Int)))) && (((a0.F : Int) == 0) || (a0.Kind == (2 : Int)))) && (((a0.T.length : Int) == (0 : Int)) || ((a0.Kind == (3 : Int)) && (decide ((a0.T.length : Int) ≤ (40 : Int))))))))
def impl_ItemOk.Q (w : World) (F : Nat → Prop) (r : Bool) (v : Value) (w' : World) : Prop :=
 v = (.bool r) ∧ Ky [] w w'
theorem impl_ItemOk.calls (a0 : Item) (w : World) (F : Nat → Prop) (w0_0 : Value) (w0_1 : Value) (h0_0 : Kd.flt.rd w [w0_0] a0.F F) (h0_1 : Xp.rd w [w0_1] a0.T F) (r : Bool) (m : impl_ItemOk.f a0 = some r) :
  Calls prog 38 #[(.agg #[(iI a0.Kind), (iI a0.N), w0_0, w0_1])] w (RT (impl_ItemOk.Q w F) r) := by
 obtain ⟨s0, rfl, kp0, z⟩ := Xh w F
 refine Xb (args := [(.agg #[(iI a0.Kind), (iI a0.N), w0_0, w0_1])]) func38 ntmps38 rfl rfl m ?_
 unfold impl_ItemOk.f
 refine sr (bx' (cs := [(iI a0.Kind), (iI a0.N), w0_0, w0_1]) 40 rfl (fun b2 s2 p2 B2 => ?_))
 refine Xa rfl (dn (sr (Xl fa28_0 rfl (ld' B2 u3 rfl (clV 41 rfl func62 rfl (impl_within.calls a0.Kind (0 : Int) (3 : Int) s2.w (mm [] s2)) (fun r4 s5 p5 n5 => ?_))))))
 refine Xa rfl (jy [6, 7, 8, 9, 10, 11, 12, 13, 14, 15] [13, 14, 15, 16, 17, 18, 19, 20, 21, 22, 23, 24, 25, 26, 27, 28, 29, 30, 31, 32, 33, 34, 35, 36, 37, 38, 39, 40, 41] 15 (.bool (r4 && ((a0.N == (0 : Int)) || (a0.Kind == (1 : Int))))) rfl (fun Kg6 => ?_) (fun j6 => ?_))
 ·
  rcases bft r4 with hb6 | hb6
  ·
   refine sbT hb6 (Xl fa28_1 rfl ?_)
   have A7 := B2.st p5 rfl
   refine ld' A7 u3 rfl (Xa rfl (Xa rfl (jy [10, 11, 12, 13, 14] [12, 13, 14, 15, 16, 17, 18, 19, 20, 21, 22, 23, 24, 25, 26, 27, 28, 29, 30, 31, 32, 33, 34, 35, 36, 37, 38, 39, 40, 41] 14 (.bool ((a0.N == (0 : Int)) || (a0.Kind == (1 : Int)))) rfl (fun Kg8 => ?_) (fun j8 => ?_))))
   ·
    rcases bft (a0.N == (0 : Int)) with hb8 | hb8
    ·
     exact sbT hb8 (Xj rfl (Xj rfl (Xj rfl (Xa rfl (Kg8 _ (Ag.put ((Ag.put ((Ag.put ((Ag.put (Ag.base rfl) rfl)) rfl)) rfl)) rfl) (by rw [hb8]; rfl))))))
    exact sbT hb8 (Xl fa28_0 rfl (ld' A7 u3 rfl (Xa rfl (Xa rfl (Kg8 _ (Ag.put ((Ag.put ((Ag.put ((Ag.put (Ag.base rfl) rfl)) rfl)) rfl)) rfl) (by rw [hb8]; rfl))))))
   exact Xa rfl (Kg6 _ (Ag.put ((Ag.put ((Ag.ov ((Ag.put ((Ag.put ((Ag.put ((Ag.put (Ag.base rfl) rfl)) rfl)) rfl)) rfl)) rfl)) rfl)) rfl) (by rw [hb6]; rfl))
  exact sbT hb6 (Xj rfl (Xj rfl (Xj rfl (Xj rfl (Xj rfl (Xj rfl (Xj rfl (Xj rfl (Xa rfl (Kg6 _ (Ag.put ((Ag.put ((Ag.put ((Ag.put ((Ag.put ((Ag.put ((Ag.put ((Ag.put ((Ag.put (Ag.base rfl) rfl)) rfl)) rfl)) rfl)) rfl)) rfl)) rfl)) rfl)) rfl) (by rw [hb6]; rfl)))))))))))
 refine Xa rfl (jy [16, 17, 18, 19, 20, 21, 22, 23, 24, 25, 26] [24, 25, 26, 27, 28, 29, 30, 31, 32, 33, 34, 35, 36, 37, 38, 39, 40, 41] 26 (.bool ((r4 && ((a0.N == (0 : Int)) || (a0.Kind == (1 : Int)))) && (((a0.F : Int) == 0) || (a0.Kind == (2 : Int))))) rfl (fun Kg9 => ?_) (fun j9 => ?_))
 ·
  rcases bft (r4 && ((a0.N == (0 : Int)) || (a0.Kind == (1 : Int)))) with hb9 | hb9
  ·
   refine sbT hb9 (Xl fa28_2 rfl ?_)
   have A10 := B2.st p5 rfl
   refine ld' A10 u22 rfl (fbu (Xm h0_0) rfl rfl rfl rfl rfl func63 rfl rfl xn63 xf63 rfl (fun b11 A11 => ?_))
   refine fz0 A11 rfl rfl rfl rfl rfl rfl rfl (Xa rfl (jy [21, 22, 23, 24, 25] [23, 24, 25, 26, 27, 28, 29, 30, 31, 32, 33, 34, 35, 36, 37, 38, 39, 40, 41] 25 (.bool (((a0.F : Int) == 0) || (a0.Kind == (2 : Int)))) rfl (fun Kg12 => ?_) (fun j12 => ?_)))
   ·
    rcases bft ((a0.F : Int) == 0) with hb12 | hb12
    ·
     exact sbT hb12 (Xj rfl (Xj rfl (Xj rfl (Xa rfl (Kg12 _ (Ag.put ((Ag.put ((Ag.put ((Ag.put (Ag.base rfl) rfl)) rfl)) rfl)) rfl) (by rw [hb12]; rfl))))))
    exact sbT hb12 (Xl fa28_0 rfl (ld' A10 u3 rfl (Xa rfl (Xa rfl (Kg12 _ (Ag.put ((Ag.put ((Ag.put ((Ag.put (Ag.base rfl) rfl)) rfl)) rfl)) rfl) (by rw [hb12]; rfl))))))
   exact Xa rfl (Kg9 _ (Ag.put ((Ag.put ((Ag.ov ((Ag.put ((Ag.put ((Ag.put ((Ag.put ((Ag.put (Ag.base rfl) rfl)) rfl)) rfl)) rfl)) rfl)) rfl)) rfl)) rfl) (by rw [hb9]; rfl))
  exact sbT hb9 (Xj rfl (Xj rfl (Xj rfl (Xj rfl (Xj rfl (Xj rfl (Xj rfl (Xj rfl (Xj rfl (Xa rfl (Kg9 _ (Ag.put ((Ag.put ((Ag.put ((Ag.put ((Ag.put ((Ag.put ((Ag.put ((Ag.put ((Ag.put ((Ag.put (Ag.base rfl) rfl)) rfl)) rfl)) rfl)) rfl)) rfl)) rfl)) rfl)) rfl)) rfl) (by rw [hb9]; rfl))))))))))))
 refine Xa rfl (jy [27, 28, 29, 30, 31, 32, 33, 34, 35, 36, 37, 38, 39, 40, 41, 42, 43] [41] 43 (.bool (((r4 && ((a0.N == (0 : Int)) || (a0.Kind == (1 : Int)))) && (((a0.F : Int) == 0) || (a0.Kind == (2 : Int)))) && (((a0.T.length : Int) == (0 : Int)) || ((a0.Kind == (3 : Int)) && (decide ((a0.T.length : Int) ≤ (40 : Int))))))) rfl (fun Kg13 => ?_) (fun j13 => ?_))
 ·
  rcases bft ((r4 && ((a0.N == (0 : Int)) || (a0.Kind == (1 : Int)))) && (((a0.F : Int) == 0) || (a0.Kind == (2 : Int)))) with hb13 | hb13
  ·
   refine sbT hb13 (Xl fa28_3 rfl ?_)
   have A14 := B2.st p5 rfl
   refine ld' A14 u23 rfl ?_
   have A16 := (z.rd h0_1).kp (kp0.st (tr2 p2 p5) rfl)
   refine ln' A16 u23 rfl (Xa rfl (Xa rfl (jy [32, 33, 34, 35, 36, 37, 38, 39, 40, 41, 42] [40, 41] 42 (.bool (((a0.T.length : Int) == (0 : Int)) || ((a0.Kind == (3 : Int)) && (decide ((a0.T.length : Int) ≤ (40 : Int)))))) rfl (fun Kg17 => ?_) (fun j17 => ?_))))
   ·
    rcases bft ((a0.T.length : Int) == (0 : Int)) with hb17 | hb17
    ·
     exact sbT hb17 (Xj rfl (Xj rfl (Xj rfl (Xj rfl (Xj rfl (Xj rfl (Xj rfl (Xj rfl (Xj rfl (Xa rfl (Kg17 _ (Ag.put ((Ag.put ((Ag.put ((Ag.put ((Ag.put ((Ag.put ((Ag.put ((Ag.put ((Ag.put ((Ag.put (Ag.base rfl) rfl)) rfl)) rfl)) rfl)) rfl)) rfl)) rfl)) rfl)) rfl)) rfl) (by rw [hb17]; rfl))))))))))))
    refine sbT hb17 (Xl fa28_0 rfl (ld' A14 u3 rfl (Xa rfl (Xa rfl (jy [36, 37, 38, 39, 40, 41] [39, 40, 41] 41 (.bool ((a0.Kind == (3 : Int)) && (decide ((a0.T.length : Int) ≤ (40 : Int))))) rfl (fun Kg18 => ?_) (fun j18 => ?_))))))
    ·
     rcases bft (a0.Kind == (3 : Int)) with hb18 | hb18
     ·
      exact sbT hb18 (Xl fa28_3 rfl (ld' A14 u23 rfl (ln' A16 u23 rfl (Xa rfl (Xa rfl (Kg18 _ (Ag.put ((Ag.put ((Ag.put ((Ag.put ((Ag.put (Ag.base rfl) rfl)) rfl)) rfl)) rfl)) rfl) (by rw [hb18]; rfl)))))))
     exact sbT hb18 (Xj rfl (Xj rfl (Xj rfl (Xj rfl (Xa rfl (Kg18 _ (Ag.put ((Ag.put ((Ag.put ((Ag.put ((Ag.put (Ag.base rfl) rfl)) rfl)) rfl)) rfl)) rfl) (by rw [hb18]; rfl)))))))
    exact Xa rfl (Kg17 _ (Ag.put ((Ag.put ((Ag.ov ((Ag.put ((Ag.put ((Ag.put ((Ag.put (Ag.base rfl) rfl)) rfl)) rfl)) rfl)) rfl)) rfl)) rfl) (by rw [hb17]; rfl))
   exact Xa rfl (Kg13 _ (Ag.put ((Ag.put ((Ag.ov ((Ag.put ((Ag.put ((Ag.put ((Ag.put ((Ag.put (Ag.base rfl) rfl)) rfl)) rfl)) rfl)) rfl)) rfl)) rfl)) rfl) (by rw [hb13]; rfl))
  refine sbT hb13 (Xj rfl (Xj rfl (Xj rfl (Xj rfl (Xj rfl (Xj rfl (Xj rfl (Xj rfl (Xj rfl (Xj rfl (Xj rfl (Xj rfl (Xj rfl (Xj rfl ?_))))))))))))))
  exact Xj rfl (Xa rfl (Kg13 _ (Ag.put ((Ag.put ((Ag.put ((Ag.put ((Ag.put ((Ag.put ((Ag.put ((Ag.put ((Ag.put ((Ag.put ((Ag.put ((Ag.put ((Ag.put ((Ag.put ((Ag.put ((Ag.put (Ag.base rfl) rfl)) rfl)) rfl)) rfl)) rfl)) rfl)) rfl)) rfl)) rfl)) rfl)) rfl)) rfl)) rfl)) rfl)) rfl)) rfl) (by rw [hb13]; rfl)))
 refine Xa rfl (dn ?_)
 exact re rfl func38 rfl (r_t rfl Xe) rfl ⟨_, rfl, rfl, z.ky (kp0.st (tr2 p2 p5) rfl)⟩
section
open Go.Shelf
shelf_lay LaysM.n171 Nm 171 at Tryd as lay_itoa
theorem grow_ky (w : World) (k : Nat) (os : Array Obj) : Ky [] w (Sort.grow (w.drewN k) os) := by
  refine ⟨rfl, ?_, rfl, ?_, fun b hb _ => ?_⟩
  · simp [Sort.grow]
  · simp [Sort.grow]
  · simp [Sort.grow, Array.getElem?_append_left hb]
def strconv_Itoa.f (a0 : Int) : Option (ByteArray) := if -9223372036854775808 ≤ a0 ∧ a0 ≤ 9223372036854775807 then some ⟨(Lib.itoa a0).toArray⟩ else none
def strconv_Itoa.Q (w : World) (F : Nat → Prop) (r : ByteArray) (v : Value) (w' : World) : Prop := v = (.string r) ∧ Ky [] w w'
theorem strconv_Itoa.calls (a0 : Int) (w : World) (F : Nat → Prop) (hG : GT.rd w [] () F) (r : ByteArray) (m : strconv_Itoa.f a0 = some r) :
    Calls Tryd.prog 64 #[.int .i64 a0] w (RT (strconv_Itoa.Q w F) r) := by
  unfold strconv_Itoa.f at m
  split at m
  · rename_i h
    cases m
    refine Calls.mono (Any.strconv_Itoa lay_itoa a0 h.1 h.2 w hG.2.1) fun e w' ⟨he, k, os, hw⟩ => ⟨_, he, rfl, ?_⟩
    rw [hw]; exact grow_ky w k os
  · cases m
end

def impl_FloatBits.f (a0 : Nat) : Option (Int) :=
 (if (fcmp .f64 a0 a0 != some .eq) = true then (some (9221120237041090560 : Int)) else (if isN a0 = false then (some (a0 : Int)) else none))
def impl_FloatBits.Q (w : World) (F : Nat → Prop) (r : Int) (v : Value) (w' : World) : Prop :=
 v = (.int .u64 r) ∧ Ky [] w w'
theorem impl_FloatBits.calls (a0 : Nat) (w : World) (F : Nat → Prop) (w0_0 : Value) (h0_0 : Kd.flt.rd w [w0_0] a0 F) (r : Int) (m : impl_FloatBits.f a0 = some r) :
  Calls prog 84 #[w0_0] w (RT (impl_FloatBits.Q w F) r) := by
 obtain ⟨s0, rfl, kp0, z⟩ := Xh w F
 have A0_0 := Xm h0_0
 refine Xb (args := [w0_0]) func84 ntmps84 rfl rfl m ?_
 unfold impl_FloatBits.f
 refine sr (Xa rfl (dn (sq (sr (Xo w0_0 rfl (Xo w0_0 rfl (fq_' A0_0 A0_0 rfl (dn (cd rfl (fun h1 => ?_) (fun h1 => ?_))))))))))
 ·
  exact sr (Xa rfl (dn (re rfl func84 rfl (r_t rfl Xe) rfl ⟨_, rfl, rfl, z.ky kp0⟩)))
 exact sk (sr (Xo w0_0 rfl (fb_ A0_0 rfl rfl rfl rfl rfl func63 rfl rfl xn63 xf63 rfl (Xa rfl (dn (re rfl func84 rfl (r_t rfl Xe) rfl ⟨_, rfl, rfl, z.ky kp0⟩))))))
def impl_highFirst.b0 (a0 : Int) (x1 : (List Int) × Int) : Option (((List Int) × Int) ⊕ (List Int)) :=
 (if (decide (x1.2 ≥ (0 : Int))) = true then (if 0 ≤ x1.2 then (if x1.1.length + ([(IntKind.wrap .u8 (ishr .u64 a0 x1.2))]).length ≤ Lim then (some (Sum.inl ((x1.1 ++ [(IntKind.wrap .u8 (ishr .u64 a0 x1.2))]), (IntKind.wrap .i64 (x1.2 - (8 : Int)))))) else none) else none) else ((some x1.1).bind fun o => some (Sum.inr o)))
def impl_highFirst.f (a0 : Int) : Option ((List Int)) :=
 (iter (impl_highFirst.b0 a0) (([] : (List Int)), (56 : Int)))
def impl_highFirst.Q (w : World) (F : Nat → Prop) (r : (List Int)) (v : Value) (w' : World) : Prop :=
 FO Xp w w' [v] r ∧ Ky [] w w'
theorem impl_highFirst.calls (a0 : Int) (w : World) (F : Nat → Prop)   (r : (List Int)) (m : impl_highFirst.f a0 = some r) :
  Calls prog 83 #[(.int .u64 a0)] w (RT (impl_highFirst.Q w F) r) := by
 obtain ⟨s0, rfl, kp0, z⟩ := Xh w F
 refine Xb (args := [(.int .u64 a0)]) func83 ntmps83 rfl rfl m ?_
 unfold impl_highFirst.f
 refine sr (Xa rfl (dn (sr (Xa rfl (dn (sq (sr (Xa rfl (dn (bl (lpI (fun (x1 : (List Int) × Int) e w => ∃ (s : St) (e0 : Env) (vx1_0 : Value), w = s.w ∧ e = upd (upd (upd e0 0 (.int .u64 a0)) 3 vx1_0) 4 (iI x1.2) ∧ Kp s0 s ∧ OwF Xp s [vx1_0] x1.1 40) ⟨s0, _, (.slice none 0 0), rfl, (ue (ue (ue rfl rfl) rfl) rfl), kp0, (ow_nil 5 (Kd.int .u8) _ 40)⟩ (fun g1 ih1 => ?_))))))))))))
 rintro x1 _ _ ⟨s2, _, vx1_0, rfl, rfl, Kx1, Ax1_0⟩
 unfold impl_highFirst.b0
 refine sq (sr (Xa rfl (Xa rfl (dn (cd rfl (fun h4 => ?_) (fun h4 => ?_))))))
 ·
  refine sk (sq (bl (rg (Xo vx1_0 rfl (Xa rfl (Xa rfl (shr_ rfl rfl rfl rfl rfl rfl rfl (cv u5 u65 rfl rfl rfl rfl rfl rfl (ltF' (K := (Kd.int .u8)) (cells := [(.int .u8 (IntKind.wrap .u8 (ishr .u64 a0 x1.2)))]) [(IntKind.wrap .u8 (ishr .u64 a0 x1.2))] 41 Xi u23 z5 o5 (fun w => (Xg _ _ _)) rfl rfl (fun v5 s5 p5 A5 => ?_))))))))))
  refine apF' Xi sl23 (Ax1_0.st p5 rfl) A5.rd rfl (fun v8 s8 p8 A8 => ?_)
  refine Xn v8 rfl (dn (ib (rg (Xa rfl (Xa rfl (Xa rfl (dn ?_)))))))
  exact lb ih1 ⟨s8, _, v8, rfl, (ue (ue (ue rfl rfl) rfl) rfl), (Kx1.st (tr2 p5 p8) rfl), A8⟩
 exact xt rfl (sgb (sr (Xo vx1_0 rfl (Xn vx1_0 rfl (dn (re rfl func83 rfl (r_t rfl Xe) rfl ⟨_, rfl, Ax1_0.fo Kx1 rfl z.l, z.ky Kx1⟩))))))
def impl_hexText.b0 (a0 : (List Int)) (x2 : (List Int) × Int) : Option (((List Int) × Int) ⊕ ByteArray) :=
 (if (decide (x2.2 < (a0.length : Int))) = true then (if 0 ≤ x2.2 ∧ x2.2 < (a0.length : Int) then (if 0 ≤ (ishr .u8 (at_ a0 x2.2) (4 : Int)) ∧ (ishr .u8 (at_ a0 x2.2) (4 : Int)) < ((⟨#[48, 49, 50, 51, 52, 53, 54, 55, 56, 57, 97, 98, 99, 100, 101, 102]⟩ : ByteArray).size : Int) then (if 0 ≤ (iand .u8 (at_ a0 x2.2) (15 : Int)) ∧ (iand .u8 (at_ a0 x2.2) (15 : Int)) < ((⟨#[48, 49, 50, 51, 52, 53, 54, 55, 56, 57, 97, 98, 99, 100, 101, 102]⟩ : ByteArray).size : Int) then (if x2.1.length + ([(at_ (bts (⟨#[48, 49, 50, 51, 52, 53, 54, 55, 56, 57, 97, 98, 99, 100, 101, 102]⟩ : ByteArray)) (ishr .u8 (at_ a0 x2.2) (4 : Int))), (at_ (bts (⟨#[48, 49, 50, 51, 52, 53, 54, 55, 56, 57, 97, 98, 99, 100, 101, 102]⟩ : ByteArray)) (iand .u8 (at_ a0 x2.2) (15 : Int)))]).length ≤ Lim then (some (Sum.inl ((x2.1 ++ [(at_ (bts (⟨#[48, 49, 50, 51, 52, 53, 54, 55, 56, 57, 97, 98, 99, 100, 101, 102]⟩ : ByteArray)) (ishr .u8 (at_ a0 x2.2) (4 : Int))), (at_ (bts (⟨#[48, 49, 50, 51, 52, 53, 54, 55, 56, 57, 97, 98, 99, 100, 101, 102]⟩ : ByteArray)) (iand .u8 (at_ a0 x2.2) (15 : Int)))]), (IntKind.wrap .i64 (x2.2 + (1 : Int)))))) else none) else none) else none) else none) else ((some (str x2.1)).bind fun o => some (Sum.inr o)))
def impl_hexText.f (a0 : (List Int)) : Option (ByteArray) :=
 (iter (impl_hexText.b0 a0) (([] : (List Int)), (0 : Int)))
def impl_hexText.Q (w : World) (F : Nat → Prop) (r : ByteArray) (v : Value) (w' : World) : Prop :=
 v = (.string r) ∧ Ky [] w w'
theorem impl_hexText.calls (a0 : (List Int)) (w : World) (F : Nat → Prop) (w0_0 : Value) (h0_0 : Xp.rd w [w0_0] a0 F) (r : ByteArray) (m : impl_hexText.f a0 = some r) :
  Calls prog 66 #[w0_0] w (RT (impl_hexText.Q w F) r) := by
 obtain ⟨s0, rfl, kp0, z⟩ := Xh w F
 have A0_0 := z.rd h0_0
 refine Xb (args := [w0_0]) func66 ntmps66 rfl rfl m ?_
 unfold impl_hexText.f
 refine sr (Xa rfl (dn (sr (Xa rfl (dn (sq (sr (Xo w0_0 rfl (ln' A0_0 u23 rfl (Xa rfl (dn (bl (lpI (fun (x2 : (List Int) × Int) e w => ∃ (s : St) (e0 : Env) (vx2_0 : Value), w = s.w ∧ e = upd (upd (upd (upd e0 3 vx2_0) 6 w0_0) 7 (iI (a0.length : Int))) 8 (iI x2.2) ∧ Kp s0 s ∧ OwF Xp s [vx2_0] x2.1 40) ⟨s0, _, (.slice none 0 0), rfl, (ue (ue (ue (ue rfl rfl) rfl) rfl) rfl), kp0, (ow_nil 5 (Kd.int .u8) _ 40)⟩ (fun g2 ih2 => ?_))))))))))))))
 rintro x2 _ _ ⟨s3, _, vx2_0, rfl, rfl, Kx2, Ax2_0⟩
 unfold impl_hexText.b0
 refine sr (Xa rfl (dn (sq (cd rfl (fun h5 => ?_) (fun h5 => ?_)))))
 ·
  refine sk (sq (bl (sr ?_)))
  refine ix' (A0_0.kp Kx2) u23 z5 rfl (fun ad7 es7 h0_7 h1_7 he7 ce7 ia7 => ?_)
  obtain rfl := he7
  refine lc0 ce7 u5 rfl rfl rfl rfl rfl rfl rfl rfl (Xa rfl (dn (zdraw [[], [], [1], [2], [], [4], [5], [3, 6], [0, 7], [8, 8, 0, 1, 2, 3, 4, 5, 6, 7, 8]] [some 12, some 13, some 14, some 15, some 16, some 17, some 18, some 19, some 20, some 3] [[3], [5], [13], [14], [5], [16], [17], [15, 18], [12, 19], [20]] [0, 1, 2, 3, 4, 5, 6, 7, 8, 9] ⟨by kernel_rfl, by kernel_rfl, by kernel_rfl⟩ (by kernel_rfl) (fun s9 p9 l9 tb9 zd9 => ?_))))
  refine mg fun hg13 => (mg fun hg17 => (zstep 7 [some 12] tb9 (((((((zd9.add 0 12 vx2_0 rfl).add 1 13 (.int .u8 (at_ a0 x2.2)) rfl).add 2 14 (.int .u8 (ishr .u8 (at_ a0 x2.2) (4 : Int))) rfl).add 3 15 (.int .u8 (at_ (bts (⟨#[48, 49, 50, 51, 52, 53, 54, 55, 56, 57, 97, 98, 99, 100, 101, 102]⟩ : ByteArray)) (ishr .u8 (at_ a0 x2.2) (4 : Int)))) rfl).add 4 16 (.int .u8 (at_ a0 x2.2)) rfl).add 5 17 (.int .u8 (iand .u8 (at_ a0 x2.2) (15 : Int))) rfl).add 6 18 (.int .u8 (at_ (bts (⟨#[48, 49, 50, 51, 52, 53, 54, 55, 56, 57, 97, 98, 99, 100, 101, 102]⟩ : ByteArray)) (iand .u8 (at_ a0 x2.2) (15 : Int)))) rfl) (Xf (sxi_q u9 hg17 rfl rfl rfl rfl rfl rfl rfl) rfl (Xf (pu_q rfl rfl rfl rfl rfl rfl) rfl (Xf (pu_q rfl rfl rfl rfl rfl rfl) rfl (Xf (sxi_q u9 hg13 rfl rfl rfl rfl rfl rfl rfl) rfl (Xf (shrK_q rfl rfl rfl rfl rfl rfl rfl rfl) rfl (Xf (pu_q rfl rfl rfl rfl rfl rfl) rfl (Xf (mv_q vx2_0 rfl rfl rfl rfl rfl rfl) rfl pq_nil))))))) (by kernel_rfl) rfl (fun l19 e19 zd19 => ?_)))
  refine ltF' (K := (Kd.int .u8)) (cells := [(.int .u8 (at_ (bts (⟨#[48, 49, 50, 51, 52, 53, 54, 55, 56, 57, 97, 98, 99, 100, 101, 102]⟩ : ByteArray)) (ishr .u8 (at_ a0 x2.2) (4 : Int)))), (.int .u8 (at_ (bts (⟨#[48, 49, 50, 51, 52, 53, 54, 55, 56, 57, 97, 98, 99, 100, 101, 102]⟩ : ByteArray)) (iand .u8 (at_ a0 x2.2) (15 : Int))))]) [(at_ (bts (⟨#[48, 49, 50, 51, 52, 53, 54, 55, 56, 57, 97, 98, 99, 100, 101, 102]⟩ : ByteArray)) (ishr .u8 (at_ a0 x2.2) (4 : Int))), (at_ (bts (⟨#[48, 49, 50, 51, 52, 53, 54, 55, 56, 57, 97, 98, 99, 100, 101, 102]⟩ : ByteArray)) (iand .u8 (at_ a0 x2.2) (15 : Int)))] 41 Xi u23 z5 o5 (fun w => (Xg _ _ _)) rfl rfl (fun v20 s20 p20 A20 => ?_)
  refine zdone (L' := [0]) (D' := [1, 2, 4, 5, 3, 6, 7]) zd19 rfl rfl rfl (fun zd22 => ?_)
  refine zfin [8, 9] tb9 zd22 (Xf (mv_q vx2_0 rfl rfl rfl rfl rfl rfl) rfl pq_nil) (by kernel_rfl) (by decide) (apF' Xi sl23 (Ax2_0.st (tr2 p9 p20) rfl) A20.rd rfl (fun v24 s24 p24 A24 => ?_))
  refine Xn v24 rfl (dn (ib (rg (Xa rfl (Xa rfl (dn ?_))))))
  exact lb ih2 ⟨s24, _, v24, rfl, (ue (ue (ue (ue rfl rfl) rfl) rfl) rfl), (Kx2.st (tr3 p9 p20 p24) rfl), A24⟩
 exact xt rfl (sgb (sr (Xo vx2_0 rfl (b2s Ax2_0.rd u23 u9 u5 rfl rfl rfl rfl rfl rfl (Xa rfl (dn (re rfl func66 rfl (r_t rfl Xe) rfl ⟨_, rfl, rfl, z.ky Kx2⟩)))))))
def impl_bitsText.f (a0 : Nat) : Option (ByteArray) :=
 ((impl_FloatBits.f a0).bind fun r1 => ((impl_highFirst.f r1).bind fun r3 => ((impl_hexText.f r3).bind fun r6 => (some r6))))
def impl_bitsText.Q (w : World) (F : Nat → Prop) (r : ByteArray) (v : Value) (w' : World) : Prop :=
 v = (.string r) ∧ Ky [] w w'
theorem impl_bitsText.calls (a0 : Nat) (w : World) (F : Nat → Prop) (w0_0 : Value) (h0_0 : Kd.flt.rd w [w0_0] a0 F) (r : ByteArray) (m : impl_bitsText.f a0 = some r) :
  Calls prog 65 #[w0_0] w (RT (impl_bitsText.Q w F) r) := by
 obtain ⟨s0, rfl, kp0, z⟩ := Xh w F
 refine Xb (args := [w0_0]) func65 ntmps65 rfl rfl m ?_
 unfold impl_bitsText.f
 refine sr (Xa rfl (dn (sr (Xo w0_0 rfl (clV 40 rfl func84 rfl (impl_FloatBits.calls a0 s0.w (mm [] s0) w0_0 (Xc (s := s0) (Xm h0_0))) (fun r1 s2 p2 n2 => ?_))))))
 refine clO 41 rfl func83 rfl (impl_highFirst.calls r1 s2.w (mm [] s2)) (fun r3 v3_0 s4 p4 A3_0 => ?_)
 refine clV 42 rfl func66 rfl (impl_hexText.calls r3 s4.w (mm [41] s4) v3_0 A3_0.rd) (fun r6 s7 p7 n7 => ?_)
 refine Xa rfl (dn ?_)
 exact re rfl func65 rfl (r_t rfl Xe) rfl ⟨_, rfl, rfl, z.ky (kp0.st (tr3 p2 p4 p7) rfl)⟩
def impl_itemText.f (a0 : Item) : Option (ByteArray) :=
 (if (a0.Kind == (1 : Int)) = true then ((strconv_Itoa.f a0.N).bind fun r6 => (if (⟨#[105]⟩ : ByteArray).size + r6.size ≤ Lim then (some ((⟨#[105]⟩ : ByteArray) ++ r6)) else none)) else (if (a0.Kind == (2 : Int)) = true then ((impl_bitsText.f a0.F).bind fun r10 => (if (⟨#[102]⟩ : ByteArray).size + r10.size ≤ Lim then (some ((⟨#[102]⟩ : ByteArray) ++ r10)) else none)) else (if (a0.Kind == (3 : Int)) = true then ((impl_hexText.f a0.T).bind fun r16 => (if (⟨#[116]⟩ : ByteArray).size + r16.size ≤ Lim then (some ((⟨#[116]⟩ : ByteArray) ++ r16)) else none)) else (some (⟨#[45]⟩ : ByteArray)))))
def impl_itemText.Q (w : World) (F : Nat → Prop) (r : ByteArray) (v : Value) (w' : World) : Prop :=
 v = (.string r) ∧ Ky [] w w'
theorem impl_itemText.calls (a0 : Item) (w : World) (F : Nat → Prop) (w0_0 : Value) (w0_1 : Value) (hG : GT.rd w [] () F) (h0_0 : Kd.flt.rd w [w0_0] a0.F F) (h0_1 : Xp.rd w [w0_1] a0.T F) (r : ByteArray) (m : impl_itemText.f a0 = some r) :
  Calls prog 39 #[(.agg #[(iI a0.Kind), (iI a0.N), w0_0, w0_1])] w (RT (impl_itemText.Q w F) r) := by
 obtain ⟨s0, rfl, kp0, z⟩ := Xh w F
 refine Xb (args := [(.agg #[(iI a0.Kind), (iI a0.N), w0_0, w0_1])]) func39 ntmps39 rfl rfl m ?_
 unfold impl_itemText.f
 refine sr (bx' (cs := [(iI a0.Kind), (iI a0.N), w0_0, w0_1]) 40 rfl (fun b2 s2 p2 B2 => ?_))
 refine Xa rfl (dn (sq (sr (Xl fa28_0 rfl (ld' B2 u3 rfl (dn (bl (sr (Xa rfl (Xa rfl (dn (cd rfl (fun h4 => ?_) (fun h4 => ?_)))))))))))))
 ·
  refine sr (Xl fa28_1 rfl (ld' B2 u3 rfl ?_))
  have K5 := kp0.st p2 rfl
  refine clV 41 rfl func64 rfl (strconv_Itoa.calls a0.N s2.w (mm [0] s2) ((z.rd hG).kp K5)) (fun r6 s7 p7 n7 => ?_)
  refine sad rfl rfl rfl rfl rfl rfl rfl (Xa rfl (dn ?_))
  exact re rfl func39 rfl (r_t rfl Xe) rfl ⟨_, rfl, rfl, z.ky (K5.st p7 rfl)⟩
 refine sr (Xa rfl (Xa rfl (dn (cd rfl (fun h9 => ?_) (fun h9 => ?_)))))
 ·
  refine sr (Xl fa28_2 rfl (ld' B2 u22 rfl (clV 42 rfl func65 rfl (impl_bitsText.calls a0.F s2.w (mm [] s2) w0_0 (Xc (s := s2) (Xm h0_0))) (fun r10 s11 p11 n11 => ?_))))
  refine sad rfl rfl rfl rfl rfl rfl rfl (Xa rfl (dn ?_))
  exact re rfl func39 rfl (r_t rfl Xe) rfl ⟨_, rfl, rfl, z.ky (kp0.st (tr2 p2 p11) rfl)⟩
 refine sr (Xa rfl (Xa rfl (dn (cd rfl (fun h13 => ?_) (fun h13 => ?_)))))
 ·
  refine sr (Xl fa28_3 rfl (ld' B2 u23 rfl ?_))
  have K14 := kp0.st p2 rfl
  refine clV 43 rfl func66 rfl (impl_hexText.calls a0.T s2.w (mm [0] s2) w0_1 ((z.rd h0_1).kp K14)) (fun r16 s17 p17 n17 => ?_)
  refine sad rfl rfl rfl rfl rfl rfl rfl (Xa rfl (dn ?_))
  exact re rfl func39 rfl (r_t rfl Xe) rfl ⟨_, rfl, rfl, z.ky (K14.st p17 rfl)⟩
 refine sk (ib (sr (Xa rfl (dn ?_))))
 exact re rfl func39 rfl (r_t rfl Xe) rfl ⟨_, rfl, rfl, z.ky (kp0.st p2 rfl)⟩
def laws_eqByteS.b0 (a0 : (List Int)) (a1 : (List Int)) (x4 : Int) : Option (Int ⊕ Bool) :=
 (if (decide (x4 < (a0.length : Int))) = true then (if 0 ≤ x4 ∧ x4 < (a0.length : Int) then (if 0 ≤ x4 ∧ x4 < (a1.length : Int) then (if ((at_ a0 x4) != (at_ a1 x4)) = true then (some (Sum.inr false)) else (some (Sum.inl (IntKind.wrap .i64 (x4 + (1 : Int)))))) else none) else none) else ((some true).bind fun o => some (Sum.inr o)))
def laws_eqByteS.f (a0 : (List Int)) (a1 : (List Int)) : Option (Bool) :=
 (if ((a0.length : Int) != (a1.length : Int)) = true then (some false) else (iter (laws_eqByteS.b0 a0 a1) (0 : Int)))
def laws_eqByteS.Q (w : World) (F : Nat → Prop) (r : Bool) (v : Value) (w' : World) : Prop :=
 v = (.bool r) ∧ Ky [] w w'
theorem laws_eqByteS.calls (a0 : (List Int)) (a1 : (List Int)) (w : World) (F : Nat → Prop) (w0_0 : Value) (w1_0 : Value) (h0_0 : Xp.rd w [w0_0] a0 F) (h1_0 : Xp.rd w [w1_0] a1 F) (r : Bool) (m : laws_eqByteS.f a0 a1 = some r) :
  Calls prog 11 #[w0_0, w1_0] w (RT (laws_eqByteS.Q w F) r) := by
 obtain ⟨s0, rfl, kp0, z⟩ := Xh w F
 have A0_0 := z.rd h0_0
 have A1_0 := z.rd h1_0
 refine Xb (args := [w0_0, w1_0]) func11 ntmps11 rfl rfl m ?_
 unfold laws_eqByteS.f
 refine sr (Xa rfl (dn (sq (sr (Xo w0_0 rfl (ln' A0_0 u23 rfl (Xo w1_0 rfl (ln' A1_0 u23 rfl (Xa rfl (dn (cd rfl (fun h3 => ?_) (fun h3 => ?_))))))))))))
 ·
  exact sr (Xa rfl (dn (re rfl func11 rfl (r_t rfl Xe) rfl ⟨_, rfl, rfl, z.ky kp0⟩)))
 refine sk (sq (sr (Xa rfl (dn (bl (lpI (fun (x4 : Int) e w => ∃ (s : St) (e0 : Env), w = s.w ∧ e = upd (upd (upd e0 0 w0_0) 1 w1_0) 5 (iI x4) ∧ Kp s0 s) ⟨s0, _, rfl, (ue (ue (ue rfl rfl) rfl) rfl), kp0⟩ (fun g4 ih4 => ?_)))))))
 rintro x4 _ _ ⟨s5, _, rfl, rfl, Kx4⟩
 unfold laws_eqByteS.b0
 refine sq (sr (Xa rfl (Xo w0_0 rfl ?_)))
 refine ln' (A0_0.kp Kx4) u23 rfl (Xa rfl (dn (cd rfl (fun h7 => ?_) (fun h7 => ?_))))
 ·
  refine sk (sq (bl (sq (zdraw [[], [], [0, 1], [2], [], [], [4, 5], [6], [3, 7]] [some 17, some 18, some 19, some 20, some 21, some 22, some 23, some 24, some 25] [[0], [5], [17, 18], [19], [1], [5], [21, 22], [23], [20, 24]] [0, 1, 2, 3, 4, 5, 6, 7, 8] ⟨by kernel_rfl, by kernel_rfl, by kernel_rfl⟩ (by kernel_rfl) (fun s8 p8 l8 tb8 zd8 => ?_)))))
  have K11 := Kx4.st p8 rfl
  have A12 := A0_0.kp K11
  refine mg fun hg13 => ?_
  obtain ⟨ad13, es13, he13, ce13, ia13⟩ := ix_e A12 rfl hg13.1 hg13.2
  obtain rfl := he13
  have A19 := A1_0.kp K11
  refine mg fun hg20 => ?_
  obtain ⟨ad20, es20, he20, ce20, ia20⟩ := ix_e A19 rfl hg20.1 hg20.2
  obtain rfl := he20
  refine zfin [8] tb8 ((((((((zd8.add 0 17 w0_0 rfl).add 1 18 (iI x4) rfl).add 2 19 (.pointer (some ad13)) rfl).add 3 20 (.int .u8 (at_ a0 x4)) rfl).add 4 21 w1_0 rfl).add 5 22 (iI x4) rfl).add 6 23 (.pointer (some ad20)) rfl).add 7 24 (.int .u8 (at_ a1 x4)) rfl) (Xf (lc0_q ce20 u5 rfl rfl rfl rfl rfl rfl rfl rfl) rfl (Xf (ix_q A19 u23 z5 hg20.1 hg20.2 ia20 rfl rfl rfl rfl rfl rfl rfl) rfl (Xf (pu_q rfl rfl rfl rfl rfl rfl) rfl (Xf (mv_q w1_0 rfl rfl rfl rfl rfl rfl) rfl (Xf (lc0_q ce13 u5 rfl rfl rfl rfl rfl rfl rfl rfl) rfl (Xf (ix_q A12 u23 z5 hg13.1 hg13.2 ia13 rfl rfl rfl rfl rfl rfl rfl) rfl (Xf (pu_q rfl rfl rfl rfl rfl rfl) rfl (Xf (mv_q w0_0 rfl rfl rfl rfl rfl rfl) rfl pq_nil)))))))) (by kernel_rfl) (by decide) (Xa rfl (dn (cd rfl (fun h24 => ?_) (fun h24 => ?_))))
  ·
   exact sr (Xa rfl (dn (sgi (re rfl func11 rfl (r_t rfl Xe) rfl ⟨_, rfl, rfl, z.ky K11⟩))))
  exact sk (ib (rg (Xa rfl (Xa rfl (Xa rfl (dn (lb ih4 ⟨s8, _, rfl, (ue (ue (ue rfl rfl) rfl) rfl), K11⟩)))))))
 exact xt rfl (sgb (sr (Xa rfl (dn (re rfl func11 rfl (r_t rfl Xe) rfl ⟨_, rfl, rfl, z.ky Kx4⟩)))))
def laws_sameFloat.f (a0 : Nat) (a1 : Nat) : Option (Bool) :=
 (if ((fcmp .f64 a0 a0 != some .eq) || (fcmp .f64 a1 a1 != some .eq)) = true then (some ((fcmp .f64 a0 a0 != some .eq) && (fcmp .f64 a1 a1 != some .eq))) else (if ((fcmp .f64 a0 (0 : Nat) == some .eq) && (fcmp .f64 a1 (0 : Nat) == some .eq)) = true then (some ((fcmp .f64 (far .quo (4607182418800017408 : Nat) a0) (0 : Nat) == some .gt) == (fcmp .f64 (far .quo (4607182418800017408 : Nat) a1) (0 : Nat) == some .gt))) else (some (fcmp .f64 a0 a1 == some .eq))))
def laws_sameFloat.Q (w : World) (F : Nat → Prop) (r : Bool) (v : Value) (w' : World) : Prop :=
 v = (.bool r) ∧ Ky [] w w'
theorem laws_sameFloat.calls (a0 : Nat) (a1 : Nat) (w : World) (F : Nat → Prop) (w0_0 : Value) (w1_0 : Value) (h0_0 : Kd.flt.rd w [w0_0] a0 F) (h1_0 : Kd.flt.rd w [w1_0] a1 F) (r : Bool) (m : laws_sameFloat.f a0 a1 = some r) :
  Calls prog 40 #[w0_0, w1_0] w (RT (laws_sameFloat.Q w F) r) := by
 obtain ⟨s0, rfl, kp0, z⟩ := Xh w F
 have A0_0 := Xm h0_0
 have A1_0 := Xm h1_0
 refine Xb (args := [w0_0, w1_0]) func40 ntmps40 rfl rfl m ?_
 unfold laws_sameFloat.f
 refine sr (Xa rfl (dn (sq (sr (Xo w0_0 rfl (Xo w0_0 rfl (fq_' A0_0 A0_0 rfl (Xa rfl (jy [8, 9, 10, 11, 12] [] 12 (.bool ((fcmp .f64 a0 a0 != some .eq) || (fcmp .f64 a1 a1 != some .eq))) rfl (fun Kg1 => ?_) (fun j1 => ?_))))))))))
 ·
  rcases bft (fcmp .f64 a0 a0 != some .eq) with hb1 | hb1
  ·
   exact sbT hb1 (Xj rfl (Xj rfl (Xj rfl (Xa rfl (Kg1 _ (Ag.put ((Ag.put ((Ag.put ((Ag.put (Ag.base rfl) rfl)) rfl)) rfl)) rfl) (by rw [hb1]; rfl))))))
  exact sbT hb1 (Xo w1_0 rfl (Xo w1_0 rfl (fq_' A1_0 A1_0 rfl (Xa rfl (Kg1 _ (Ag.put ((Ag.put ((Ag.put ((Ag.put (Ag.base rfl) rfl)) rfl)) rfl)) rfl) (by rw [hb1]; rfl))))))
 refine dn (cd rfl (fun h2 => ?_) (fun h2 => ?_))
 ·
  refine sr (Xo w0_0 rfl (Xo w0_0 rfl (fq_' A0_0 A0_0 rfl (Xa rfl (jy [16, 17, 18, 19, 20] [8] 20 (.bool ((fcmp .f64 a0 a0 != some .eq) && (fcmp .f64 a1 a1 != some .eq))) rfl (fun Kg3 => ?_) (fun j3 => ?_))))))
  ·
   rcases bft (fcmp .f64 a0 a0 != some .eq) with hb3 | hb3
   ·
    exact sbT hb3 (Xo w1_0 rfl (Xo w1_0 rfl (fq_' A1_0 A1_0 rfl (Xa rfl (Kg3 _ (Ag.put ((Ag.put ((Ag.put ((Ag.put (Ag.base rfl) rfl)) rfl)) rfl)) rfl) (by rw [hb3]; rfl))))))
   exact sbT hb3 (Xj rfl (Xj rfl (Xj rfl (Xa rfl (Kg3 _ (Ag.put ((Ag.put ((Ag.put ((Ag.put (Ag.base rfl) rfl)) rfl)) rfl)) rfl) (by rw [hb3]; rfl))))))
  exact Xa rfl (dn (re rfl func40 rfl (r_t rfl Xe) rfl ⟨_, rfl, rfl, z.ky kp0⟩))
 refine sk (sq (sr (Xo w0_0 rfl (fq_' A0_0 (fl_c rfl) rfl (Xa rfl (jy [23, 24, 25, 26] [] 26 (.bool ((fcmp .f64 a0 (0 : Nat) == some .eq) && (fcmp .f64 a1 (0 : Nat) == some .eq))) rfl (fun Kg4 => ?_) (fun j4 => ?_)))))))
 ·
  rcases bft (fcmp .f64 a0 (0 : Nat) == some .eq) with hb4 | hb4
  ·
   exact sbT hb4 (Xo w1_0 rfl (fq_' A1_0 (fl_c rfl) rfl (Xa rfl (Kg4 _ (Ag.put ((Ag.put ((Ag.put (Ag.base rfl) rfl)) rfl)) rfl) (by rw [hb4]; rfl)))))
  exact sbT hb4 (Xj rfl (Xj rfl (Xa rfl (Kg4 _ (Ag.put ((Ag.put ((Ag.put (Ag.base rfl) rfl)) rfl)) rfl) (by rw [hb4]; rfl)))))
 refine dn (cd rfl (fun h5 => ?_) (fun h5 => ?_))
 ·
  refine sr (Xo w0_0 rfl (fa_ (fl_c rfl) A0_0 (by simp) rfl rfl rfl rfl rfl rfl rfl (fun v6 s6 p6 A6 => ?_)))
  refine fq_' A6 (fl_c rfl) rfl (Xo w1_0 rfl (fa_ (fl_c rfl) A1_0 (by simp) rfl rfl rfl rfl rfl rfl rfl (fun v7 s7 p7 A7 => ?_)))
  refine fq_' A7 (fl_c rfl) rfl (beq_ u4 rfl rfl rfl rfl rfl rfl rfl (Xa rfl (dn ?_)))
  exact re rfl func40 rfl (r_t rfl Xe) rfl ⟨_, rfl, rfl, z.ky (kp0.st (tr2 p6 p7) rfl)⟩
 exact sk (sr (Xo w0_0 rfl (Xo w1_0 rfl (fq_' A0_0 A1_0 rfl (Xa rfl (dn (re rfl func40 rfl (r_t rfl Xe) rfl ⟨_, rfl, rfl, z.ky kp0⟩)))))))
def laws_eqItem.f (a0 : Item) (a1 : Item) : Option (Bool) :=
 (if (a0.Kind != a1.Kind) = true then (some false) else (if (a0.N != a1.N) = true then (some false) else ((laws_sameFloat.f a0.F a1.F).bind fun r12 => (if (!r12) = true then (some false) else ((laws_eqByteS.f a0.T a1.T).bind fun r21 => (if (!r21) = true then (some false) else (some true)))))))
def laws_eqItem.Q (w : World) (F : Nat → Prop) (r : Bool) (v : Value) (w' : World) : Prop :=
 v = (.bool r) ∧ Ky [] w w'
theorem laws_eqItem.calls (a0 : Item) (a1 : Item) (w : World) (F : Nat → Prop) (w0_0 : Value) (w0_1 : Value) (w1_0 : Value) (w1_1 : Value) (h0_0 : Kd.flt.rd w [w0_0] a0.F F) (h0_1 : Xp.rd w [w0_1] a0.T F) (h1_0 : Kd.flt.rd w [w1_0] a1.F F) (h1_1 : Xp.rd w [w1_1] a1.T F) (r : Bool) (m : laws_eqItem.f a0 a1 = some r) :
  Calls prog 12 #[(.agg #[(iI a0.Kind), (iI a0.N), w0_0, w0_1]), (.agg #[(iI a1.Kind), (iI a1.N), w1_0, w1_1])] w (RT (laws_eqItem.Q w F) r) := by
 obtain ⟨s0, rfl, kp0, z⟩ := Xh w F
 refine Xb (args := [(.agg #[(iI a0.Kind), (iI a0.N), w0_0, w0_1]), (.agg #[(iI a1.Kind), (iI a1.N), w1_0, w1_1])]) func12 ntmps12 rfl rfl m ?_
 unfold laws_eqItem.f
 refine sr (bx' (cs := [(iI a0.Kind), (iI a0.N), w0_0, w0_1]) 40 rfl (fun b3 s3 p3 B3 => ?_))
 refine bx' (cs := [(iI a1.Kind), (iI a1.N), w1_0, w1_1]) 41 rfl (fun b5 s5 p5 B5 => ?_)
 refine Xa rfl (dn (sq (sr (Xl fa28_0 rfl ?_))))
 have A7 := B3.st p5 rfl
 refine ld' A7 u3 rfl (Xl fa28_0 rfl (ld' B5 u3 rfl (Xa rfl (dn (cd rfl (fun h8 => ?_) (fun h8 => ?_))))))
 ·
  refine sr (Xa rfl (dn ?_))
  exact re rfl func12 rfl (r_t rfl Xe) rfl ⟨_, rfl, rfl, z.ky (kp0.st (tr2 p3 p5) rfl)⟩
 refine sk (sq (sr (Xl fa28_1 rfl (ld' A7 u3 rfl (Xl fa28_1 rfl (ld' B5 u3 rfl (Xa rfl (dn (cd rfl (fun h10 => ?_) (fun h10 => ?_))))))))))
 ·
  refine sr (Xa rfl (dn ?_))
  exact re rfl func12 rfl (r_t rfl Xe) rfl ⟨_, rfl, rfl, z.ky (kp0.st (tr2 p3 p5) rfl)⟩
 refine sk (sq (sr (Xl fa28_2 rfl (ld' A7 u22 rfl (Xl fa28_2 rfl (ld' B5 u22 rfl (clV 42 rfl func40 rfl (laws_sameFloat.calls a0.F a1.F s5.w (mm [] s5) w0_0 w1_0 (Xc (s := s5) (Xm h0_0)) (Xc (s := s5) (Xm h1_0))) (fun r12 s13 p13 n13 => ?_))))))))
 refine Xa rfl (dn (cd rfl (fun h14 => ?_) (fun h14 => ?_)))
 ·
  refine sr (Xa rfl (dn ?_))
  exact re rfl func12 rfl (r_t rfl Xe) rfl ⟨_, rfl, rfl, z.ky (kp0.st (tr3 p3 p5 p13) rfl)⟩
 refine sk (sq (sr (Xl fa28_3 rfl ?_)))
 refine ld' (A7.st p13 rfl) u23 rfl (Xl fa28_3 rfl ?_)
 refine ld' (B5.st p13 rfl) u23 rfl ?_
 have K18 := kp0.st (tr3 p3 p5 p13) rfl
 refine clV 43 rfl func11 rfl (laws_eqByteS.calls a0.T a1.T s13.w (mm [0] s13) w0_1 w1_1 ((z.rd h0_1).kp K18) ((z.rd h1_1).kp K18)) (fun r21 s22 p22 n22 => ?_)
 refine Xa rfl (dn (cd rfl (fun h23 => ?_) (fun h23 => ?_)))
 ·
  refine sr (Xa rfl (dn ?_))
  exact re rfl func12 rfl (r_t rfl Xe) rfl ⟨_, rfl, rfl, z.ky (K18.st p22 rfl)⟩
 refine sk (sr (Xa rfl (dn ?_)))
 exact re rfl func12 rfl (r_t rfl Xe) rfl ⟨_, rfl, rfl, z.ky (K18.st p22 rfl)⟩
def laws_markByteS.b0  (x2 : (List Int) × Int × Int) : Option (((List Int) × Int × Int) ⊕ (Int × (List Int))) :=
 (if (decide (x2.2.2 < (x2.1.length : Int))) = true then (if 0 ≤ x2.2.2 ∧ x2.2.2 < (x2.1.length : Int) then (some (Sum.inl ((x2.1.set (x2.2.2).toNat (IntKind.wrap .u8 x2.2.1)), (IntKind.wrap .i64 (x2.2.1 + (1 : Int))), (IntKind.wrap .i64 (x2.2.2 + (1 : Int)))))) else none) else ((some (x2.2.1, x2.1)).bind fun o => some (Sum.inr o)))
def laws_markByteS.f (a0 : (List Int)) (a1 : Int) : Option (Int × (List Int)) :=
 (iter laws_markByteS.b0 (a0, a1, (0 : Int)))
def laws_markByteS.Q (w : World) (F : Nat → Prop) (os : List Nat) (w0_0 : Value) (r : Int × (List Int)) (v : Value) (w' : World) : Prop :=
 v = (iI r.1) ∧ FW Xp os w w' [w0_0] r.2 ∧ Ky os w w'
theorem laws_markByteS.calls (a0 : (List Int)) (a1 : Int) (w : World) (F : Nat → Prop) (w0_0 : Value) (os : List Nat) (h0_0 : Xp.ow w [w0_0] a0 os) (hn : os.Nodup) (hF : ∀ b, F b → b ∉ os) (r : Int × (List Int)) (m : laws_markByteS.f a0 a1 = some r) :
  Calls prog 14 #[w0_0, (iI a1)] w (RT (laws_markByteS.Q w F os w0_0) r) := by
 obtain ⟨s0, rfl, kp0, z⟩ := start1 w F os hF
 refine Xb (args := [w0_0, (iI a1)]) func14 ntmps14 rfl rfl m ?_
 unfold laws_markByteS.f
 refine sr (Xa rfl (dn (sq (sr (Xa rfl (dn (bl (lpI (fun (x2 : (List Int) × Int × Int) e w => ∃ (s : St) (e0 : Env), w = s.w ∧ e = upd (upd (upd e0 0 w0_0) 1 (iI x2.2.1)) 5 (iI x2.2.2) ∧ Kp s0 s ∧ OwF Xp s [w0_0] x2.1 2) ⟨s0, _, rfl, (ue (ue (ue rfl rfl) rfl) rfl), kp0, (z.ow h0_0 hn)⟩ (fun g2 ih2 => ?_)))))))))
 rintro x2 _ _ ⟨s3, _, rfl, rfl, Kx2, Ax2_0⟩
 unfold laws_markByteS.b0
 refine sq (sr (Xa rfl (Xo w0_0 rfl (ln' Ax2_0.rd u23 rfl (Xa rfl (dn (cd rfl (fun h5 => ?_) (fun h5 => ?_))))))))
 ·
  refine sk (sq (bl (sr (Xo w0_0 rfl (Xa rfl (Xa rfl (cv u5 u3 rfl rfl rfl rfl rfl rfl (ix' Ax2_0.rd u23 z5 rfl (fun ad6 es6 h0_6 h1_6 he6 ce6 ia6 => ?_)))))))))
  obtain rfl := he6
  refine so (x' := (IntKind.wrap .u8 x2.2.1)) Ax2_0 ia6 h0_6 h1_6 cs_flat z5 rfl rfl rfl rfl rfl rfl (fun s8 p8 A8 => ?_)
  refine dn (rg (Xa rfl (Xa rfl (Xa rfl (dn (ib (rg (Xa rfl (Xa rfl (Xa rfl (dn ?_)))))))))))
  exact lb ih2 ⟨s8, _, rfl, (ue (ue (ue rfl rfl) rfl) rfl), (Kx2.st p8 rfl), A8⟩
 exact xt rfl (sgb (sr (Xa rfl (Xa rfl (dn (re rfl func14 rfl (r_t rfl Xe) rfl ⟨_, rfl, rfl, z.fw Kx2 Ax2_0, z.ky Kx2⟩))))))
def laws_markItem.f (a0 : Item) (a1 : Int) : Option (Int × (List Int)) :=
 ((laws_markByteS.f a0.T a1).bind fun r4 => (some (r4.1, r4.2)))
def laws_markItem.Q (w : World) (F : Nat → Prop) (os : List Nat) (w0_1 : Value) (r : Int × (List Int)) (v : Value) (w' : World) : Prop :=
 v = (iI r.1) ∧ FW Xp os w w' [w0_1] r.2 ∧ Ky os w w'
theorem laws_markItem.calls (a0 : Item) (a1 : Int) (w : World) (F : Nat → Prop) (w0_0 : Value) (w0_1 : Value) (h0_0 : Kd.flt.rd w [w0_0] a0.F F) (os : List Nat) (h0_1 : Xp.ow w [w0_1] a0.T os) (hn : os.Nodup) (hF : ∀ b, F b → b ∉ os) (r : Int × (List Int)) (m : laws_markItem.f a0 a1 = some r) :
  Calls prog 13 #[(.agg #[(iI a0.Kind), (iI a0.N), w0_0, w0_1]), (iI a1)] w (RT (laws_markItem.Q w F os w0_1) r) := by
 obtain ⟨s0, rfl, kp0, z⟩ := start1 w F os hF
 refine Xb (args := [(.agg #[(iI a0.Kind), (iI a0.N), w0_0, w0_1]), (iI a1)]) func13 ntmps13 rfl rfl m ?_
 unfold laws_markItem.f
 refine sr (bx' (cs := [(iI a0.Kind), (iI a0.N), w0_0, w0_1]) 40 rfl (fun b2 s2 p2 B2 => ?_))
 refine Xa rfl (dn (sr (Xl fa28_3 rfl (ld' B2 u23 rfl (Xa rfl ?_)))))
 obtain ⟨os4, ho4, hn4, hc4⟩ := (z.ow h0_1 hn).st p2 rfl
 refine cl' rfl func14 rfl (laws_markByteS.calls a0.T a1 s2.w (mm [] s2) w0_1 os4 ho4 hn4 (apart_of hc4 rfl)) ?_
 rintro r4 _ w4 m4 ⟨rfl, w4_, ky4⟩
 obtain ⟨s6, rfl, p6, A6⟩ := nwo 41 hc4 ky4 w4_
 refine Xa rfl (dn (sr (Xa rfl (Xa rfl (dn ?_)))))
 have K8 := kp0.st (tr2 p2 p6) rfl
 exact re rfl func13 rfl (r_t rfl Xe) rfl ⟨_, rfl, rfl, z.fw K8 A6, z.ky K8⟩
def laws_heldByteS.b0 (a0 : (List Int)) (x2 : Int × Int) : Option ((Int × Int) ⊕ Int) :=
 (if (decide (x2.2 < (a0.length : Int))) = true then (if 0 ≤ x2.2 ∧ x2.2 < (a0.length : Int) then (if ((at_ a0 x2.2) != (IntKind.wrap .u8 x2.1)) = true then (some (Sum.inr (-1 : Int))) else (some (Sum.inl ((IntKind.wrap .i64 (x2.1 + (1 : Int))), (IntKind.wrap .i64 (x2.2 + (1 : Int))))))) else none) else ((some x2.1).bind fun o => some (Sum.inr o)))
def laws_heldByteS.f (a0 : (List Int)) (a1 : Int) : Option (Int) :=
 (iter (laws_heldByteS.b0 a0) (a1, (0 : Int)))
def laws_heldByteS.Q (w : World) (F : Nat → Prop) (r : Int) (v : Value) (w' : World) : Prop :=
 v = (iI r) ∧ Ky [] w w'
theorem laws_heldByteS.calls (a0 : (List Int)) (a1 : Int) (w : World) (F : Nat → Prop) (w0_0 : Value) (h0_0 : Xp.rd w [w0_0] a0 F) (r : Int) (m : laws_heldByteS.f a0 a1 = some r) :
  Calls prog 15 #[w0_0, (iI a1)] w (RT (laws_heldByteS.Q w F) r) := by
 obtain ⟨s0, rfl, kp0, z⟩ := Xh w F
 refine Xb (args := [w0_0, (iI a1)]) func15 ntmps15 rfl rfl m ?_
 unfold laws_heldByteS.f
 refine sr (Xa rfl (dn (sq (sr (Xa rfl (dn (bl (lpI (fun (x2 : Int × Int) e w => ∃ (s : St) (e0 : Env), w = s.w ∧ e = upd (upd (upd e0 0 w0_0) 1 (iI x2.1)) 5 (iI x2.2) ∧ Kp s0 s) ⟨s0, _, rfl, (ue (ue (ue rfl rfl) rfl) rfl), kp0⟩ (fun g2 ih2 => ?_)))))))))
 rintro x2 _ _ ⟨s3, _, rfl, rfl, Kx2⟩
 unfold laws_heldByteS.b0
 refine sq (sr (Xa rfl (Xo w0_0 rfl ?_)))
 have A4 := (z.rd h0_0).kp Kx2
 refine ln' A4 u23 rfl (Xa rfl (dn (cd rfl (fun h5 => ?_) (fun h5 => ?_))))
 ·
  refine sk (sq (bl (sq (sr (Xo w0_0 rfl (Xa rfl (ix' A4 u23 z5 rfl (fun ad6 es6 h0_6 h1_6 he6 ce6 ia6 => ?_))))))))
  obtain rfl := he6
  refine lc0 ce6 u5 rfl rfl rfl rfl rfl rfl rfl rfl (Xa rfl (cv u5 u3 rfl rfl rfl rfl rfl rfl (Xa rfl (dn (cd rfl (fun h8 => ?_) (fun h8 => ?_))))))
  ·
   exact sr (Xa rfl (dn (sgi (re rfl func15 rfl (r_t rfl Xe) rfl ⟨_, rfl, rfl, z.ky Kx2⟩))))
  exact sk (rg (Xa rfl (Xa rfl (Xa rfl (dn (ib (rg (Xa rfl (Xa rfl (Xa rfl (dn (lb ih2 ⟨s3, _, rfl, (ue (ue (ue rfl rfl) rfl) rfl), Kx2⟩))))))))))))
 exact xt rfl (sgb (sr (Xa rfl (Xa rfl (dn (re rfl func15 rfl (r_t rfl Xe) rfl ⟨_, rfl, rfl, z.ky Kx2⟩))))))
def spec_l5in.f (a0 : Int) (a1 : Int) (a2 : Int) : Option (Bool) :=
 (some ((decide (a0 ≥ a1)) && (decide (a0 ≤ a2))))
def spec_l5in.Q (w : World) (F : Nat → Prop) (r : Bool) (v : Value) (w' : World) : Prop :=
 v = (.bool r) ∧ Ky [] w w'
theorem spec_l5in.calls (a0 : Int) (a1 : Int) (a2 : Int) (w : World) (F : Nat → Prop)   (r : Bool) (m : spec_l5in.f a0 a1 a2 = some r) :
  Calls prog 42 #[(iI a0), (iI a1), (iI a2)] w (RT (spec_l5in.Q w F) r) := by
 obtain ⟨s0, rfl, kp0, z⟩ := Xh w F
 refine Xb (args := [(iI a0), (iI a1), (iI a2)]) func42 ntmps42 rfl rfl m ?_
 unfold spec_l5in.f
 refine sr (Xa rfl (dn (sr (Xa rfl (Xa rfl (Xa rfl (Xa rfl (jy [10, 11, 12, 13, 14] [8] 14 (.bool ((decide (a0 ≥ a1)) && (decide (a0 ≤ a2)))) rfl (fun Kg1 => ?_) (fun j1 => ?_)))))))))
 ·
  rcases bft (decide (a0 ≥ a1)) with hb1 | hb1
  ·
   exact sbT hb1 (Xa rfl (Xa rfl (Xa rfl (Xa rfl (Kg1 _ (Ag.put ((Ag.put ((Ag.put ((Ag.put (Ag.base rfl) rfl)) rfl)) rfl)) rfl) (by rw [hb1]; rfl))))))
  exact sbT hb1 (Xj rfl (Xj rfl (Xj rfl (Xa rfl (Kg1 _ (Ag.put ((Ag.put ((Ag.put ((Ag.put (Ag.base rfl) rfl)) rfl)) rfl)) rfl) (by rw [hb1]; rfl))))))
 exact Xa rfl (dn (re rfl func42 rfl (r_t rfl Xe) rfl ⟨_, rfl, rfl, z.ky kp0⟩))
def spec_l18word.f (a0 : (List Int)) (a1 : (List Int)) : Option ((List Int)) :=
 (if a0.length + ([(32 : Int)]).length ≤ Lim then (if (a0 ++ [(32 : Int)]).length + a1.length ≤ Lim then (some ((a0 ++ [(32 : Int)]) ++ a1)) else none) else none)
def spec_l18word.Q (w : World) (F : Nat → Prop) (os : List Nat) (r : (List Int)) (v : Value) (w' : World) : Prop :=
 FW Xp os w w' [v] r ∧ Ky os w w'
theorem spec_l18word.calls (a0 : (List Int)) (a1 : (List Int)) (w : World) (F : Nat → Prop) (w0_0 : Value) (w1_0 : Value) (h1_0 : Xp.rd w [w1_0] a1 F) (os : List Nat) (h0 : Xp.ow w [w0_0] a0 os) (hn : os.Nodup) (hF : ∀ b, F b → b ∉ os) (r : (List Int)) (m : spec_l18word.f a0 a1 = some r) :
  Calls prog 43 #[w0_0, w1_0] w (RT (spec_l18word.Q w F os) r) := by
 obtain ⟨s0, rfl, kp0, z⟩ := startN w F [(os, 40)] (by simpa [fl_] using hn) (fun b hb => by simpa [fl_] using hF b hb) rfl
 have ez : fl_ [(os, 40)] = os := by simp [fl_]
 refine Xb (args := [w0_0, w1_0]) func43 ntmps43 rfl rfl m ?_
 unfold spec_l18word.f
 refine sr (Xa rfl (dn (sr (Xo w0_0 rfl (ltF' (K := (Kd.int .u8)) (cells := [(.int .u8 (32 : Int))]) [(32 : Int)] 41 Xi u23 z5 o5 (fun w => (Xg _ _ _)) rfl rfl (fun v3 s3 p3 A3 => ?_))))))
 refine apF' Xi sl23 ((z.ow (c := 40) (by simp) hn h0).st p3 rfl) A3.rd rfl (fun v6 s6 p6 A6 => ?_)
 refine Xn v6 rfl (dn (sr (Xo v6 rfl (Xo w1_0 rfl ?_))))
 have K8 := kp0.st (tr2 p3 p6) rfl
 refine apF' Xi sl23 A6 ((z.rd h1_0).kp K8) rfl (fun v10 s10 p10 A10 => ?_)
 refine Xn v10 rfl (dn ?_)
 have K12 := K8.st p10 rfl
 exact re rfl func43 rfl (r_t rfl Xe) rfl ⟨_, rfl, z.fw' ez K12 (oc_ow A10) rfl, z.ky' ez K12⟩
section
open Go.Shelf
shelf_lay Lays.n156 Nm 156 at Tryd as lay_join
theorem join_extra : Builder.Extra Tryd.prog lay_join_ren where
  sizeBuilder := by kernel_rfl
  liesBuilder := by kernel_rfl
  t5 := Tryd.underlying5
  a5 := Tryd.isAgg5
  z5 := Tryd.sizeOf5
  v5 := Tryd.zeroValue5
  infoByte := by kernel_rfl
  cellsByte := by kernel_rfl
  sizeByte := by kernel_rfl
  neB5 := by decide
def strings_Join.f (a0 : (List ByteArray)) (a1 : ByteArray) : Option (ByteArray) := if a0.length ≤ Lim ∧ (Lib.join (a0.map (·.data.toList)) a1.data.toList).length ≤ Lim then some ⟨(Lib.join (a0.map (·.data.toList)) a1.data.toList).toArray⟩ else none
def strings_Join.Q (w : World) (F : Nat → Prop) (r : ByteArray) (v : Value) (w' : World) : Prop := v = (.string r) ∧ Ky [] w w'
theorem strings_Join.calls (a0 : (List ByteArray)) (a1 : ByteArray) (w : World) (F : Nat → Prop) (w0_0 : Value) (h0_0 : (Kd.sl 9 Kd.str).rd w [w0_0] a0 F) (r : ByteArray) (m : strings_Join.f a0 a1 = some r) :
    Calls Tryd.prog 70 #[w0_0, .string a1] w (RT (strings_Join.Q w F) r) := by
  unfold strings_Join.f at m
  split at m
  · rename_i h
    cases m
    obtain ⟨v1, e1, B, cap, cells, hv, hcap, hels, hc⟩ := h0_0
    obtain rfl : w0_0 = v1 := by simpa using e1
    subst hv
    have hcs := els_strs hels
    cases a0 with
    | nil => exact Calls.mono (Any.strings_Join_none lay_join join_extra B cap a1 w) fun e w' ⟨he, hw⟩ => ⟨_, he, rfl, by rw [hw]; exact Ky.refl w⟩
    | cons x xs =>
      obtain ⟨ad, rfl, _, hcell⟩ := hc (by rw [hcs]; simp)
      have h0 := hcell 0 (.string x) (by rw [hcs]; rfl)
      obtain ⟨bk, o, sp⟩ := ad
      have hsp : sp = none := by
        cases sp with
        | none => rfl
        | some q => simp [World.cell?, Addr.add] at h0; split at h0 <;> cases h0
      subst hsp
      have hj : ∀ (j : Nat) y, (x :: xs)[j]? = some y → w.cell? ⟨bk, o + j, none⟩ = some (.string y) := fun j y hy => by
        have h1 := hcell j (.string y) (by rw [hcs, List.getElem?_map, hy]; rfl)
        rwa [Addr.add_lit] at h1
      have hbk : bk < w.heap.size := by
        have := World.block_lt_of_cell? w _ h0
        simpa [Addr.add] using this
      exact Calls.mono (Any.strings_Join lay_join join_extra bk o cap (x :: xs) a1 w hj hbk (by have := h.1; unfold Lim at this; omega) hcap (by have := h.2; unfold Lim at this; omega)) fun e w' ⟨he, hw⟩ => ⟨_, he, rfl, Ky.of_below hw⟩
  · cases m
end

def laws_szBoolS.f (a0 : (List Bool)) (a1 : Int) : Option (Int) :=
 (if (decide ((IntKind.wrap .i64 (a1 - (a0.length : Int))) < (0 : Int))) = true then (some (-1 : Int)) else (some (IntKind.wrap .i64 (a1 - (a0.length : Int)))))
def laws_szBoolS.Q (w : World) (F : Nat → Prop) (r : Int) (v : Value) (w' : World) : Prop :=
 v = (iI r) ∧ Ky [] w w'
theorem laws_szBoolS.calls (a0 : (List Bool)) (a1 : Int) (w : World) (F : Nat → Prop) (w0_0 : Value) (h0_0 : (Kd.sl 4 Kd.bool).rd w [w0_0] a0 F) (r : Int) (m : laws_szBoolS.f a0 a1 = some r) :
  Calls prog 49 #[w0_0, (iI a1)] w (RT (laws_szBoolS.Q w F) r) := by
 obtain ⟨s0, rfl, kp0, z⟩ := Xh w F
 refine Xb (args := [w0_0, (iI a1)]) func49 ntmps49 rfl rfl m ?_
 unfold laws_szBoolS.f
 refine sr (Xa rfl (dn (sr (Xa rfl (Xo w0_0 rfl (ln' (z.rd h0_0) u47 rfl (Xa rfl (Xa rfl (dn (sq (sr (Xa rfl (Xa rfl (dn ?_))))))))))))))
 refine cd rfl (fun h2 => ?_) (fun h2 => ?_)
 ·
  exact sr (Xa rfl (dn (re rfl func49 rfl (r_t rfl Xe) rfl ⟨_, rfl, rfl, z.ky kp0⟩)))
 exact sk (sr (Xa rfl (Xa rfl (dn (re rfl func49 rfl (r_t rfl Xe) rfl ⟨_, rfl, rfl, z.ky kp0⟩)))))
def laws_szOp.f (a0 : Op) (a1 : Int) : Option (Int) :=
 ((laws_szItem.f a0.Key a1).bind fun r9 => (if (decide (r9 < (0 : Int))) = true then (some (-1 : Int)) else ((laws_szItem.f a0.To r9).bind fun r16 => (if (decide (r16 < (0 : Int))) = true then (some (-1 : Int)) else ((laws_szItem.f a0.Value r16).bind fun r23 => (if (decide (r23 < (0 : Int))) = true then (some (-1 : Int)) else ((laws_szBoolS.f a0.Keep r23).bind fun r30 => (if (decide (r30 < (0 : Int))) = true then (some (-1 : Int)) else (some r30)))))))))
def laws_szOp.Q (w : World) (F : Nat → Prop) (r : Int) (v : Value) (w' : World) : Prop :=
 v = (iI r) ∧ Ky [] w w'
theorem laws_szOp.calls (a0 : Op) (a1 : Int) (w : World) (F : Nat → Prop) (w0_0 : Value) (w0_1 : Value) (w0_2 : Value) (w0_3 : Value) (w0_4 : Value) (w0_5 : Value) (w0_6 : Value) (h0_0 : Kd.flt.rd w [w0_0] a0.Key.F F) (h0_1 : Xp.rd w [w0_1] a0.Key.T F) (h0_2 : Kd.flt.rd w [w0_2] a0.To.F F) (h0_3 : Xp.rd w [w0_3] a0.To.T F) (h0_4 : Kd.flt.rd w [w0_4] a0.Value.F F) (h0_5 : Xp.rd w [w0_5] a0.Value.T F) (h0_6 : (Kd.sl 4 Kd.bool).rd w [w0_6] a0.Keep F) (r : Int) (m : laws_szOp.f a0 a1 = some r) :
  Calls prog 22 #[(.agg #[(iI a0.Kind), (iI a0.Seat), (iI a0.Level), (iI a0.N), (iI a0.Key.Kind), (iI a0.Key.N), w0_0, w0_1, (iI a0.To.Kind), (iI a0.To.N), w0_2, w0_3, (iI a0.Value.Kind), (iI a0.Value.N), w0_4, w0_5, w0_6]), (iI a1)] w (RT (laws_szOp.Q w F) r) := by
 obtain ⟨s0, rfl, kp0, z⟩ := Xh w F
 refine Xb (args := [(.agg #[(iI a0.Kind), (iI a0.Seat), (iI a0.Level), (iI a0.N), (iI a0.Key.Kind), (iI a0.Key.N), w0_0, w0_1, (iI a0.To.Kind), (iI a0.To.N), w0_2, w0_3, (iI a0.Value.Kind), (iI a0.Value.N), w0_4, w0_5, w0_6]), (iI a1)]) func22 ntmps22 rfl rfl m ?_
 unfold laws_szOp.f
 refine sr (bx' (cs := [(iI a0.Kind), (iI a0.Seat), (iI a0.Level), (iI a0.N), (iI a0.Key.Kind), (iI a0.Key.N), w0_0, w0_1, (iI a0.To.Kind), (iI a0.To.N), w0_2, w0_3, (iI a0.Value.Kind), (iI a0.Value.N), w0_4, w0_5, w0_6]) 40 rfl (fun b5 s5 p5 B5 => ?_))
 refine Xa rfl (dn (sr (Xl fa49_4 rfl (lda' (es := [(iI a0.Key.Kind), (iI a0.Key.N), w0_0, w0_1]) B5 u25 z25 rfl (Xa rfl ?_)))))
 have K7 := kp0.st p5 rfl
 refine clV 41 rfl func7 rfl (laws_szItem.calls a0.Key a1 s5.w (mm [0] s5) w0_0 w0_1 ((Xc (s := s5) (Xm h0_0)).sub (D := [0]) rfl) ((z.rd h0_1).kp K7)) (fun r9 s10 p10 n10 => ?_)
 refine Xa rfl (dn (sq (sr (Xa rfl (Xa rfl (dn (cd rfl (fun h11 => ?_) (fun h11 => ?_))))))))
 ·
  refine sr (Xa rfl (dn ?_))
  exact re rfl func22 rfl (r_t rfl Xe) rfl ⟨_, rfl, rfl, z.ky (K7.st p10 rfl)⟩
 refine sk (sr (Xl fa49_5 rfl ?_))
 have A13 := B5.st p10 rfl
 refine lda' (es := [(iI a0.To.Kind), (iI a0.To.N), w0_2, w0_3]) A13 u25 z25 rfl (Xa rfl ?_)
 have K14 := K7.st p10 rfl
 refine clV 42 rfl func7 rfl (laws_szItem.calls a0.To r9 s10.w (mm [0] s10) w0_2 w0_3 ((Xc (s := s10) (Xm h0_2)).sub (D := [0]) rfl) ((z.rd h0_3).kp K14)) (fun r16 s17 p17 n17 => ?_)
 refine Xa rfl (dn (sq (sr (Xa rfl (Xa rfl (dn (cd rfl (fun h18 => ?_) (fun h18 => ?_))))))))
 ·
  refine sr (Xa rfl (dn ?_))
  exact re rfl func22 rfl (r_t rfl Xe) rfl ⟨_, rfl, rfl, z.ky (K14.st p17 rfl)⟩
 refine sk (sr (Xl fa49_6 rfl ?_))
 have A20 := A13.st p17 rfl
 refine lda' (es := [(iI a0.Value.Kind), (iI a0.Value.N), w0_4, w0_5]) A20 u25 z25 rfl (Xa rfl ?_)
 have K21 := K14.st p17 rfl
 refine clV 43 rfl func7 rfl (laws_szItem.calls a0.Value r16 s17.w (mm [0] s17) w0_4 w0_5 ((Xc (s := s17) (Xm h0_4)).sub (D := [0]) rfl) ((z.rd h0_5).kp K21)) (fun r23 s24 p24 n24 => ?_)
 refine Xa rfl (dn (sq (sr (Xa rfl (Xa rfl (dn (cd rfl (fun h25 => ?_) (fun h25 => ?_))))))))
 ·
  refine sr (Xa rfl (dn ?_))
  exact re rfl func22 rfl (r_t rfl Xe) rfl ⟨_, rfl, rfl, z.ky (K21.st p24 rfl)⟩
 refine sk (sr (Xl fa49_7 rfl ?_))
 refine ld' (A20.st p24 rfl) u47 rfl (Xa rfl ?_)
 have K28 := K21.st p24 rfl
 refine clV 44 rfl func49 rfl (laws_szBoolS.calls a0.Keep r23 s24.w (mm [0] s24) w0_6 ((z.rd h0_6).kp K28)) (fun r30 s31 p31 n31 => ?_)
 refine Xa rfl (dn (sq (sr (Xa rfl (Xa rfl (dn (cd rfl (fun h32 => ?_) (fun h32 => ?_))))))))
 ·
  refine sr (Xa rfl (dn ?_))
  exact re rfl func22 rfl (r_t rfl Xe) rfl ⟨_, rfl, rfl, z.ky (K28.st p31 rfl)⟩
 refine sk (sr (Xa rfl (Xa rfl (dn ?_))))
 exact re rfl func22 rfl (r_t rfl Xe) rfl ⟨_, rfl, rfl, z.ky (K28.st p31 rfl)⟩
def laws_toBoolS.b0 (a0 : (List Bool)) (x4 : (List Bool) × Int) : Option (((List Bool) × Int) ⊕ (List Bool)) :=
 (if (decide (x4.2 < (a0.length : Int))) = true then (if 0 ≤ x4.2 ∧ x4.2 < (a0.length : Int) then (if 0 ≤ x4.2 ∧ x4.2 < (x4.1.length : Int) then (some (Sum.inl ((x4.1.set (x4.2).toNat (at_ a0 x4.2)), (IntKind.wrap .i64 (x4.2 + (1 : Int)))))) else none) else none) else ((some x4.1).bind fun o => some (Sum.inr o)))
def laws_toBoolS.f (a0 : (List Bool)) : Option ((List Bool)) :=
 (if 0 ≤ (a0.length : Int) ∧ (a0.length : Int) ≤ (Lim : Int) then (iter (laws_toBoolS.b0 a0) ((List.replicate ((a0.length : Int)).toNat false), (0 : Int))) else none)
def laws_toBoolS.Q (w : World) (F : Nat → Prop) (r : (List Bool)) (v : Value) (w' : World) : Prop :=
 FO (Kd.sl 4 Kd.bool) w w' [v] r ∧ Ky [] w w'
theorem laws_toBoolS.calls (a0 : (List Bool)) (w : World) (F : Nat → Prop) (w0_0 : Value) (h0_0 : (Kd.sl 4 Kd.bool).rd w [w0_0] a0 F) (r : (List Bool)) (m : laws_toBoolS.f a0 = some r) :
  Calls prog 52 #[w0_0] w (RT (laws_toBoolS.Q w F) r) := by
 obtain ⟨s0, rfl, kp0, z⟩ := Xh w F
 have A0_0 := z.rd h0_0
 refine Xb (args := [w0_0]) func52 ntmps52 rfl rfl m ?_
 unfold laws_toBoolS.f
 refine sr (Xa rfl (dn (sr (Xo w0_0 rfl (ln' A0_0 u47 rfl (mk (x0 := false) (K := Kd.bool) 40 sl47 o4 (fun _ => ⟨rfl, rfl⟩) rfl rfl rfl rfl rfl rfl rfl (fun v2 s2 p2 A2 => ?_)))))))
 refine Xn v2 rfl (dn (sq (sr (Xa rfl (dn (bl ?_))))))
 refine lpI (fun (x4 : (List Bool) × Int) e w => ∃ (s : St) (e0 : Env), w = s.w ∧ e = upd (upd (upd e0 0 w0_0) 3 v2) 4 (iI x4.2) ∧ Kp s0 s ∧ OwF (Kd.sl 4 Kd.bool) s [v2] x4.1 40) ⟨s2, _, rfl, (ue (ue (ue rfl rfl) rfl) rfl), (kp0.st p2 rfl), A2⟩ (fun g4 ih4 => ?_)
 rintro x4 _ _ ⟨s6, _, rfl, rfl, Kx4, Ax4_0⟩
 unfold laws_toBoolS.b0
 refine sq (sr (Xa rfl (Xo w0_0 rfl ?_)))
 have A8 := A0_0.kp Kx4
 refine ln' A8 u47 rfl (Xa rfl (dn (cd rfl (fun h9 => ?_) (fun h9 => ?_))))
 ·
  refine sk (sq (bl (rg (Xo v2 rfl (Xa rfl (Xo w0_0 rfl (Xa rfl (ix' A8 u47 z4 rfl (fun ad10 es10 h0_10 h1_10 he10 ce10 ia10 => ?_)))))))))
  obtain rfl := he10
  refine lc0 ce10 u4 rfl rfl rfl rfl rfl rfl rfl rfl (ix' Ax4_0.rd u47 z4 rfl (fun ad12 es12 h0_12 h1_12 he12 ce12 ia12 => ?_))
  obtain rfl := he12
  refine so (x' := (at_ a0 x4.2)) Ax4_0 ia12 h0_12 h1_12 cs_flat z4 rfl rfl rfl rfl rfl rfl (fun s14 p14 A14 => ?_)
  refine dn (ib (rg (Xa rfl (Xa rfl (Xa rfl (dn ?_))))))
  exact lb ih4 ⟨s14, _, rfl, (ue (ue (ue rfl rfl) rfl) rfl), (Kx4.st p14 rfl), A14⟩
 exact xt rfl (sgb (sr (Xo v2 rfl (Xn v2 rfl (dn (re rfl func52 rfl (r_t rfl Xe) rfl ⟨_, rfl, Ax4_0.fo Kx4 rfl z.l, z.ky Kx4⟩))))))
def laws_toOp.f (a0 : Op) : Option (Op) :=
 ((laws_toItem.f a0.Key).bind fun r26 => ((laws_toItem.f a0.To).bind fun r35 => ((laws_toItem.f a0.Value).bind fun r44 => ((laws_toBoolS.f a0.Keep).bind fun r53 => (some (Op.mk a0.Kind a0.Seat a0.Level a0.N r26 r35 r44 r53))))))
def laws_toOp.Q (w : World) (F : Nat → Prop) (r : Op) (v : Value) (w' : World) : Prop :=
 ∃ (v0 : Value) (v1 : Value) (v2 : Value) (v3 : Value) (v4 : Value) (v5 : Value) (v6 : Value), v = (.agg #[(iI r.Kind), (iI r.Seat), (iI r.Level), (iI r.N), (iI r.Key.Kind), (iI r.Key.N), v0, v1, (iI r.To.Kind), (iI r.To.N), v2, v3, (iI r.Value.Kind), (iI r.Value.N), v4, v5, v6]) ∧ FO kd53 w w' [(iI r.Kind), (iI r.Seat), (iI r.Level), (iI r.N), (iI r.Key.Kind), (iI r.Key.N), v0, v1, (iI r.To.Kind), (iI r.To.N), v2, v3, (iI r.Value.Kind), (iI r.Value.N), v4, v5, v6] r ∧ Ky [] w w'
theorem laws_toOp.calls (a0 : Op) (w : World) (F : Nat → Prop) (w0_0 : Value) (w0_1 : Value) (w0_2 : Value) (w0_3 : Value) (w0_4 : Value) (w0_5 : Value) (w0_6 : Value) (h0_0 : Kd.flt.rd w [w0_0] a0.Key.F F) (h0_1 : Xp.rd w [w0_1] a0.Key.T F) (h0_2 : Kd.flt.rd w [w0_2] a0.To.F F) (h0_3 : Xp.rd w [w0_3] a0.To.T F) (h0_4 : Kd.flt.rd w [w0_4] a0.Value.F F) (h0_5 : Xp.rd w [w0_5] a0.Value.T F) (h0_6 : (Kd.sl 4 Kd.bool).rd w [w0_6] a0.Keep F) (r : Op) (m : laws_toOp.f a0 = some r) :
  Calls prog 24 #[(.agg #[(iI a0.Kind), (iI a0.Seat), (iI a0.Level), (iI a0.N), (iI a0.Key.Kind), (iI a0.Key.N), w0_0, w0_1, (iI a0.To.Kind), (iI a0.To.N), w0_2, w0_3, (iI a0.Value.Kind), (iI a0.Value.N), w0_4, w0_5, w0_6])] w (RT (laws_toOp.Q w F) r) := by
 obtain ⟨s0, rfl, kp0, z⟩ := Xh w F
 refine Xb (args := [(.agg #[(iI a0.Kind), (iI a0.Seat), (iI a0.Level), (iI a0.N), (iI a0.Key.Kind), (iI a0.Key.N), w0_0, w0_1, (iI a0.To.Kind), (iI a0.To.N), w0_2, w0_3, (iI a0.Value.Kind), (iI a0.Value.N), w0_4, w0_5, w0_6])]) func24 ntmps24 rfl rfl m ?_
 unfold laws_toOp.f
 refine sr (bx' (cs := [(iI a0.Kind), (iI a0.Seat), (iI a0.Level), (iI a0.N), (iI a0.Key.Kind), (iI a0.Key.N), w0_0, w0_1, (iI a0.To.Kind), (iI a0.To.N), w0_2, w0_3, (iI a0.Value.Kind), (iI a0.Value.N), w0_4, w0_5, w0_6]) 40 rfl (fun b5 s5 p5 B5 => ?_))
 refine al (cs := [(iI 0), (iI 0), (iI 0), (iI 0), (iI 0), (iI 0), (.float .f64 0), (.slice none 0 0), (iI 0), (iI 0), (.float .f64 0), (.slice none 0 0), (iI 0), (iI 0), (.float .f64 0), (.slice none 0 0), (.slice none 0 0)]) 41 rfl rfl rfl rfl rfl o53 rfl (fun b7 s7 p7 B7 => ?_)
 refine dn (sr (al (cs := [(iI 0), (iI 0), (iI 0), (iI 0), (iI 0), (iI 0), (.float .f64 0), (.slice none 0 0), (iI 0), (iI 0), (.float .f64 0), (.slice none 0 0), (iI 0), (iI 0), (.float .f64 0), (.slice none 0 0), (.slice none 0 0)]) 42 rfl rfl rfl rfl rfl o53 rfl (fun b9 s9 p9 B9 => ?_)))
 refine dn (sr (Xl fa49_0 rfl ?_))
 have A11 := B5.st (tr2 p7 p9) rfl
 refine ld' A11 u3 rfl (Xl fa53_0 rfl (sv B9 z3 rfl rfl rfl rfl rfl rfl rfl rfl (fun s12 p12 B12 => ?_)))
 refine dn (sr (Xl fa49_1 rfl ?_))
 have A14 := A11.st p12 rfl
 refine ld' A14 u3 rfl (Xl fa53_1 rfl (sv B12 z3 rfl rfl rfl rfl rfl rfl rfl rfl (fun s15 p15 B15 => ?_)))
 refine dn (sr (Xl fa49_2 rfl ?_))
 have A17 := A14.st p15 rfl
 refine ld' A17 u3 rfl (Xl fa53_2 rfl (sv B15 z3 rfl rfl rfl rfl rfl rfl rfl rfl (fun s18 p18 B18 => ?_)))
 refine dn (sr (Xl fa49_3 rfl ?_))
 have A20 := A17.st p18 rfl
 refine ld' A20 u3 rfl (Xl fa53_3 rfl (sv B18 z3 rfl rfl rfl rfl rfl rfl rfl rfl (fun s21 p21 B21 => ?_)))
 refine dn (sr (Xl fa49_4 rfl ?_))
 have A23 := A20.st p21 rfl
 refine lda' (es := [(iI a0.Key.Kind), (iI a0.Key.N), w0_0, w0_1]) A23 u25 z25 rfl ?_
 have K24 := kp0.st (tr7 p5 p7 p9 p12 p15 p18 p21) rfl
 refine cl' rfl func9 rfl (laws_toItem.calls a0.Key s21.w (mm [0] s21) w0_0 w0_1 ((Xc (s := s21) (Xm h0_0)).sub (D := [0]) rfl) ((z.rd h0_1).kp K24)) ?_
 rintro r26 _ w26 m26 ⟨v26_0, v26_1, rfl, f26_0, ky26⟩
 obtain ⟨s27, rfl, p27, n27⟩ := nwx s21 w26 43 ky26
 obtain ⟨hu26_0_0, Au26_0_1⟩ := ap28 (f26_0.c n27)
 refine Xl fa53_4 rfl (sva (vs := [(iI r26.Kind), (iI r26.N), v26_0, v26_1]) (B21.st p27 rfl) z28 rfl rfl rfl rfl rfl rfl (Xd rfl (Xd rfl (Xd (FL.one hu26_0_0) (Xd Au26_0_1.rd.one on_nil)))) rfl (fun s30 p30 B30 => ?_))
 refine dn (sr (Xl fa49_5 rfl ?_))
 have A32 := A23.st (tr2 p27 p30) rfl
 refine lda' (es := [(iI a0.To.Kind), (iI a0.To.N), w0_2, w0_3]) A32 u25 z25 rfl ?_
 have K33 := K24.st (tr2 p27 p30) rfl
 refine cl' rfl func9 rfl (laws_toItem.calls a0.To s30.w (mm [0] s30) w0_2 w0_3 ((Xc (s := s30) (Xm h0_2)).sub (D := [0]) rfl) ((z.rd h0_3).kp K33)) ?_
 rintro r35 _ w35 m35 ⟨v35_0, v35_1, rfl, f35_0, ky35⟩
 obtain ⟨s36, rfl, p36, n36⟩ := nwx s30 w35 44 ky35
 obtain ⟨hu35_0_0, Au35_0_1⟩ := ap28 (f35_0.c n36)
 refine Xl fa53_5 rfl (sva (vs := [(iI r35.Kind), (iI r35.N), v35_0, v35_1]) (B30.st p36 rfl) z28 rfl rfl rfl rfl rfl rfl (Xd rfl (Xd rfl (Xd (FL.one hu35_0_0) (Xd Au35_0_1.rd.one on_nil)))) rfl (fun s39 p39 B39 => ?_))
 refine dn (sr (Xl fa49_6 rfl ?_))
 have A41 := A32.st (tr2 p36 p39) rfl
 refine lda' (es := [(iI a0.Value.Kind), (iI a0.Value.N), w0_4, w0_5]) A41 u25 z25 rfl ?_
 have K42 := K33.st (tr2 p36 p39) rfl
 refine cl' rfl func9 rfl (laws_toItem.calls a0.Value s39.w (mm [0] s39) w0_4 w0_5 ((Xc (s := s39) (Xm h0_4)).sub (D := [0]) rfl) ((z.rd h0_5).kp K42)) ?_
 rintro r44 _ w44 m44 ⟨v44_0, v44_1, rfl, f44_0, ky44⟩
 obtain ⟨s45, rfl, p45, n45⟩ := nwx s39 w44 45 ky44
 obtain ⟨hu44_0_0, Au44_0_1⟩ := ap28 (f44_0.c n45)
 refine Xl fa53_6 rfl (sva (vs := [(iI r44.Kind), (iI r44.N), v44_0, v44_1]) (B39.st p45 rfl) z28 rfl rfl rfl rfl rfl rfl (Xd rfl (Xd rfl (Xd (FL.one hu44_0_0) (Xd Au44_0_1.rd.one on_nil)))) rfl (fun s48 p48 B48 => ?_))
 refine dn (sr (Xl fa49_7 rfl ?_))
 refine ld' (A41.st (tr2 p45 p48) rfl) u47 rfl ?_
 have K51 := K42.st (tr2 p45 p48) rfl
 refine clO 46 rfl func52 rfl (laws_toBoolS.calls a0.Keep s48.w (mm [0] s48) w0_6 ((z.rd h0_6).kp K51)) (fun r53 v53_0 s54 p54 A53_0 => ?_)
 refine Xl fa53_7 rfl (sv (B48.st p54 rfl) z47 rfl rfl rfl rfl rfl rfl A53_0.rd.one rfl (fun s57 p57 B57 => ?_))
 refine dn (sr (lda' (es := [(iI a0.Kind), (iI a0.Seat), (iI a0.Level), (iI a0.N), (iI r26.Kind), (iI r26.N), v26_0, v26_1, (iI r35.Kind), (iI r35.N), v35_0, v35_1, (iI r44.Kind), (iI r44.N), v44_0, v44_1, v53_0]) B57 u53 z53 rfl ?_))
 have A60 := A53_0.st p57 rfl
 have A61 := Au44_0_1.st (tr3 p48 p54 p57) rfl
 have A62 := Au35_0_1.st (tr5 p39 p45 p48 p54 p57) rfl
 have A63 := Au26_0_1.st (tr7 p30 p36 p39 p45 p48 p54 p57) rfl
 refine sva (vs := [(iI a0.Kind), (iI a0.Seat), (iI a0.Level), (iI a0.N), (iI r26.Kind), (iI r26.N), v26_0, v26_1, (iI r35.Kind), (iI r35.N), v35_0, v35_1, (iI r44.Kind), (iI r44.N), v44_0, v44_1, v53_0]) (B7.st (tr2 (tr12 p9 p12 p15 p18 p21 p27 p30 p36 p39 p45 p48 p54) p57) rfl) z53 rfl rfl rfl rfl rfl rfl (Xd rfl (Xd rfl (Xd rfl (Xd rfl (Xd rfl (Xd rfl (Xd (FL.one hu26_0_0) (Xd A63.rd.one (Xd rfl (Xd rfl (Xd (FL.one hu35_0_0) (Xd A62.rd.one (Xd rfl (Xd rfl (Xd (FL.one hu44_0_0) (Xd A61.rd.one (Xd A60.rd.one on_nil))))))))))))))))) rfl (fun s64 p64 B64 => ?_)
 refine dn ?_
 obtain ⟨s68, hw68, p68, A68⟩ := ow_2 (ow_isoz (fun x : Item => (x.Kind, x.N, x.F, x.T)) r44 (ow_l (Xk .i64 r44.Kind) (ow_l (Xk .i64 r44.N) (ow_l (fz_flt hu44_0_0) (A61.st p64 rfl))))) (A60.st p64 rfl) rfl rfl
 rw [hw68]
 obtain ⟨s71, hw71, p71, A71⟩ := ow_2 (ow_isoz (fun x : Item => (x.Kind, x.N, x.F, x.T)) r35 (ow_l (Xk .i64 r35.Kind) (ow_l (Xk .i64 r35.N) (ow_l (fz_flt hu35_0_0) (A62.st (tr2 p64 p68) rfl))))) A68 rfl rfl
 rw [hw71]
 obtain ⟨s74, hw74, p74, A74⟩ := ow_2 (ow_isoz (fun x : Item => (x.Kind, x.N, x.F, x.T)) r26 (ow_l (Xk .i64 r26.Kind) (ow_l (Xk .i64 r26.N) (ow_l (fz_flt hu26_0_0) (A63.st (tr3 p64 p68 p71) rfl))))) A71 rfl rfl
 rw [hw74]
 have A76 : OwF kd53 s74 [(iI a0.Kind), (iI a0.Seat), (iI a0.Level), (iI a0.N), (iI r26.Kind), (iI r26.N), v26_0, v26_1, (iI r35.Kind), (iI r35.N), v35_0, v35_1, (iI r44.Kind), (iI r44.N), v44_0, v44_1, v53_0] (Op.mk a0.Kind a0.Seat a0.Level a0.N r26 r35 r44 r53) 43 := (ow_isoz (fun x : Op => (x.Kind, x.Seat, x.Level, x.N, x.Key, x.To, x.Value, x.Keep)) (Op.mk a0.Kind a0.Seat a0.Level a0.N r26 r35 r44 r53) (ow_l (Xk .i64 a0.Kind) (ow_l (Xk .i64 a0.Seat) (ow_l (Xk .i64 a0.Level) (ow_l (Xk .i64 a0.N) A74)))))
 have K79 := K51.st (tr6 p54 p57 p64 p68 p71 p74) rfl
 exact re rfl func24 rfl (r_b (B64.st (tr3 p68 p71 p74) rfl) u53 rfl z53 rfl Xe) rfl ⟨_, rfl, v26_0, v26_1, v35_0, v35_1, v44_0, v44_1, v53_0, rfl, A76.fo K79 rfl z.l, z.ky K79⟩
def spec_l3copy.f (a0 : Item) : Option (Item) :=
 (if ([] : (List Int)).length + a0.T.length ≤ Lim then (some (Item.mk a0.Kind a0.N a0.F (([] : (List Int)) ++ a0.T))) else none)
def spec_l3copy.Q (w : World) (F : Nat → Prop) (r : Item) (v : Value) (w' : World) : Prop :=
 ∃ (v0 : Value) (v1 : Value), v = (.agg #[(iI r.Kind), (iI r.N), v0, v1]) ∧ FO kd28 w w' [(iI r.Kind), (iI r.N), v0, v1] r ∧ Ky [] w w'
theorem spec_l3copy.calls (a0 : Item) (w : World) (F : Nat → Prop) (w0_0 : Value) (w0_1 : Value) (h0_0 : Kd.flt.rd w [w0_0] a0.F F) (h0_1 : Xp.rd w [w0_1] a0.T F) (r : Item) (m : spec_l3copy.f a0 = some r) :
  Calls prog 88 #[(.agg #[(iI a0.Kind), (iI a0.N), w0_0, w0_1])] w (RT (spec_l3copy.Q w F) r) := by
 obtain ⟨s0, rfl, kp0, z⟩ := Xh w F
 have A0_0 := Xm h0_0
 refine Xb (args := [(.agg #[(iI a0.Kind), (iI a0.N), w0_0, w0_1])]) func88 ntmps88 rfl rfl m ?_
 unfold spec_l3copy.f
 refine sr (bx' (cs := [(iI a0.Kind), (iI a0.N), w0_0, w0_1]) 40 rfl (fun b2 s2 p2 B2 => ?_))
 refine al (cs := [(iI 0), (iI 0), (.float .f64 0), (.slice none 0 0)]) 41 rfl rfl rfl rfl rfl o28 rfl (fun b4 s4 p4 B4 => ?_)
 refine dn (sr (lt0 (K := (Kd.int .u8)) 42 u23 z5 rfl rfl rfl rfl rfl (fun v6 s6 p6 A6 => ?_)))
 refine Xl fa28_3 rfl ?_
 have A8 := B2.st (tr2 p4 p6) rfl
 refine ld' A8 u23 rfl ?_
 have K9 := kp0.st (tr3 p2 p4 p6) rfl
 refine apF' Xi sl23 A6 ((z.rd h0_1).kp K9) rfl (fun v11 s11 p11 A11 => ?_)
 refine Xl fa28_3 rfl (sv (A8.st p11 rfl) z23 rfl rfl rfl rfl rfl rfl A11.rd.one rfl (fun s14 p14 B14 => ?_))
 refine dn (sr (lda' (es := [(iI a0.Kind), (iI a0.N), w0_0, v11]) B14 u28 z28 rfl ?_))
 have A17 := A11.st p14 rfl
 refine sva (vs := [(iI a0.Kind), (iI a0.N), w0_0, v11]) (B4.st (tr3 p6 p11 p14) rfl) z28 rfl rfl rfl rfl rfl rfl (Xd rfl (Xd rfl (Xd (FL.one A0_0) (Xd A17.rd.one on_nil)))) rfl (fun s18 p18 B18 => ?_)
 refine dn ?_
 have A20 : OwF kd28 s18 [(iI a0.Kind), (iI a0.N), w0_0, v11] (Item.mk a0.Kind a0.N a0.F (([] : (List Int)) ++ a0.T)) 42 := (ow_isoz (fun x : Item => (x.Kind, x.N, x.F, x.T)) (Item.mk a0.Kind a0.N a0.F (([] : (List Int)) ++ a0.T)) (ow_l (Xk .i64 a0.Kind) (ow_l (Xk .i64 a0.N) (ow_l (fz_flt A0_0) (A17.st p18 rfl)))))
 have K23 := K9.st (tr3 p11 p14 p18) rfl
 exact re rfl func88 rfl (r_b B18 u28 rfl z28 rfl Xe) rfl ⟨_, rfl, w0_0, v11, rfl, A20.fo K23 rfl z.l, z.ky K23⟩
def spec_ItemClean.f (a0 : Item) : Option (Item) :=
 ((spec_ItemOk.f a0).bind fun r9 => (if (!r9) = true then (some (Item.mk (0 : Int) (0 : Int) (0 : Nat) ([] : (List Int)))) else ((spec_l3copy.f a0).bind fun r21 => ((if (fcmp .f64 a0.F (0 : Nat) == some .eq) = true then (some (0 : Nat)) else (some r21.F)).bind fun y30 => (some (Item.mk r21.Kind r21.N y30 r21.T))))))
def spec_ItemClean.Q (w : World) (F : Nat → Prop) (r : Item) (v : Value) (w' : World) : Prop :=
 ∃ (v0 : Value) (v1 : Value), v = (.agg #[(iI r.Kind), (iI r.N), v0, v1]) ∧ FO kd28 w w' [(iI r.Kind), (iI r.N), v0, v1] r ∧ Ky [] w w'
theorem spec_ItemClean.calls (a0 : Item) (w : World) (F : Nat → Prop) (w0_0 : Value) (w0_1 : Value) (h0_0 : Kd.flt.rd w [w0_0] a0.F F) (h0_1 : Xp.rd w [w0_1] a0.T F) (r : Item) (m : spec_ItemClean.f a0 = some r) :
  Calls prog 73 #[(.agg #[(iI a0.Kind), (iI a0.N), w0_0, w0_1])] w (RT (spec_ItemClean.Q w F) r) := by
 obtain ⟨s0, rfl, kp0, z⟩ := Xh w F
 have A0_0 := Xm h0_0
 have A0_1 := z.rd h0_1
 refine Xb (args := [(.agg #[(iI a0.Kind), (iI a0.N), w0_0, w0_1])]) func73 ntmps73 rfl rfl m ?_
 unfold spec_ItemClean.f
 refine sr (bx' (cs := [(iI a0.Kind), (iI a0.N), w0_0, w0_1]) 40 rfl (fun b2 s2 p2 B2 => ?_))
 refine al (cs := [(iI 0), (iI 0), (.float .f64 0), (.slice none 0 0)]) 41 rfl rfl rfl rfl rfl o28 rfl (fun b4 s4 p4 B4 => ?_)
 refine dn (sq (sr ?_))
 have A6 := B2.st p4 rfl
 refine lda' (es := [(iI a0.Kind), (iI a0.N), w0_0, w0_1]) A6 u28 z28 rfl ?_
 have K7 := kp0.st (tr2 p2 p4) rfl
 refine clV 42 rfl func33 rfl (spec_ItemOk.calls a0 s4.w (mm [0] s4) w0_0 w0_1 ((Xc (s := s4) A0_0).sub (D := [0]) rfl) (A0_1.kp K7)) (fun r9 s10 p10 n10 => ?_)
 refine Xa rfl (dn (cd rfl (fun h11 => ?_) (fun h11 => ?_)))
 ·
  refine sr (bd (cells := [(iI 0), (iI 0), (.float .f64 0), (.slice none 0 0)]) pl28 o28 rfl rfl rfl rfl rfl rfl ?_)
  refine sva (vs := [(iI 0), (iI 0), (.float .f64 0), (.slice none 0 0)]) (B4.st p10 rfl) z28 rfl rfl rfl rfl rfl rfl (Xd rfl (Xd rfl (Xd (FL.one (fl_c rfl)) (Xd rfl on_nil)))) rfl (fun s13 p13 B13 => ?_)
  refine dn ?_
  have A15 : OwF kd28 s13 [(iI 0), (iI 0), (.float .f64 0), (.slice none 0 0)] (Item.mk (0 : Int) (0 : Int) (0 : Nat) ([] : (List Int))) 43 := ow_z _ _ (fz_iso (fun x : Item => (x.Kind, x.N, x.F, x.T)) (Item.mk (0 : Int) (0 : Int) (0 : Nat) ([] : (List Int))) (fz_pair (Xk .i64 (0 : Int)) (fz_pair (Xk .i64 (0 : Int)) (fz_pair (fz_flt (fl_c rfl)) (fz_nil 5 (Kd.int .u8))))))
  have K17 := K7.st (tr2 p10 p13) rfl
  exact re rfl func73 rfl (r_b B13 u28 rfl z28 rfl Xe) rfl ⟨_, rfl, (.float .f64 0), (.slice none 0 0), rfl, A15.fo K17 rfl z.l, z.ky K17⟩
 refine sk (sr ?_)
 have A18 := A6.st p10 rfl
 refine lda' (es := [(iI a0.Kind), (iI a0.N), w0_0, w0_1]) A18 u28 z28 rfl ?_
 have K19 := K7.st p10 rfl
 refine cl' rfl func88 rfl (spec_l3copy.calls a0 s10.w (mm [0] s10) w0_0 w0_1 ((Xc (s := s10) A0_0).sub (D := [0]) rfl) (A0_1.kp K19)) ?_
 rintro r21 _ w21 m21 ⟨v21_0, v21_1, rfl, f21_0, ky21⟩
 obtain ⟨s22, rfl, p22, n22⟩ := nwx s10 w21 44 ky21
 obtain ⟨hu21_0_0, Au21_0_1⟩ := ap28 (f21_0.c n22)
 refine al (cs := [(iI 0), (iI 0), (.float .f64 0), (.slice none 0 0)]) 45 rfl rfl rfl rfl rfl o28 rfl (fun b24 s24 p24 B24 => ?_)
 have A26 := Au21_0_1.st p24 rfl
 refine sva (vs := [(iI r21.Kind), (iI r21.N), v21_0, v21_1]) B24 z28 rfl rfl rfl rfl rfl rfl (Xd rfl (Xd rfl (Xd (FL.one hu21_0_0) (Xd A26.rd.one on_nil)))) rfl (fun s27 p27 B27 => ?_)
 refine dn (sq (sr (Xl fa28_2 rfl ?_)))
 refine ld' (A18.st (tr3 p22 p24 p27) rfl) u22 rfl (fq_' A0_0 (fl_c rfl) rfl (dn (jc (fun (y30 : Nat) e w => ∃ (s : St) (e0 : Env) (uy30_0 : Value), w = s.w ∧ e = upd (upd e0 2 (pB b4)) 3 (pB b24) ∧ Kp s0 s ∧ FL uy30_0 y30 ∧ BlF s b24 28 [(iI r21.Kind), (iI r21.N), uy30_0, v21_1] 45 ∧ BlF s b4 28 [(iI 0), (iI 0), (.float .f64 0), (.slice none 0 0)] 41 ∧ OwF Xp s [v21_1] r21.T 44) (fun Gj30 Kj30 => ?_) ?_)))
 ·
  refine cd rfl (fun h31 => ?_) (fun h31 => ?_)
  ·
   refine rg (Xl fa28_2 rfl (sv B27 z22 rfl rfl rfl rfl rfl rfl (FL.one (fl_c rfl)) rfl (fun s32 p32 B32 => ?_)))
   exact dn (Kj30 _ _ _ ⟨s32, _, (.float .f64 0), rfl, (ue (ue rfl rfl) rfl), (K19.st (tr4 p22 p24 p27 p32) rfl), (fl_c rfl), B32, (B4.st (tr5 p10 p22 p24 p27 p32) rfl), (A26.st (tr2 p27 p32) rfl)⟩)
  exact sk (Kj30 _ _ _ ⟨s27, _, v21_0, rfl, (ue (ue rfl rfl) rfl), (K19.st (tr3 p22 p24 p27) rfl), hu21_0_0, B27, (B4.st (tr4 p10 p22 p24 p27) rfl), (A26.st p27 rfl)⟩)
 rintro y30 _ _ ⟨s40, _, uy30_0, rfl, rfl, Ky30, Fy30_0, By30_b24, By30_b4, Cy30_23⟩
 refine sr (lda' (es := [(iI r21.Kind), (iI r21.N), uy30_0, v21_1]) By30_b24 u28 z28 rfl (sva (vs := [(iI r21.Kind), (iI r21.N), uy30_0, v21_1]) By30_b4 z28 rfl rfl rfl rfl rfl rfl (Xd rfl (Xd rfl (Xd (FL.one Fy30_0) (Xd Cy30_23.rd.one on_nil)))) rfl (fun s43 p43 B43 => ?_)))
 refine dn ?_
 have A45 : OwF kd28 s43 [(iI r21.Kind), (iI r21.N), uy30_0, v21_1] (Item.mk r21.Kind r21.N y30 r21.T) 44 := (ow_isoz (fun x : Item => (x.Kind, x.N, x.F, x.T)) (Item.mk r21.Kind r21.N y30 r21.T) (ow_l (Xk .i64 r21.Kind) (ow_l (Xk .i64 r21.N) (ow_l (fz_flt Fy30_0) (Cy30_23.st p43 rfl)))))
 have K48 := Ky30.st p43 rfl
 exact re rfl func73 rfl (r_b B43 u28 rfl z28 rfl Xe) rfl ⟨_, rfl, uy30_0, v21_1, rfl, A45.fo K48 rfl z.l, z.ky K48⟩
def spec_KeyOk.f (a0 : Item) : Option (Bool) :=
 ((spec_ItemOk.f a0).bind fun r6 => ((if (r6 && (a0.Kind != (0 : Int))) = true then ((if (fcmp .f64 a0.F (0 : Nat) == some .eq) = true then ((spec_FloatBits.f a0.F).bind fun r13 => (some (r13 != (0 : Int)))) else (some false)).bind fun y12 => (some (!y12))) else (some false)).bind fun y10 => (some y10)))
def spec_KeyOk.Q (w : World) (F : Nat → Prop) (r : Bool) (v : Value) (w' : World) : Prop :=
 v = (.bool r) ∧ Ky [] w w'
theorem spec_KeyOk.calls (a0 : Item) (w : World) (F : Nat → Prop) (w0_0 : Value) (w0_1 : Value) (h0_0 : Kd.flt.rd w [w0_0] a0.F F) (h0_1 : Xp.rd w [w0_1] a0.T F) (r : Bool) (m : spec_KeyOk.f a0 = some r) :
  Calls prog 72 #[(.agg #[(iI a0.Kind), (iI a0.N), w0_0, w0_1])] w (RT (spec_KeyOk.Q w F) r) := by
 obtain ⟨s0, rfl, kp0, z⟩ := Xh w F
 have A0_0 := Xm h0_0
 refine Xb (args := [(.agg #[(iI a0.Kind), (iI a0.N), w0_0, w0_1])]) func72 ntmps72 rfl rfl m ?_
 unfold spec_KeyOk.f
 refine sr (bx' (cs := [(iI a0.Kind), (iI a0.N), w0_0, w0_1]) 40 rfl (fun b2 s2 p2 B2 => ?_))
 refine Xa rfl (dn (sr (lda' (es := [(iI a0.Kind), (iI a0.N), w0_0, w0_1]) B2 u28 z28 rfl ?_)))
 have K4 := kp0.st p2 rfl
 refine clV 41 rfl func33 rfl (spec_ItemOk.calls a0 s2.w (mm [0] s2) w0_0 w0_1 ((Xc (s := s2) A0_0).sub (D := [0]) rfl) ((z.rd h0_1).kp K4)) (fun r6 s7 p7 n7 => ?_)
 refine Xa rfl (jy [5, 6, 7, 8, 9] [7, 8, 9, 10, 11, 12, 13, 14, 15, 16, 17, 18, 19] 9 (.bool (r6 && (a0.Kind != (0 : Int)))) rfl (fun Kg8 => ?_) (fun j8 => ?_))
 ·
  rcases bft r6 with hb8 | hb8
  ·
   refine sbT hb8 (Xl fa28_0 rfl ?_)
   exact ld' (B2.st p7 rfl) u3 rfl (Xa rfl (Xa rfl (Kg8 _ (Ag.put ((Ag.put ((Ag.put ((Ag.put (Ag.base rfl) rfl)) rfl)) rfl)) rfl) (by rw [hb8]; rfl))))
  exact sbT hb8 (Xj rfl (Xj rfl (Xj rfl (Xa rfl (Kg8 _ (Ag.put ((Ag.put ((Ag.put ((Ag.put (Ag.base rfl) rfl)) rfl)) rfl)) rfl) (by rw [hb8]; rfl))))))
 refine Xa rfl (ji [19] (fun (y10 : Bool) e w => ∃ (s : St) (e0 : Env), w = s.w ∧ e = upd e0 21 (.bool y10) ∧ Kp s0 s) (fun Gj10 Kj10 => ?_) ?_)
 ·
  rcases bft (r6 && (a0.Kind != (0 : Int))) with hb10 | hb10
  ·
   refine sbT hb10 ?_
   rw [if_pos hb10]
   refine Xl fa28_2 rfl ?_
   have A11 := B2.st p7 rfl
   refine ld' A11 u22 rfl (fq_' A0_0 (fl_c rfl) rfl (Xa rfl (ji [17, 18, 19] (fun (y12 : Bool) e w => ∃ (s : St) (e0 : Env), w = s.w ∧ e = upd (upd e0 10 (.bool true)) 19 (.bool y12) ∧ Kp s0 s) (fun Gj12 Kj12 => ?_) ?_)))
   ·
    rcases bft (fcmp .f64 a0.F (0 : Nat) == some .eq) with hb12 | hb12
    ·
     refine sbT hb12 ?_
     rw [if_pos hb12]
     refine Xl fa28_2 rfl (ld' A11 u22 rfl (clV 42 rfl func37 rfl (spec_FloatBits.calls a0.F s7.w (mm [] s7) w0_0 (Xc (s := s7) A0_0)) (fun r13 s14 p14 n14 => ?_)))
     refine Xa rfl (Xa rfl ?_)
     exact Kj12 _ _ _ ⟨s14, _, rfl, (ue (ue rfl rfl) rfl), (K4.st (tr2 p7 p14) rfl)⟩
    refine sbT hb12 ?_
    rw [if_neg (by rw [hb12]; decide)]
    refine Xj rfl (Xj rfl (Xj rfl (Xj rfl (Xa rfl ?_))))
    exact Kj12 _ _ _ ⟨s7, _, rfl, (ue (ue rfl rfl) rfl), (K4.st p7 rfl)⟩
   rintro y12 _ _ ⟨s17, _, rfl, rfl, Ky12⟩
   exact Xa rfl (Xa rfl (Kj10 _ _ _ ⟨s17, _, rfl, (ue rfl rfl), Ky12⟩))
  refine sbT hb10 ?_
  rw [if_neg (by rw [hb10]; decide)]
  refine Xj rfl (Xj rfl (Xj rfl (Xj rfl (Xj rfl (Xj rfl (Xj rfl (Xj rfl (Xj rfl (Xj rfl (Xa rfl ?_))))))))))
  exact Kj10 _ _ _ ⟨s7, _, rfl, (ue rfl rfl), (K4.st p7 rfl)⟩
 rintro y10 _ _ ⟨s19, _, rfl, rfl, Ky10⟩
 exact Xa rfl (dn (re rfl func72 rfl (r_t rfl Xe) rfl ⟨_, rfl, rfl, z.ky Ky10⟩))
def spec_OpOk.f (a0 : Op) : Option (Bool) :=
 ((spec_l5in.f a0.Kind (1 : Int) (13 : Int)).bind fun r7 => ((if (!r7) = true then (some true) else ((if (decide (a0.Kind ≤ (8 : Int))) = true then ((spec_l5in.f a0.Seat (0 : Int) (7 : Int)).bind fun r14 => (some (!r14))) else (some false)).bind fun y13 => (some y13))).bind fun y9 => (if y9 = true then (some false) else ((if ((decide (a0.Kind ≥ (2 : Int))) && (decide (a0.Kind ≤ (6 : Int)))) = true then ((spec_ItemClean.f a0.Key).bind fun r27 => ((spec_KeyOk.f r27).bind fun r30 => (some (!r30)))) else (some false)).bind fun y25 => (if y25 = true then (some false) else (if (a0.Kind == (1 : Int)) = true then ((spec_l5in.f a0.Level (0 : Int) (1 : Int)).bind fun r38 => (some r38)) else (if (a0.Kind == (3 : Int)) = true then ((spec_ItemOk.f a0.Value).bind fun r43 => (some (r43 && (a0.Value.Kind != (0 : Int))))) else (if (a0.Kind == (5 : Int)) = true then ((spec_ItemClean.f a0.To).bind fun r50 => ((spec_KeyOk.f r50).bind fun r53 => ((if r53 = true then ((spec_l5in.f a0.N (0 : Int) (50 : Int)).bind fun r57 => (some r57)) else (some false)).bind fun y55 => (some y55)))) else (if (a0.Kind == (6 : Int)) = true then ((spec_ItemClean.f a0.To).bind fun r64 => ((spec_KeyOk.f r64).bind fun r67 => (some r67))) else (if (a0.Kind == (11 : Int)) = true then ((spec_l5in.f a0.N (0 : Int) (15 : Int)).bind fun r71 => (some r71)) else (if (a0.Kind == (12 : Int)) = true then (some (decide (a0.N ≥ (0 : Int)))) else (if (a0.Kind == (13 : Int)) = true then (some (decide ((a0.Keep.length : Int) ≤ (600 : Int)))) else (some true)))))))))))))
def spec_OpOk.Q (w : World) (F : Nat → Prop) (r : Bool) (v : Value) (w' : World) : Prop :=
 v = (.bool r) ∧ Ky [] w w'
theorem spec_OpOk.calls (a0 : Op) (w : World) (F : Nat → Prop) (w0_0 : Value) (w0_1 : Value) (w0_2 : Value) (w0_3 : Value) (w0_4 : Value) (w0_5 : Value) (w0_6 : Value) (h0_0 : Kd.flt.rd w [w0_0] a0.Key.F F) (h0_1 : Xp.rd w [w0_1] a0.Key.T F) (h0_2 : Kd.flt.rd w [w0_2] a0.To.F F) (h0_3 : Xp.rd w [w0_3] a0.To.T F) (h0_4 : Kd.flt.rd w [w0_4] a0.Value.F F) (h0_5 : Xp.rd w [w0_5] a0.Value.T F) (h0_6 : (Kd.sl 4 Kd.bool).rd w [w0_6] a0.Keep F) (r : Bool) (m : spec_OpOk.f a0 = some r) :
  Calls prog 50 #[(.agg #[(iI a0.Kind), (iI a0.Seat), (iI a0.Level), (iI a0.N), (iI a0.Key.Kind), (iI a0.Key.N), w0_0, w0_1, (iI a0.To.Kind), (iI a0.To.N), w0_2, w0_3, (iI a0.Value.Kind), (iI a0.Value.N), w0_4, w0_5, w0_6])] w (RT (spec_OpOk.Q w F) r) := by
 obtain ⟨s0, rfl, kp0, z⟩ := Xh w F
 have A0_2 := Xm h0_2
 have A0_3 := z.rd h0_3
 refine Xb (args := [(.agg #[(iI a0.Kind), (iI a0.Seat), (iI a0.Level), (iI a0.N), (iI a0.Key.Kind), (iI a0.Key.N), w0_0, w0_1, (iI a0.To.Kind), (iI a0.To.N), w0_2, w0_3, (iI a0.Value.Kind), (iI a0.Value.N), w0_4, w0_5, w0_6])]) func50 ntmps50 rfl rfl m ?_
 unfold spec_OpOk.f
 refine sr (bx' (cs := [(iI a0.Kind), (iI a0.Seat), (iI a0.Level), (iI a0.N), (iI a0.Key.Kind), (iI a0.Key.N), w0_0, w0_1, (iI a0.To.Kind), (iI a0.To.N), w0_2, w0_3, (iI a0.Value.Kind), (iI a0.Value.N), w0_4, w0_5, w0_6]) 40 rfl (fun b5 s5 p5 B5 => ?_))
 refine Xa rfl (dn (sq (sr (Xl fa53_0 rfl (ld' B5 u3 rfl (clV 41 rfl func42 rfl (spec_l5in.calls a0.Kind (1 : Int) (13 : Int) s5.w (mm [] s5)) (fun r7 s8 p8 n8 => ?_)))))))
 refine Xa rfl (Xa rfl (ji [] (fun (y9 : Bool) e w => ∃ (s : St) (e0 : Env), w = s.w ∧ e = upd (upd e0 1 (pB b5)) 18 (.bool y9) ∧ Kp s0 s ∧ BlF s b5 53 [(iI a0.Kind), (iI a0.Seat), (iI a0.Level), (iI a0.N), (iI a0.Key.Kind), (iI a0.Key.N), w0_0, w0_1, (iI a0.To.Kind), (iI a0.To.N), w0_2, w0_3, (iI a0.Value.Kind), (iI a0.Value.N), w0_4, w0_5, w0_6] 40) (fun Gj9 Kj9 => ?_) ?_))
 ·
  rcases bft (!r7) with hb9 | hb9
  ·
   refine sbT hb9 ?_
   rw [if_pos hb9]
   refine Xj rfl (Xj rfl (Xj rfl (Xj rfl (Xj rfl (Xj rfl (Xj rfl (Xj rfl (Xj rfl (Xa rfl ?_)))))))))
   exact Kj9 _ _ _ ⟨s8, _, rfl, (ue (ue rfl rfl) rfl), (kp0.st (tr2 p5 p8) rfl), (B5.st p8 rfl)⟩
  refine sbT hb9 ?_
  rw [if_neg (by rw [hb9]; decide)]
  refine Xl fa53_0 rfl ?_
  have A12 := B5.st p8 rfl
  refine ld' A12 u3 rfl (Xa rfl (Xa rfl (ji [14] (fun (y13 : Bool) e w => ∃ (s : St) (e0 : Env), w = s.w ∧ e = upd (upd (upd e0 1 (pB b5)) 8 (.bool false)) 17 (.bool y13) ∧ Kp s0 s ∧ BlF s b5 53 [(iI a0.Kind), (iI a0.Seat), (iI a0.Level), (iI a0.N), (iI a0.Key.Kind), (iI a0.Key.N), w0_0, w0_1, (iI a0.To.Kind), (iI a0.To.N), w0_2, w0_3, (iI a0.Value.Kind), (iI a0.Value.N), w0_4, w0_5, w0_6] 40) (fun Gj13 Kj13 => ?_) ?_)))
  ·
   rcases bft (decide (a0.Kind ≤ (8 : Int))) with hb13 | hb13
   ·
    refine sbT hb13 ?_
    rw [if_pos hb13]
    refine Xl fa53_1 rfl (ld' A12 u3 rfl (clV 42 rfl func42 rfl (spec_l5in.calls a0.Seat (0 : Int) (7 : Int) s8.w (mm [] s8)) (fun r14 s15 p15 n15 => ?_)))
    refine Xa rfl (Xa rfl ?_)
    exact Kj13 _ _ _ ⟨s15, _, rfl, (ue (ue (ue rfl rfl) rfl) rfl), (kp0.st (tr3 p5 p8 p15) rfl), (A12.st p15 rfl)⟩
   refine sbT hb13 ?_
   rw [if_neg (by rw [hb13]; decide)]
   refine Xj rfl (Xj rfl (Xj rfl (Xj rfl (Xa rfl ?_))))
   exact Kj13 _ _ _ ⟨s8, _, rfl, (ue (ue (ue rfl rfl) rfl) rfl), (kp0.st (tr2 p5 p8) rfl), A12⟩
  rintro y13 _ _ ⟨s19, _, rfl, rfl, Ky13, By13_b5⟩
  exact Xa rfl (Kj9 _ _ _ ⟨s19, _, rfl, (ue (ue rfl rfl) rfl), Ky13, By13_b5⟩)
 rintro y9 _ _ ⟨s21, _, rfl, rfl, Ky9, By9_b5⟩
 refine dn (cd rfl (fun h23 => ?_) (fun h23 => ?_))
 ·
  exact sr (Xa rfl (dn (re rfl func50 rfl (r_t rfl Xe) rfl ⟨_, rfl, rfl, z.ky Ky9⟩)))
 refine sk (sr (Xl fa53_0 rfl (ld' By9_b5 u3 rfl (Xa rfl (Xa rfl (jy [22, 23, 24, 25, 26] [8] 26 (.bool ((decide (a0.Kind ≥ (2 : Int))) && (decide (a0.Kind ≤ (6 : Int))))) rfl (fun Kg24 => ?_) (fun j24 => ?_)))))))
 ·
  rcases bft (decide (a0.Kind ≥ (2 : Int))) with hb24 | hb24
  ·
   exact sbT hb24 (Xl fa53_0 rfl (ld' By9_b5 u3 rfl (Xa rfl (Xa rfl (Kg24 _ (Ag.put ((Ag.put ((Ag.put ((Ag.put (Ag.base rfl) rfl)) rfl)) rfl)) rfl) (by rw [hb24]; rfl))))))
  exact sbT hb24 (Xj rfl (Xj rfl (Xj rfl (Xa rfl (Kg24 _ (Ag.put ((Ag.put ((Ag.put ((Ag.put (Ag.base rfl) rfl)) rfl)) rfl)) rfl) (by rw [hb24]; rfl))))))
 refine Xa rfl (dn (sq (sr (Xa rfl (Xa rfl (ji [] (fun (y25 : Bool) e w => ∃ (s : St) (e0 : Env), w = s.w ∧ e = upd (upd e0 1 (pB b5)) 34 (.bool y25) ∧ Kp s0 s ∧ BlF s b5 53 [(iI a0.Kind), (iI a0.Seat), (iI a0.Level), (iI a0.N), (iI a0.Key.Kind), (iI a0.Key.N), w0_0, w0_1, (iI a0.To.Kind), (iI a0.To.N), w0_2, w0_3, (iI a0.Value.Kind), (iI a0.Value.N), w0_4, w0_5, w0_6] 40) (fun Gj25 Kj25 => ?_) ?_))))))
 ·
  rcases bft ((decide (a0.Kind ≥ (2 : Int))) && (decide (a0.Kind ≤ (6 : Int)))) with hb25 | hb25
  ·
   refine sbT hb25 ?_
   rw [if_pos hb25]
   refine Xl fa53_4 rfl (lda' (es := [(iI a0.Key.Kind), (iI a0.Key.N), w0_0, w0_1]) By9_b5 u28 z28 rfl ?_)
   refine cl' rfl func73 rfl (spec_ItemClean.calls a0.Key s21.w (mm [0] s21) w0_0 w0_1 ((Xc (s := s21) (Xm h0_0)).sub (D := [0]) rfl) ((z.rd h0_1).kp Ky9)) ?_
   rintro r27 _ w27 m27 ⟨v27_0, v27_1, rfl, f27_0, ky27⟩
   obtain ⟨s28, rfl, p28, n28⟩ := nwx s21 w27 43 ky27
   obtain ⟨hu27_0_0, Au27_0_1⟩ := ap28 (f27_0.c n28)
   refine clV 44 rfl func72 rfl (spec_KeyOk.calls r27 s28.w (mm [43] s28) v27_0 v27_1 ((Xc (s := s28) hu27_0_0).sub (D := [43]) rfl) Au27_0_1.rd) (fun r30 s31 p31 n31 => ?_)
   refine Xa rfl (Xa rfl ?_)
   exact Kj25 _ _ _ ⟨s31, _, rfl, (ue (ue rfl rfl) rfl), (Ky9.st (tr2 p28 p31) rfl), (By9_b5.st (tr2 p28 p31) rfl)⟩
  refine sbT hb25 ?_
  rw [if_neg (by rw [hb25]; decide)]
  exact Xj rfl (Xj rfl (Xj rfl (Xj rfl (Xj rfl (Xa rfl (Kj25 _ _ _ ⟨s21, _, rfl, (ue (ue rfl rfl) rfl), Ky9, By9_b5⟩))))))
 rintro y25 _ _ ⟨s34, _, rfl, rfl, Ky25, By25_b5⟩
 refine dn (cd rfl (fun h36 => ?_) (fun h36 => ?_))
 ·
  exact sr (Xa rfl (dn (re rfl func50 rfl (r_t rfl Xe) rfl ⟨_, rfl, rfl, z.ky Ky25⟩)))
 refine sk (sq (sr (Xl fa53_0 rfl (ld' By25_b5 u3 rfl (dn (bl (sr (Xa rfl (Xa rfl (dn (cd rfl (fun h37 => ?_) (fun h37 => ?_))))))))))))
 ·
  refine sr (Xl fa53_2 rfl (ld' By25_b5 u3 rfl (clV 45 rfl func42 rfl (spec_l5in.calls a0.Level (0 : Int) (1 : Int) s34.w (mm [] s34)) (fun r38 s39 p39 n39 => ?_))))
  refine Xa rfl (dn ?_)
  exact re rfl func50 rfl (r_t rfl Xe) rfl ⟨_, rfl, rfl, z.ky (Ky25.st p39 rfl)⟩
 refine sr (Xa rfl (Xa rfl (dn (cd rfl (fun h41 => ?_) (fun h41 => ?_)))))
 ·
  refine sr (Xl fa53_6 rfl (lda' (es := [(iI a0.Value.Kind), (iI a0.Value.N), w0_4, w0_5]) By25_b5 u28 z28 rfl ?_))
  refine clV 46 rfl func33 rfl (spec_ItemOk.calls a0.Value s34.w (mm [0] s34) w0_4 w0_5 ((Xc (s := s34) (Xm h0_4)).sub (D := [0]) rfl) ((z.rd h0_5).kp Ky25)) (fun r43 s44 p44 n44 => ?_)
  refine Xa rfl (jy [47, 48, 49, 50, 51, 52] [9] 52 (.bool (r43 && (a0.Value.Kind != (0 : Int)))) rfl (fun Kg45 => ?_) (fun j45 => ?_))
  ·
   rcases bft r43 with hb45 | hb45
   ·
    refine sbT hb45 (Xl fa53_6 rfl (Xl fa28_0 rfl ?_))
    exact ld' (By25_b5.st p44 rfl) u3 rfl (Xa rfl (Xa rfl (Kg45 _ (Ag.put ((Ag.put ((Ag.put ((Ag.put ((Ag.put (Ag.base rfl) rfl)) rfl)) rfl)) rfl)) rfl) (by rw [hb45]; rfl))))
   exact sbT hb45 (Xj rfl (Xj rfl (Xj rfl (Xj rfl (Xa rfl (Kg45 _ (Ag.put ((Ag.put ((Ag.put ((Ag.put ((Ag.put (Ag.base rfl) rfl)) rfl)) rfl)) rfl)) rfl) (by rw [hb45]; rfl)))))))
  refine Xa rfl (dn ?_)
  exact re rfl func50 rfl (r_t rfl Xe) rfl ⟨_, rfl, rfl, z.ky (Ky25.st p44 rfl)⟩
 refine sr (Xa rfl (Xa rfl (dn (cd rfl (fun h48 => ?_) (fun h48 => ?_)))))
 ·
  refine sr (Xl fa53_5 rfl (lda' (es := [(iI a0.To.Kind), (iI a0.To.N), w0_2, w0_3]) By25_b5 u28 z28 rfl ?_))
  refine cl' rfl func73 rfl (spec_ItemClean.calls a0.To s34.w (mm [0] s34) w0_2 w0_3 ((Xc (s := s34) A0_2).sub (D := [0]) rfl) (A0_3.kp Ky25)) ?_
  rintro r50 _ w50 m50 ⟨v50_0, v50_1, rfl, f50_0, ky50⟩
  obtain ⟨s51, rfl, p51, n51⟩ := nwx s34 w50 47 ky50
  obtain ⟨hu50_0_0, Au50_0_1⟩ := ap28 (f50_0.c n51)
  refine clV 48 rfl func72 rfl (spec_KeyOk.calls r50 s51.w (mm [47] s51) v50_0 v50_1 ((Xc (s := s51) hu50_0_0).sub (D := [47]) rfl) Au50_0_1.rd) (fun r53 s54 p54 n54 => ?_)
  refine Xa rfl (ji [9] (fun (y55 : Bool) e w => ∃ (s : St) (e0 : Env), w = s.w ∧ e = upd e0 63 (.bool y55) ∧ Kp s0 s) (fun Gj55 Kj55 => ?_) ?_)
  ·
   rcases bft r53 with hb55 | hb55
   ·
    refine sbT hb55 ?_
    rw [if_pos hb55]
    refine Xl fa53_3 rfl (ld' (By25_b5.st (tr2 p51 p54) rfl) u3 rfl (clV 49 rfl func42 rfl (spec_l5in.calls a0.N (0 : Int) (50 : Int) s54.w (mm [] s54)) (fun r57 s58 p58 n58 => ?_)))
    exact Xa rfl (Kj55 _ _ _ ⟨s58, _, rfl, (ue rfl rfl), (Ky25.st (tr3 p51 p54 p58) rfl)⟩)
   refine sbT hb55 ?_
   rw [if_neg (by rw [hb55]; decide)]
   refine Xj rfl (Xj rfl (Xj rfl (Xa rfl ?_)))
   exact Kj55 _ _ _ ⟨s54, _, rfl, (ue rfl rfl), (Ky25.st (tr2 p51 p54) rfl)⟩
  rintro y55 _ _ ⟨s61, _, rfl, rfl, Ky55⟩
  exact Xa rfl (dn (re rfl func50 rfl (r_t rfl Xe) rfl ⟨_, rfl, rfl, z.ky Ky55⟩))
 refine sr (Xa rfl (Xa rfl (dn (cd rfl (fun h62 => ?_) (fun h62 => ?_)))))
 ·
  refine sr (Xl fa53_5 rfl (lda' (es := [(iI a0.To.Kind), (iI a0.To.N), w0_2, w0_3]) By25_b5 u28 z28 rfl ?_))
  refine cl' rfl func73 rfl (spec_ItemClean.calls a0.To s34.w (mm [0] s34) w0_2 w0_3 ((Xc (s := s34) A0_2).sub (D := [0]) rfl) (A0_3.kp Ky25)) ?_
  rintro r64 _ w64 m64 ⟨v64_0, v64_1, rfl, f64_0, ky64⟩
  obtain ⟨s65, rfl, p65, n65⟩ := nwx s34 w64 50 ky64
  obtain ⟨hu64_0_0, Au64_0_1⟩ := ap28 (f64_0.c n65)
  refine clV 51 rfl func72 rfl (spec_KeyOk.calls r64 s65.w (mm [50] s65) v64_0 v64_1 ((Xc (s := s65) hu64_0_0).sub (D := [50]) rfl) Au64_0_1.rd) (fun r67 s68 p68 n68 => ?_)
  refine Xa rfl (dn ?_)
  exact re rfl func50 rfl (r_t rfl Xe) rfl ⟨_, rfl, rfl, z.ky (Ky25.st (tr2 p65 p68) rfl)⟩
 refine sr (Xa rfl (Xa rfl (dn (cd rfl (fun h70 => ?_) (fun h70 => ?_)))))
 ·
  refine sr (Xl fa53_3 rfl (ld' By25_b5 u3 rfl (clV 52 rfl func42 rfl (spec_l5in.calls a0.N (0 : Int) (15 : Int) s34.w (mm [] s34)) (fun r71 s72 p72 n72 => ?_))))
  refine Xa rfl (dn ?_)
  exact re rfl func50 rfl (r_t rfl Xe) rfl ⟨_, rfl, rfl, z.ky (Ky25.st p72 rfl)⟩
 refine sr (Xa rfl (Xa rfl (dn (cd rfl (fun h74 => ?_) (fun h74 => ?_)))))
 ·
  exact sr (Xl fa53_3 rfl (ld' By25_b5 u3 rfl (Xa rfl (Xa rfl (dn (re rfl func50 rfl (r_t rfl Xe) rfl ⟨_, rfl, rfl, z.ky Ky25⟩))))))
 refine sr (Xa rfl (Xa rfl (dn (cd rfl (fun h75 => ?_) (fun h75 => ?_)))))
 ·
  refine sr (Xl fa53_7 rfl (ld' By25_b5 u47 rfl ?_))
  exact ln' ((z.rd h0_6).kp Ky25) u47 rfl (Xa rfl (Xa rfl (dn (re rfl func50 rfl (r_t rfl Xe) rfl ⟨_, rfl, rfl, z.ky Ky25⟩))))
 exact sk (ib (sr (Xa rfl (dn (re rfl func50 rfl (r_t rfl Xe) rfl ⟨_, rfl, rfl, z.ky Ky25⟩)))))
def spec_l18names.f  : Option ((List ByteArray)) :=
 (some ([(⟨#[]⟩ : ByteArray), (⟨#[98, 101, 103, 105, 110]⟩ : ByteArray), (⟨#[103, 101, 116]⟩ : ByteArray), (⟨#[112, 117, 116]⟩ : ByteArray), (⟨#[100, 101, 108, 101, 116, 101]⟩ : ByteArray), (⟨#[115, 99, 97, 110]⟩ : ByteArray), (⟨#[116, 111, 116, 97, 108]⟩ : ByteArray), (⟨#[99, 111, 109, 109, 105, 116]⟩ : ByteArray), (⟨#[97, 98, 111, 114, 116]⟩ : ByteArray), (⟨#[118, 97, 99, 117, 117, 109]⟩ : ByteArray), (⟨#[99, 104, 101, 99, 107, 112, 111, 105, 110, 116]⟩ : ByteArray), (⟨#[101, 118, 105, 99, 116]⟩ : ByteArray), (⟨#[102, 117, 115, 101]⟩ : ByteArray), (⟨#[99, 114, 97, 115, 104]⟩ : ByteArray)]))
def spec_l18names.Q (w : World) (F : Nat → Prop) (r : (List ByteArray)) (v : Value) (w' : World) : Prop :=
 FO (Kd.sl 9 Kd.str) w w' [v] r ∧ Ky [] w w'
theorem spec_l18names.calls  (w : World) (F : Nat → Prop)   (r : (List ByteArray)) (m : spec_l18names.f  = some r) :
  Calls prog 51 #[] w (RT (spec_l18names.Q w F) r) := by
 obtain ⟨s0, rfl, kp0, z⟩ := Xh w F
 refine Xb (args := []) func51 ntmps51 rfl rfl m ?_
 unfold spec_l18names.f
 refine sr (Xa rfl (dn (sr (ltF' (K := Kd.str) (cells := [(.string (⟨#[]⟩ : ByteArray)), (.string (⟨#[98, 101, 103, 105, 110]⟩ : ByteArray)), (.string (⟨#[103, 101, 116]⟩ : ByteArray)), (.string (⟨#[112, 117, 116]⟩ : ByteArray)), (.string (⟨#[100, 101, 108, 101, 116, 101]⟩ : ByteArray)), (.string (⟨#[115, 99, 97, 110]⟩ : ByteArray)), (.string (⟨#[116, 111, 116, 97, 108]⟩ : ByteArray)), (.string (⟨#[99, 111, 109, 109, 105, 116]⟩ : ByteArray)), (.string (⟨#[97, 98, 111, 114, 116]⟩ : ByteArray)), (.string (⟨#[118, 97, 99, 117, 117, 109]⟩ : ByteArray)), (.string (⟨#[99, 104, 101, 99, 107, 112, 111, 105, 110, 116]⟩ : ByteArray)), (.string (⟨#[101, 118, 105, 99, 116]⟩ : ByteArray)), (.string (⟨#[102, 117, 115, 101]⟩ : ByteArray)), (.string (⟨#[99, 114, 97, 115, 104]⟩ : ByteArray))]) [(⟨#[]⟩ : ByteArray), (⟨#[98, 101, 103, 105, 110]⟩ : ByteArray), (⟨#[103, 101, 116]⟩ : ByteArray), (⟨#[112, 117, 116]⟩ : ByteArray), (⟨#[100, 101, 108, 101, 116, 101]⟩ : ByteArray), (⟨#[115, 99, 97, 110]⟩ : ByteArray), (⟨#[116, 111, 116, 97, 108]⟩ : ByteArray), (⟨#[99, 111, 109, 109, 105, 116]⟩ : ByteArray), (⟨#[97, 98, 111, 114, 116]⟩ : ByteArray), (⟨#[118, 97, 99, 117, 117, 109]⟩ : ByteArray), (⟨#[99, 104, 101, 99, 107, 112, 111, 105, 110, 116]⟩ : ByteArray), (⟨#[101, 118, 105, 99, 116]⟩ : ByteArray), (⟨#[102, 117, 115, 101]⟩ : ByteArray), (⟨#[99, 114, 97, 115, 104]⟩ : ByteArray)] 40 fl_str u80 z9 o9 (fun w => (Xg _ _ _)) rfl (lfill_c rfl rfl rfl rfl rfl) (fun v1 s1 p1 A1 => ?_)))))
 refine Xn v1 rfl (dn ?_)
 have K3 := kp0.st p1 rfl
 exact re rfl func51 rfl (r_t rfl Xe) rfl ⟨_, rfl, A1.fo K3 rfl z.l, z.ky K3⟩
def spec_OpText.b0 (a0 : Op) (x181 : (List Int) × Int) : Option (((List Int) × Int) ⊕ (List Int)) :=
 (if (decide (x181.2 < (a0.Keep.length : Int))) = true then (if 0 ≤ x181.2 ∧ x181.2 < (a0.Keep.length : Int) then ((if (at_ a0.Keep x181.2) = true then (if x181.1.length + ([(49 : Int)]).length ≤ Lim then (some (x181.1 ++ [(49 : Int)])) else none) else (if x181.1.length + ([(48 : Int)]).length ≤ Lim then (some (x181.1 ++ [(48 : Int)])) else none)).bind fun y189 => (some (Sum.inl (y189, (IntKind.wrap .i64 (x181.2 + (1 : Int))))))) else none) else ((some x181.1).bind fun o => some (Sum.inr o)))
def spec_OpText.f (a0 : Op) : Option ((List Int)) :=
 ((spec_OpOk.f a0).bind fun r12 => (if (!r12) = true then (some ([] : (List Int))) else ((spec_l18names.f).bind fun r22 => (if 0 ≤ a0.Kind ∧ a0.Kind < (r22.length : Int) then (if (at_ r22 a0.Kind).size ≤ Lim then ((if (decide (a0.Kind ≤ (8 : Int))) = true then ((spec_l18digits.f a0.Seat).bind fun r34 => ((spec_l18word.f (bts (at_ r22 a0.Kind)) r34).bind fun r37 => (some r37))) else (some (bts (at_ r22 a0.Kind)))).bind fun y32 => ((if (a0.Kind == (1 : Int)) = true then ((spec_l18digits.f a0.Level).bind fun r52 => ((spec_l18word.f y32 r52).bind fun r55 => (some r55))) else ((if (a0.Kind == (2 : Int)) = true then (some (a0.Kind == (2 : Int))) else (some (a0.Kind == (4 : Int)))).bind fun y61 => ((if y61 = true then ((spec_ItemText.f a0.Key).bind fun r68 => ((spec_l18word.f y32 r68).bind fun r71 => (some r71))) else ((if (a0.Kind == (3 : Int)) = true then ((spec_ItemText.f a0.Key).bind fun r80 => ((spec_l18word.f y32 r80).bind fun r83 => ((spec_ItemText.f a0.Value).bind fun r90 => ((spec_l18word.f r83 r90).bind fun r93 => (some r93))))) else ((if (a0.Kind == (5 : Int)) = true then ((spec_ItemText.f a0.Key).bind fun r102 => ((spec_l18word.f y32 r102).bind fun r105 => ((spec_ItemText.f a0.To).bind fun r112 => ((spec_l18word.f r105 r112).bind fun r115 => ((spec_l18digits.f a0.N).bind fun r120 => ((spec_l18word.f r115 r120).bind fun r123 => (some r123))))))) else ((if (a0.Kind == (6 : Int)) = true then ((spec_ItemText.f a0.Key).bind fun r132 => ((spec_l18word.f y32 r132).bind fun r135 => ((spec_ItemText.f a0.To).bind fun r142 => ((spec_l18word.f r135 r142).bind fun r145 => (some r145))))) else ((if (a0.Kind == (11 : Int)) = true then (some (a0.Kind == (11 : Int))) else (some (a0.Kind == (12 : Int)))).bind fun y151 => ((if y151 = true then ((spec_l18digits.f a0.N).bind fun r157 => ((spec_l18word.f y32 r157).bind fun r160 => (some r160))) else ((if (a0.Kind == (13 : Int)) = true then ((if (decide ((a0.Keep.length : Int) > (0 : Int))) = true then (if y32.length + ([(32 : Int)]).length ≤ Lim then (some (y32 ++ [(32 : Int)])) else none) else (some y32)).bind fun y169 => (iter (spec_OpText.b0 a0) (y169, (0 : Int)))) else (some y32)).bind fun y166 => (some y166))).bind fun y155 => (some y155)))).bind fun y129 => (some y129))).bind fun y99 => (some y99))).bind fun y77 => (some y77))).bind fun y65 => (some y65)))).bind fun y50 => (some y50))) else none) else none))))
def spec_OpText.Q (w : World) (F : Nat → Prop) (r : (List Int)) (v : Value) (w' : World) : Prop :=
 FO Xp w w' [v] r ∧ Ky [] w w'
theorem spec_OpText.calls (a0 : Op) (w : World) (F : Nat → Prop) (w0_0 : Value) (w0_1 : Value) (w0_2 : Value) (w0_3 : Value) (w0_4 : Value) (w0_5 : Value) (w0_6 : Value) (h0_0 : Kd.flt.rd w [w0_0] a0.Key.F F) (h0_1 : Xp.rd w [w0_1] a0.Key.T F) (h0_2 : Kd.flt.rd w [w0_2] a0.To.F F) (h0_3 : Xp.rd w [w0_3] a0.To.T F) (h0_4 : Kd.flt.rd w [w0_4] a0.Value.F F) (h0_5 : Xp.rd w [w0_5] a0.Value.T F) (h0_6 : (Kd.sl 4 Kd.bool).rd w [w0_6] a0.Keep F) (r : (List Int)) (m : spec_OpText.f a0 = some r) :
  Calls prog 23 #[(.agg #[(iI a0.Kind), (iI a0.Seat), (iI a0.Level), (iI a0.N), (iI a0.Key.Kind), (iI a0.Key.N), w0_0, w0_1, (iI a0.To.Kind), (iI a0.To.N), w0_2, w0_3, (iI a0.Value.Kind), (iI a0.Value.N), w0_4, w0_5, w0_6])] w (RT (spec_OpText.Q w F) r) := by
 obtain ⟨s0, rfl, kp0, z⟩ := Xh w F
 have A0_0 := Xm h0_0
 have A0_1 := z.rd h0_1
 have A0_2 := Xm h0_2
 have A0_3 := z.rd h0_3
 have A0_4 := Xm h0_4
 have A0_5 := z.rd h0_5
 have A0_6 := z.rd h0_6
 refine Xb (args := [(.agg #[(iI a0.Kind), (iI a0.Seat), (iI a0.Level), (iI a0.N), (iI a0.Key.Kind), (iI a0.Key.N), w0_0, w0_1, (iI a0.To.Kind), (iI a0.To.N), w0_2, w0_3, (iI a0.Value.Kind), (iI a0.Value.N), w0_4, w0_5, w0_6])]) func23 ntmps23 rfl rfl m ?_
 unfold spec_OpText.f
 refine sr (bx' (cs := [(iI a0.Kind), (iI a0.Seat), (iI a0.Level), (iI a0.N), (iI a0.Key.Kind), (iI a0.Key.N), w0_0, w0_1, (iI a0.To.Kind), (iI a0.To.N), w0_2, w0_3, (iI a0.Value.Kind), (iI a0.Value.N), w0_4, w0_5, w0_6]) 40 rfl (fun b5 s5 p5 B5 => ?_))
 refine Xa rfl (dn (sq (sr (lda' (es := [(iI a0.Kind), (iI a0.Seat), (iI a0.Level), (iI a0.N), (iI a0.Key.Kind), (iI a0.Key.N), w0_0, w0_1, (iI a0.To.Kind), (iI a0.To.N), w0_2, w0_3, (iI a0.Value.Kind), (iI a0.Value.N), w0_4, w0_5, w0_6]) B5 u53 z53 rfl ?_))))
 have K7 := kp0.st p5 rfl
 refine clV 41 rfl func50 rfl (spec_OpOk.calls a0 s5.w (mm [0] s5) w0_0 w0_1 w0_2 w0_3 w0_4 w0_5 w0_6 ((Xc (s := s5) A0_0).sub (D := [0]) rfl) (A0_1.kp K7) ((Xc (s := s5) A0_2).sub (D := [0]) rfl) (A0_3.kp K7) ((Xc (s := s5) A0_4).sub (D := [0]) rfl) (A0_5.kp K7) (A0_6.kp K7)) (fun r12 s13 p13 n13 => ?_)
 refine Xa rfl (dn (cd rfl (fun h14 => ?_) (fun h14 => ?_)))
 ·
  refine sr (Xa rfl (dn ?_))
  have K15 := K7.st p13 rfl
  exact re rfl func23 rfl (r_t rfl Xe) rfl ⟨_, rfl, (ow_nil 5 (Kd.int .u8) s13 40).fo K15 rfl z.l, z.ky K15⟩
 refine sk (sq (zdraw [[], [], [1], [0, 2], [3], [4], [5, 0, 0, 1, 2, 3, 4, 5]] [some 8, some 9, some 10, some 11, some 12, some 13, some 3] [[], [1], [9], [8, 10], [11], [12], [13]] [0, 1, 2, 3, 4, 5, 6] ⟨by kernel_rfl, by kernel_rfl, by kernel_rfl⟩ (by kernel_rfl) (fun s16 p16 l16 tb16 zd16 => ?_)))
 refine zstep 0 [some 10, some 9] tb16 ((zd16.add 1 9 (pB b5) rfl).add 2 10 (iI a0.Kind) rfl) (Xf (ld_q (B5.st (tr2 p13 p16) rfl) u3 rfl rfl rfl rfl rfl rfl rfl rfl) rfl (Xf (fa_q fa53_0 rfl rfl rfl rfl rfl rfl) rfl pq_nil)) (by kernel_rfl) rfl (fun l20 e20 zd20 => ?_)
 refine clO 42 rfl func51 rfl (spec_l18names.calls  s16.w (mm [] s16)) (fun r22 v22_0 s23 p23 A22_0 => ?_)
 refine zdone (L' := [2, 1]) (D' := [0]) zd20 rfl rfl rfl (fun zd25 => ?_)
 refine zfin [3, 4, 5, 6] tb16 zd25 (Xf (ld_q (B5.st (tr3 p13 p16 p23) rfl) u3 rfl rfl rfl rfl rfl rfl rfl rfl) rfl (Xf (fa_q fa53_0 rfl rfl rfl rfl rfl rfl) rfl pq_nil)) (by kernel_rfl) (by decide) (ix' A22_0.rd u80 z9 rfl (fun ad27 es27 h0_27 h1_27 he27 ce27 ia27 => ?_))
 obtain rfl := he27
 refine lc0 ce27 u9 rfl rfl rfl rfl rfl rfl rfl rfl (s2b 43 u9 u23 u5 rfl rfl rfl rfl rfl rfl (fun v29 s29 p29 A29 => ?_))
 refine Xn v29 rfl (dn (sq (sr (Xl fa53_0 rfl ?_))))
 have A31 := B5.st (tr4 p13 p16 p23 p29) rfl
 refine ld' A31 u3 rfl (Xa rfl (dn (jc (fun (y32 : (List Int)) e w => ∃ (s : St) (e0 : Env) (vy32_0 : Value), w = s.w ∧ e = upd (upd e0 1 (pB b5)) 3 vy32_0 ∧ Kp s0 s ∧ OwF Xp s [vy32_0] y32 44 ∧ BlF s b5 53 [(iI a0.Kind), (iI a0.Seat), (iI a0.Level), (iI a0.N), (iI a0.Key.Kind), (iI a0.Key.N), w0_0, w0_1, (iI a0.To.Kind), (iI a0.To.N), w0_2, w0_3, (iI a0.Value.Kind), (iI a0.Value.N), w0_4, w0_5, w0_6] 40) (fun Gj32 Kj32 => ?_) ?_)))
 ·
  refine cd rfl (fun h33 => ?_) (fun h33 => ?_)
  ·
   refine rg (Xo v29 rfl (Xl fa53_1 rfl (ld' A31 u3 rfl (clO 45 rfl func34 rfl (spec_l18digits.calls a0.Seat s29.w (mm [] s29)) (fun r34 v34_0 s35 p35 A34_0 => ?_)))))
   obtain ⟨os37, ho37, hn37, hc37⟩ := A29.st p35 rfl
   refine cl' rfl func43 rfl (spec_l18word.calls (bts (at_ r22 a0.Kind)) r34 s35.w (mm [45] s35) v29 v34_0 A34_0.rd os37 ho37 hn37 (apart_of hc37 rfl)) ?_
   rintro r37 v37_0 w37 m37 ⟨f37_0, ky37⟩
   obtain ⟨s39, rfl, p39, n39⟩ := nwm 46 hc37 ky37 rfl
   refine Xn v37_0 rfl (dn ?_)
   obtain ⟨s41, hw41, p41, A41⟩ := (f37_0.m n39).rc 44 rfl
   rw [hw41]
   exact Kj32 _ _ _ ⟨s41, _, v37_0, rfl, (ue (ue rfl rfl) rfl), (K7.st (tr7 p13 p16 p23 p29 p35 p39 p41) rfl), A41, (A31.st (tr3 p35 p39 p41) rfl)⟩
  refine sk ?_
  obtain ⟨s44, hw44, p44, A44⟩ := A29.rc 44 rfl
  rw [hw44]
  exact Kj32 _ _ _ ⟨s44, _, v29, rfl, (ue (ue rfl rfl) rfl), (K7.st (tr5 p13 p16 p23 p29 p44) rfl), A44, (A31.st p44 rfl)⟩
 rintro y32 _ _ ⟨s47, _, vy32_0, rfl, rfl, Ky32, Ay32_0, By32_b5⟩
 refine sq (sr (Xl fa53_0 rfl (ld' By32_b5 u3 rfl (dn (bl (sr (Xa rfl (Xa rfl (dn (jc (fun (y50 : (List Int)) e w => ∃ (s : St) (e0 : Env) (vy50_0 : Value), w = s.w ∧ e = upd e0 3 vy50_0 ∧ Kp s0 s ∧ OwF Xp s [vy50_0] y50 47) (fun Gj50 Kj50 => ?_) ?_))))))))))
 ·
  refine cd rfl (fun h51 => ?_) (fun h51 => ?_)
  ·
   refine rg (Xo vy32_0 rfl (Xl fa53_2 rfl (ld' By32_b5 u3 rfl (clO 48 rfl func34 rfl (spec_l18digits.calls a0.Level s47.w (mm [] s47)) (fun r52 v52_0 s53 p53 A52_0 => ?_)))))
   obtain ⟨os55, ho55, hn55, hc55⟩ := Ay32_0.st p53 rfl
   refine cl' rfl func43 rfl (spec_l18word.calls y32 r52 s53.w (mm [48] s53) vy32_0 v52_0 A52_0.rd os55 ho55 hn55 (apart_of hc55 rfl)) ?_
   rintro r55 v55_0 w55 m55 ⟨f55_0, ky55⟩
   obtain ⟨s57, rfl, p57, n57⟩ := nwm 49 hc55 ky55 rfl
   refine Xn v55_0 rfl (dn ?_)
   obtain ⟨s59, hw59, p59, A59⟩ := (f55_0.m n57).rc 47 rfl
   rw [hw59]
   exact Kj50 _ _ _ ⟨s59, _, v55_0, rfl, (ue rfl rfl), (Ky32.st (tr3 p53 p57 p59) rfl), A59⟩
  refine sq (sr (Xa rfl (Xa rfl (dn (jc (fun (y61 : Bool) e w => ∃ (s : St) (e0 : Env), w = s.w ∧ e = upd (upd (upd (upd e0 1 (pB b5)) 3 vy32_0) 23 (iI a0.Kind)) 31 (.bool y61) ∧ Kp s0 s ∧ BlF s b5 53 [(iI a0.Kind), (iI a0.Seat), (iI a0.Level), (iI a0.N), (iI a0.Key.Kind), (iI a0.Key.N), w0_0, w0_1, (iI a0.To.Kind), (iI a0.To.N), w0_2, w0_3, (iI a0.Value.Kind), (iI a0.Value.N), w0_4, w0_5, w0_6] 40 ∧ OwF Xp s [vy32_0] y32 44) (fun Gj61 Kj61 => ?_) ?_)))))
  ·
   refine cd rfl (fun h62 => ?_) (fun h62 => ?_)
   ·
    exact sk (Kj61 _ _ _ ⟨s47, _, rfl, (ue (ue (ue (ue rfl rfl) rfl) rfl) rfl), Ky32, By32_b5, Ay32_0⟩)
   exact rg (Xa rfl (Xa rfl (dn (Kj61 _ _ _ ⟨s47, _, rfl, (ue (ue (ue (ue rfl rfl) rfl) rfl) rfl), Ky32, By32_b5, Ay32_0⟩))))
  rintro y61 _ _ ⟨s63, _, rfl, rfl, Ky61, By61_b5, Cy61_48⟩
  refine jc (fun (y65 : (List Int)) e w => ∃ (s : St) (e0 : Env) (vy65_0 : Value), w = s.w ∧ e = upd e0 3 vy65_0 ∧ Kp s0 s ∧ OwF Xp s [vy65_0] y65 50) (fun Gj65 Kj65 => ?_) ?_
  ·
   refine cd rfl (fun h66 => ?_) (fun h66 => ?_)
   ·
    refine rg (Xo vy32_0 rfl (Xl fa53_4 rfl (lda' (es := [(iI a0.Key.Kind), (iI a0.Key.N), w0_0, w0_1]) By61_b5 u28 z28 rfl ?_)))
    refine clO 51 rfl func8 rfl (spec_ItemText.calls a0.Key s63.w (mm [0] s63) w0_0 w0_1 ((Xc (s := s63) A0_0).sub (D := [0]) rfl) (A0_1.kp Ky61)) (fun r68 v68_0 s69 p69 A68_0 => ?_)
    obtain ⟨os71, ho71, hn71, hc71⟩ := Cy61_48.st p69 rfl
    refine cl' rfl func43 rfl (spec_l18word.calls y32 r68 s69.w (mm [51] s69) vy32_0 v68_0 A68_0.rd os71 ho71 hn71 (apart_of hc71 rfl)) ?_
    rintro r71 v71_0 w71 m71 ⟨f71_0, ky71⟩
    obtain ⟨s73, rfl, p73, n73⟩ := nwm 52 hc71 ky71 rfl
    refine Xn v71_0 rfl (dn ?_)
    obtain ⟨s75, hw75, p75, A75⟩ := (f71_0.m n73).rc 50 rfl
    rw [hw75]
    exact Kj65 _ _ _ ⟨s75, _, v71_0, rfl, (ue rfl rfl), (Ky61.st (tr3 p69 p73 p75) rfl), A75⟩
   refine sr (Xa rfl (Xa rfl (dn (jc (fun (y77 : (List Int)) e w => ∃ (s : St) (e0 : Env) (vy77_0 : Value), w = s.w ∧ e = upd e0 3 vy77_0 ∧ Kp s0 s ∧ OwF Xp s [vy77_0] y77 53) (fun Gj77 Kj77 => ?_) ?_))))
   ·
    refine cd rfl (fun h78 => ?_) (fun h78 => ?_)
    ·
     refine sr (Xo vy32_0 rfl (Xl fa53_4 rfl (lda' (es := [(iI a0.Key.Kind), (iI a0.Key.N), w0_0, w0_1]) By61_b5 u28 z28 rfl ?_)))
     refine clO 54 rfl func8 rfl (spec_ItemText.calls a0.Key s63.w (mm [0] s63) w0_0 w0_1 ((Xc (s := s63) A0_0).sub (D := [0]) rfl) (A0_1.kp Ky61)) (fun r80 v80_0 s81 p81 A80_0 => ?_)
     obtain ⟨os83, ho83, hn83, hc83⟩ := Cy61_48.st p81 rfl
     refine cl' rfl func43 rfl (spec_l18word.calls y32 r80 s81.w (mm [54] s81) vy32_0 v80_0 A80_0.rd os83 ho83 hn83 (apart_of hc83 rfl)) ?_
     rintro r83 v83_0 w83 m83 ⟨f83_0, ky83⟩
     obtain ⟨s85, rfl, p85, n85⟩ := nwm 55 hc83 ky83 rfl
     refine Xn v83_0 rfl (dn (rg (Xo v83_0 rfl (Xl fa53_6 rfl ?_))))
     refine lda' (es := [(iI a0.Value.Kind), (iI a0.Value.N), w0_4, w0_5]) (By61_b5.st (tr2 p81 p85) rfl) u28 z28 rfl ?_
     have K88 := Ky61.st (tr2 p81 p85) rfl
     refine clO 56 rfl func8 rfl (spec_ItemText.calls a0.Value s85.w (mm [0] s85) w0_4 w0_5 ((Xc (s := s85) A0_4).sub (D := [0]) rfl) (A0_5.kp K88)) (fun r90 v90_0 s91 p91 A90_0 => ?_)
     obtain ⟨os93, ho93, hn93, hc93⟩ := (f83_0.m n85).st p91 rfl
     refine cl' rfl func43 rfl (spec_l18word.calls r83 r90 s91.w (mm [56] s91) v83_0 v90_0 A90_0.rd os93 ho93 hn93 (apart_of hc93 rfl)) ?_
     rintro r93 v93_0 w93 m93 ⟨f93_0, ky93⟩
     obtain ⟨s95, rfl, p95, n95⟩ := nwm 57 hc93 ky93 rfl
     refine Xn v93_0 rfl (dn ?_)
     obtain ⟨s97, hw97, p97, A97⟩ := (f93_0.m n95).rc 53 rfl
     rw [hw97]
     exact Kj77 _ _ _ ⟨s97, _, v93_0, rfl, (ue rfl rfl), (K88.st (tr3 p91 p95 p97) rfl), A97⟩
    refine sr (Xa rfl (Xa rfl (dn (jc (fun (y99 : (List Int)) e w => ∃ (s : St) (e0 : Env) (vy99_0 : Value), w = s.w ∧ e = upd e0 3 vy99_0 ∧ Kp s0 s ∧ OwF Xp s [vy99_0] y99 58) (fun Gj99 Kj99 => ?_) ?_))))
    ·
     refine cd rfl (fun h100 => ?_) (fun h100 => ?_)
     ·
      refine sr (Xo vy32_0 rfl (Xl fa53_4 rfl (lda' (es := [(iI a0.Key.Kind), (iI a0.Key.N), w0_0, w0_1]) By61_b5 u28 z28 rfl ?_)))
      refine clO 59 rfl func8 rfl (spec_ItemText.calls a0.Key s63.w (mm [0] s63) w0_0 w0_1 ((Xc (s := s63) A0_0).sub (D := [0]) rfl) (A0_1.kp Ky61)) (fun r102 v102_0 s103 p103 A102_0 => ?_)
      obtain ⟨os105, ho105, hn105, hc105⟩ := Cy61_48.st p103 rfl
      refine cl' rfl func43 rfl (spec_l18word.calls y32 r102 s103.w (mm [59] s103) vy32_0 v102_0 A102_0.rd os105 ho105 hn105 (apart_of hc105 rfl)) ?_
      rintro r105 v105_0 w105 m105 ⟨f105_0, ky105⟩
      obtain ⟨s107, rfl, p107, n107⟩ := nwm 60 hc105 ky105 rfl
      refine Xn v105_0 rfl (dn (sr (Xo v105_0 rfl (Xl fa53_5 rfl ?_))))
      have A109 := By61_b5.st (tr2 p103 p107) rfl
      refine lda' (es := [(iI a0.To.Kind), (iI a0.To.N), w0_2, w0_3]) A109 u28 z28 rfl ?_
      have K110 := Ky61.st (tr2 p103 p107) rfl
      refine clO 61 rfl func8 rfl (spec_ItemText.calls a0.To s107.w (mm [0] s107) w0_2 w0_3 ((Xc (s := s107) A0_2).sub (D := [0]) rfl) (A0_3.kp K110)) (fun r112 v112_0 s113 p113 A112_0 => ?_)
      obtain ⟨os115, ho115, hn115, hc115⟩ := (f105_0.m n107).st p113 rfl
      refine cl' rfl func43 rfl (spec_l18word.calls r105 r112 s113.w (mm [61] s113) v105_0 v112_0 A112_0.rd os115 ho115 hn115 (apart_of hc115 rfl)) ?_
      rintro r115 v115_0 w115 m115 ⟨f115_0, ky115⟩
      obtain ⟨s117, rfl, p117, n117⟩ := nwm 62 hc115 ky115 rfl
      refine Xn v115_0 rfl (dn (rg (Xo v115_0 rfl (Xl fa53_3 rfl ?_))))
      refine ld' (A109.st (tr2 p113 p117) rfl) u3 rfl (clO 63 rfl func34 rfl (spec_l18digits.calls a0.N s117.w (mm [] s117)) (fun r120 v120_0 s121 p121 A120_0 => ?_))
      obtain ⟨os123, ho123, hn123, hc123⟩ := (f115_0.m n117).st p121 rfl
      refine cl' rfl func43 rfl (spec_l18word.calls r115 r120 s121.w (mm [63] s121) v115_0 v120_0 A120_0.rd os123 ho123 hn123 (apart_of hc123 rfl)) ?_
      rintro r123 v123_0 w123 m123 ⟨f123_0, ky123⟩
      obtain ⟨s125, rfl, p125, n125⟩ := nwm 64 hc123 ky123 rfl
      refine Xn v123_0 rfl (dn ?_)
      obtain ⟨s127, hw127, p127, A127⟩ := (f123_0.m n125).rc 58 rfl
      rw [hw127]
      exact Kj99 _ _ _ ⟨s127, _, v123_0, rfl, (ue rfl rfl), (K110.st (tr5 p113 p117 p121 p125 p127) rfl), A127⟩
     refine sr (Xa rfl (Xa rfl (dn (jc (fun (y129 : (List Int)) e w => ∃ (s : St) (e0 : Env) (vy129_0 : Value), w = s.w ∧ e = upd e0 3 vy129_0 ∧ Kp s0 s ∧ OwF Xp s [vy129_0] y129 65) (fun Gj129 Kj129 => ?_) ?_))))
     ·
      refine cd rfl (fun h130 => ?_) (fun h130 => ?_)
      ·
       refine sr (Xo vy32_0 rfl (Xl fa53_4 rfl (lda' (es := [(iI a0.Key.Kind), (iI a0.Key.N), w0_0, w0_1]) By61_b5 u28 z28 rfl ?_)))
       refine clO 66 rfl func8 rfl (spec_ItemText.calls a0.Key s63.w (mm [0] s63) w0_0 w0_1 ((Xc (s := s63) A0_0).sub (D := [0]) rfl) (A0_1.kp Ky61)) (fun r132 v132_0 s133 p133 A132_0 => ?_)
       obtain ⟨os135, ho135, hn135, hc135⟩ := Cy61_48.st p133 rfl
       refine cl' rfl func43 rfl (spec_l18word.calls y32 r132 s133.w (mm [66] s133) vy32_0 v132_0 A132_0.rd os135 ho135 hn135 (apart_of hc135 rfl)) ?_
       rintro r135 v135_0 w135 m135 ⟨f135_0, ky135⟩
       obtain ⟨s137, rfl, p137, n137⟩ := nwm 67 hc135 ky135 rfl
       refine Xn v135_0 rfl (dn (rg (Xo v135_0 rfl (Xl fa53_5 rfl ?_))))
       refine lda' (es := [(iI a0.To.Kind), (iI a0.To.N), w0_2, w0_3]) (By61_b5.st (tr2 p133 p137) rfl) u28 z28 rfl ?_
       have K140 := Ky61.st (tr2 p133 p137) rfl
       refine clO 68 rfl func8 rfl (spec_ItemText.calls a0.To s137.w (mm [0] s137) w0_2 w0_3 ((Xc (s := s137) A0_2).sub (D := [0]) rfl) (A0_3.kp K140)) (fun r142 v142_0 s143 p143 A142_0 => ?_)
       obtain ⟨os145, ho145, hn145, hc145⟩ := (f135_0.m n137).st p143 rfl
       refine cl' rfl func43 rfl (spec_l18word.calls r135 r142 s143.w (mm [68] s143) v135_0 v142_0 A142_0.rd os145 ho145 hn145 (apart_of hc145 rfl)) ?_
       rintro r145 v145_0 w145 m145 ⟨f145_0, ky145⟩
       obtain ⟨s147, rfl, p147, n147⟩ := nwm 69 hc145 ky145 rfl
       refine Xn v145_0 rfl (dn ?_)
       obtain ⟨s149, hw149, p149, A149⟩ := (f145_0.m n147).rc 65 rfl
       rw [hw149]
       exact Kj129 _ _ _ ⟨s149, _, v145_0, rfl, (ue rfl rfl), (K140.st (tr3 p143 p147 p149) rfl), A149⟩
      refine sq (sr (Xa rfl (Xa rfl (dn (jc (fun (y151 : Bool) e w => ∃ (s : St) (e0 : Env), w = s.w ∧ e = upd (upd (upd (upd e0 1 (pB b5)) 3 vy32_0) 23 (iI a0.Kind)) 80 (.bool y151) ∧ Kp s0 s ∧ BlF s b5 53 [(iI a0.Kind), (iI a0.Seat), (iI a0.Level), (iI a0.N), (iI a0.Key.Kind), (iI a0.Key.N), w0_0, w0_1, (iI a0.To.Kind), (iI a0.To.N), w0_2, w0_3, (iI a0.Value.Kind), (iI a0.Value.N), w0_4, w0_5, w0_6] 40 ∧ OwF Xp s [vy32_0] y32 44) (fun Gj151 Kj151 => ?_) ?_)))))
      ·
       refine cd rfl (fun h152 => ?_) (fun h152 => ?_)
       ·
        exact sk (Kj151 _ _ _ ⟨s63, _, rfl, (ue (ue (ue (ue rfl rfl) rfl) rfl) rfl), Ky61, By61_b5, Cy61_48⟩)
       exact rg (Xa rfl (Xa rfl (dn (Kj151 _ _ _ ⟨s63, _, rfl, (ue (ue (ue (ue rfl rfl) rfl) rfl) rfl), Ky61, By61_b5, Cy61_48⟩))))
      rintro y151 _ _ ⟨s153, _, rfl, rfl, Ky151, By151_b5, Cy151_48⟩
      refine jc (fun (y155 : (List Int)) e w => ∃ (s : St) (e0 : Env) (vy155_0 : Value), w = s.w ∧ e = upd e0 3 vy155_0 ∧ Kp s0 s ∧ OwF Xp s [vy155_0] y155 70) (fun Gj155 Kj155 => ?_) ?_
      ·
       refine cd rfl (fun h156 => ?_) (fun h156 => ?_)
       ·
        refine rg (Xo vy32_0 rfl (Xl fa53_3 rfl (ld' By151_b5 u3 rfl (clO 71 rfl func34 rfl (spec_l18digits.calls a0.N s153.w (mm [] s153)) (fun r157 v157_0 s158 p158 A157_0 => ?_)))))
        obtain ⟨os160, ho160, hn160, hc160⟩ := Cy151_48.st p158 rfl
        refine cl' rfl func43 rfl (spec_l18word.calls y32 r157 s158.w (mm [71] s158) vy32_0 v157_0 A157_0.rd os160 ho160 hn160 (apart_of hc160 rfl)) ?_
        rintro r160 v160_0 w160 m160 ⟨f160_0, ky160⟩
        obtain ⟨s162, rfl, p162, n162⟩ := nwm 72 hc160 ky160 rfl
        refine Xn v160_0 rfl (dn ?_)
        obtain ⟨s164, hw164, p164, A164⟩ := (f160_0.m n162).rc 70 rfl
        rw [hw164]
        exact Kj155 _ _ _ ⟨s164, _, v160_0, rfl, (ue rfl rfl), (Ky151.st (tr3 p158 p162 p164) rfl), A164⟩
       refine sr (Xa rfl (Xa rfl (dn (jc (fun (y166 : (List Int)) e w => ∃ (s : St) (e0 : Env) (vy166_0 : Value), w = s.w ∧ e = upd e0 3 vy166_0 ∧ Kp s0 s ∧ OwF Xp s [vy166_0] y166 44) (fun Gj166 Kj166 => ?_) ?_))))
       ·
        refine cd rfl (fun h167 => ?_) (fun h167 => ?_)
        ·
         refine sq (sr (Xl fa53_7 rfl (ld' By151_b5 u47 rfl ?_)))
         refine ln' (A0_6.kp Ky151) u47 rfl (Xa rfl (dn (jc (fun (y169 : (List Int)) e w => ∃ (s : St) (e0 : Env) (vy169_0 : Value), w = s.w ∧ e = upd (upd e0 1 (pB b5)) 3 vy169_0 ∧ Kp s0 s ∧ OwF Xp s [vy169_0] y169 44 ∧ BlF s b5 53 [(iI a0.Kind), (iI a0.Seat), (iI a0.Level), (iI a0.N), (iI a0.Key.Kind), (iI a0.Key.N), w0_0, w0_1, (iI a0.To.Kind), (iI a0.To.N), w0_2, w0_3, (iI a0.Value.Kind), (iI a0.Value.N), w0_4, w0_5, w0_6] 40) (fun Gj169 Kj169 => ?_) ?_)))
         ·
          refine cd rfl (fun h170 => ?_) (fun h170 => ?_)
          ·
           refine rg (Xo vy32_0 rfl (ltF' (K := (Kd.int .u8)) (cells := [(.int .u8 (32 : Int))]) [(32 : Int)] 73 Xi u23 z5 o5 (fun w => (Xg _ _ _)) rfl rfl (fun v171 s171 p171 A171 => ?_)))
           refine apF' Xi sl23 (Cy151_48.st p171 rfl) A171.rd rfl (fun v174 s174 p174 A174 => ?_)
           refine Xn v174 rfl (dn ?_)
           exact Kj169 _ _ _ ⟨s174, _, v174, rfl, (ue (ue rfl rfl) rfl), (Ky151.st (tr2 p171 p174) rfl), A174, (By151_b5.st (tr2 p171 p174) rfl)⟩
          exact sk (Kj169 _ _ _ ⟨s153, _, vy32_0, rfl, (ue (ue rfl rfl) rfl), Ky151, Cy151_48, By151_b5⟩)
         rintro y169 _ _ ⟨s178, _, vy169_0, rfl, rfl, Ky169, Ay169_0, By169_b5⟩
         refine sr (Xa rfl (dn (bl (lpI (fun (x181 : (List Int) × Int) e w => ∃ (s : St) (e0 : Env) (vx181_0 : Value), w = s.w ∧ e = upd (upd (upd e0 1 (pB b5)) 3 vx181_0) 4 (iI x181.2) ∧ Kp s0 s ∧ OwF Xp s [vx181_0] x181.1 44 ∧ BlF s b5 53 [(iI a0.Kind), (iI a0.Seat), (iI a0.Level), (iI a0.N), (iI a0.Key.Kind), (iI a0.Key.N), w0_0, w0_1, (iI a0.To.Kind), (iI a0.To.N), w0_2, w0_3, (iI a0.Value.Kind), (iI a0.Value.N), w0_4, w0_5, w0_6] 40) ⟨s178, _, vy169_0, rfl, (ue (ue (ue rfl rfl) rfl) rfl), Ky169, Ay169_0, By169_b5⟩ (fun g181 ih181 => ?_)))))
         rintro x181 _ _ ⟨s182, _, vx181_0, rfl, rfl, Kx181, Ax181_0, Bx181_b5⟩
         unfold spec_OpText.b0
         refine sq (sr (Xa rfl (Xl fa53_7 rfl (ld' Bx181_b5 u47 rfl ?_))))
         have A185 := A0_6.kp Kx181
         refine ln' A185 u47 rfl (Xa rfl (dn (cd rfl (fun h186 => ?_) (fun h186 => ?_))))
         ·
          refine sk (sq (bl (sr (Xl fa53_7 rfl (ld' Bx181_b5 u47 rfl (Xa rfl (ix' A185 u47 z4 rfl (fun ad187 es187 h0_187 h1_187 he187 ce187 ia187 => ?_))))))))
          obtain rfl := he187
          refine lc0 ce187 u4 rfl rfl rfl rfl rfl rfl rfl rfl (dn (jc (fun (y189 : (List Int)) e w => ∃ (s : St) (e0 : Env) (vy189_0 : Value), w = s.w ∧ e = upd (upd (upd e0 1 (pB b5)) 3 vy189_0) 4 (iI x181.2) ∧ Kp s0 s ∧ OwF Xp s [vy189_0] y189 44 ∧ BlF s b5 53 [(iI a0.Kind), (iI a0.Seat), (iI a0.Level), (iI a0.N), (iI a0.Key.Kind), (iI a0.Key.N), w0_0, w0_1, (iI a0.To.Kind), (iI a0.To.N), w0_2, w0_3, (iI a0.Value.Kind), (iI a0.Value.N), w0_4, w0_5, w0_6] 40) (fun Gj189 Kj189 => ?_) ?_))
          ·
           refine cd rfl (fun h190 => ?_) (fun h190 => ?_)
           ·
            refine rg (Xo vx181_0 rfl (ltF' (K := (Kd.int .u8)) (cells := [(.int .u8 (49 : Int))]) [(49 : Int)] 74 Xi u23 z5 o5 (fun w => (Xg _ _ _)) rfl rfl (fun v191 s191 p191 A191 => ?_)))
            refine apF' Xi sl23 (Ax181_0.st p191 rfl) A191.rd rfl (fun v194 s194 p194 A194 => ?_)
            refine Xn v194 rfl (dn ?_)
            exact Kj189 _ _ _ ⟨s194, _, v194, rfl, (ue (ue (ue rfl rfl) rfl) rfl), (Kx181.st (tr2 p191 p194) rfl), A194, (Bx181_b5.st (tr2 p191 p194) rfl)⟩
           refine rg (Xo vx181_0 rfl (ltF' (K := (Kd.int .u8)) (cells := [(.int .u8 (48 : Int))]) [(48 : Int)] 75 Xi u23 z5 o5 (fun w => (Xg _ _ _)) rfl rfl (fun v198 s198 p198 A198 => ?_)))
           refine apF' Xi sl23 (Ax181_0.st p198 rfl) A198.rd rfl (fun v201 s201 p201 A201 => ?_)
           refine Xn v201 rfl (dn ?_)
           exact Kj189 _ _ _ ⟨s201, _, v201, rfl, (ue (ue (ue rfl rfl) rfl) rfl), (Kx181.st (tr2 p198 p201) rfl), A201, (Bx181_b5.st (tr2 p198 p201) rfl)⟩
          rintro y189 _ _ ⟨s205, _, vy189_0, rfl, rfl, Ky189, Ay189_0, By189_b5⟩
          exact ib (rg (Xa rfl (Xa rfl (Xa rfl (dn (lb ih181 ⟨s205, _, vy189_0, rfl, (ue (ue (ue rfl rfl) rfl) rfl), Ky189, Ay189_0, By189_b5⟩))))))
         exact xt rfl (sgb (Kj166 _ _ _ ⟨s182, _, vx181_0, rfl, (ue rfl rfl), Kx181, Ax181_0⟩))
        exact sk (Kj166 _ _ _ ⟨s153, _, vy32_0, rfl, (ue rfl rfl), Ky151, Cy151_48⟩)
       rintro y166 _ _ ⟨s208, _, vy166_0, rfl, rfl, Ky166, Ay166_0⟩
       obtain ⟨s210, hw210, p210, A210⟩ := Ay166_0.rc 70 rfl
       rw [hw210]
       exact Kj155 _ _ _ ⟨s210, _, vy166_0, rfl, (ue rfl rfl), (Ky166.st p210 rfl), A210⟩
      rintro y155 _ _ ⟨s212, _, vy155_0, rfl, rfl, Ky155, Ay155_0⟩
      obtain ⟨s214, hw214, p214, A214⟩ := Ay155_0.rc 65 rfl
      rw [hw214]
      exact Kj129 _ _ _ ⟨s214, _, vy155_0, rfl, (ue rfl rfl), (Ky155.st p214 rfl), A214⟩
     rintro y129 _ _ ⟨s216, _, vy129_0, rfl, rfl, Ky129, Ay129_0⟩
     obtain ⟨s218, hw218, p218, A218⟩ := Ay129_0.rc 58 rfl
     rw [hw218]
     exact Kj99 _ _ _ ⟨s218, _, vy129_0, rfl, (ue rfl rfl), (Ky129.st p218 rfl), A218⟩
    rintro y99 _ _ ⟨s220, _, vy99_0, rfl, rfl, Ky99, Ay99_0⟩
    obtain ⟨s222, hw222, p222, A222⟩ := Ay99_0.rc 53 rfl
    rw [hw222]
    exact Kj77 _ _ _ ⟨s222, _, vy99_0, rfl, (ue rfl rfl), (Ky99.st p222 rfl), A222⟩
   rintro y77 _ _ ⟨s224, _, vy77_0, rfl, rfl, Ky77, Ay77_0⟩
   obtain ⟨s226, hw226, p226, A226⟩ := Ay77_0.rc 50 rfl
   rw [hw226]
   exact Kj65 _ _ _ ⟨s226, _, vy77_0, rfl, (ue rfl rfl), (Ky77.st p226 rfl), A226⟩
  rintro y65 _ _ ⟨s228, _, vy65_0, rfl, rfl, Ky65, Ay65_0⟩
  obtain ⟨s230, hw230, p230, A230⟩ := Ay65_0.rc 47 rfl
  rw [hw230]
  exact Kj50 _ _ _ ⟨s230, _, vy65_0, rfl, (ue rfl rfl), (Ky65.st p230 rfl), A230⟩
 rintro y50 _ _ ⟨s232, _, vy50_0, rfl, rfl, Ky50, Ay50_0⟩
 exact ib (sr (Xo vy50_0 rfl (Xn vy50_0 rfl (dn (re rfl func23 rfl (r_t rfl Xe) rfl ⟨_, rfl, Ay50_0.fo Ky50 rfl z.l, z.ky Ky50⟩)))))
def slices_Clone_byte_byte.f (a0 : (List Int)) : Option ((List Int)) :=
 (if ([] : (List Int)).length + a0.length ≤ Lim then (some (([] : (List Int)) ++ a0)) else none)
def slices_Clone_byte_byte.Q (w : World) (F : Nat → Prop) (r : (List Int)) (v : Value) (w' : World) : Prop :=
 FO Xp w w' [v] r ∧ Ky [] w w'
theorem slices_Clone_byte_byte.calls (a0 : (List Int)) (w : World) (F : Nat → Prop) (w0_0 : Value) (h0_0 : Xp.rd w [w0_0] a0 F) (r : (List Int)) (m : slices_Clone_byte_byte.f a0 = some r) :
  Calls prog 111 #[w0_0] w (RT (slices_Clone_byte_byte.Q w F) r) := by
 obtain ⟨s0, rfl, kp0, z⟩ := Xh w F
 have A0_0 := z.rd h0_0
 refine Xb (args := [w0_0]) func111 ntmps111 rfl rfl m ?_
 unfold slices_Clone_byte_byte.f
 refine sr (Xa rfl (dn (sq (sr (Xo w0_0 rfl (nq A0_0 u23 rfl rfl rfl rfl rfl rfl rfl (fun nb2 hn2 => ?_)))))))
 refine dn (cdb rfl (fun h3 => ?_) (fun h3 => ?_))
 ·
  obtain rfl := hn2 h3
  exact mg fun _ => (sr (Xa rfl (dn (re rfl func111 rfl (r_t rfl Xe) rfl ⟨_, rfl, (ow_nil 5 (Kd.int .u8) s0 40).fo kp0 rfl z.l, z.ky kp0⟩))))
 refine sk (sr (lt0 (K := (Kd.int .u8)) 40 u23 z5 rfl rfl rfl rfl rfl (fun v4 s4 p4 A4 => ?_)))
 refine Xo w0_0 rfl ?_
 have K6 := kp0.st p4 rfl
 refine apF' Xi sl23 A4 (A0_0.kp K6) rfl (fun v8 s8 p8 A8 => ?_)
 refine Xn v8 rfl (dn ?_)
 have K10 := K6.st p8 rfl
 exact re rfl func111 rfl (r_t rfl Xe) rfl ⟨_, rfl, A8.fo K10 rfl z.l, z.ky K10⟩
def impl_Item_own.f (a0 : Item) : Option (Item) :=
 ((slices_Clone_byte_byte.f a0.T).bind fun r9 => (some (Item.mk a0.Kind a0.N a0.F r9)))
def impl_Item_own.Q (w : World) (F : Nat → Prop) (r : Item) (v : Value) (w' : World) : Prop :=
 ∃ (v0 : Value) (v1 : Value), v = (.agg #[(iI r.Kind), (iI r.N), v0, v1]) ∧ FO kd28 w w' [(iI r.Kind), (iI r.N), v0, v1] r ∧ Ky [] w w'
theorem impl_Item_own.calls (a0 : Item) (w : World) (F : Nat → Prop) (w0_0 : Value) (w0_1 : Value) (h0_0 : Kd.flt.rd w [w0_0] a0.F F) (h0_1 : Xp.rd w [w0_1] a0.T F) (r : Item) (m : impl_Item_own.f a0 = some r) :
  Calls prog 98 #[(.agg #[(iI a0.Kind), (iI a0.N), w0_0, w0_1])] w (RT (impl_Item_own.Q w F) r) := by
 obtain ⟨s0, rfl, kp0, z⟩ := Xh w F
 have A0_0 := Xm h0_0
 refine Xb (args := [(.agg #[(iI a0.Kind), (iI a0.N), w0_0, w0_1])]) func98 ntmps98 rfl rfl m ?_
 unfold impl_Item_own.f
 refine sr (bx' (cs := [(iI a0.Kind), (iI a0.N), w0_0, w0_1]) 40 rfl (fun b2 s2 p2 B2 => ?_))
 refine al (cs := [(iI 0), (iI 0), (.float .f64 0), (.slice none 0 0)]) 41 rfl rfl rfl rfl rfl o28 rfl (fun b4 s4 p4 B4 => ?_)
 refine dn (sr (Xl fa28_3 rfl ?_))
 have A6 := B2.st p4 rfl
 refine ld' A6 u23 rfl ?_
 have K7 := kp0.st (tr2 p2 p4) rfl
 refine clO 42 rfl func111 rfl (slices_Clone_byte_byte.calls a0.T s4.w (mm [0] s4) w0_1 ((z.rd h0_1).kp K7)) (fun r9 v9_0 s10 p10 A9_0 => ?_)
 refine Xl fa28_3 rfl (sv (A6.st p10 rfl) z23 rfl rfl rfl rfl rfl rfl A9_0.rd.one rfl (fun s13 p13 B13 => ?_))
 refine dn (sr (lda' (es := [(iI a0.Kind), (iI a0.N), w0_0, v9_0]) B13 u28 z28 rfl ?_))
 have A16 := A9_0.st p13 rfl
 refine sva (vs := [(iI a0.Kind), (iI a0.N), w0_0, v9_0]) (B4.st (tr2 p10 p13) rfl) z28 rfl rfl rfl rfl rfl rfl (Xd rfl (Xd rfl (Xd (FL.one A0_0) (Xd A16.rd.one on_nil)))) rfl (fun s17 p17 B17 => ?_)
 refine dn ?_
 have A19 : OwF kd28 s17 [(iI a0.Kind), (iI a0.N), w0_0, v9_0] (Item.mk a0.Kind a0.N a0.F r9) 42 := (ow_isoz (fun x : Item => (x.Kind, x.N, x.F, x.T)) (Item.mk a0.Kind a0.N a0.F r9) (ow_l (Xk .i64 a0.Kind) (ow_l (Xk .i64 a0.N) (ow_l (fz_flt A0_0) (A16.st p17 rfl)))))
 have K22 := K7.st (tr3 p10 p13 p17) rfl
 exact re rfl func98 rfl (r_b B17 u28 rfl z28 rfl Xe) rfl ⟨_, rfl, w0_0, v9_0, rfl, A19.fo K22 rfl z.l, z.ky K22⟩
def impl_ItemClean.f (a0 : Item) : Option (Item) :=
 ((impl_ItemOk.f a0).bind fun r9 => (if (!r9) = true then (some (Item.mk (0 : Int) (0 : Int) (0 : Nat) ([] : (List Int)))) else ((if (fcmp .f64 a0.F (0 : Nat) == some .eq) = true then (some (0 : Nat)) else (some a0.F)).bind fun y19 => ((impl_Item_own.f (Item.mk a0.Kind a0.N y19 a0.T)).bind fun r31 => (some r31)))))
def impl_ItemClean.Q (w : World) (F : Nat → Prop) (r : Item) (v : Value) (w' : World) : Prop :=
 ∃ (v0 : Value) (v1 : Value), v = (.agg #[(iI r.Kind), (iI r.N), v0, v1]) ∧ FO kd28 w w' [(iI r.Kind), (iI r.N), v0, v1] r ∧ Ky [] w w'
theorem impl_ItemClean.calls (a0 : Item) (w : World) (F : Nat → Prop) (w0_0 : Value) (w0_1 : Value) (h0_0 : Kd.flt.rd w [w0_0] a0.F F) (h0_1 : Xp.rd w [w0_1] a0.T F) (r : Item) (m : impl_ItemClean.f a0 = some r) :
  Calls prog 90 #[(.agg #[(iI a0.Kind), (iI a0.N), w0_0, w0_1])] w (RT (impl_ItemClean.Q w F) r) := by
 obtain ⟨s0, rfl, kp0, z⟩ := Xh w F
 have A0_0 := Xm h0_0
 have A0_1 := z.rd h0_1
 refine Xb (args := [(.agg #[(iI a0.Kind), (iI a0.N), w0_0, w0_1])]) func90 ntmps90 rfl rfl m ?_
 unfold impl_ItemClean.f
 refine sr (bx' (cs := [(iI a0.Kind), (iI a0.N), w0_0, w0_1]) 40 rfl (fun b2 s2 p2 B2 => ?_))
 refine al (cs := [(iI 0), (iI 0), (.float .f64 0), (.slice none 0 0)]) 41 rfl rfl rfl rfl rfl o28 rfl (fun b4 s4 p4 B4 => ?_)
 refine dn (sq (sr ?_))
 have A6 := B2.st p4 rfl
 refine lda' (es := [(iI a0.Kind), (iI a0.N), w0_0, w0_1]) A6 u28 z28 rfl ?_
 have K7 := kp0.st (tr2 p2 p4) rfl
 refine clV 42 rfl func38 rfl (impl_ItemOk.calls a0 s4.w (mm [0] s4) w0_0 w0_1 ((Xc (s := s4) A0_0).sub (D := [0]) rfl) (A0_1.kp K7)) (fun r9 s10 p10 n10 => ?_)
 refine Xa rfl (dn (cd rfl (fun h11 => ?_) (fun h11 => ?_)))
 ·
  refine sr (bd (cells := [(iI 0), (iI 0), (.float .f64 0), (.slice none 0 0)]) pl28 o28 rfl rfl rfl rfl rfl rfl ?_)
  refine sva (vs := [(iI 0), (iI 0), (.float .f64 0), (.slice none 0 0)]) (B4.st p10 rfl) z28 rfl rfl rfl rfl rfl rfl (Xd rfl (Xd rfl (Xd (FL.one (fl_c rfl)) (Xd rfl on_nil)))) rfl (fun s13 p13 B13 => ?_)
  refine dn ?_
  have A15 : OwF kd28 s13 [(iI 0), (iI 0), (.float .f64 0), (.slice none 0 0)] (Item.mk (0 : Int) (0 : Int) (0 : Nat) ([] : (List Int))) 43 := ow_z _ _ (fz_iso (fun x : Item => (x.Kind, x.N, x.F, x.T)) (Item.mk (0 : Int) (0 : Int) (0 : Nat) ([] : (List Int))) (fz_pair (Xk .i64 (0 : Int)) (fz_pair (Xk .i64 (0 : Int)) (fz_pair (fz_flt (fl_c rfl)) (fz_nil 5 (Kd.int .u8))))))
  have K17 := K7.st (tr2 p10 p13) rfl
  exact re rfl func90 rfl (r_b B13 u28 rfl z28 rfl Xe) rfl ⟨_, rfl, (.float .f64 0), (.slice none 0 0), rfl, A15.fo K17 rfl z.l, z.ky K17⟩
 refine sk (sq (sr (Xl fa28_2 rfl ?_)))
 have A18 := A6.st p10 rfl
 refine ld' A18 u22 rfl (fq_' A0_0 (fl_c rfl) rfl (dn (jc (fun (y19 : Nat) e w => ∃ (s : St) (e0 : Env) (uy19_0 : Value), w = s.w ∧ e = upd (upd e0 1 (pB b2)) 2 (pB b4) ∧ Kp s0 s ∧ FL uy19_0 y19 ∧ BlF s b4 28 [(iI 0), (iI 0), (.float .f64 0), (.slice none 0 0)] 41 ∧ BlF s b2 28 [(iI a0.Kind), (iI a0.N), uy19_0, w0_1] 40) (fun Gj19 Kj19 => ?_) ?_)))
 ·
  refine cd rfl (fun h20 => ?_) (fun h20 => ?_)
  ·
   refine rg (Xl fa28_2 rfl (sv A18 z22 rfl rfl rfl rfl rfl rfl (FL.one (fl_c rfl)) rfl (fun s21 p21 B21 => ?_)))
   exact dn (Kj19 _ _ _ ⟨s21, _, (.float .f64 0), rfl, (ue (ue rfl rfl) rfl), (K7.st (tr2 p10 p21) rfl), (fl_c rfl), (B4.st (tr2 p10 p21) rfl), B21⟩)
  exact sk (Kj19 _ _ _ ⟨s10, _, w0_0, rfl, (ue (ue rfl rfl) rfl), (K7.st p10 rfl), A0_0, (B4.st p10 rfl), A18⟩)
 rintro y19 _ _ ⟨s27, _, uy19_0, rfl, rfl, Ky19, Fy19_0, By19_b4, By19_b2⟩
 refine sr (lda' (es := [(iI a0.Kind), (iI a0.N), uy19_0, w0_1]) By19_b2 u28 z28 rfl ?_)
 refine cl' rfl func98 rfl (impl_Item_own.calls (Item.mk a0.Kind a0.N y19 a0.T) s27.w (mm [0] s27) uy19_0 w0_1 ((Xc (s := s27) Fy19_0).sub (D := [0]) rfl) (A0_1.kp Ky19)) ?_
 rintro r31 _ w31 m31 ⟨v31_0, v31_1, rfl, f31_0, ky31⟩
 obtain ⟨s32, rfl, p32, n32⟩ := nwx s27 w31 44 ky31
 obtain ⟨hu31_0_0, Au31_0_1⟩ := ap28 (f31_0.c n32)
 refine sva (vs := [(iI r31.Kind), (iI r31.N), v31_0, v31_1]) (By19_b4.st p32 rfl) z28 rfl rfl rfl rfl rfl rfl (Xd rfl (Xd rfl (Xd (FL.one hu31_0_0) (Xd Au31_0_1.rd.one on_nil)))) rfl (fun s35 p35 B35 => ?_)
 refine dn ?_
 have A37 : OwF kd28 s35 [(iI r31.Kind), (iI r31.N), v31_0, v31_1] r31 44 := (ow_isoz (fun x : Item => (x.Kind, x.N, x.F, x.T)) r31 (ow_l (Xk .i64 r31.Kind) (ow_l (Xk .i64 r31.N) (ow_l (fz_flt hu31_0_0) (Au31_0_1.st p35 rfl)))))
 have K40 := Ky19.st (tr2 p32 p35) rfl
 exact re rfl func90 rfl (r_b B35 u28 rfl z28 rfl Xe) rfl ⟨_, rfl, v31_0, v31_1, rfl, A37.fo K40 rfl z.l, z.ky K40⟩
def impl_KeyOk.f (a0 : Item) : Option (Bool) :=
 ((impl_ItemOk.f a0).bind fun r6 => (some ((r6 && (a0.Kind != (0 : Int))) && ((fcmp .f64 a0.F (0 : Nat) != some .eq) || ((a0.F : Int) == 0)))))
def impl_KeyOk.Q (w : World) (F : Nat → Prop) (r : Bool) (v : Value) (w' : World) : Prop :=
 v = (.bool r) ∧ Ky [] w w'
theorem impl_KeyOk.calls (a0 : Item) (w : World) (F : Nat → Prop) (w0_0 : Value) (w0_1 : Value) (h0_0 : Kd.flt.rd w [w0_0] a0.F F) (h0_1 : Xp.rd w [w0_1] a0.T F) (r : Bool) (m : impl_KeyOk.f a0 = some r) :
  Calls prog 89 #[(.agg #[(iI a0.Kind), (iI a0.N), w0_0, w0_1])] w (RT (impl_KeyOk.Q w F) r) := by
 obtain ⟨s0, rfl, kp0, z⟩ := Xh w F
 have A0_0 := Xm h0_0
 refine Xb (args := [(.agg #[(iI a0.Kind), (iI a0.N), w0_0, w0_1])]) func89 ntmps89 rfl rfl m ?_
 unfold impl_KeyOk.f
 refine sr (bx' (cs := [(iI a0.Kind), (iI a0.N), w0_0, w0_1]) 40 rfl (fun b2 s2 p2 B2 => ?_))
 refine Xa rfl (dn (sr (lda' (es := [(iI a0.Kind), (iI a0.N), w0_0, w0_1]) B2 u28 z28 rfl ?_)))
 have K4 := kp0.st p2 rfl
 refine clV 41 rfl func38 rfl (impl_ItemOk.calls a0 s2.w (mm [0] s2) w0_0 w0_1 ((Xc (s := s2) A0_0).sub (D := [0]) rfl) ((z.rd h0_1).kp K4)) (fun r6 s7 p7 n7 => ?_)
 refine Xa rfl (jy [5, 6, 7, 8, 9] [7, 8, 9, 10, 11, 12, 13, 14, 15, 16, 17, 18] 9 (.bool (r6 && (a0.Kind != (0 : Int)))) rfl (fun Kg8 => ?_) (fun j8 => ?_))
 ·
  rcases bft r6 with hb8 | hb8
  ·
   refine sbT hb8 (Xl fa28_0 rfl ?_)
   exact ld' (B2.st p7 rfl) u3 rfl (Xa rfl (Xa rfl (Kg8 _ (Ag.put ((Ag.put ((Ag.put ((Ag.put (Ag.base rfl) rfl)) rfl)) rfl)) rfl) (by rw [hb8]; rfl))))
  exact sbT hb8 (Xj rfl (Xj rfl (Xj rfl (Xa rfl (Kg8 _ (Ag.put ((Ag.put ((Ag.put ((Ag.put (Ag.base rfl) rfl)) rfl)) rfl)) rfl) (by rw [hb8]; rfl))))))
 refine Xa rfl (jy [10, 11, 12, 13, 14, 15, 16, 17, 18, 19, 20] [18] 20 (.bool ((r6 && (a0.Kind != (0 : Int))) && ((fcmp .f64 a0.F (0 : Nat) != some .eq) || ((a0.F : Int) == 0)))) rfl (fun Kg10 => ?_) (fun j10 => ?_))
 ·
  rcases bft (r6 && (a0.Kind != (0 : Int))) with hb10 | hb10
  ·
   refine sbT hb10 (Xl fa28_2 rfl ?_)
   have A11 := B2.st p7 rfl
   refine ld' A11 u22 rfl (fq_' A0_0 (fl_c rfl) rfl (Xa rfl (jy [14, 15, 16, 17, 18, 19] [17, 18] 19 (.bool ((fcmp .f64 a0.F (0 : Nat) != some .eq) || ((a0.F : Int) == 0))) rfl (fun Kg12 => ?_) (fun j12 => ?_))))
   ·
    rcases bft (fcmp .f64 a0.F (0 : Nat) != some .eq) with hb12 | hb12
    ·
     exact sbT hb12 (Xj rfl (Xj rfl (Xj rfl (Xj rfl (Xa rfl (Kg12 _ (Ag.put ((Ag.put ((Ag.put ((Ag.put ((Ag.put (Ag.base rfl) rfl)) rfl)) rfl)) rfl)) rfl) (by rw [hb12]; rfl)))))))
    refine sbT hb12 (Xl fa28_2 rfl (ld' A11 u22 rfl (fbu A0_0 rfl rfl rfl rfl rfl func63 rfl rfl xn63 xf63 rfl (fun b13 A13 => ?_))))
    exact fz0 A13 rfl rfl rfl rfl rfl rfl rfl (Xa rfl (Kg12 _ (Ag.put ((Ag.put ((Ag.put ((Ag.put ((Ag.put (Ag.base rfl) rfl)) rfl)) rfl)) rfl)) rfl) (by rw [hb12]; rfl)))
   exact Xa rfl (Kg10 _ (Ag.put ((Ag.put ((Ag.ov ((Ag.put ((Ag.put ((Ag.put ((Ag.put (Ag.base rfl) rfl)) rfl)) rfl)) rfl)) rfl)) rfl)) rfl) (by rw [hb10]; rfl))
  exact sbT hb10 (Xj rfl (Xj rfl (Xj rfl (Xj rfl (Xj rfl (Xj rfl (Xj rfl (Xj rfl (Xj rfl (Xa rfl (Kg10 _ (Ag.put ((Ag.put ((Ag.put ((Ag.put ((Ag.put ((Ag.put ((Ag.put ((Ag.put ((Ag.put ((Ag.put (Ag.base rfl) rfl)) rfl)) rfl)) rfl)) rfl)) rfl)) rfl)) rfl)) rfl)) rfl) (by rw [hb10]; rfl))))))))))))
 refine Xa rfl (dn ?_)
 exact re rfl func89 rfl (r_t rfl Xe) rfl ⟨_, rfl, rfl, z.ky (K4.st p7 rfl)⟩
def impl_isClean.f (a0 : Item) : Option (Bool) :=
 ((impl_ItemClean.f a0).bind fun r6 => ((impl_KeyOk.f r6).bind fun r9 => (some r9)))
def impl_isClean.Q (w : World) (F : Nat → Prop) (r : Bool) (v : Value) (w' : World) : Prop :=
 v = (.bool r) ∧ Ky [] w w'
theorem impl_isClean.calls (a0 : Item) (w : World) (F : Nat → Prop) (w0_0 : Value) (w0_1 : Value) (h0_0 : Kd.flt.rd w [w0_0] a0.F F) (h0_1 : Xp.rd w [w0_1] a0.T F) (r : Bool) (m : impl_isClean.f a0 = some r) :
  Calls prog 74 #[(.agg #[(iI a0.Kind), (iI a0.N), w0_0, w0_1])] w (RT (impl_isClean.Q w F) r) := by
 obtain ⟨s0, rfl, kp0, z⟩ := Xh w F
 refine Xb (args := [(.agg #[(iI a0.Kind), (iI a0.N), w0_0, w0_1])]) func74 ntmps74 rfl rfl m ?_
 unfold impl_isClean.f
 refine sr (bx' (cs := [(iI a0.Kind), (iI a0.N), w0_0, w0_1]) 40 rfl (fun b2 s2 p2 B2 => ?_))
 refine Xa rfl (dn (sr (lda' (es := [(iI a0.Kind), (iI a0.N), w0_0, w0_1]) B2 u28 z28 rfl ?_)))
 have K4 := kp0.st p2 rfl
 refine cl' rfl func90 rfl (impl_ItemClean.calls a0 s2.w (mm [0] s2) w0_0 w0_1 ((Xc (s := s2) (Xm h0_0)).sub (D := [0]) rfl) ((z.rd h0_1).kp K4)) ?_
 rintro r6 _ w6 m6 ⟨v6_0, v6_1, rfl, f6_0, ky6⟩
 obtain ⟨s7, rfl, p7, n7⟩ := nwx s2 w6 41 ky6
 obtain ⟨hu6_0_0, Au6_0_1⟩ := ap28 (f6_0.c n7)
 refine clV 42 rfl func89 rfl (impl_KeyOk.calls r6 s7.w (mm [41] s7) v6_0 v6_1 ((Xc (s := s7) hu6_0_0).sub (D := [41]) rfl) Au6_0_1.rd) (fun r9 s10 p10 n10 => ?_)
 refine Xa rfl (dn ?_)
 exact re rfl func74 rfl (r_t rfl Xe) rfl ⟨_, rfl, rfl, z.ky (K4.st (tr2 p7 p10) rfl)⟩
def impl_isValue.f (a0 : Item) : Option (Bool) :=
 ((impl_ItemOk.f a0).bind fun r6 => (some (r6 && (a0.Kind != (0 : Int)))))
def impl_isValue.Q (w : World) (F : Nat → Prop) (r : Bool) (v : Value) (w' : World) : Prop :=
 v = (.bool r) ∧ Ky [] w w'
theorem impl_isValue.calls (a0 : Item) (w : World) (F : Nat → Prop) (w0_0 : Value) (w0_1 : Value) (h0_0 : Kd.flt.rd w [w0_0] a0.F F) (h0_1 : Xp.rd w [w0_1] a0.T F) (r : Bool) (m : impl_isValue.f a0 = some r) :
  Calls prog 75 #[(.agg #[(iI a0.Kind), (iI a0.N), w0_0, w0_1])] w (RT (impl_isValue.Q w F) r) := by
 obtain ⟨s0, rfl, kp0, z⟩ := Xh w F
 refine Xb (args := [(.agg #[(iI a0.Kind), (iI a0.N), w0_0, w0_1])]) func75 ntmps75 rfl rfl m ?_
 unfold impl_isValue.f
 refine sr (bx' (cs := [(iI a0.Kind), (iI a0.N), w0_0, w0_1]) 40 rfl (fun b2 s2 p2 B2 => ?_))
 refine Xa rfl (dn (sr (lda' (es := [(iI a0.Kind), (iI a0.N), w0_0, w0_1]) B2 u28 z28 rfl ?_)))
 have K4 := kp0.st p2 rfl
 refine clV 41 rfl func38 rfl (impl_ItemOk.calls a0 s2.w (mm [0] s2) w0_0 w0_1 ((Xc (s := s2) (Xm h0_0)).sub (D := [0]) rfl) ((z.rd h0_1).kp K4)) (fun r6 s7 p7 n7 => ?_)
 refine Xa rfl (jy [5, 6, 7, 8, 9] [7] 9 (.bool (r6 && (a0.Kind != (0 : Int)))) rfl (fun Kg8 => ?_) (fun j8 => ?_))
 ·
  rcases bft r6 with hb8 | hb8
  ·
   refine sbT hb8 (Xl fa28_0 rfl ?_)
   exact ld' (B2.st p7 rfl) u3 rfl (Xa rfl (Xa rfl (Kg8 _ (Ag.put ((Ag.put ((Ag.put ((Ag.put (Ag.base rfl) rfl)) rfl)) rfl)) rfl) (by rw [hb8]; rfl))))
  exact sbT hb8 (Xj rfl (Xj rfl (Xj rfl (Xa rfl (Kg8 _ (Ag.put ((Ag.put ((Ag.put ((Ag.put (Ag.base rfl) rfl)) rfl)) rfl)) rfl) (by rw [hb8]; rfl))))))
 refine Xa rfl (dn ?_)
 exact re rfl func75 rfl (r_t rfl Xe) rfl ⟨_, rfl, rfl, z.ky (K4.st p7 rfl)⟩
def impl_OpOk.f (a0 : Op) : Option (Bool) :=
 ((if (decide (a0.Kind ≤ (8 : Int))) = true then ((impl_within.f a0.Seat (0 : Int) (7 : Int)).bind fun r8 => (some (!r8))) else (some false)).bind fun y7 => (if y7 = true then (some false) else (if (a0.Kind == (1 : Int)) = true then ((impl_within.f a0.Level (0 : Int) (1 : Int)).bind fun r17 => (some r17)) else ((if (a0.Kind == (2 : Int)) = true then (some (a0.Kind == (2 : Int))) else (some (a0.Kind == (4 : Int)))).bind fun y20 => (if y20 = true then ((impl_isClean.f a0.Key).bind fun r26 => (some r26)) else (if (a0.Kind == (3 : Int)) = true then ((impl_isClean.f a0.Key).bind fun r31 => ((if r31 = true then ((impl_isValue.f a0.Value).bind fun r37 => (some r37)) else (some false)).bind fun y33 => (some y33))) else (if (a0.Kind == (5 : Int)) = true then ((impl_isClean.f a0.Key).bind fun r44 => ((if r44 = true then ((impl_isClean.f a0.To).bind fun r50 => (some r50)) else (some false)).bind fun y46 => ((if y46 = true then ((impl_within.f a0.N (0 : Int) (50 : Int)).bind fun r59 => (some r59)) else (some false)).bind fun y58 => (some y58)))) else (if (a0.Kind == (6 : Int)) = true then ((impl_isClean.f a0.Key).bind fun r65 => ((if r65 = true then ((impl_isClean.f a0.To).bind fun r71 => (some r71)) else (some false)).bind fun y67 => (some y67))) else (if (a0.Kind == (11 : Int)) = true then ((impl_within.f a0.N (0 : Int) (15 : Int)).bind fun r77 => (some r77)) else (if (a0.Kind == (12 : Int)) = true then (some (decide (a0.N ≥ (0 : Int)))) else (if (a0.Kind == (13 : Int)) = true then (some (decide ((a0.Keep.length : Int) ≤ (600 : Int)))) else ((impl_within.f a0.Kind (1 : Int) (13 : Int)).bind fun r83 => (some r83)))))))))))))
def impl_OpOk.Q (w : World) (F : Nat → Prop) (r : Bool) (v : Value) (w' : World) : Prop :=
 v = (.bool r) ∧ Ky [] w w'
theorem impl_OpOk.calls (a0 : Op) (w : World) (F : Nat → Prop) (w0_0 : Value) (w0_1 : Value) (w0_2 : Value) (w0_3 : Value) (w0_4 : Value) (w0_5 : Value) (w0_6 : Value) (h0_0 : Kd.flt.rd w [w0_0] a0.Key.F F) (h0_1 : Xp.rd w [w0_1] a0.Key.T F) (h0_2 : Kd.flt.rd w [w0_2] a0.To.F F) (h0_3 : Xp.rd w [w0_3] a0.To.T F) (h0_4 : Kd.flt.rd w [w0_4] a0.Value.F F) (h0_5 : Xp.rd w [w0_5] a0.Value.T F) (h0_6 : (Kd.sl 4 Kd.bool).rd w [w0_6] a0.Keep F) (r : Bool) (m : impl_OpOk.f a0 = some r) :
  Calls prog 53 #[(.agg #[(iI a0.Kind), (iI a0.Seat), (iI a0.Level), (iI a0.N), (iI a0.Key.Kind), (iI a0.Key.N), w0_0, w0_1, (iI a0.To.Kind), (iI a0.To.N), w0_2, w0_3, (iI a0.Value.Kind), (iI a0.Value.N), w0_4, w0_5, w0_6])] w (RT (impl_OpOk.Q w F) r) := by
 obtain ⟨s0, rfl, kp0, z⟩ := Xh w F
 have A0_0 := Xm h0_0
 have A0_1 := z.rd h0_1
 have A0_2 := Xm h0_2
 have A0_3 := z.rd h0_3
 refine Xb (args := [(.agg #[(iI a0.Kind), (iI a0.Seat), (iI a0.Level), (iI a0.N), (iI a0.Key.Kind), (iI a0.Key.N), w0_0, w0_1, (iI a0.To.Kind), (iI a0.To.N), w0_2, w0_3, (iI a0.Value.Kind), (iI a0.Value.N), w0_4, w0_5, w0_6])]) func53 ntmps53 rfl rfl m ?_
 unfold impl_OpOk.f
 refine sr (bx' (cs := [(iI a0.Kind), (iI a0.Seat), (iI a0.Level), (iI a0.N), (iI a0.Key.Kind), (iI a0.Key.N), w0_0, w0_1, (iI a0.To.Kind), (iI a0.To.N), w0_2, w0_3, (iI a0.Value.Kind), (iI a0.Value.N), w0_4, w0_5, w0_6]) 40 rfl (fun b5 s5 p5 B5 => ?_))
 refine Xa rfl (dn (sq (sr (Xl fa53_0 rfl (ld' B5 u3 rfl (Xa rfl (Xa rfl (ji [] (fun (y7 : Bool) e w => ∃ (s : St) (e0 : Env), w = s.w ∧ e = upd (upd e0 1 (pB b5)) 11 (.bool y7) ∧ Kp s0 s ∧ BlF s b5 53 [(iI a0.Kind), (iI a0.Seat), (iI a0.Level), (iI a0.N), (iI a0.Key.Kind), (iI a0.Key.N), w0_0, w0_1, (iI a0.To.Kind), (iI a0.To.N), w0_2, w0_3, (iI a0.Value.Kind), (iI a0.Value.N), w0_4, w0_5, w0_6] 40) (fun Gj7 Kj7 => ?_) ?_))))))))
 ·
  rcases bft (decide (a0.Kind ≤ (8 : Int))) with hb7 | hb7
  ·
   refine sbT hb7 ?_
   rw [if_pos hb7]
   refine Xl fa53_1 rfl (ld' B5 u3 rfl (clV 41 rfl func62 rfl (impl_within.calls a0.Seat (0 : Int) (7 : Int) s5.w (mm [] s5)) (fun r8 s9 p9 n9 => ?_)))
   refine Xa rfl (Xa rfl ?_)
   exact Kj7 _ _ _ ⟨s9, _, rfl, (ue (ue rfl rfl) rfl), (kp0.st (tr2 p5 p9) rfl), (B5.st p9 rfl)⟩
  refine sbT hb7 ?_
  rw [if_neg (by rw [hb7]; decide)]
  refine Xj rfl (Xj rfl (Xj rfl (Xj rfl (Xa rfl ?_))))
  exact Kj7 _ _ _ ⟨s5, _, rfl, (ue (ue rfl rfl) rfl), (kp0.st p5 rfl), B5⟩
 rintro y7 _ _ ⟨s13, _, rfl, rfl, Ky7, By7_b5⟩
 refine dn (cd rfl (fun h15 => ?_) (fun h15 => ?_))
 ·
  exact sr (Xa rfl (dn (re rfl func53 rfl (r_t rfl Xe) rfl ⟨_, rfl, rfl, z.ky Ky7⟩)))
 refine sk (sq (sr (Xl fa53_0 rfl (ld' By7_b5 u3 rfl (dn (bl (sr (Xa rfl (Xa rfl (dn (cd rfl (fun h16 => ?_) (fun h16 => ?_))))))))))))
 ·
  refine sr (Xl fa53_2 rfl (ld' By7_b5 u3 rfl (clV 42 rfl func62 rfl (impl_within.calls a0.Level (0 : Int) (1 : Int) s13.w (mm [] s13)) (fun r17 s18 p18 n18 => ?_))))
  refine Xa rfl (dn ?_)
  exact re rfl func53 rfl (r_t rfl Xe) rfl ⟨_, rfl, rfl, z.ky (Ky7.st p18 rfl)⟩
 refine sq (sr (Xa rfl (Xa rfl (dn (jc (fun (y20 : Bool) e w => ∃ (s : St) (e0 : Env), w = s.w ∧ e = upd (upd (upd e0 1 (pB b5)) 13 (iI a0.Kind)) 19 (.bool y20) ∧ Kp s0 s ∧ BlF s b5 53 [(iI a0.Kind), (iI a0.Seat), (iI a0.Level), (iI a0.N), (iI a0.Key.Kind), (iI a0.Key.N), w0_0, w0_1, (iI a0.To.Kind), (iI a0.To.N), w0_2, w0_3, (iI a0.Value.Kind), (iI a0.Value.N), w0_4, w0_5, w0_6] 40) (fun Gj20 Kj20 => ?_) ?_)))))
 ·
  refine cd rfl (fun h21 => ?_) (fun h21 => ?_)
  ·
   exact sk (Kj20 _ _ _ ⟨s13, _, rfl, (ue (ue (ue rfl rfl) rfl) rfl), Ky7, By7_b5⟩)
  exact rg (Xa rfl (Xa rfl (dn (Kj20 _ _ _ ⟨s13, _, rfl, (ue (ue (ue rfl rfl) rfl) rfl), Ky7, By7_b5⟩))))
 rintro y20 _ _ ⟨s22, _, rfl, rfl, Ky20, By20_b5⟩
 refine cd rfl (fun h24 => ?_) (fun h24 => ?_)
 ·
  refine sr (Xl fa53_4 rfl (lda' (es := [(iI a0.Key.Kind), (iI a0.Key.N), w0_0, w0_1]) By20_b5 u28 z28 rfl ?_))
  refine clV 43 rfl func74 rfl (impl_isClean.calls a0.Key s22.w (mm [0] s22) w0_0 w0_1 ((Xc (s := s22) A0_0).sub (D := [0]) rfl) (A0_1.kp Ky20)) (fun r26 s27 p27 n27 => ?_)
  refine Xa rfl (dn ?_)
  exact re rfl func53 rfl (r_t rfl Xe) rfl ⟨_, rfl, rfl, z.ky (Ky20.st p27 rfl)⟩
 refine sr (Xa rfl (Xa rfl (dn (cd rfl (fun h29 => ?_) (fun h29 => ?_)))))
 ·
  refine sr (Xl fa53_4 rfl (lda' (es := [(iI a0.Key.Kind), (iI a0.Key.N), w0_0, w0_1]) By20_b5 u28 z28 rfl ?_))
  refine clV 44 rfl func74 rfl (impl_isClean.calls a0.Key s22.w (mm [0] s22) w0_0 w0_1 ((Xc (s := s22) A0_0).sub (D := [0]) rfl) (A0_1.kp Ky20)) (fun r31 s32 p32 n32 => ?_)
  refine Xa rfl (ji [8] (fun (y33 : Bool) e w => ∃ (s : St) (e0 : Env), w = s.w ∧ e = upd e0 34 (.bool y33) ∧ Kp s0 s) (fun Gj33 Kj33 => ?_) ?_)
  ·
   rcases bft r31 with hb33 | hb33
   ·
    refine sbT hb33 ?_
    rw [if_pos hb33]
    refine Xl fa53_6 rfl (lda' (es := [(iI a0.Value.Kind), (iI a0.Value.N), w0_4, w0_5]) (By20_b5.st p32 rfl) u28 z28 rfl ?_)
    have K35 := Ky20.st p32 rfl
    refine clV 45 rfl func75 rfl (impl_isValue.calls a0.Value s32.w (mm [0] s32) w0_4 w0_5 ((Xc (s := s32) (Xm h0_4)).sub (D := [0]) rfl) ((z.rd h0_5).kp K35)) (fun r37 s38 p38 n38 => ?_)
    exact Xa rfl (Kj33 _ _ _ ⟨s38, _, rfl, (ue rfl rfl), (K35.st p38 rfl)⟩)
   refine sbT hb33 ?_
   rw [if_neg (by rw [hb33]; decide)]
   refine Xj rfl (Xj rfl (Xj rfl (Xa rfl ?_)))
   exact Kj33 _ _ _ ⟨s32, _, rfl, (ue rfl rfl), (Ky20.st p32 rfl)⟩
  rintro y33 _ _ ⟨s41, _, rfl, rfl, Ky33⟩
  exact Xa rfl (dn (re rfl func53 rfl (r_t rfl Xe) rfl ⟨_, rfl, rfl, z.ky Ky33⟩))
 refine sr (Xa rfl (Xa rfl (dn (cd rfl (fun h42 => ?_) (fun h42 => ?_)))))
 ·
  refine sr (Xl fa53_4 rfl (lda' (es := [(iI a0.Key.Kind), (iI a0.Key.N), w0_0, w0_1]) By20_b5 u28 z28 rfl ?_))
  refine clV 46 rfl func74 rfl (impl_isClean.calls a0.Key s22.w (mm [0] s22) w0_0 w0_1 ((Xc (s := s22) A0_0).sub (D := [0]) rfl) (A0_1.kp Ky20)) (fun r44 s45 p45 n45 => ?_)
  refine Xa rfl (ji [8, 9, 10, 11, 12, 13] (fun (y46 : Bool) e w => ∃ (s : St) (e0 : Env), w = s.w ∧ e = upd (upd e0 1 (pB b5)) 44 (.bool y46) ∧ Kp s0 s ∧ BlF s b5 53 [(iI a0.Kind), (iI a0.Seat), (iI a0.Level), (iI a0.N), (iI a0.Key.Kind), (iI a0.Key.N), w0_0, w0_1, (iI a0.To.Kind), (iI a0.To.N), w0_2, w0_3, (iI a0.Value.Kind), (iI a0.Value.N), w0_4, w0_5, w0_6] 40) (fun Gj46 Kj46 => ?_) ?_)
  ·
   rcases bft r44 with hb46 | hb46
   ·
    refine sbT hb46 ?_
    rw [if_pos hb46]
    refine Xl fa53_5 rfl ?_
    have A47 := By20_b5.st p45 rfl
    refine lda' (es := [(iI a0.To.Kind), (iI a0.To.N), w0_2, w0_3]) A47 u28 z28 rfl ?_
    have K48 := Ky20.st p45 rfl
    refine clV 47 rfl func74 rfl (impl_isClean.calls a0.To s45.w (mm [0] s45) w0_2 w0_3 ((Xc (s := s45) A0_2).sub (D := [0]) rfl) (A0_3.kp K48)) (fun r50 s51 p51 n51 => ?_)
    exact Xa rfl (Kj46 _ _ _ ⟨s51, _, rfl, (ue (ue rfl rfl) rfl), (K48.st p51 rfl), (A47.st p51 rfl)⟩)
   refine sbT hb46 ?_
   rw [if_neg (by rw [hb46]; decide)]
   refine Xj rfl (Xj rfl (Xj rfl (Xa rfl ?_)))
   exact Kj46 _ _ _ ⟨s45, _, rfl, (ue (ue rfl rfl) rfl), (Ky20.st p45 rfl), (By20_b5.st p45 rfl)⟩
  rintro y46 _ _ ⟨s56, _, rfl, rfl, Ky46, By46_b5⟩
  refine Xa rfl (ji [13] (fun (y58 : Bool) e w => ∃ (s : St) (e0 : Env), w = s.w ∧ e = upd e0 49 (.bool y58) ∧ Kp s0 s) (fun Gj58 Kj58 => ?_) ?_)
  ·
   rcases bft y46 with hb58 | hb58
   ·
    refine sbT hb58 ?_
    rw [if_pos hb58]
    refine Xl fa53_3 rfl (ld' By46_b5 u3 rfl (clV 48 rfl func62 rfl (impl_within.calls a0.N (0 : Int) (50 : Int) s56.w (mm [] s56)) (fun r59 s60 p60 n60 => ?_)))
    exact Xa rfl (Kj58 _ _ _ ⟨s60, _, rfl, (ue rfl rfl), (Ky46.st p60 rfl)⟩)
   refine sbT hb58 ?_
   rw [if_neg (by rw [hb58]; decide)]
   exact Xj rfl (Xj rfl (Xj rfl (Xa rfl (Kj58 _ _ _ ⟨s56, _, rfl, (ue rfl rfl), Ky46⟩))))
  rintro y58 _ _ ⟨s62, _, rfl, rfl, Ky58⟩
  exact Xa rfl (dn (re rfl func53 rfl (r_t rfl Xe) rfl ⟨_, rfl, rfl, z.ky Ky58⟩))
 refine sr (Xa rfl (Xa rfl (dn (cd rfl (fun h63 => ?_) (fun h63 => ?_)))))
 ·
  refine sr (Xl fa53_4 rfl (lda' (es := [(iI a0.Key.Kind), (iI a0.Key.N), w0_0, w0_1]) By20_b5 u28 z28 rfl ?_))
  refine clV 49 rfl func74 rfl (impl_isClean.calls a0.Key s22.w (mm [0] s22) w0_0 w0_1 ((Xc (s := s22) A0_0).sub (D := [0]) rfl) (A0_1.kp Ky20)) (fun r65 s66 p66 n66 => ?_)
  refine Xa rfl (ji [8] (fun (y67 : Bool) e w => ∃ (s : St) (e0 : Env), w = s.w ∧ e = upd e0 59 (.bool y67) ∧ Kp s0 s) (fun Gj67 Kj67 => ?_) ?_)
  ·
   rcases bft r65 with hb67 | hb67
   ·
    refine sbT hb67 ?_
    rw [if_pos hb67]
    refine Xl fa53_5 rfl (lda' (es := [(iI a0.To.Kind), (iI a0.To.N), w0_2, w0_3]) (By20_b5.st p66 rfl) u28 z28 rfl ?_)
    have K69 := Ky20.st p66 rfl
    refine clV 50 rfl func74 rfl (impl_isClean.calls a0.To s66.w (mm [0] s66) w0_2 w0_3 ((Xc (s := s66) A0_2).sub (D := [0]) rfl) (A0_3.kp K69)) (fun r71 s72 p72 n72 => ?_)
    exact Xa rfl (Kj67 _ _ _ ⟨s72, _, rfl, (ue rfl rfl), (K69.st p72 rfl)⟩)
   refine sbT hb67 ?_
   rw [if_neg (by rw [hb67]; decide)]
   refine Xj rfl (Xj rfl (Xj rfl (Xa rfl ?_)))
   exact Kj67 _ _ _ ⟨s66, _, rfl, (ue rfl rfl), (Ky20.st p66 rfl)⟩
  rintro y67 _ _ ⟨s75, _, rfl, rfl, Ky67⟩
  exact Xa rfl (dn (re rfl func53 rfl (r_t rfl Xe) rfl ⟨_, rfl, rfl, z.ky Ky67⟩))
 refine sr (Xa rfl (Xa rfl (dn (cd rfl (fun h76 => ?_) (fun h76 => ?_)))))
 ·
  refine sr (Xl fa53_3 rfl (ld' By20_b5 u3 rfl (clV 51 rfl func62 rfl (impl_within.calls a0.N (0 : Int) (15 : Int) s22.w (mm [] s22)) (fun r77 s78 p78 n78 => ?_))))
  refine Xa rfl (dn ?_)
  exact re rfl func53 rfl (r_t rfl Xe) rfl ⟨_, rfl, rfl, z.ky (Ky20.st p78 rfl)⟩
 refine sr (Xa rfl (Xa rfl (dn (cd rfl (fun h80 => ?_) (fun h80 => ?_)))))
 ·
  exact sr (Xl fa53_3 rfl (ld' By20_b5 u3 rfl (Xa rfl (Xa rfl (dn (re rfl func53 rfl (r_t rfl Xe) rfl ⟨_, rfl, rfl, z.ky Ky20⟩))))))
 refine sr (Xa rfl (Xa rfl (dn (cd rfl (fun h81 => ?_) (fun h81 => ?_)))))
 ·
  refine sr (Xl fa53_7 rfl (ld' By20_b5 u47 rfl ?_))
  exact ln' ((z.rd h0_6).kp Ky20) u47 rfl (Xa rfl (Xa rfl (dn (re rfl func53 rfl (r_t rfl Xe) rfl ⟨_, rfl, rfl, z.ky Ky20⟩))))
 refine sk (ib (sr (Xl fa53_0 rfl (ld' By20_b5 u3 rfl (clV 52 rfl func62 rfl (impl_within.calls a0.Kind (1 : Int) (13 : Int) s22.w (mm [] s22)) (fun r83 s84 p84 n84 => ?_))))))
 refine Xa rfl (dn ?_)
 exact re rfl func53 rfl (r_t rfl Xe) rfl ⟨_, rfl, rfl, z.ky (Ky20.st p84 rfl)⟩
def impl_opNames.f  : Option ((List ByteArray)) :=
 (some ([(⟨#[]⟩ : ByteArray), (⟨#[98, 101, 103, 105, 110]⟩ : ByteArray), (⟨#[103, 101, 116]⟩ : ByteArray), (⟨#[112, 117, 116]⟩ : ByteArray), (⟨#[100, 101, 108, 101, 116, 101]⟩ : ByteArray), (⟨#[115, 99, 97, 110]⟩ : ByteArray), (⟨#[116, 111, 116, 97, 108]⟩ : ByteArray), (⟨#[99, 111, 109, 109, 105, 116]⟩ : ByteArray), (⟨#[97, 98, 111, 114, 116]⟩ : ByteArray), (⟨#[118, 97, 99, 117, 117, 109]⟩ : ByteArray), (⟨#[99, 104, 101, 99, 107, 112, 111, 105, 110, 116]⟩ : ByteArray), (⟨#[101, 118, 105, 99, 116]⟩ : ByteArray), (⟨#[102, 117, 115, 101]⟩ : ByteArray), (⟨#[99, 114, 97, 115, 104]⟩ : ByteArray)]))
def impl_opNames.Q (w : World) (F : Nat → Prop) (r : (List ByteArray)) (v : Value) (w' : World) : Prop :=
 FO (Kd.sl 9 Kd.str) w w' [v] r ∧ Ky [] w w'
theorem impl_opNames.calls  (w : World) (F : Nat → Prop)   (r : (List ByteArray)) (m : impl_opNames.f  = some r) :
  Calls prog 76 #[] w (RT (impl_opNames.Q w F) r) := by
 obtain ⟨s0, rfl, kp0, z⟩ := Xh w F
 refine Xb (args := []) func76 ntmps76 rfl rfl m ?_
 unfold impl_opNames.f
 refine sr (Xa rfl (dn (sr (ltF' (K := Kd.str) (cells := [(.string (⟨#[]⟩ : ByteArray)), (.string (⟨#[98, 101, 103, 105, 110]⟩ : ByteArray)), (.string (⟨#[103, 101, 116]⟩ : ByteArray)), (.string (⟨#[112, 117, 116]⟩ : ByteArray)), (.string (⟨#[100, 101, 108, 101, 116, 101]⟩ : ByteArray)), (.string (⟨#[115, 99, 97, 110]⟩ : ByteArray)), (.string (⟨#[116, 111, 116, 97, 108]⟩ : ByteArray)), (.string (⟨#[99, 111, 109, 109, 105, 116]⟩ : ByteArray)), (.string (⟨#[97, 98, 111, 114, 116]⟩ : ByteArray)), (.string (⟨#[118, 97, 99, 117, 117, 109]⟩ : ByteArray)), (.string (⟨#[99, 104, 101, 99, 107, 112, 111, 105, 110, 116]⟩ : ByteArray)), (.string (⟨#[101, 118, 105, 99, 116]⟩ : ByteArray)), (.string (⟨#[102, 117, 115, 101]⟩ : ByteArray)), (.string (⟨#[99, 114, 97, 115, 104]⟩ : ByteArray))]) [(⟨#[]⟩ : ByteArray), (⟨#[98, 101, 103, 105, 110]⟩ : ByteArray), (⟨#[103, 101, 116]⟩ : ByteArray), (⟨#[112, 117, 116]⟩ : ByteArray), (⟨#[100, 101, 108, 101, 116, 101]⟩ : ByteArray), (⟨#[115, 99, 97, 110]⟩ : ByteArray), (⟨#[116, 111, 116, 97, 108]⟩ : ByteArray), (⟨#[99, 111, 109, 109, 105, 116]⟩ : ByteArray), (⟨#[97, 98, 111, 114, 116]⟩ : ByteArray), (⟨#[118, 97, 99, 117, 117, 109]⟩ : ByteArray), (⟨#[99, 104, 101, 99, 107, 112, 111, 105, 110, 116]⟩ : ByteArray), (⟨#[101, 118, 105, 99, 116]⟩ : ByteArray), (⟨#[102, 117, 115, 101]⟩ : ByteArray), (⟨#[99, 114, 97, 115, 104]⟩ : ByteArray)] 40 fl_str u80 z9 o9 (fun w => (Xg _ _ _)) rfl (lfill_c rfl rfl rfl rfl rfl) (fun v1 s1 p1 A1 => ?_)))))
 refine Xn v1 rfl (dn ?_)
 have K3 := kp0.st p1 rfl
 exact re rfl func76 rfl (r_t rfl Xe) rfl ⟨_, rfl, A1.fo K3 rfl z.l, z.ky K3⟩
def impl_keepText.b0 (a0 : (List Bool)) (x6 : (List Int) × Int) : Option (((List Int) × Int) ⊕ ByteArray) :=
 (if (decide (x6.2 < (a0.length : Int))) = true then (if 0 ≤ x6.2 ∧ x6.2 < (a0.length : Int) then (if 0 ≤ x6.2 ∧ x6.2 < (x6.1.length : Int) then ((if (at_ a0 x6.2) = true then (if 0 ≤ x6.2 ∧ x6.2 < ((x6.1.set (x6.2).toNat (48 : Int)).length : Int) then (some ((x6.1.set (x6.2).toNat (48 : Int)).set (x6.2).toNat (49 : Int))) else none) else (some (x6.1.set (x6.2).toNat (48 : Int)))).bind fun y17 => (some (Sum.inl (y17, (IntKind.wrap .i64 (x6.2 + (1 : Int))))))) else none) else none) else ((some (str x6.1)).bind fun o => some (Sum.inr o)))
def impl_keepText.f (a0 : (List Bool)) : Option (ByteArray) :=
 (if 0 ≤ (a0.length : Int) ∧ (a0.length : Int) ≤ (Lim : Int) then (iter (impl_keepText.b0 a0) ((List.replicate ((a0.length : Int)).toNat (0 : Int)), (0 : Int))) else none)
def impl_keepText.Q (w : World) (F : Nat → Prop) (r : ByteArray) (v : Value) (w' : World) : Prop :=
 v = (.string r) ∧ Ky [] w w'
theorem impl_keepText.calls (a0 : (List Bool)) (w : World) (F : Nat → Prop) (w0_0 : Value) (h0_0 : (Kd.sl 4 Kd.bool).rd w [w0_0] a0 F) (r : ByteArray) (m : impl_keepText.f a0 = some r) :
  Calls prog 77 #[w0_0] w (RT (impl_keepText.Q w F) r) := by
 obtain ⟨s0, rfl, kp0, z⟩ := Xh w F
 have A0_0 := z.rd h0_0
 refine Xb (args := [w0_0]) func77 ntmps77 rfl rfl m ?_
 unfold impl_keepText.f
 refine sr (Xa rfl (dn (sr (Xo w0_0 rfl (ln' A0_0 u47 rfl (mk (x0 := (0 : Int)) (K := (Kd.int .u8)) 40 sl23 o5 (fun _ => ⟨rfl, rfl⟩) rfl rfl rfl rfl rfl rfl rfl (fun v2 s2 p2 A2 => ?_)))))))
 refine Xn v2 rfl (dn (sq (sr (Xo w0_0 rfl ?_))))
 have K4 := kp0.st p2 rfl
 refine ln' (A0_0.kp K4) u47 rfl (Xa rfl (dn (bl (lpI (fun (x6 : (List Int) × Int) e w => ∃ (s : St) (e0 : Env), w = s.w ∧ e = upd (upd (upd (upd e0 3 v2) 9 w0_0) 10 (iI (a0.length : Int))) 11 (iI x6.2) ∧ Kp s0 s ∧ OwF Xp s [v2] x6.1 40) ⟨s2, _, rfl, (ue (ue (ue (ue rfl rfl) rfl) rfl) rfl), K4, A2⟩ (fun g6 ih6 => ?_)))))
 rintro x6 _ _ ⟨s7, _, rfl, rfl, Kx6, Ax6_0⟩
 unfold impl_keepText.b0
 refine sr (Xa rfl (dn (sq (cd rfl (fun h9 => ?_) (fun h9 => ?_)))))
 ·
  refine sk (sq (bl (sr (Xa rfl ?_))))
  refine ix' (A0_0.kp Kx6) u47 z4 rfl (fun ad11 es11 h0_11 h1_11 he11 ce11 ia11 => ?_)
  obtain rfl := he11
  refine lc0 ce11 u4 rfl rfl rfl rfl rfl rfl rfl rfl (Xa rfl (Xa rfl (dn (sr (Xo v2 rfl (Xa rfl (ix' Ax6_0.rd u23 z5 rfl (fun ad13 es13 h0_13 h1_13 he13 ce13 ia13 => ?_))))))))
  obtain rfl := he13
  refine so (x' := (48 : Int)) Ax6_0 ia13 h0_13 h1_13 cs_flat z5 rfl rfl rfl rfl rfl rfl (fun s15 p15 A15 => ?_)
  refine dn (sr (Xa rfl (dn (jc (fun (y17 : (List Int)) e w => ∃ (s : St) (e0 : Env), w = s.w ∧ e = upd (upd (upd (upd e0 3 v2) 9 w0_0) 10 (iI (a0.length : Int))) 11 (iI x6.2) ∧ Kp s0 s ∧ OwF Xp s [v2] y17 40) (fun Gj17 Kj17 => ?_) ?_))))
  ·
   refine cd rfl (fun h18 => ?_) (fun h18 => ?_)
   ·
    refine rg (Xo v2 rfl (Xa rfl (ix' A15.rd u23 z5 rfl (fun ad19 es19 h0_19 h1_19 he19 ce19 ia19 => ?_))))
    obtain rfl := he19
    refine so (x' := (49 : Int)) A15 ia19 h0_19 h1_19 cs_flat z5 rfl rfl rfl rfl rfl rfl (fun s21 p21 A21 => ?_)
    exact dn (Kj17 _ _ _ ⟨s21, _, rfl, (ue (ue (ue (ue rfl rfl) rfl) rfl) rfl), (Kx6.st (tr2 p15 p21) rfl), A21⟩)
   exact sk (Kj17 _ _ _ ⟨s15, _, rfl, (ue (ue (ue (ue rfl rfl) rfl) rfl) rfl), (Kx6.st p15 rfl), A15⟩)
  rintro y17 _ _ ⟨s25, _, rfl, rfl, Ky17, Ay17_0⟩
  exact ib (rg (Xa rfl (Xa rfl (dn (lb ih6 ⟨s25, _, rfl, (ue (ue (ue (ue rfl rfl) rfl) rfl) rfl), Ky17, Ay17_0⟩)))))
 exact xt rfl (sgb (sr (Xo v2 rfl (b2s Ax6_0.rd u23 u9 u5 rfl rfl rfl rfl rfl rfl (Xa rfl (dn (re rfl func77 rfl (r_t rfl Xe) rfl ⟨_, rfl, rfl, z.ky Kx6⟩)))))))
def impl_opText.f (a0 : Op) : Option (ByteArray) :=
 ((impl_opNames.f).bind fun r13 => (if 0 ≤ a0.Kind ∧ a0.Kind < (r13.length : Int) then ((if (decide (a0.Kind ≤ (8 : Int))) = true then ((strconv_Itoa.f a0.Seat).bind fun r26 => (if ([(at_ r13 a0.Kind)]).length + ([r26]).length ≤ Lim then (some ([(at_ r13 a0.Kind)] ++ [r26])) else none)) else (some ([(at_ r13 a0.Kind)]))).bind fun y23 => ((if (a0.Kind == (1 : Int)) = true then ((strconv_Itoa.f a0.Level).bind fun r41 => (if y23.length + ([r41]).length ≤ Lim then (some (y23 ++ [r41])) else none)) else ((if (a0.Kind == (2 : Int)) = true then (some (a0.Kind == (2 : Int))) else (some (a0.Kind == (4 : Int)))).bind fun y49 => ((if y49 = true then ((impl_itemText.f a0.Key).bind fun r56 => (if y23.length + ([r56]).length ≤ Lim then (some (y23 ++ [r56])) else none)) else ((if (a0.Kind == (3 : Int)) = true then ((impl_itemText.f a0.Key).bind fun r79 => ((impl_itemText.f a0.Value).bind fun r86 => (if y23.length + ([r79, r86]).length ≤ Lim then (some (y23 ++ [r79, r86])) else none))) else ((if (a0.Kind == (5 : Int)) = true then ((impl_itemText.f a0.Key).bind fun r116 => ((impl_itemText.f a0.To).bind fun r124 => ((strconv_Itoa.f a0.N).bind fun r130 => (if y23.length + ([r116, r124, r130]).length ≤ Lim then (some (y23 ++ [r116, r124, r130])) else none)))) else ((if (a0.Kind == (6 : Int)) = true then ((impl_itemText.f a0.Key).bind fun r156 => ((impl_itemText.f a0.To).bind fun r163 => (if y23.length + ([r156, r163]).length ≤ Lim then (some (y23 ++ [r156, r163])) else none))) else ((if (a0.Kind == (11 : Int)) = true then (some (a0.Kind == (11 : Int))) else (some (a0.Kind == (12 : Int)))).bind fun y174 => ((if y174 = true then ((strconv_Itoa.f a0.N).bind fun r180 => (if y23.length + ([r180]).length ≤ Lim then (some (y23 ++ [r180])) else none)) else ((if (a0.Kind == (13 : Int)) = true then ((if (decide ((a0.Keep.length : Int) > (0 : Int))) = true then ((impl_keepText.f a0.Keep).bind fun r193 => (if y23.length + ([r193]).length ≤ Lim then (some (y23 ++ [r193])) else none)) else (some y23)).bind fun y191 => (some y191)) else (some y23)).bind fun y188 => (some y188))).bind fun y178 => (some y178)))).bind fun y141 => (some y141))).bind fun y97 => (some y97))).bind fun y64 => (some y64))).bind fun y53 => (some y53)))).bind fun y39 => ((strings_Join.f y39 (⟨#[32]⟩ : ByteArray)).bind fun r217 => (some r217)))) else none))
def impl_opText.Q (w : World) (F : Nat → Prop) (r : ByteArray) (v : Value) (w' : World) : Prop :=
 v = (.string r) ∧ Ky [] w w'
theorem impl_opText.calls (a0 : Op) (w : World) (F : Nat → Prop) (w0_0 : Value) (w0_1 : Value) (w0_2 : Value) (w0_3 : Value) (w0_4 : Value) (w0_5 : Value) (w0_6 : Value) (hG : GT.rd w [] () F) (h0_0 : Kd.flt.rd w [w0_0] a0.Key.F F) (h0_1 : Xp.rd w [w0_1] a0.Key.T F) (h0_2 : Kd.flt.rd w [w0_2] a0.To.F F) (h0_3 : Xp.rd w [w0_3] a0.To.T F) (h0_4 : Kd.flt.rd w [w0_4] a0.Value.F F) (h0_5 : Xp.rd w [w0_5] a0.Value.T F) (h0_6 : (Kd.sl 4 Kd.bool).rd w [w0_6] a0.Keep F) (r : ByteArray) (m : impl_opText.f a0 = some r) :
  Calls prog 54 #[(.agg #[(iI a0.Kind), (iI a0.Seat), (iI a0.Level), (iI a0.N), (iI a0.Key.Kind), (iI a0.Key.N), w0_0, w0_1, (iI a0.To.Kind), (iI a0.To.N), w0_2, w0_3, (iI a0.Value.Kind), (iI a0.Value.N), w0_4, w0_5, w0_6])] w (RT (impl_opText.Q w F) r) := by
 obtain ⟨s0, rfl, kp0, z⟩ := Xh w F
 have A0_0 := Xm h0_0
 have A0_1 := z.rd h0_1
 have A0_2 := Xm h0_2
 have A0_3 := z.rd h0_3
 have AG := z.rd hG
 refine Xb (args := [(.agg #[(iI a0.Kind), (iI a0.Seat), (iI a0.Level), (iI a0.N), (iI a0.Key.Kind), (iI a0.Key.N), w0_0, w0_1, (iI a0.To.Kind), (iI a0.To.N), w0_2, w0_3, (iI a0.Value.Kind), (iI a0.Value.N), w0_4, w0_5, w0_6])]) func54 ntmps54 rfl rfl m ?_
 unfold impl_opText.f
 refine sr (bx' (cs := [(iI a0.Kind), (iI a0.Seat), (iI a0.Level), (iI a0.N), (iI a0.Key.Kind), (iI a0.Key.N), w0_0, w0_1, (iI a0.To.Kind), (iI a0.To.N), w0_2, w0_3, (iI a0.Value.Kind), (iI a0.Value.N), w0_4, w0_5, w0_6]) 40 rfl (fun b5 s5 p5 B5 => ?_))
 refine Xa rfl (dn (sq (zdraw [[], [], [1], [0, 2], [3], [4], [5, 0, 0, 1, 2, 3, 4, 5]] [some 4, some 5, some 6, some 7, some 8, some 9, some 3] [[], [1], [5], [4, 6], [7], [8], [9]] [0, 1, 2, 3, 4, 5, 6] ⟨by kernel_rfl, by kernel_rfl, by kernel_rfl⟩ (by kernel_rfl) (fun s7 p7 l7 tb7 zd7 => ?_))))
 refine zstep 0 [some 6, some 5] tb7 ((zd7.add 1 5 (pB b5) rfl).add 2 6 (iI a0.Kind) rfl) (Xf (ld_q (B5.st p7 rfl) u3 rfl rfl rfl rfl rfl rfl rfl rfl) rfl (Xf (fa_q fa53_0 rfl rfl rfl rfl rfl rfl) rfl pq_nil)) (by kernel_rfl) rfl (fun l11 e11 zd11 => ?_)
 refine clO 41 rfl func76 rfl (impl_opNames.calls  s7.w (mm [] s7)) (fun r13 v13_0 s14 p14 A13_0 => ?_)
 refine zdone (L' := [2, 1]) (D' := [0]) zd11 rfl rfl rfl (fun zd16 => ?_)
 refine zfin [3, 4, 5, 6] tb7 zd16 (Xf (ld_q (B5.st (tr2 p7 p14) rfl) u3 rfl rfl rfl rfl rfl rfl rfl rfl) rfl (Xf (fa_q fa53_0 rfl rfl rfl rfl rfl rfl) rfl pq_nil)) (by kernel_rfl) (by decide) (ix' A13_0.rd u80 z9 rfl (fun ad18 es18 h0_18 h1_18 he18 ce18 ia18 => ?_))
 obtain rfl := he18
 refine lc0 ce18 u9 rfl rfl rfl rfl rfl rfl rfl rfl (ltF' (K := Kd.str) (cells := [(.string (at_ r13 a0.Kind))]) [(at_ r13 a0.Kind)] 42 fl_str u80 z9 o9 (fun w => (Xg _ _ _)) rfl rfl (fun v20 s20 p20 A20 => ?_))
 refine Xn v20 rfl (dn (sq (sr (Xl fa53_0 rfl ?_))))
 have A22 := B5.st (tr3 p7 p14 p20) rfl
 refine ld' A22 u3 rfl (Xa rfl (dn (jc (fun (y23 : (List ByteArray)) e w => ∃ (s : St) (e0 : Env) (vy23_0 : Value), w = s.w ∧ e = upd (upd e0 1 (pB b5)) 3 vy23_0 ∧ Kp s0 s ∧ OwF (Kd.sl 9 Kd.str) s [vy23_0] y23 42 ∧ BlF s b5 53 [(iI a0.Kind), (iI a0.Seat), (iI a0.Level), (iI a0.N), (iI a0.Key.Kind), (iI a0.Key.N), w0_0, w0_1, (iI a0.To.Kind), (iI a0.To.N), w0_2, w0_3, (iI a0.Value.Kind), (iI a0.Value.N), w0_4, w0_5, w0_6] 40) (fun Gj23 Kj23 => ?_) ?_)))
 ·
  refine cd rfl (fun h24 => ?_) (fun h24 => ?_)
  ·
   refine rg (Xo v20 rfl (Xl fa53_1 rfl (ld' A22 u3 rfl ?_)))
   have K25 := kp0.st (tr4 p5 p7 p14 p20) rfl
   refine clV 43 rfl func64 rfl (strconv_Itoa.calls a0.Seat s20.w (mm [0] s20) (AG.kp K25)) (fun r26 s27 p27 n27 => ?_)
   refine ltF' (K := Kd.str) (cells := [(.string r26)]) [r26] 44 fl_str u80 z9 o9 (fun w => (Xg _ _ _)) rfl rfl (fun v28 s28 p28 A28 => ?_)
   refine apF' fl_str sl80 (A20.st (tr2 p27 p28) rfl) A28.rd rfl (fun v31 s31 p31 A31 => ?_)
   refine Xn v31 rfl (dn ?_)
   exact Kj23 _ _ _ ⟨s31, _, v31, rfl, (ue (ue rfl rfl) rfl), (K25.st (tr3 p27 p28 p31) rfl), A31, (A22.st (tr3 p27 p28 p31) rfl)⟩
  exact sk (Kj23 _ _ _ ⟨s20, _, v20, rfl, (ue (ue rfl rfl) rfl), (kp0.st (tr4 p5 p7 p14 p20) rfl), A20, A22⟩)
 rintro y23 _ _ ⟨s36, _, vy23_0, rfl, rfl, Ky23, Ay23_0, By23_b5⟩
 refine sq (sr (Xl fa53_0 rfl (ld' By23_b5 u3 rfl (dn (bl (sr (Xa rfl (Xa rfl (dn (jc (fun (y39 : (List ByteArray)) e w => ∃ (s : St) (e0 : Env) (vy39_0 : Value), w = s.w ∧ e = upd e0 3 vy39_0 ∧ Kp s0 s ∧ OwF (Kd.sl 9 Kd.str) s [vy39_0] y39 42) (fun Gj39 Kj39 => ?_) ?_))))))))))
 ·
  refine cd rfl (fun h40 => ?_) (fun h40 => ?_)
  ·
   refine rg (Xo vy23_0 rfl (Xl fa53_2 rfl (ld' By23_b5 u3 rfl (clV 45 rfl func64 rfl (strconv_Itoa.calls a0.Level s36.w (mm [0] s36) (AG.kp Ky23)) (fun r41 s42 p42 n42 => ?_)))))
   refine ltF' (K := Kd.str) (cells := [(.string r41)]) [r41] 46 fl_str u80 z9 o9 (fun w => (Xg _ _ _)) rfl rfl (fun v43 s43 p43 A43 => ?_)
   refine apF' fl_str sl80 (Ay23_0.st (tr2 p42 p43) rfl) A43.rd rfl (fun v46 s46 p46 A46 => ?_)
   refine Xn v46 rfl (dn ?_)
   exact Kj39 _ _ _ ⟨s46, _, v46, rfl, (ue rfl rfl), (Ky23.st (tr3 p42 p43 p46) rfl), A46⟩
  refine sq (sr (Xa rfl (Xa rfl (dn (jc (fun (y49 : Bool) e w => ∃ (s : St) (e0 : Env), w = s.w ∧ e = upd (upd (upd (upd e0 1 (pB b5)) 3 vy23_0) 20 (iI a0.Kind)) 29 (.bool y49) ∧ Kp s0 s ∧ BlF s b5 53 [(iI a0.Kind), (iI a0.Seat), (iI a0.Level), (iI a0.N), (iI a0.Key.Kind), (iI a0.Key.N), w0_0, w0_1, (iI a0.To.Kind), (iI a0.To.N), w0_2, w0_3, (iI a0.Value.Kind), (iI a0.Value.N), w0_4, w0_5, w0_6] 40 ∧ OwF (Kd.sl 9 Kd.str) s [vy23_0] y23 42) (fun Gj49 Kj49 => ?_) ?_)))))
  ·
   refine cd rfl (fun h50 => ?_) (fun h50 => ?_)
   ·
    exact sk (Kj49 _ _ _ ⟨s36, _, rfl, (ue (ue (ue (ue rfl rfl) rfl) rfl) rfl), Ky23, By23_b5, Ay23_0⟩)
   exact rg (Xa rfl (Xa rfl (dn (Kj49 _ _ _ ⟨s36, _, rfl, (ue (ue (ue (ue rfl rfl) rfl) rfl) rfl), Ky23, By23_b5, Ay23_0⟩))))
  rintro y49 _ _ ⟨s51, _, rfl, rfl, Ky49, By49_b5, Cy49_37⟩
  refine jc (fun (y53 : (List ByteArray)) e w => ∃ (s : St) (e0 : Env) (vy53_0 : Value), w = s.w ∧ e = upd e0 3 vy53_0 ∧ Kp s0 s ∧ OwF (Kd.sl 9 Kd.str) s [vy53_0] y53 42) (fun Gj53 Kj53 => ?_) ?_
  ·
   refine cd rfl (fun h54 => ?_) (fun h54 => ?_)
   ·
    refine rg (Xo vy23_0 rfl (Xl fa53_4 rfl (lda' (es := [(iI a0.Key.Kind), (iI a0.Key.N), w0_0, w0_1]) By49_b5 u28 z28 rfl ?_)))
    refine clV 47 rfl func39 rfl (impl_itemText.calls a0.Key s51.w (mm [0] s51) w0_0 w0_1 (AG.kp Ky49) ((Xc (s := s51) A0_0).sub (D := [0]) rfl) (A0_1.kp Ky49)) (fun r56 s57 p57 n57 => ?_)
    refine ltF' (K := Kd.str) (cells := [(.string r56)]) [r56] 48 fl_str u80 z9 o9 (fun w => (Xg _ _ _)) rfl rfl (fun v58 s58 p58 A58 => ?_)
    refine apF' fl_str sl80 (Cy49_37.st (tr2 p57 p58) rfl) A58.rd rfl (fun v61 s61 p61 A61 => ?_)
    refine Xn v61 rfl (dn ?_)
    exact Kj53 _ _ _ ⟨s61, _, v61, rfl, (ue rfl rfl), (Ky49.st (tr3 p57 p58 p61) rfl), A61⟩
   refine sr (Xa rfl (Xa rfl (dn (jc (fun (y64 : (List ByteArray)) e w => ∃ (s : St) (e0 : Env) (vy64_0 : Value), w = s.w ∧ e = upd e0 3 vy64_0 ∧ Kp s0 s ∧ OwF (Kd.sl 9 Kd.str) s [vy64_0] y64 42) (fun Gj64 Kj64 => ?_) ?_))))
   ·
    refine cd rfl (fun h65 => ?_) (fun h65 => ?_)
    ·
     refine zdraw [[], [], [1], [2], [], [4], [5, 3], [3, 6], [0, 7, 6], [8, 8, 0, 1, 2, 3, 4, 5, 6, 7, 8]] [some 40, some 41, some 42, some 43, some 44, some 45, some 46, some 47, some 48, some 3] [[3], [1], [41], [42], [1], [44], [45], [43, 46], [40, 47], [48]] [0, 1, 2, 3, 4, 5, 6, 7, 8, 9] ⟨by kernel_rfl, by kernel_rfl, by kernel_rfl⟩ (by kernel_rfl) (fun s66 p66 l66 tb66 zd66 => ?_)
     refine zstep 3 [some 45, some 44, some 40] tb66 (((((zd66.add 0 40 vy23_0 rfl).add 1 41 (pO b5 4) rfl).add 2 42 (.agg #[(iI a0.Key.Kind), (iI a0.Key.N), w0_0, w0_1]) rfl).add 4 44 (pO b5 12) rfl).add 5 45 (.agg #[(iI a0.Value.Kind), (iI a0.Value.N), w0_4, w0_5]) rfl) (Xf (lda_q (es := [(iI a0.Value.Kind), (iI a0.Value.N), w0_4, w0_5]) (By49_b5.st p66 rfl) u28 z28 rfl rfl rfl rfl rfl rfl rfl rfl) rfl (Xf (fa_q fa53_6 rfl rfl rfl rfl rfl rfl) rfl (Xf (lda_q (es := [(iI a0.Key.Kind), (iI a0.Key.N), w0_0, w0_1]) (By49_b5.st p66 rfl) u28 z28 rfl rfl rfl rfl rfl rfl rfl rfl) rfl (Xf (fa_q fa53_4 rfl rfl rfl rfl rfl rfl) rfl (Xf (mv_q vy23_0 rfl rfl rfl rfl rfl rfl) rfl pq_nil))))) (by kernel_rfl) rfl (fun l74 e74 zd74 => ?_)
     have K77 := Ky49.st p66 rfl
     refine clV 49 rfl func39 rfl (impl_itemText.calls a0.Key s66.w (mm [0] s66) w0_0 w0_1 (AG.kp K77) ((Xc (s := s66) A0_0).sub (D := [0]) rfl) (A0_1.kp K77)) (fun r79 s80 p80 n80 => ?_)
     refine zdone (L' := [5, 4, 0]) (D' := [1, 2, 3]) zd74 rfl rfl rfl (fun zd81 => ?_)
     refine zstep 6 [some 40] tb66 zd81 (Xf (lda_q (es := [(iI a0.Value.Kind), (iI a0.Value.N), w0_4, w0_5]) (By49_b5.st (tr2 p66 p80) rfl) u28 z28 rfl rfl rfl rfl rfl rfl rfl rfl) rfl (Xf (fa_q fa53_6 rfl rfl rfl rfl rfl rfl) rfl (Xf (mv_q vy23_0 rfl rfl rfl rfl rfl rfl) rfl pq_nil))) (by kernel_rfl) rfl (fun l82 e82 zd82 => ?_)
     have K84 := K77.st p80 rfl
     refine clV 50 rfl func39 rfl (impl_itemText.calls a0.Value s80.w (mm [0] s80) w0_4 w0_5 (AG.kp K84) ((Xc (s := s80) (Xm h0_4)).sub (D := [0]) rfl) ((z.rd h0_5).kp K84)) (fun r86 s87 p87 n87 => ?_)
     refine zdone (L' := [0]) (D' := [4, 5, 6, 1, 2, 3]) zd82 rfl rfl rfl (fun zd88 => ?_)
     refine zstep 7 [some 40] tb66 zd88 (Xf (mv_q vy23_0 rfl rfl rfl rfl rfl rfl) rfl pq_nil) (by kernel_rfl) rfl (fun l89 e89 zd89 => ?_)
     refine ltF' (K := Kd.str) (cells := [(.string r79), (.string r86)]) [r79, r86] 51 fl_str u80 z9 o9 (fun w => (Xg _ _ _)) rfl rfl (fun v90 s90 p90 A90 => ?_)
     refine zdone (L' := [0]) (D' := [7, 4, 5, 6, 1, 2, 3]) zd89 rfl rfl rfl (fun zd92 => ?_)
     refine zfin [8, 9] tb66 zd92 (Xf (mv_q vy23_0 rfl rfl rfl rfl rfl rfl) rfl pq_nil) (by kernel_rfl) (by decide) (apF' fl_str sl80 (Cy49_37.st (tr4 p66 p80 p87 p90) rfl) A90.rd rfl (fun v94 s94 p94 A94 => ?_))
     refine Xn v94 rfl (dn ?_)
     exact Kj64 _ _ _ ⟨s94, _, v94, rfl, (ue rfl rfl), (K84.st (tr3 p87 p90 p94) rfl), A94⟩
    refine sr (Xa rfl (Xa rfl (dn (jc (fun (y97 : (List ByteArray)) e w => ∃ (s : St) (e0 : Env) (vy97_0 : Value), w = s.w ∧ e = upd e0 3 vy97_0 ∧ Kp s0 s ∧ OwF (Kd.sl 9 Kd.str) s [vy97_0] y97 42) (fun Gj97 Kj97 => ?_) ?_))))
    ·
     refine cd rfl (fun h98 => ?_) (fun h98 => ?_)
     ·
      refine zdraw [[], [], [1], [2], [], [4], [5, 3], [], [7], [8, 6], [3, 6, 9], [0, 10, 9], [11, 11, 0, 1, 2, 3, 4, 5, 6, 7, 8, 9, 10, 11]] [some 51, some 52, some 53, some 54, some 55, some 56, some 57, some 58, some 59, some 60, some 61, some 62, some 3] [[3], [1], [52], [53], [1], [55], [56], [1], [58], [59], [54, 57, 60], [51, 61], [62]] [0, 1, 2, 3, 4, 5, 6, 7, 8, 9, 10, 11, 12] ⟨by kernel_rfl, by kernel_rfl, by kernel_rfl⟩ (by kernel_rfl) (fun s99 p99 l99 tb99 zd99 => ?_)
      refine zstep 3 [some 59, some 58, some 56, some 55, some 51] tb99 (((((((zd99.add 0 51 vy23_0 rfl).add 1 52 (pO b5 4) rfl).add 2 53 (.agg #[(iI a0.Key.Kind), (iI a0.Key.N), w0_0, w0_1]) rfl).add 4 55 (pO b5 8) rfl).add 5 56 (.agg #[(iI a0.To.Kind), (iI a0.To.N), w0_2, w0_3]) rfl).add 7 58 (pO b5 3) rfl).add 8 59 (iI a0.N) rfl) (Xf (ld_q (By49_b5.st p99 rfl) u3 rfl rfl rfl rfl rfl rfl rfl rfl) rfl (Xf (fa_q fa53_3 rfl rfl rfl rfl rfl rfl) rfl (Xf (lda_q (es := [(iI a0.To.Kind), (iI a0.To.N), w0_2, w0_3]) (By49_b5.st p99 rfl) u28 z28 rfl rfl rfl rfl rfl rfl rfl rfl) rfl (Xf (fa_q fa53_5 rfl rfl rfl rfl rfl rfl) rfl (Xf (lda_q (es := [(iI a0.Key.Kind), (iI a0.Key.N), w0_0, w0_1]) (By49_b5.st p99 rfl) u28 z28 rfl rfl rfl rfl rfl rfl rfl rfl) rfl (Xf (fa_q fa53_4 rfl rfl rfl rfl rfl rfl) rfl (Xf (mv_q vy23_0 rfl rfl rfl rfl rfl rfl) rfl pq_nil))))))) (by kernel_rfl) rfl (fun l110 e110 zd110 => ?_)
      have K114 := Ky49.st p99 rfl
      refine clV 52 rfl func39 rfl (impl_itemText.calls a0.Key s99.w (mm [0] s99) w0_0 w0_1 (AG.kp K114) ((Xc (s := s99) A0_0).sub (D := [0]) rfl) (A0_1.kp K114)) (fun r116 s117 p117 n117 => ?_)
      refine zdone (L' := [8, 7, 5, 4, 0]) (D' := [1, 2, 3]) zd110 rfl rfl rfl (fun zd118 => ?_)
      refine zstep 6 [some 59, some 58, some 51] tb99 zd118 (Xf (ld_q (By49_b5.st (tr2 p99 p117) rfl) u3 rfl rfl rfl rfl rfl rfl rfl rfl) rfl (Xf (fa_q fa53_3 rfl rfl rfl rfl rfl rfl) rfl (Xf (lda_q (es := [(iI a0.To.Kind), (iI a0.To.N), w0_2, w0_3]) (By49_b5.st (tr2 p99 p117) rfl) u28 z28 rfl rfl rfl rfl rfl rfl rfl rfl) rfl (Xf (fa_q fa53_5 rfl rfl rfl rfl rfl rfl) rfl (Xf (mv_q vy23_0 rfl rfl rfl rfl rfl rfl) rfl pq_nil))))) (by kernel_rfl) rfl (fun l119 e119 zd119 => ?_)
      have K122 := K114.st p117 rfl
      refine clV 53 rfl func39 rfl (impl_itemText.calls a0.To s117.w (mm [0] s117) w0_2 w0_3 (AG.kp K122) ((Xc (s := s117) A0_2).sub (D := [0]) rfl) (A0_3.kp K122)) (fun r124 s125 p125 n125 => ?_)
      refine zdone (L' := [8, 7, 0]) (D' := [4, 5, 6, 1, 2, 3]) zd119 rfl rfl rfl (fun zd126 => ?_)
      refine zstep 9 [some 51] tb99 zd126 (Xf (ld_q (By49_b5.st (tr3 p99 p117 p125) rfl) u3 rfl rfl rfl rfl rfl rfl rfl rfl) rfl (Xf (fa_q fa53_3 rfl rfl rfl rfl rfl rfl) rfl (Xf (mv_q vy23_0 rfl rfl rfl rfl rfl rfl) rfl pq_nil))) (by kernel_rfl) rfl (fun l127 e127 zd127 => ?_)
      have K129 := K122.st p125 rfl
      refine clV 54 rfl func64 rfl (strconv_Itoa.calls a0.N s125.w (mm [0] s125) (AG.kp K129)) (fun r130 s131 p131 n131 => ?_)
      refine zdone (L' := [0]) (D' := [7, 8, 9, 4, 5, 6, 1, 2, 3]) zd127 rfl rfl rfl (fun zd132 => ?_)
      refine zstep 10 [some 51] tb99 zd132 (Xf (mv_q vy23_0 rfl rfl rfl rfl rfl rfl) rfl pq_nil) (by kernel_rfl) rfl (fun l133 e133 zd133 => ?_)
      refine ltF' (K := Kd.str) (cells := [(.string r116), (.string r124), (.string r130)]) [r116, r124, r130] 55 fl_str u80 z9 o9 (fun w => (Xg _ _ _)) rfl rfl (fun v134 s134 p134 A134 => ?_)
      refine zdone (L' := [0]) (D' := [10, 7, 8, 9, 4, 5, 6, 1, 2, 3]) zd133 rfl rfl rfl (fun zd136 => ?_)
      refine zfin [11, 12] tb99 zd136 (Xf (mv_q vy23_0 rfl rfl rfl rfl rfl rfl) rfl pq_nil) (by kernel_rfl) (by decide) (apF' fl_str sl80 (Cy49_37.st (tr5 p99 p117 p125 p131 p134) rfl) A134.rd rfl (fun v138 s138 p138 A138 => ?_))
      refine Xn v138 rfl (dn ?_)
      exact Kj97 _ _ _ ⟨s138, _, v138, rfl, (ue rfl rfl), (K129.st (tr3 p131 p134 p138) rfl), A138⟩
     refine sr (Xa rfl (Xa rfl (dn (jc (fun (y141 : (List ByteArray)) e w => ∃ (s : St) (e0 : Env) (vy141_0 : Value), w = s.w ∧ e = upd e0 3 vy141_0 ∧ Kp s0 s ∧ OwF (Kd.sl 9 Kd.str) s [vy141_0] y141 42) (fun Gj141 Kj141 => ?_) ?_))))
     ·
      refine cd rfl (fun h142 => ?_) (fun h142 => ?_)
      ·
       refine zdraw [[], [], [1], [2], [], [4], [5, 3], [3, 6], [0, 7, 6], [8, 8, 0, 1, 2, 3, 4, 5, 6, 7, 8]] [some 65, some 66, some 67, some 68, some 69, some 70, some 71, some 72, some 73, some 3] [[3], [1], [66], [67], [1], [69], [70], [68, 71], [65, 72], [73]] [0, 1, 2, 3, 4, 5, 6, 7, 8, 9] ⟨by kernel_rfl, by kernel_rfl, by kernel_rfl⟩ (by kernel_rfl) (fun s143 p143 l143 tb143 zd143 => ?_)
       refine zstep 3 [some 70, some 69, some 65] tb143 (((((zd143.add 0 65 vy23_0 rfl).add 1 66 (pO b5 4) rfl).add 2 67 (.agg #[(iI a0.Key.Kind), (iI a0.Key.N), w0_0, w0_1]) rfl).add 4 69 (pO b5 8) rfl).add 5 70 (.agg #[(iI a0.To.Kind), (iI a0.To.N), w0_2, w0_3]) rfl) (Xf (lda_q (es := [(iI a0.To.Kind), (iI a0.To.N), w0_2, w0_3]) (By49_b5.st p143 rfl) u28 z28 rfl rfl rfl rfl rfl rfl rfl rfl) rfl (Xf (fa_q fa53_5 rfl rfl rfl rfl rfl rfl) rfl (Xf (lda_q (es := [(iI a0.Key.Kind), (iI a0.Key.N), w0_0, w0_1]) (By49_b5.st p143 rfl) u28 z28 rfl rfl rfl rfl rfl rfl rfl rfl) rfl (Xf (fa_q fa53_4 rfl rfl rfl rfl rfl rfl) rfl (Xf (mv_q vy23_0 rfl rfl rfl rfl rfl rfl) rfl pq_nil))))) (by kernel_rfl) rfl (fun l151 e151 zd151 => ?_)
       have K154 := Ky49.st p143 rfl
       refine clV 56 rfl func39 rfl (impl_itemText.calls a0.Key s143.w (mm [0] s143) w0_0 w0_1 (AG.kp K154) ((Xc (s := s143) A0_0).sub (D := [0]) rfl) (A0_1.kp K154)) (fun r156 s157 p157 n157 => ?_)
       refine zdone (L' := [5, 4, 0]) (D' := [1, 2, 3]) zd151 rfl rfl rfl (fun zd158 => ?_)
       refine zstep 6 [some 65] tb143 zd158 (Xf (lda_q (es := [(iI a0.To.Kind), (iI a0.To.N), w0_2, w0_3]) (By49_b5.st (tr2 p143 p157) rfl) u28 z28 rfl rfl rfl rfl rfl rfl rfl rfl) rfl (Xf (fa_q fa53_5 rfl rfl rfl rfl rfl rfl) rfl (Xf (mv_q vy23_0 rfl rfl rfl rfl rfl rfl) rfl pq_nil))) (by kernel_rfl) rfl (fun l159 e159 zd159 => ?_)
       have K161 := K154.st p157 rfl
       refine clV 57 rfl func39 rfl (impl_itemText.calls a0.To s157.w (mm [0] s157) w0_2 w0_3 (AG.kp K161) ((Xc (s := s157) A0_2).sub (D := [0]) rfl) (A0_3.kp K161)) (fun r163 s164 p164 n164 => ?_)
       refine zdone (L' := [0]) (D' := [4, 5, 6, 1, 2, 3]) zd159 rfl rfl rfl (fun zd165 => ?_)
       refine zstep 7 [some 65] tb143 zd165 (Xf (mv_q vy23_0 rfl rfl rfl rfl rfl rfl) rfl pq_nil) (by kernel_rfl) rfl (fun l166 e166 zd166 => ?_)
       refine ltF' (K := Kd.str) (cells := [(.string r156), (.string r163)]) [r156, r163] 58 fl_str u80 z9 o9 (fun w => (Xg _ _ _)) rfl rfl (fun v167 s167 p167 A167 => ?_)
       refine zdone (L' := [0]) (D' := [7, 4, 5, 6, 1, 2, 3]) zd166 rfl rfl rfl (fun zd169 => ?_)
       refine zfin [8, 9] tb143 zd169 (Xf (mv_q vy23_0 rfl rfl rfl rfl rfl rfl) rfl pq_nil) (by kernel_rfl) (by decide) (apF' fl_str sl80 (Cy49_37.st (tr4 p143 p157 p164 p167) rfl) A167.rd rfl (fun v171 s171 p171 A171 => ?_))
       refine Xn v171 rfl (dn ?_)
       exact Kj141 _ _ _ ⟨s171, _, v171, rfl, (ue rfl rfl), (K161.st (tr3 p164 p167 p171) rfl), A171⟩
      refine sq (sr (Xa rfl (Xa rfl (dn (jc (fun (y174 : Bool) e w => ∃ (s : St) (e0 : Env), w = s.w ∧ e = upd (upd (upd (upd e0 1 (pB b5)) 3 vy23_0) 20 (iI a0.Kind)) 74 (.bool y174) ∧ Kp s0 s ∧ BlF s b5 53 [(iI a0.Kind), (iI a0.Seat), (iI a0.Level), (iI a0.N), (iI a0.Key.Kind), (iI a0.Key.N), w0_0, w0_1, (iI a0.To.Kind), (iI a0.To.N), w0_2, w0_3, (iI a0.Value.Kind), (iI a0.Value.N), w0_4, w0_5, w0_6] 40 ∧ OwF (Kd.sl 9 Kd.str) s [vy23_0] y23 42) (fun Gj174 Kj174 => ?_) ?_)))))
      ·
       refine cd rfl (fun h175 => ?_) (fun h175 => ?_)
       ·
        exact sk (Kj174 _ _ _ ⟨s51, _, rfl, (ue (ue (ue (ue rfl rfl) rfl) rfl) rfl), Ky49, By49_b5, Cy49_37⟩)
       exact rg (Xa rfl (Xa rfl (dn (Kj174 _ _ _ ⟨s51, _, rfl, (ue (ue (ue (ue rfl rfl) rfl) rfl) rfl), Ky49, By49_b5, Cy49_37⟩))))
      rintro y174 _ _ ⟨s176, _, rfl, rfl, Ky174, By174_b5, Cy174_37⟩
      refine jc (fun (y178 : (List ByteArray)) e w => ∃ (s : St) (e0 : Env) (vy178_0 : Value), w = s.w ∧ e = upd e0 3 vy178_0 ∧ Kp s0 s ∧ OwF (Kd.sl 9 Kd.str) s [vy178_0] y178 42) (fun Gj178 Kj178 => ?_) ?_
      ·
       refine cd rfl (fun h179 => ?_) (fun h179 => ?_)
       ·
        refine rg (Xo vy23_0 rfl (Xl fa53_3 rfl (ld' By174_b5 u3 rfl (clV 59 rfl func64 rfl (strconv_Itoa.calls a0.N s176.w (mm [0] s176) (AG.kp Ky174)) (fun r180 s181 p181 n181 => ?_)))))
        refine ltF' (K := Kd.str) (cells := [(.string r180)]) [r180] 60 fl_str u80 z9 o9 (fun w => (Xg _ _ _)) rfl rfl (fun v182 s182 p182 A182 => ?_)
        refine apF' fl_str sl80 (Cy174_37.st (tr2 p181 p182) rfl) A182.rd rfl (fun v185 s185 p185 A185 => ?_)
        refine Xn v185 rfl (dn ?_)
        exact Kj178 _ _ _ ⟨s185, _, v185, rfl, (ue rfl rfl), (Ky174.st (tr3 p181 p182 p185) rfl), A185⟩
       refine sr (Xa rfl (Xa rfl (dn (jc (fun (y188 : (List ByteArray)) e w => ∃ (s : St) (e0 : Env) (vy188_0 : Value), w = s.w ∧ e = upd e0 3 vy188_0 ∧ Kp s0 s ∧ OwF (Kd.sl 9 Kd.str) s [vy188_0] y188 42) (fun Gj188 Kj188 => ?_) ?_))))
       ·
        refine cd rfl (fun h189 => ?_) (fun h189 => ?_)
        ·
         refine sr (Xl fa53_7 rfl (ld' By174_b5 u47 rfl ?_))
         have A190 := (z.rd h0_6).kp Ky174
         refine ln' A190 u47 rfl (Xa rfl (dn (jc (fun (y191 : (List ByteArray)) e w => ∃ (s : St) (e0 : Env) (vy191_0 : Value), w = s.w ∧ e = upd e0 3 vy191_0 ∧ Kp s0 s ∧ OwF (Kd.sl 9 Kd.str) s [vy191_0] y191 42) (fun Gj191 Kj191 => ?_) ?_)))
         ·
          refine cd rfl (fun h192 => ?_) (fun h192 => ?_)
          ·
           refine rg (Xo vy23_0 rfl (Xl fa53_7 rfl (ld' By174_b5 u47 rfl (clV 61 rfl func77 rfl (impl_keepText.calls a0.Keep s176.w (mm [0] s176) w0_6 A190) (fun r193 s194 p194 n194 => ?_)))))
           refine ltF' (K := Kd.str) (cells := [(.string r193)]) [r193] 62 fl_str u80 z9 o9 (fun w => (Xg _ _ _)) rfl rfl (fun v195 s195 p195 A195 => ?_)
           refine apF' fl_str sl80 (Cy174_37.st (tr2 p194 p195) rfl) A195.rd rfl (fun v198 s198 p198 A198 => ?_)
           refine Xn v198 rfl (dn ?_)
           exact Kj191 _ _ _ ⟨s198, _, v198, rfl, (ue rfl rfl), (Ky174.st (tr3 p194 p195 p198) rfl), A198⟩
          exact sk (Kj191 _ _ _ ⟨s176, _, vy23_0, rfl, (ue rfl rfl), Ky174, Cy174_37⟩)
         rintro y191 _ _ ⟨s201, _, vy191_0, rfl, rfl, Ky191, Ay191_0⟩
         exact Kj188 _ _ _ ⟨s201, _, vy191_0, rfl, (ue rfl rfl), Ky191, Ay191_0⟩
        exact sk (Kj188 _ _ _ ⟨s176, _, vy23_0, rfl, (ue rfl rfl), Ky174, Cy174_37⟩)
       rintro y188 _ _ ⟨s203, _, vy188_0, rfl, rfl, Ky188, Ay188_0⟩
       exact Kj178 _ _ _ ⟨s203, _, vy188_0, rfl, (ue rfl rfl), Ky188, Ay188_0⟩
      rintro y178 _ _ ⟨s205, _, vy178_0, rfl, rfl, Ky178, Ay178_0⟩
      exact Kj141 _ _ _ ⟨s205, _, vy178_0, rfl, (ue rfl rfl), Ky178, Ay178_0⟩
     rintro y141 _ _ ⟨s207, _, vy141_0, rfl, rfl, Ky141, Ay141_0⟩
     exact Kj97 _ _ _ ⟨s207, _, vy141_0, rfl, (ue rfl rfl), Ky141, Ay141_0⟩
    rintro y97 _ _ ⟨s209, _, vy97_0, rfl, rfl, Ky97, Ay97_0⟩
    exact Kj64 _ _ _ ⟨s209, _, vy97_0, rfl, (ue rfl rfl), Ky97, Ay97_0⟩
   rintro y64 _ _ ⟨s211, _, vy64_0, rfl, rfl, Ky64, Ay64_0⟩
   exact Kj53 _ _ _ ⟨s211, _, vy64_0, rfl, (ue rfl rfl), Ky64, Ay64_0⟩
  rintro y53 _ _ ⟨s213, _, vy53_0, rfl, rfl, Ky53, Ay53_0⟩
  exact Kj39 _ _ _ ⟨s213, _, vy53_0, rfl, (ue rfl rfl), Ky53, Ay53_0⟩
 rintro y39 _ _ ⟨s215, _, vy39_0, rfl, rfl, Ky39, Ay39_0⟩
 refine ib (sr (Xo vy39_0 rfl (clV 63 rfl func70 rfl (strings_Join.calls y39 (⟨#[32]⟩ : ByteArray) s215.w (mm [42] s215) vy39_0 Ay39_0.rd) (fun r217 s218 p218 n218 => ?_))))
 refine Xa rfl (dn ?_)
 exact re rfl func54 rfl (r_t rfl Xe) rfl ⟨_, rfl, rfl, z.ky (Ky39.st p218 rfl)⟩
def impl_OpText.f (a0 : Op) : Option ((List Int)) :=
 ((impl_OpOk.f a0).bind fun r12 => (if (!r12) = true then (some ([] : (List Int))) else ((impl_opText.f a0).bind fun r22 => (if r22.size ≤ Lim then (some (bts r22)) else none))))
def impl_OpText.Q (w : World) (F : Nat → Prop) (r : (List Int)) (v : Value) (w' : World) : Prop :=
 FO Xp w w' [v] r ∧ Ky [] w w'
theorem impl_OpText.calls (a0 : Op) (w : World) (F : Nat → Prop) (w0_0 : Value) (w0_1 : Value) (w0_2 : Value) (w0_3 : Value) (w0_4 : Value) (w0_5 : Value) (w0_6 : Value) (hG : GT.rd w [] () F) (h0_0 : Kd.flt.rd w [w0_0] a0.Key.F F) (h0_1 : Xp.rd w [w0_1] a0.Key.T F) (h0_2 : Kd.flt.rd w [w0_2] a0.To.F F) (h0_3 : Xp.rd w [w0_3] a0.To.T F) (h0_4 : Kd.flt.rd w [w0_4] a0.Value.F F) (h0_5 : Xp.rd w [w0_5] a0.Value.T F) (h0_6 : (Kd.sl 4 Kd.bool).rd w [w0_6] a0.Keep F) (r : (List Int)) (m : impl_OpText.f a0 = some r) :
  Calls prog 25 #[(.agg #[(iI a0.Kind), (iI a0.Seat), (iI a0.Level), (iI a0.N), (iI a0.Key.Kind), (iI a0.Key.N), w0_0, w0_1, (iI a0.To.Kind), (iI a0.To.N), w0_2, w0_3, (iI a0.Value.Kind), (iI a0.Value.N), w0_4, w0_5, w0_6])] w (RT (impl_OpText.Q w F) r) := by
 obtain ⟨s0, rfl, kp0, z⟩ := Xh w F
 have A0_0 := Xm h0_0
 have A0_1 := z.rd h0_1
 have A0_2 := Xm h0_2
 have A0_3 := z.rd h0_3
 have A0_4 := Xm h0_4
 have A0_5 := z.rd h0_5
 have A0_6 := z.rd h0_6
 refine Xb (args := [(.agg #[(iI a0.Kind), (iI a0.Seat), (iI a0.Level), (iI a0.N), (iI a0.Key.Kind), (iI a0.Key.N), w0_0, w0_1, (iI a0.To.Kind), (iI a0.To.N), w0_2, w0_3, (iI a0.Value.Kind), (iI a0.Value.N), w0_4, w0_5, w0_6])]) func25 ntmps25 rfl rfl m ?_
 unfold impl_OpText.f
 refine sr (bx' (cs := [(iI a0.Kind), (iI a0.Seat), (iI a0.Level), (iI a0.N), (iI a0.Key.Kind), (iI a0.Key.N), w0_0, w0_1, (iI a0.To.Kind), (iI a0.To.N), w0_2, w0_3, (iI a0.Value.Kind), (iI a0.Value.N), w0_4, w0_5, w0_6]) 40 rfl (fun b5 s5 p5 B5 => ?_))
 refine Xa rfl (dn (sq (sr (lda' (es := [(iI a0.Kind), (iI a0.Seat), (iI a0.Level), (iI a0.N), (iI a0.Key.Kind), (iI a0.Key.N), w0_0, w0_1, (iI a0.To.Kind), (iI a0.To.N), w0_2, w0_3, (iI a0.Value.Kind), (iI a0.Value.N), w0_4, w0_5, w0_6]) B5 u53 z53 rfl ?_))))
 have K7 := kp0.st p5 rfl
 refine clV 41 rfl func53 rfl (impl_OpOk.calls a0 s5.w (mm [0] s5) w0_0 w0_1 w0_2 w0_3 w0_4 w0_5 w0_6 ((Xc (s := s5) A0_0).sub (D := [0]) rfl) (A0_1.kp K7) ((Xc (s := s5) A0_2).sub (D := [0]) rfl) (A0_3.kp K7) ((Xc (s := s5) A0_4).sub (D := [0]) rfl) (A0_5.kp K7) (A0_6.kp K7)) (fun r12 s13 p13 n13 => ?_)
 refine Xa rfl (dn (cd rfl (fun h14 => ?_) (fun h14 => ?_)))
 ·
  refine sr (Xa rfl (dn ?_))
  have K15 := K7.st p13 rfl
  exact re rfl func25 rfl (r_t rfl Xe) rfl ⟨_, rfl, (ow_nil 5 (Kd.int .u8) s13 40).fo K15 rfl z.l, z.ky K15⟩
 refine sk (sr ?_)
 refine lda' (es := [(iI a0.Kind), (iI a0.Seat), (iI a0.Level), (iI a0.N), (iI a0.Key.Kind), (iI a0.Key.N), w0_0, w0_1, (iI a0.To.Kind), (iI a0.To.N), w0_2, w0_3, (iI a0.Value.Kind), (iI a0.Value.N), w0_4, w0_5, w0_6]) (B5.st p13 rfl) u53 z53 rfl ?_
 have K17 := K7.st p13 rfl
 refine clV 42 rfl func54 rfl (impl_opText.calls a0 s13.w (mm [0] s13) w0_0 w0_1 w0_2 w0_3 w0_4 w0_5 w0_6 ((z.rd hG).kp K17) ((Xc (s := s13) A0_0).sub (D := [0]) rfl) (A0_1.kp K17) ((Xc (s := s13) A0_2).sub (D := [0]) rfl) (A0_3.kp K17) ((Xc (s := s13) A0_4).sub (D := [0]) rfl) (A0_5.kp K17) (A0_6.kp K17)) (fun r22 s23 p23 n23 => ?_)
 refine s2b 43 u9 u23 u5 rfl rfl rfl rfl rfl rfl (fun v24 s24 p24 A24 => ?_)
 refine Xn v24 rfl (dn ?_)
 have K26 := K17.st (tr2 p23 p24) rfl
 exact re rfl func25 rfl (r_t rfl Xe) rfl ⟨_, rfl, A24.fo K26 rfl z.l, z.ky K26⟩
def laws_eqBoolS.b0 (a0 : (List Bool)) (a1 : (List Bool)) (x4 : Int) : Option (Int ⊕ Bool) :=
 (if (decide (x4 < (a0.length : Int))) = true then (if 0 ≤ x4 ∧ x4 < (a0.length : Int) then (if 0 ≤ x4 ∧ x4 < (a1.length : Int) then (if (!((at_ a0 x4) == (at_ a1 x4))) = true then (some (Sum.inr false)) else (some (Sum.inl (IntKind.wrap .i64 (x4 + (1 : Int)))))) else none) else none) else ((some true).bind fun o => some (Sum.inr o)))
def laws_eqBoolS.f (a0 : (List Bool)) (a1 : (List Bool)) : Option (Bool) :=
 (if ((a0.length : Int) != (a1.length : Int)) = true then (some false) else (iter (laws_eqBoolS.b0 a0 a1) (0 : Int)))
def laws_eqBoolS.Q (w : World) (F : Nat → Prop) (r : Bool) (v : Value) (w' : World) : Prop :=
 v = (.bool r) ∧ Ky [] w w'
theorem laws_eqBoolS.calls (a0 : (List Bool)) (a1 : (List Bool)) (w : World) (F : Nat → Prop) (w0_0 : Value) (w1_0 : Value) (h0_0 : (Kd.sl 4 Kd.bool).rd w [w0_0] a0 F) (h1_0 : (Kd.sl 4 Kd.bool).rd w [w1_0] a1 F) (r : Bool) (m : laws_eqBoolS.f a0 a1 = some r) :
  Calls prog 55 #[w0_0, w1_0] w (RT (laws_eqBoolS.Q w F) r) := by
 obtain ⟨s0, rfl, kp0, z⟩ := Xh w F
 have A0_0 := z.rd h0_0
 have A1_0 := z.rd h1_0
 refine Xb (args := [w0_0, w1_0]) func55 ntmps55 rfl rfl m ?_
 unfold laws_eqBoolS.f
 refine sr (Xa rfl (dn (sq (sr (Xo w0_0 rfl (ln' A0_0 u47 rfl (Xo w1_0 rfl (ln' A1_0 u47 rfl (Xa rfl (dn (cd rfl (fun h3 => ?_) (fun h3 => ?_))))))))))))
 ·
  exact sr (Xa rfl (dn (re rfl func55 rfl (r_t rfl Xe) rfl ⟨_, rfl, rfl, z.ky kp0⟩)))
 refine sk (sq (sr (Xa rfl (dn (bl (lpI (fun (x4 : Int) e w => ∃ (s : St) (e0 : Env), w = s.w ∧ e = upd (upd (upd e0 0 w0_0) 1 w1_0) 5 (iI x4) ∧ Kp s0 s) ⟨s0, _, rfl, (ue (ue (ue rfl rfl) rfl) rfl), kp0⟩ (fun g4 ih4 => ?_)))))))
 rintro x4 _ _ ⟨s5, _, rfl, rfl, Kx4⟩
 unfold laws_eqBoolS.b0
 refine sq (sr (Xa rfl (Xo w0_0 rfl ?_)))
 refine ln' (A0_0.kp Kx4) u47 rfl (Xa rfl (dn (cd rfl (fun h7 => ?_) (fun h7 => ?_))))
 ·
  refine sk (sq (bl (sq (zdraw [[], [], [0, 1], [2], [], [], [4, 5], [6], [3, 7]] [some 17, some 18, some 19, some 20, some 21, some 22, some 23, some 24, some 25] [[0], [5], [17, 18], [19], [1], [5], [21, 22], [23], [20, 24]] [0, 1, 2, 3, 4, 5, 6, 7, 8] ⟨by kernel_rfl, by kernel_rfl, by kernel_rfl⟩ (by kernel_rfl) (fun s8 p8 l8 tb8 zd8 => ?_)))))
  have K11 := Kx4.st p8 rfl
  have A12 := A0_0.kp K11
  refine mg fun hg13 => ?_
  obtain ⟨ad13, es13, he13, ce13, ia13⟩ := ix_e A12 rfl hg13.1 hg13.2
  obtain rfl := he13
  have A19 := A1_0.kp K11
  refine mg fun hg20 => ?_
  obtain ⟨ad20, es20, he20, ce20, ia20⟩ := ix_e A19 rfl hg20.1 hg20.2
  obtain rfl := he20
  refine zfin [8] tb8 ((((((((zd8.add 0 17 w0_0 rfl).add 1 18 (iI x4) rfl).add 2 19 (.pointer (some ad13)) rfl).add 3 20 (.bool (at_ a0 x4)) rfl).add 4 21 w1_0 rfl).add 5 22 (iI x4) rfl).add 6 23 (.pointer (some ad20)) rfl).add 7 24 (.bool (at_ a1 x4)) rfl) (Xf (lc0_q ce20 u4 rfl rfl rfl rfl rfl rfl rfl rfl) rfl (Xf (ix_q A19 u47 z4 hg20.1 hg20.2 ia20 rfl rfl rfl rfl rfl rfl rfl) rfl (Xf (pu_q rfl rfl rfl rfl rfl rfl) rfl (Xf (mv_q w1_0 rfl rfl rfl rfl rfl rfl) rfl (Xf (lc0_q ce13 u4 rfl rfl rfl rfl rfl rfl rfl rfl) rfl (Xf (ix_q A12 u47 z4 hg13.1 hg13.2 ia13 rfl rfl rfl rfl rfl rfl rfl) rfl (Xf (pu_q rfl rfl rfl rfl rfl rfl) rfl (Xf (mv_q w0_0 rfl rfl rfl rfl rfl rfl) rfl pq_nil)))))))) (by kernel_rfl) (by decide) (bne_ u4 rfl rfl rfl rfl rfl rfl rfl (dn (cd rfl (fun h24 => ?_) (fun h24 => ?_))))
  ·
   exact sr (Xa rfl (dn (sgi (re rfl func55 rfl (r_t rfl Xe) rfl ⟨_, rfl, rfl, z.ky K11⟩))))
  exact sk (ib (rg (Xa rfl (Xa rfl (Xa rfl (dn (lb ih4 ⟨s8, _, rfl, (ue (ue (ue rfl rfl) rfl) rfl), K11⟩)))))))
 exact xt rfl (sgb (sr (Xa rfl (dn (re rfl func55 rfl (r_t rfl Xe) rfl ⟨_, rfl, rfl, z.ky Kx4⟩)))))
def laws_eqOp.f (a0 : Op) (a1 : Op) : Option (Bool) :=
 (if (a0.Kind != a1.Kind) = true then (some false) else (if (a0.Seat != a1.Seat) = true then (some false) else (if (a0.Level != a1.Level) = true then (some false) else (if (a0.N != a1.N) = true then (some false) else ((laws_eqItem.f a0.Key a1.Key).bind fun r25 => (if (!r25) = true then (some false) else ((laws_eqItem.f a0.To a1.To).bind fun r34 => (if (!r34) = true then (some false) else ((laws_eqItem.f a0.Value a1.Value).bind fun r43 => (if (!r43) = true then (some false) else ((laws_eqBoolS.f a0.Keep a1.Keep).bind fun r52 => (if (!r52) = true then (some false) else (some true)))))))))))))
def laws_eqOp.Q (w : World) (F : Nat → Prop) (r : Bool) (v : Value) (w' : World) : Prop :=
 v = (.bool r) ∧ Ky [] w w'
theorem laws_eqOp.calls (a0 : Op) (a1 : Op) (w : World) (F : Nat → Prop) (w0_0 : Value) (w0_1 : Value) (w0_2 : Value) (w0_3 : Value) (w0_4 : Value) (w0_5 : Value) (w0_6 : Value) (w1_0 : Value) (w1_1 : Value) (w1_2 : Value) (w1_3 : Value) (w1_4 : Value) (w1_5 : Value) (w1_6 : Value) (h0_0 : Kd.flt.rd w [w0_0] a0.Key.F F) (h0_1 : Xp.rd w [w0_1] a0.Key.T F) (h0_2 : Kd.flt.rd w [w0_2] a0.To.F F) (h0_3 : Xp.rd w [w0_3] a0.To.T F) (h0_4 : Kd.flt.rd w [w0_4] a0.Value.F F) (h0_5 : Xp.rd w [w0_5] a0.Value.T F) (h0_6 : (Kd.sl 4 Kd.bool).rd w [w0_6] a0.Keep F) (h1_0 : Kd.flt.rd w [w1_0] a1.Key.F F) (h1_1 : Xp.rd w [w1_1] a1.Key.T F) (h1_2 : Kd.flt.rd w [w1_2] a1.To.F F) (h1_3 : Xp.rd w [w1_3] a1.To.T F) (h1_4 : Kd.flt.rd w [w1_4] a1.Value.F F) (h1_5 : Xp.rd w [w1_5] a1.Value.T F) (h1_6 : (Kd.sl 4 Kd.bool).rd w [w1_6] a1.Keep F) (r : Bool) (m : laws_eqOp.f a0 a1 = some r) :
  Calls prog 26 #[(.agg #[(iI a0.Kind), (iI a0.Seat), (iI a0.Level), (iI a0.N), (iI a0.Key.Kind), (iI a0.Key.N), w0_0, w0_1, (iI a0.To.Kind), (iI a0.To.N), w0_2, w0_3, (iI a0.Value.Kind), (iI a0.Value.N), w0_4, w0_5, w0_6]), (.agg #[(iI a1.Kind), (iI a1.Seat), (iI a1.Level), (iI a1.N), (iI a1.Key.Kind), (iI a1.Key.N), w1_0, w1_1, (iI a1.To.Kind), (iI a1.To.N), w1_2, w1_3, (iI a1.Value.Kind), (iI a1.Value.N), w1_4, w1_5, w1_6])] w (RT (laws_eqOp.Q w F) r) := by
 obtain ⟨s0, rfl, kp0, z⟩ := Xh w F
 refine Xb (args := [(.agg #[(iI a0.Kind), (iI a0.Seat), (iI a0.Level), (iI a0.N), (iI a0.Key.Kind), (iI a0.Key.N), w0_0, w0_1, (iI a0.To.Kind), (iI a0.To.N), w0_2, w0_3, (iI a0.Value.Kind), (iI a0.Value.N), w0_4, w0_5, w0_6]), (.agg #[(iI a1.Kind), (iI a1.Seat), (iI a1.Level), (iI a1.N), (iI a1.Key.Kind), (iI a1.Key.N), w1_0, w1_1, (iI a1.To.Kind), (iI a1.To.N), w1_2, w1_3, (iI a1.Value.Kind), (iI a1.Value.N), w1_4, w1_5, w1_6])]) func26 ntmps26 rfl rfl m ?_
 unfold laws_eqOp.f
 refine sr (bx' (cs := [(iI a0.Kind), (iI a0.Seat), (iI a0.Level), (iI a0.N), (iI a0.Key.Kind), (iI a0.Key.N), w0_0, w0_1, (iI a0.To.Kind), (iI a0.To.N), w0_2, w0_3, (iI a0.Value.Kind), (iI a0.Value.N), w0_4, w0_5, w0_6]) 40 rfl (fun b9 s9 p9 B9 => ?_))
 refine bx' (cs := [(iI a1.Kind), (iI a1.Seat), (iI a1.Level), (iI a1.N), (iI a1.Key.Kind), (iI a1.Key.N), w1_0, w1_1, (iI a1.To.Kind), (iI a1.To.N), w1_2, w1_3, (iI a1.Value.Kind), (iI a1.Value.N), w1_4, w1_5, w1_6]) 41 rfl (fun b11 s11 p11 B11 => ?_)
 refine Xa rfl (dn (sq (sr (Xl fa53_0 rfl ?_))))
 have A13 := B9.st p11 rfl
 refine ld' A13 u3 rfl (Xl fa53_0 rfl (ld' B11 u3 rfl (Xa rfl (dn (cd rfl (fun h14 => ?_) (fun h14 => ?_))))))
 ·
  refine sr (Xa rfl (dn ?_))
  exact re rfl func26 rfl (r_t rfl Xe) rfl ⟨_, rfl, rfl, z.ky (kp0.st (tr2 p9 p11) rfl)⟩
 refine sk (sq (sr (Xl fa53_1 rfl (ld' A13 u3 rfl (Xl fa53_1 rfl (ld' B11 u3 rfl (Xa rfl (dn (cd rfl (fun h16 => ?_) (fun h16 => ?_))))))))))
 ·
  refine sr (Xa rfl (dn ?_))
  exact re rfl func26 rfl (r_t rfl Xe) rfl ⟨_, rfl, rfl, z.ky (kp0.st (tr2 p9 p11) rfl)⟩
 refine sk (sq (sr (Xl fa53_2 rfl (ld' A13 u3 rfl (Xl fa53_2 rfl (ld' B11 u3 rfl (Xa rfl (dn (cd rfl (fun h18 => ?_) (fun h18 => ?_))))))))))
 ·
  refine sr (Xa rfl (dn ?_))
  exact re rfl func26 rfl (r_t rfl Xe) rfl ⟨_, rfl, rfl, z.ky (kp0.st (tr2 p9 p11) rfl)⟩
 refine sk (sq (sr (Xl fa53_3 rfl (ld' A13 u3 rfl (Xl fa53_3 rfl (ld' B11 u3 rfl (Xa rfl (dn (cd rfl (fun h20 => ?_) (fun h20 => ?_))))))))))
 ·
  refine sr (Xa rfl (dn ?_))
  exact re rfl func26 rfl (r_t rfl Xe) rfl ⟨_, rfl, rfl, z.ky (kp0.st (tr2 p9 p11) rfl)⟩
 refine sk (sq (sr (Xl fa53_4 rfl (lda' (es := [(iI a0.Key.Kind), (iI a0.Key.N), w0_0, w0_1]) A13 u28 z28 rfl (Xl fa53_4 rfl (lda' (es := [(iI a1.Key.Kind), (iI a1.Key.N), w1_0, w1_1]) B11 u28 z28 rfl ?_))))))
 have K22 := kp0.st (tr2 p9 p11) rfl
 refine clV 42 rfl func12 rfl (laws_eqItem.calls a0.Key a1.Key s11.w (mm [0] s11) w0_0 w0_1 w1_0 w1_1 ((Xc (s := s11) (Xm h0_0)).sub (D := [0]) rfl) ((z.rd h0_1).kp K22) ((Xc (s := s11) (Xm h1_0)).sub (D := [0]) rfl) ((z.rd h1_1).kp K22)) (fun r25 s26 p26 n26 => ?_)
 refine Xa rfl (dn (cd rfl (fun h27 => ?_) (fun h27 => ?_)))
 ·
  refine sr (Xa rfl (dn ?_))
  exact re rfl func26 rfl (r_t rfl Xe) rfl ⟨_, rfl, rfl, z.ky (K22.st p26 rfl)⟩
 refine sk (sq (sr (Xl fa53_5 rfl ?_)))
 have A29 := A13.st p26 rfl
 refine lda' (es := [(iI a0.To.Kind), (iI a0.To.N), w0_2, w0_3]) A29 u28 z28 rfl (Xl fa53_5 rfl ?_)
 have A30 := B11.st p26 rfl
 refine lda' (es := [(iI a1.To.Kind), (iI a1.To.N), w1_2, w1_3]) A30 u28 z28 rfl ?_
 have K31 := K22.st p26 rfl
 refine clV 43 rfl func12 rfl (laws_eqItem.calls a0.To a1.To s26.w (mm [0] s26) w0_2 w0_3 w1_2 w1_3 ((Xc (s := s26) (Xm h0_2)).sub (D := [0]) rfl) ((z.rd h0_3).kp K31) ((Xc (s := s26) (Xm h1_2)).sub (D := [0]) rfl) ((z.rd h1_3).kp K31)) (fun r34 s35 p35 n35 => ?_)
 refine Xa rfl (dn (cd rfl (fun h36 => ?_) (fun h36 => ?_)))
 ·
  refine sr (Xa rfl (dn ?_))
  exact re rfl func26 rfl (r_t rfl Xe) rfl ⟨_, rfl, rfl, z.ky (K31.st p35 rfl)⟩
 refine sk (sq (sr (Xl fa53_6 rfl ?_)))
 have A38 := A29.st p35 rfl
 refine lda' (es := [(iI a0.Value.Kind), (iI a0.Value.N), w0_4, w0_5]) A38 u28 z28 rfl (Xl fa53_6 rfl ?_)
 have A39 := A30.st p35 rfl
 refine lda' (es := [(iI a1.Value.Kind), (iI a1.Value.N), w1_4, w1_5]) A39 u28 z28 rfl ?_
 have K40 := K31.st p35 rfl
 refine clV 44 rfl func12 rfl (laws_eqItem.calls a0.Value a1.Value s35.w (mm [0] s35) w0_4 w0_5 w1_4 w1_5 ((Xc (s := s35) (Xm h0_4)).sub (D := [0]) rfl) ((z.rd h0_5).kp K40) ((Xc (s := s35) (Xm h1_4)).sub (D := [0]) rfl) ((z.rd h1_5).kp K40)) (fun r43 s44 p44 n44 => ?_)
 refine Xa rfl (dn (cd rfl (fun h45 => ?_) (fun h45 => ?_)))
 ·
  refine sr (Xa rfl (dn ?_))
  exact re rfl func26 rfl (r_t rfl Xe) rfl ⟨_, rfl, rfl, z.ky (K40.st p44 rfl)⟩
 refine sk (sq (sr (Xl fa53_7 rfl ?_)))
 refine ld' (A38.st p44 rfl) u47 rfl (Xl fa53_7 rfl ?_)
 refine ld' (A39.st p44 rfl) u47 rfl ?_
 have K49 := K40.st p44 rfl
 refine clV 45 rfl func55 rfl (laws_eqBoolS.calls a0.Keep a1.Keep s44.w (mm [0] s44) w0_6 w1_6 ((z.rd h0_6).kp K49) ((z.rd h1_6).kp K49)) (fun r52 s53 p53 n53 => ?_)
 refine Xa rfl (dn (cd rfl (fun h54 => ?_) (fun h54 => ?_)))
 ·
  refine sr (Xa rfl (dn ?_))
  exact re rfl func26 rfl (r_t rfl Xe) rfl ⟨_, rfl, rfl, z.ky (K49.st p53 rfl)⟩
 refine sk (sr (Xa rfl (dn ?_)))
 exact re rfl func26 rfl (r_t rfl Xe) rfl ⟨_, rfl, rfl, z.ky (K49.st p53 rfl)⟩
def laws_markBoolS.b0  (x2 : (List Bool) × Int × Int) : Option (((List Bool) × Int × Int) ⊕ (Int × (List Bool))) :=
 (if (decide (x2.2.2 < (x2.1.length : Int))) = true then (if 0 ≤ x2.2.2 ∧ x2.2.2 < (x2.1.length : Int) then (some (Sum.inl ((x2.1.set (x2.2.2).toNat ((x2.2.1.tmod (3 : Int)) == (0 : Int))), (IntKind.wrap .i64 (x2.2.1 + (1 : Int))), (IntKind.wrap .i64 (x2.2.2 + (1 : Int)))))) else none) else ((some (x2.2.1, x2.1)).bind fun o => some (Sum.inr o)))
def laws_markBoolS.f (a0 : (List Bool)) (a1 : Int) : Option (Int × (List Bool)) :=
 (iter laws_markBoolS.b0 (a0, a1, (0 : Int)))
def laws_markBoolS.Q (w : World) (F : Nat → Prop) (os : List Nat) (w0_0 : Value) (r : Int × (List Bool)) (v : Value) (w' : World) : Prop :=
 v = (iI r.1) ∧ FW (Kd.sl 4 Kd.bool) os w w' [w0_0] r.2 ∧ Ky os w w'
theorem laws_markBoolS.calls (a0 : (List Bool)) (a1 : Int) (w : World) (F : Nat → Prop) (w0_0 : Value) (os : List Nat) (h0_0 : (Kd.sl 4 Kd.bool).ow w [w0_0] a0 os) (hn : os.Nodup) (hF : ∀ b, F b → b ∉ os) (r : Int × (List Bool)) (m : laws_markBoolS.f a0 a1 = some r) :
  Calls prog 56 #[w0_0, (iI a1)] w (RT (laws_markBoolS.Q w F os w0_0) r) := by
 obtain ⟨s0, rfl, kp0, z⟩ := start1 w F os hF
 refine Xb (args := [w0_0, (iI a1)]) func56 ntmps56 rfl rfl m ?_
 unfold laws_markBoolS.f
 refine sr (Xa rfl (dn (sq (sr (Xa rfl (dn (bl (lpI (fun (x2 : (List Bool) × Int × Int) e w => ∃ (s : St) (e0 : Env), w = s.w ∧ e = upd (upd (upd e0 0 w0_0) 1 (iI x2.2.1)) 5 (iI x2.2.2) ∧ Kp s0 s ∧ OwF (Kd.sl 4 Kd.bool) s [w0_0] x2.1 2) ⟨s0, _, rfl, (ue (ue (ue rfl rfl) rfl) rfl), kp0, (z.ow h0_0 hn)⟩ (fun g2 ih2 => ?_)))))))))
 rintro x2 _ _ ⟨s3, _, rfl, rfl, Kx2, Ax2_0⟩
 unfold laws_markBoolS.b0
 refine sq (sr (Xa rfl (Xo w0_0 rfl (ln' Ax2_0.rd u47 rfl (Xa rfl (dn (cd rfl (fun h5 => ?_) (fun h5 => ?_))))))))
 ·
  refine sk (sq (bl (sr (Xo w0_0 rfl (Xa rfl (Xa rfl (remK rfl rfl rfl rfl rfl rfl rfl rfl (Xa rfl (ix' Ax2_0.rd u47 z4 rfl (fun ad6 es6 h0_6 h1_6 he6 ce6 ia6 => ?_))))))))))
  obtain rfl := he6
  refine so (x' := ((x2.2.1.tmod (3 : Int)) == (0 : Int))) Ax2_0 ia6 h0_6 h1_6 cs_flat z4 rfl rfl rfl rfl rfl rfl (fun s8 p8 A8 => ?_)
  refine dn (rg (Xa rfl (Xa rfl (Xa rfl (dn (ib (rg (Xa rfl (Xa rfl (Xa rfl (dn ?_)))))))))))
  exact lb ih2 ⟨s8, _, rfl, (ue (ue (ue rfl rfl) rfl) rfl), (Kx2.st p8 rfl), A8⟩
 exact xt rfl (sgb (sr (Xa rfl (Xa rfl (dn (re rfl func56 rfl (r_t rfl Xe) rfl ⟨_, rfl, rfl, z.fw Kx2 Ax2_0, z.ky Kx2⟩))))))
def laws_markOp.f (a0 : Op) (a1 : Int) : Option (Int × Op) :=
 ((laws_markItem.f a0.Key a1).bind fun r7 => ((laws_markItem.f a0.To r7.1).bind fun r12 => ((laws_markItem.f a0.Value r12.1).bind fun r17 => ((laws_markBoolS.f a0.Keep r17.1).bind fun r22 => (some (r22.1, (Op.mk a0.Kind a0.Seat a0.Level a0.N (Item.mk a0.Key.Kind a0.Key.N a0.Key.F r7.2) (Item.mk a0.To.Kind a0.To.N a0.To.F r12.2) (Item.mk a0.Value.Kind a0.Value.N a0.Value.F r17.2) r22.2)))))))
def laws_markOp.Q (w : World) (F : Nat → Prop) (os : List Nat) (a0 : Op) (w0_0 : Value) (w0_1 : Value) (w0_2 : Value) (w0_3 : Value) (w0_4 : Value) (w0_5 : Value) (w0_6 : Value) (r : Int × Op) (v : Value) (w' : World) : Prop :=
 v = (iI r.1) ∧ FW kd53 os w w' [(iI a0.Kind), (iI a0.Seat), (iI a0.Level), (iI a0.N), (iI a0.Key.Kind), (iI a0.Key.N), w0_0, w0_1, (iI a0.To.Kind), (iI a0.To.N), w0_2, w0_3, (iI a0.Value.Kind), (iI a0.Value.N), w0_4, w0_5, w0_6] r.2 ∧ Ky os w w'
theorem laws_markOp.calls (a0 : Op) (a1 : Int) (w : World) (F : Nat → Prop) (w0_0 : Value) (w0_1 : Value) (w0_2 : Value) (w0_3 : Value) (w0_4 : Value) (w0_5 : Value) (w0_6 : Value) (os : List Nat) (h0 : kd53.ow w [(iI a0.Kind), (iI a0.Seat), (iI a0.Level), (iI a0.N), (iI a0.Key.Kind), (iI a0.Key.N), w0_0, w0_1, (iI a0.To.Kind), (iI a0.To.N), w0_2, w0_3, (iI a0.Value.Kind), (iI a0.Value.N), w0_4, w0_5, w0_6] a0 os) (hn : os.Nodup) (hF : ∀ b, F b → b ∉ os) (r : Int × Op) (m : laws_markOp.f a0 a1 = some r) :
  Calls prog 27 #[(.agg #[(iI a0.Kind), (iI a0.Seat), (iI a0.Level), (iI a0.N), (iI a0.Key.Kind), (iI a0.Key.N), w0_0, w0_1, (iI a0.To.Kind), (iI a0.To.N), w0_2, w0_3, (iI a0.Value.Kind), (iI a0.Value.N), w0_4, w0_5, w0_6]), (iI a1)] w (RT (laws_markOp.Q w F os a0 w0_0 w0_1 w0_2 w0_3 w0_4 w0_5 w0_6) r) := by
 obtain ⟨u0_0, u0_1, u0_2, u0_3, u0_4, u0_5, u0_6, q0_1, q0_3, q0_5, q0_6, e0, eo0, h0_0, h0_1, h0_2, h0_3, h0_4, h0_5, h0_6⟩ := po53 h0
 obtain ⟨y0_0, y0_1, y0_2, y0_3, y0_4, y0_5, y0_6⟩ : w0_0 = u0_0 ∧ w0_1 = u0_1 ∧ w0_2 = u0_2 ∧ w0_3 = u0_3 ∧ w0_4 = u0_4 ∧ w0_5 = u0_5 ∧ w0_6 = u0_6 := by simpa using e0
 subst y0_0
 subst y0_1
 subst y0_2
 subst y0_3
 subst y0_4
 subst y0_5
 subst y0_6
 subst eo0
 obtain ⟨s0, rfl, kp0, z⟩ := startN w F [(q0_1, 2), (q0_3, 3), (q0_5, 4), (q0_6, 5)] (by simpa [fl_] using hn) (fun b hb => by simpa [fl_] using hF b hb) rfl
 have ez : fl_ [(q0_1, 2), (q0_3, 3), (q0_5, 4), (q0_6, 5)] = q0_1 ++ (q0_3 ++ (q0_5 ++ (q0_6))) := by simp [fl_]
 have hn0_1 : q0_1.Nodup := by simp only [List.nodup_append] at hn; simp [hn]
 have hn0_3 : q0_3.Nodup := by simp only [List.nodup_append] at hn; simp [hn]
 have hn0_5 : q0_5.Nodup := by simp only [List.nodup_append] at hn; simp [hn]
 have hn0_6 : q0_6.Nodup := by simp only [List.nodup_append] at hn; simp [hn]
 have A0_0 := h0_0
 have A0_2 := h0_2
 have A0_4 := h0_4
 refine Xb (args := [(.agg #[(iI a0.Kind), (iI a0.Seat), (iI a0.Level), (iI a0.N), (iI a0.Key.Kind), (iI a0.Key.N), w0_0, w0_1, (iI a0.To.Kind), (iI a0.To.N), w0_2, w0_3, (iI a0.Value.Kind), (iI a0.Value.N), w0_4, w0_5, w0_6]), (iI a1)]) func27 ntmps27 rfl rfl m ?_
 unfold laws_markOp.f
 refine sr (bx' (cs := [(iI a0.Kind), (iI a0.Seat), (iI a0.Level), (iI a0.N), (iI a0.Key.Kind), (iI a0.Key.N), w0_0, w0_1, (iI a0.To.Kind), (iI a0.To.N), w0_2, w0_3, (iI a0.Value.Kind), (iI a0.Value.N), w0_4, w0_5, w0_6]) 40 rfl (fun b5 s5 p5 B5 => ?_))
 refine Xa rfl (dn (sr (Xl fa53_4 rfl (lda' (es := [(iI a0.Key.Kind), (iI a0.Key.N), w0_0, w0_1]) B5 u28 z28 rfl (Xa rfl ?_)))))
 obtain ⟨os7, ho7, hn7, hc7⟩ := (z.ow (c := 2) (by simp) hn0_1 h0_1).st p5 rfl
 refine cl' rfl func13 rfl (laws_markItem.calls a0.Key a1 s5.w (mm [] s5) w0_0 w0_1 (Xc (s := s5) A0_0) os7 ho7 hn7 (apart_of hc7 rfl)) ?_
 rintro r7 _ w7 m7 ⟨rfl, w7_, ky7⟩
 obtain ⟨s9, rfl, p9, A9⟩ := nwo 41 hc7 ky7 w7_
 refine Xa rfl (dn (sr (Xl fa53_5 rfl ?_)))
 have A11 := B5.st p9 rfl
 refine lda' (es := [(iI a0.To.Kind), (iI a0.To.N), w0_2, w0_3]) A11 u28 z28 rfl (Xa rfl ?_)
 obtain ⟨os12, ho12, hn12, hc12⟩ := (z.ow (c := 3) (by simp) hn0_3 h0_3).st (tr2 p5 p9) rfl
 refine cl' rfl func13 rfl (laws_markItem.calls a0.To r7.1 s9.w (mm [] s9) w0_2 w0_3 (Xc (s := s9) A0_2) os12 ho12 hn12 (apart_of hc12 rfl)) ?_
 rintro r12 _ w12 m12 ⟨rfl, w12_, ky12⟩
 obtain ⟨s14, rfl, p14, A14⟩ := nwo 42 hc12 ky12 w12_
 refine Xa rfl (dn (sr (Xl fa53_6 rfl ?_)))
 have A16 := A11.st p14 rfl
 refine lda' (es := [(iI a0.Value.Kind), (iI a0.Value.N), w0_4, w0_5]) A16 u28 z28 rfl (Xa rfl ?_)
 obtain ⟨os17, ho17, hn17, hc17⟩ := (z.ow (c := 4) (by simp) hn0_5 h0_5).st (tr3 p5 p9 p14) rfl
 refine cl' rfl func13 rfl (laws_markItem.calls a0.Value r12.1 s14.w (mm [] s14) w0_4 w0_5 (Xc (s := s14) A0_4) os17 ho17 hn17 (apart_of hc17 rfl)) ?_
 rintro r17 _ w17 m17 ⟨rfl, w17_, ky17⟩
 obtain ⟨s19, rfl, p19, A19⟩ := nwo 43 hc17 ky17 w17_
 refine Xa rfl (dn (sr (Xl fa53_7 rfl ?_)))
 refine ld' (A16.st p19 rfl) u47 rfl (Xa rfl ?_)
 obtain ⟨os22, ho22, hn22, hc22⟩ := (z.ow (c := 5) (by simp) hn0_6 h0_6).st (tr4 p5 p9 p14 p19) rfl
 refine cl' rfl func56 rfl (laws_markBoolS.calls a0.Keep r17.1 s19.w (mm [] s19) w0_6 os22 ho22 hn22 (apart_of hc22 rfl)) ?_
 rintro r22 _ w22 m22 ⟨rfl, w22_, ky22⟩
 obtain ⟨s24, rfl, p24, A24⟩ := nwo 44 hc22 ky22 w22_
 refine Xa rfl (dn (sr (Xa rfl (Xa rfl (dn ?_)))))
 have K29 := kp0.st (tr5 p5 p9 p14 p19 p24) rfl
 exact re rfl func27 rfl (r_t rfl Xe) rfl ⟨_, rfl, rfl, z.fw' ez K29 (oc_iso (fun x : Op => (x.Kind, x.Seat, x.Level, x.N, x.Key, x.To, x.Value, x.Keep)) (Op.mk a0.Kind a0.Seat a0.Level a0.N (Item.mk a0.Key.Kind a0.Key.N a0.Key.F r7.2) (Item.mk a0.To.Kind a0.To.N a0.To.F r12.2) (Item.mk a0.Value.Kind a0.Value.N a0.Value.F r17.2) r22.2) (oc_pair (oc_z (Xk .i64 a0.Kind)) (oc_pair (oc_z (Xk .i64 a0.Seat)) (oc_pair (oc_z (Xk .i64 a0.Level)) (oc_pair (oc_z (Xk .i64 a0.N)) (oc_pair (oc_iso (fun x : Item => (x.Kind, x.N, x.F, x.T)) (Item.mk a0.Key.Kind a0.Key.N a0.Key.F r7.2) (oc_pair (oc_z (Xk .i64 a0.Key.Kind)) (oc_pair (oc_z (Xk .i64 a0.Key.N)) (oc_pair (oc_z (fz_flt A0_0)) (oc_ow (A9.st (tr3 p14 p19 p24) rfl)) rfl) rfl) rfl)) (oc_pair (oc_iso (fun x : Item => (x.Kind, x.N, x.F, x.T)) (Item.mk a0.To.Kind a0.To.N a0.To.F r12.2) (oc_pair (oc_z (Xk .i64 a0.To.Kind)) (oc_pair (oc_z (Xk .i64 a0.To.N)) (oc_pair (oc_z (fz_flt A0_2)) (oc_ow (A14.st (tr2 p19 p24) rfl)) rfl) rfl) rfl)) (oc_pair (oc_iso (fun x : Item => (x.Kind, x.N, x.F, x.T)) (Item.mk a0.Value.Kind a0.Value.N a0.Value.F r17.2) (oc_pair (oc_z (Xk .i64 a0.Value.Kind)) (oc_pair (oc_z (Xk .i64 a0.Value.N)) (oc_pair (oc_z (fz_flt A0_4)) (oc_ow (A19.st p24 rfl)) rfl) rfl) rfl)) (oc_ow A24) rfl) rfl) rfl) rfl) rfl) rfl) rfl)) rfl, z.ky' ez K29⟩
end Go.Proofs.YtiofnjnnocjbhaaDoor
