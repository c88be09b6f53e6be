/- The functions as models, and that the calls come to what the models tell. -/
import Derived.Test.YtcagjdngannneaaGreatXt
set_option linter.unusedVariables false
set_option linter.unusedSimpArgs false
namespace Go.Proofs.YtcagjdngannneaaGreat
open Go V
noncomputable def laws_szByteS.f (a0 : (List Int)) (a1 : Int) : Option (Int) :=
 (if (decide ((IntKind.wrap .i64 (a1 - (a0.length : Int))) < (0 : Int))) = true then (some (-1 : Int)) else (some (IntKind.wrap .i64 (a1 - (a0.length : Int)))))
def laws_szByteS.Q (w : World) (F : Nat → Prop) (r : Int) (v : Value) (w' : World) : Prop :=
 v = (.int .i64 r) ∧ Ky [] w w'
set_option maxHeartbeats 4000000 in
set_option maxRecDepth 100000 in
theorem laws_szByteS.calls (a0 : (List Int)) (a1 : Int) (w : World) (F : Nat → Prop) (w0_0 : Value) (h0_0 : (Kd.sl 5 (Kd.int .u8)).rd w [w0_0] a0 F) (r : Int) (m : laws_szByteS.f a0 a1 = some r) :
  Calls Tryz.prog 63 #[w0_0, (.int .i64 a1)] w fun en w' => ∃ v, en = .returned v ∧ laws_szByteS.Q w F r v w' := by
 obtain ⟨s0, rfl, kp0, z⟩ := start0 w F
 have A0_0 := z.rd h0_0
 refine calls_of_TM (args := [w0_0, (.int .i64 a1)]) (R := fun r en w' => ∃ v, en = .returned v ∧ laws_szByteS.Q s0.w F r v w') Tryz.func63 Tryz.ntmps63 rfl rfl m ?_
 unfold laws_szByteS.f
 refine sr ?_
 refine pu rfl rfl rfl rfl rfl ?_
 refine dn ?_
 refine sr ?_
 refine pu rfl rfl rfl rfl rfl ?_
 refine mv w0_0 rfl rfl rfl rfl rfl rfl ?_
 refine ln A0_0 Tryz.underlying24 rfl rfl rfl rfl rfl rfl ?_
 refine pu rfl rfl rfl rfl rfl ?_
 refine pu rfl rfl rfl rfl rfl ?_
 refine dn ?_
 refine sq ?_
 refine sr ?_
 refine pu rfl rfl rfl rfl rfl ?_
 refine pu rfl rfl rfl rfl rfl ?_
 refine dn ?_
 refine cd rfl (fun h2 => ?_) (fun h2 => ?_)
 ·
  refine sr ?_
  refine pu rfl rfl rfl rfl rfl ?_
  refine dn ?_
  exact re rfl Tryz.func63 rfl (r_t rfl r_nil) rfl ⟨_, rfl, rfl, z.ky kp0⟩
 ·
  refine sk ?_
  refine sr ?_
  refine pu rfl rfl rfl rfl rfl ?_
  refine pu rfl rfl rfl rfl rfl ?_
  refine dn ?_
  exact re rfl Tryz.func63 rfl (r_t rfl r_nil) rfl ⟨_, rfl, rfl, z.ky kp0⟩
noncomputable def laws_szItem.f (a0 : Item) (a1 : Int) : Option (Int) :=
 ((laws_szByteS.f a0.T a1).bind fun r6 => (if (decide (r6 < (0 : Int))) = true then (some (-1 : Int)) else (some r6)))
def laws_szItem.Q (w : World) (F : Nat → Prop) (r : Int) (v : Value) (w' : World) : Prop :=
 v = (.int .i64 r) ∧ Ky [] w w'
set_option maxHeartbeats 4000000 in
set_option maxRecDepth 100000 in
theorem laws_szItem.calls (a0 : Item) (a1 : Int) (w : World) (F : Nat → Prop) (w0_0 : Value) (w0_1 : Value) (h0_0 : Kd.flt.rd w [w0_0] a0.F F) (h0_1 : (Kd.sl 5 (Kd.int .u8)).rd w [w0_1] a0.T F) (r : Int) (m : laws_szItem.f a0 a1 = some r) :
  Calls Tryz.prog 11 #[(.agg #[(.int .i64 a0.Kind), (.int .i64 a0.N), w0_0, w0_1]), (.int .i64 a1)] w fun en w' => ∃ v, en = .returned v ∧ laws_szItem.Q w F r v w' := by
 obtain ⟨s0, rfl, kp0, z⟩ := start0 w F
 have A0_0 := fl_of h0_0
 have A0_1 := z.rd h0_1
 refine calls_of_TM (args := [(.agg #[(.int .i64 a0.Kind), (.int .i64 a0.N), w0_0, w0_1]), (.int .i64 a1)]) (R := fun r en w' => ∃ v, en = .returned v ∧ laws_szItem.Q s0.w F r v w') Tryz.func11 Tryz.ntmps11 rfl rfl m ?_
 unfold laws_szItem.f
 refine sr ?_
 refine bx (cs := [(.int .i64 a0.Kind), (.int .i64 a0.N), w0_0, w0_1]) 40 rfl rfl rfl rfl rfl rfl (fun b2 s2 p2 B2 => ?_)
 refine pu rfl rfl rfl rfl rfl ?_
 refine dn ?_
 refine sr ?_
 refine fa fa26_3 rfl rfl rfl rfl rfl rfl ?_
 refine ld B2 Tryz.underlying24 rfl rfl rfl rfl rfl rfl rfl rfl ?_
 refine pu rfl rfl rfl rfl rfl ?_
 have K4 := (kp0.st p2 rfl)
 have A5 := (A0_1.kp K4)
 refine cl rfl rfl rfl rfl rfl Tryz.func63 rfl rfl rfl (fun r6 m6 => laws_szByteS.calls a0.T a1 s2.w (fun b => memb [0] (s2.g b) = true) w0_1 A5 r6 m6) ?_
 rintro r6 _ w6 m6 ⟨rfl, ky6⟩
 obtain ⟨s7, rfl, p7, n7⟩ := nwx s2 w6 41 ky6
 refine pu rfl rfl rfl rfl rfl ?_
 refine dn ?_
 refine sq ?_
 refine sr ?_
 refine pu rfl rfl rfl rfl rfl ?_
 refine pu rfl rfl rfl rfl rfl ?_
 refine dn ?_
 refine cd rfl (fun h8 => ?_) (fun h8 => ?_)
 ·
  refine sr ?_
  refine pu rfl rfl rfl rfl rfl ?_
  refine dn ?_
  have K9 := (K4.st p7 rfl)
  exact re rfl Tryz.func11 rfl (r_t rfl r_nil) rfl ⟨_, rfl, rfl, z.ky K9⟩
 ·
  refine sk ?_
  refine sr ?_
  refine pu rfl rfl rfl rfl rfl ?_
  refine pu rfl rfl rfl rfl rfl ?_
  refine dn ?_
  have K10 := (K4.st p7 rfl)
  exact re rfl Tryz.func11 rfl (r_t rfl r_nil) rfl ⟨_, rfl, rfl, z.ky K10⟩
noncomputable def laws_toByteS.b0 (a0 : (List Int)) (x4 : (List Int) × Int) : Option (((List Int) × Int) ⊕ (List Int)) :=
 (if (decide (x4.2 < (a0.length : Int))) = true then (if 0 ≤ x4.2 ∧ x4.2 < (a0.length : Int) then (if 0 ≤ x4.2 ∧ x4.2 < (x4.1.length : Int) then (some (Sum.inl ((x4.1.set (x4.2).toNat (at_ a0 x4.2)), (IntKind.wrap .i64 (x4.2 + (1 : Int)))))) else none) else none) else ((some x4.1).bind fun o => some (Sum.inr o)))
noncomputable def laws_toByteS.f (a0 : (List Int)) : Option ((List Int)) :=
 (if 0 ≤ (a0.length : Int) ∧ (a0.length : Int) ≤ (Lim : Int) then (iter (laws_toByteS.b0 a0) ((List.replicate ((a0.length : Int)).toNat (0 : Int)), (0 : Int))) else none)
def laws_toByteS.Q (w : World) (F : Nat → Prop) (r : (List Int)) (v : Value) (w' : World) : Prop :=
 FO (Kd.sl 5 (Kd.int .u8)) w w' [v] r ∧ Ky [] w w'
set_option maxHeartbeats 4000000 in
set_option maxRecDepth 100000 in
theorem laws_toByteS.calls (a0 : (List Int)) (w : World) (F : Nat → Prop) (w0_0 : Value) (h0_0 : (Kd.sl 5 (Kd.int .u8)).rd w [w0_0] a0 F) (r : (List Int)) (m : laws_toByteS.f a0 = some r) :
  Calls Tryz.prog 73 #[w0_0] w fun en w' => ∃ v, en = .returned v ∧ laws_toByteS.Q w F r v w' := by
 obtain ⟨s0, rfl, kp0, z⟩ := start0 w F
 have A0_0 := z.rd h0_0
 refine calls_of_TM (args := [w0_0]) (R := fun r en w' => ∃ v, en = .returned v ∧ laws_toByteS.Q s0.w F r v w') Tryz.func73 Tryz.ntmps73 rfl rfl m ?_
 unfold laws_toByteS.f
 refine sr ?_
 refine pu rfl rfl rfl rfl rfl ?_
 refine dn ?_
 refine sr ?_
 refine mv w0_0 rfl rfl rfl rfl rfl rfl ?_
 refine ln A0_0 Tryz.underlying24 rfl rfl rfl rfl rfl rfl ?_
 refine mk (x0 := (0 : Int)) (K := (Kd.int .u8)) 40 sl24 o5 (fun _ => ⟨rfl, rfl⟩) rfl rfl rfl rfl rfl rfl rfl (fun v2 s2 p2 A2 => ?_)
 refine asg v2 rfl rfl rfl rfl rfl rfl ?_
 refine dn ?_
 refine sq ?_
 refine sr ?_
 refine pu rfl rfl rfl rfl rfl ?_
 refine dn ?_
 refine bl ?_
 have K5 := (kp0.st p2 rfl)
 refine lpI (fun (x4 : (List Int) × Int) (e : Env) (w : World) => ∃ (s : St) (e0 : Env), w = s.w ∧ e = upd (upd (upd e0 0 w0_0) 3 v2) 4 (.int .i64 x4.2) ∧ Kp s0 s ∧ OwF (Kd.sl 5 (Kd.int .u8)) s [v2] x4.1 40) ⟨s2, _, rfl, (ue (ue (ue rfl rfl) rfl) rfl), K5, A2⟩ (fun g4 ih4 => ?_)
 rintro x4 _ _ ⟨s6, _, rfl, rfl, Kx4, Ax4_0⟩
 unfold laws_toByteS.b0
 refine sq ?_
 refine sr ?_
 refine pu rfl rfl rfl rfl rfl ?_
 refine mv w0_0 rfl rfl rfl rfl rfl rfl ?_
 have A8 := (A0_0.kp Kx4)
 refine ln A8 Tryz.underlying24 rfl rfl rfl rfl rfl rfl ?_
 refine pu rfl rfl rfl rfl rfl ?_
 refine dn ?_
 refine cd rfl (fun h9 => ?_) (fun h9 => ?_)
 ·
  refine sk ?_
  refine sq ?_
  refine bl ?_
  refine rg ?_
  refine mv v2 rfl rfl rfl rfl rfl rfl ?_
  refine pu rfl rfl rfl rfl rfl ?_
  refine mv w0_0 rfl rfl rfl rfl rfl rfl ?_
  refine pu rfl rfl rfl rfl rfl ?_
  refine ix A8 Tryz.underlying24 z5 rfl rfl rfl rfl rfl rfl rfl rfl (fun ad10 es10 h0_10 h1_10 he10 ce10 ia10 => ?_)
  obtain rfl := he10
  refine lc0 ce10 Tryz.underlying5 rfl rfl rfl rfl rfl rfl rfl rfl ?_
  refine ix Ax4_0.rd Tryz.underlying24 z5 rfl rfl rfl rfl rfl rfl rfl rfl (fun ad12 es12 h0_12 h1_12 he12 ce12 ia12 => ?_)
  obtain rfl := he12
  refine so (x' := (at_ a0 x4.2)) Ax4_0 ia12 h0_12 h1_12 cs_flat z5 rfl rfl rfl rfl rfl rfl (fun s14 p14 A14 => ?_)
  refine dn ?_
  refine ib ?_
  refine rg ?_
  refine pu rfl rfl rfl rfl rfl ?_
  refine pu rfl rfl rfl rfl rfl ?_
  refine pu rfl rfl rfl rfl rfl ?_
  refine dn ?_
  have K16 := (Kx4.st p14 rfl)
  exact lb ih4 ⟨s14, _, rfl, (ue (ue (ue rfl rfl) rfl) rfl), K16, A14⟩
 ·
  refine xt rfl ?_
  refine sgb ?_
  refine sr ?_
  refine mv v2 rfl rfl rfl rfl rfl rfl ?_
  refine asg v2 rfl rfl rfl rfl rfl rfl ?_
  refine dn ?_
  exact re rfl Tryz.func73 rfl (r_t rfl r_nil) rfl ⟨_, rfl, Ax4_0.fo Kx4 rfl z.l, z.ky Kx4⟩
noncomputable def laws_toItem.f (a0 : Item) : Option (Item) :=
 ((laws_toByteS.f a0.T).bind fun r20 => (some (Item.mk a0.Kind a0.N a0.F r20)))
def laws_toItem.Q (w : World) (F : Nat → Prop) (r : Item) (v : Value) (w' : World) : Prop :=
 ∃ (v0 : Value) (v1 : Value), v = (.agg #[(.int .i64 r.Kind), (.int .i64 r.N), v0, v1]) ∧ FO kd33 w w' [(.int .i64 r.Kind), (.int .i64 r.N), v0, v1] r ∧ Ky [] w w'
set_option maxHeartbeats 4000000 in
set_option maxRecDepth 100000 in
theorem laws_toItem.calls (a0 : Item) (w : World) (F : Nat → Prop) (w0_0 : Value) (w0_1 : Value) (h0_0 : Kd.flt.rd w [w0_0] a0.F F) (h0_1 : (Kd.sl 5 (Kd.int .u8)).rd w [w0_1] a0.T F) (r : Item) (m : laws_toItem.f a0 = some r) :
  Calls Tryz.prog 14 #[(.agg #[(.int .i64 a0.Kind), (.int .i64 a0.N), w0_0, w0_1])] w fun en w' => ∃ v, en = .returned v ∧ laws_toItem.Q w F r v w' := by
 obtain ⟨s0, rfl, kp0, z⟩ := start0 w F
 have A0_0 := fl_of h0_0
 have A0_1 := z.rd h0_1
 refine calls_of_TM (args := [(.agg #[(.int .i64 a0.Kind), (.int .i64 a0.N), w0_0, w0_1])]) (R := fun r en w' => ∃ v, en = .returned v ∧ laws_toItem.Q s0.w F r v w') Tryz.func14 Tryz.ntmps14 rfl rfl m ?_
 unfold laws_toItem.f
 refine sr ?_
 refine bx (cs := [(.int .i64 a0.Kind), (.int .i64 a0.N), w0_0, w0_1]) 40 rfl rfl rfl rfl rfl rfl (fun b2 s2 p2 B2 => ?_)
 refine al (cs := [(.int .i64 (0 : Int)), (.int .i64 (0 : Int)), (.float .f64 0), (.slice none 0 0)]) 41 rfl rfl rfl rfl rfl o33 rfl (fun b4 s4 p4 B4 => ?_)
 refine dn ?_
 refine sr ?_
 refine al (cs := [(.int .i64 (0 : Int)), (.int .i64 (0 : Int)), (.float .f64 0), (.slice none 0 0)]) 42 rfl rfl rfl rfl rfl o33 rfl (fun b6 s6 p6 B6 => ?_)
 refine dn ?_
 refine sr ?_
 refine fa fa26_0 rfl rfl rfl rfl rfl rfl ?_
 have A8 := (BlF.st (BlF.st B2 p4 rfl) p6 rfl)
 refine ld A8 Tryz.underlying3 rfl rfl rfl rfl rfl rfl rfl rfl ?_
 refine fa fa33_0 rfl rfl rfl rfl rfl rfl ?_
 refine sv B6 z3 rfl rfl rfl rfl rfl rfl rfl rfl (fun s9 p9 B9 => ?_)
 refine dn ?_
 refine sr ?_
 refine fa fa26_1 rfl rfl rfl rfl rfl rfl ?_
 have A11 := (BlF.st A8 p9 rfl)
 refine ld A11 Tryz.underlying3 rfl rfl rfl rfl rfl rfl rfl rfl ?_
 refine fa fa33_1 rfl rfl rfl rfl rfl rfl ?_
 refine sv B9 z3 rfl rfl rfl rfl rfl rfl rfl rfl (fun s12 p12 B12 => ?_)
 refine dn ?_
 refine sr ?_
 refine fa fa26_2 rfl rfl rfl rfl rfl rfl ?_
 have A14 := (BlF.st A11 p12 rfl)
 refine ld A14 Tryz.underlying23 rfl rfl rfl rfl rfl rfl rfl rfl ?_
 refine fa fa33_2 rfl rfl rfl rfl rfl rfl ?_
 refine sv B12 z23 rfl rfl rfl rfl rfl rfl (FL.one A0_0) rfl (fun s15 p15 B15 => ?_)
 refine dn ?_
 refine sr ?_
 refine fa fa26_3 rfl rfl rfl rfl rfl rfl ?_
 have A17 := (BlF.st A14 p15 rfl)
 refine ld A17 Tryz.underlying24 rfl rfl rfl rfl rfl rfl rfl rfl ?_
 have K18 := ((((((kp0.st p2 rfl).st p4 rfl).st p6 rfl).st p9 rfl).st p12 rfl).st p15 rfl)
 have A19 := (A0_1.kp K18)
 refine cl rfl rfl rfl rfl rfl Tryz.func73 rfl rfl rfl (fun r20 m20 => laws_toByteS.calls a0.T s15.w (fun b => memb [0] (s15.g b) = true) w0_1 A19 r20 m20) ?_
 rintro r20 v20_0 w20 m20 ⟨f20_0, ky20⟩
 obtain ⟨s21, rfl, p21, n21⟩ := nwx s15 w20 43 ky20
 have A20_0 := f20_0.c n21
 refine fa fa33_3 rfl rfl rfl rfl rfl rfl ?_
 have A23 := (BlF.st B15 p21 rfl)
 refine sv A23 z24 rfl rfl rfl rfl rfl rfl A20_0.rd.one rfl (fun s24 p24 B24 => ?_)
 refine dn ?_
 refine sr ?_
 refine lda (es := [(.int .i64 a0.Kind), (.int .i64 a0.N), w0_0, v20_0]) B24 Tryz.underlying33 z33 rfl rfl rfl rfl rfl rfl rfl rfl ?_
 have A26 := (BlF.st (BlF.st (BlF.st (BlF.st (BlF.st (BlF.st B4 p6 rfl) p9 rfl) p12 rfl) p15 rfl) p21 rfl) p24 rfl)
 have A27 := (A20_0.st p24 rfl)
 refine sva (vs := [(.int .i64 a0.Kind), (.int .i64 a0.N), w0_0, v20_0]) A26 z33 rfl rfl rfl rfl rfl rfl (on_cons rfl (on_cons rfl (on_cons (FL.one A0_0) (on_cons A27.rd.one on_nil)))) rfl (fun s28 p28 B28 => ?_)
 refine dn ?_
 have A31 := (A27.st p28 rfl)
 have A30 : OwF kd33 s28 [(.int .i64 a0.Kind), (.int .i64 a0.N), w0_0, v20_0] (Item.mk a0.Kind a0.N a0.F r20) 43 := (ow_isoz (fun x : Item => (x.Kind, x.N, x.F, x.T)) (Item.mk a0.Kind a0.N a0.F r20) (ow_l (fz_int .i64 a0.Kind) (ow_l (fz_int .i64 a0.N) (ow_l (fz_flt A0_0) A31))))
 have K33 := (((K18.st p21 rfl).st p24 rfl).st p28 rfl)
 exact re rfl Tryz.func14 rfl (r_b B28 Tryz.underlying33 rfl z33 rfl r_nil) rfl ⟨_, rfl, w0_0, v20_0, rfl, A30.fo K33 rfl z.l, z.ky K33⟩
noncomputable def spec_l5in.f (a0 : Int) (a1 : Int) (a2 : Int) : Option (Bool) :=
 (some ((decide (a0 ≥ a1)) && (decide (a0 ≤ a2))))
def spec_l5in.Q (w : World) (F : Nat → Prop) (r : Bool) (v : Value) (w' : World) : Prop :=
 v = (.bool r) ∧ Ky [] w w'
set_option maxHeartbeats 4000000 in
set_option maxRecDepth 100000 in
theorem spec_l5in.calls (a0 : Int) (a1 : Int) (a2 : Int) (w : World) (F : Nat → Prop)   (r : Bool) (m : spec_l5in.f a0 a1 a2 = some r) :
  Calls Tryz.prog 96 #[(.int .i64 a0), (.int .i64 a1), (.int .i64 a2)] w fun en w' => ∃ v, en = .returned v ∧ spec_l5in.Q w F r v w' := by
 obtain ⟨s0, rfl, kp0, z⟩ := start0 w F
 refine calls_of_TM (args := [(.int .i64 a0), (.int .i64 a1), (.int .i64 a2)]) (R := fun r en w' => ∃ v, en = .returned v ∧ spec_l5in.Q s0.w F r v w') Tryz.func96 Tryz.ntmps96 rfl rfl m ?_
 unfold spec_l5in.f
 refine sr ?_
 refine pu rfl rfl rfl rfl rfl ?_
 refine dn ?_
 refine sr ?_
 refine pu rfl rfl rfl rfl rfl ?_
 refine pu rfl rfl rfl rfl rfl ?_
 refine pu rfl rfl rfl rfl rfl ?_
 refine pu rfl rfl rfl rfl rfl ?_
 refine jy [10, 11, 12, 13, 14] [8] 14 (.bool ((decide (a0 ≥ a1)) && (decide (a0 ≤ a2)))) rfl (fun Kg1 => ?_) (fun j1 => ?_)
 ·
  rcases Bool.eq_false_or_eq_true (decide (a0 ≥ a1)) with hb1 | hb1
  ·
   refine sbT hb1 ?_
   refine pu rfl rfl rfl rfl rfl ?_
   refine pu rfl rfl rfl rfl rfl ?_
   refine pu rfl rfl rfl rfl rfl ?_
   refine pu rfl rfl rfl rfl rfl ?_
   exact Kg1 _ (Ag.put ((Ag.put ((Ag.put ((Ag.put (Ag.base rfl) rfl)) rfl)) rfl)) rfl) (by rw [hb1]; rfl)
  ·
   refine sbT hb1 ?_
   refine uw rfl rfl rfl rfl ?_
   refine uw rfl rfl rfl rfl ?_
   refine uw rfl rfl rfl rfl ?_
   refine pu rfl rfl rfl rfl rfl ?_
   exact Kg1 _ (Ag.put ((Ag.put ((Ag.put ((Ag.put (Ag.base rfl) rfl)) rfl)) rfl)) rfl) (by rw [hb1]; rfl)
 refine pu rfl rfl rfl rfl rfl ?_
 refine dn ?_
 exact re rfl Tryz.func96 rfl (r_t rfl r_nil) rfl ⟨_, rfl, rfl, z.ky kp0⟩
noncomputable def spec_FloatBits.b1 (y8 : Int × Nat) (x19 : Nat × Int) : Option ((Nat × Int) ⊕ Int) :=
 (if ((fcmp .f64 x19.1 (4607182418800017408 : Nat) == some .lt) && (decide (x19.2 > (-1022 : Int)))) = true then (some (Sum.inl ((far .mul x19.1 (4611686018427387904 : Nat)), (IntKind.wrap .i64 (x19.2 - (1 : Int)))))) else ((if (fcmp .f64 x19.1 (4607182418800017408 : Nat) == some .lt) = true then ((floatToIntVal .f64 (far .mul x19.1 (4841369599423283200 : Nat)) .u64).bind fun r27 => (some (ior .u64 y8.1 r27))) else ((floatToIntVal .f64 (far .mul (far .sub x19.1 (4607182418800017408 : Nat)) (4841369599423283200 : Nat)) .u64).bind fun r31 => (some (ior .u64 (ior .u64 y8.1 (ishl .u64 (IntKind.wrap .u64 (IntKind.wrap .i64 (x19.2 + (1023 : Int)))) (52 : Int))) r31)))).bind fun o => some (Sum.inr o)))
noncomputable def spec_FloatBits.b0 (y8 : Int × Nat) (x14 : Nat × Int) : Option ((Nat × Int) ⊕ Int) :=
 (if (fcmp .f64 x14.1 (4611686018427387904 : Nat) == some .gt || fcmp .f64 x14.1 (4611686018427387904 : Nat) == some .eq) = true then (some (Sum.inl ((far .quo x14.1 (4611686018427387904 : Nat)), (IntKind.wrap .i64 (x14.2 + (1 : Int)))))) else ((iter (spec_FloatBits.b1 y8) (x14.1, x14.2)).bind fun o => some (Sum.inr o)))
noncomputable def spec_FloatBits.f (a0 : Nat) : Option (Int) :=
 (if (fcmp .f64 a0 a0 != some .eq) = true then (some (9221120237041090560 : Int)) else ((if (fcmp .f64 a0 (0 : Nat) == some .lt) = true then (some true) else ((if (fcmp .f64 a0 (0 : Nat) == some .eq) = true then (some (fcmp .f64 (far .quo (4607182418800017408 : Nat) a0) (0 : Nat) == some .lt)) else (some false)).bind fun y3 => (some y3))).bind fun y2 => ((if y2 = true then (some ((9223372036854775808 : Int), (fneg a0))) else (some ((0 : Int), a0))).bind fun y8 => (if (fcmp .f64 y8.2 (0 : Nat) == some .eq) = true then (some y8.1) else (if (fcmp .f64 y8.2 (9218868437227405311 : Nat) == some .gt) = true then (some (ior .u64 y8.1 (9218868437227405312 : Int))) else (iter (spec_FloatBits.b0 y8) (y8.2, (0 : Int))))))))
def spec_FloatBits.Q (w : World) (F : Nat → Prop) (r : Int) (v : Value) (w' : World) : Prop :=
 v = (.int .u64 r) ∧ Ky [] w w'
set_option maxHeartbeats 4000000 in
set_option maxRecDepth 100000 in
theorem spec_FloatBits.calls (a0 : Nat) (w : World) (F : Nat → Prop) (w0_0 : Value) (h0_0 : Kd.flt.rd w [w0_0] a0 F) (r : Int) (m : spec_FloatBits.f a0 = some r) :
  Calls Tryz.prog 151 #[w0_0] w fun en w' => ∃ v, en = .returned v ∧ spec_FloatBits.Q w F r v w' := by
 obtain ⟨s0, rfl, kp0, z⟩ := start0 w F
 have A0_0 := fl_of h0_0
 refine calls_of_TM (args := [w0_0]) (R := fun r en w' => ∃ v, en = .returned v ∧ spec_FloatBits.Q s0.w F r v w') Tryz.func151 Tryz.ntmps151 rfl rfl m ?_
 unfold spec_FloatBits.f
 refine sr ?_
 refine pu rfl rfl rfl rfl rfl ?_
 refine dn ?_
 refine sq ?_
 refine sr ?_
 refine mv w0_0 rfl rfl rfl rfl rfl rfl ?_
 refine mv w0_0 rfl rfl rfl rfl rfl rfl ?_
 refine fq_ A0_0 A0_0 rfl rfl rfl rfl rfl rfl rfl rfl ?_
 refine dn ?_
 refine cd rfl (fun h1 => ?_) (fun h1 => ?_)
 ·
  refine sr ?_
  refine pu rfl rfl rfl rfl rfl ?_
  refine dn ?_
  exact re rfl Tryz.func151 rfl (r_t rfl r_nil) rfl ⟨_, rfl, rfl, z.ky kp0⟩
 ·
  refine sk ?_
  refine sr ?_
  refine pu rfl rfl rfl rfl rfl ?_
  refine dn ?_
  refine sr ?_
  refine mv w0_0 rfl rfl rfl rfl rfl rfl ?_
  refine asg w0_0 rfl rfl rfl rfl rfl rfl ?_
  refine dn ?_
  refine sq ?_
  refine sr ?_
  refine mv w0_0 rfl rfl rfl rfl rfl rfl ?_
  refine fq_ A0_0 (fl_c rfl) rfl rfl rfl rfl rfl rfl rfl rfl ?_
  refine pu rfl rfl rfl rfl rfl ?_
  refine ji [] (fun (y2 : Bool) (e : Env) (w : World) => ∃ (s : St) (e0 : Env), w = s.w ∧ e = upd (upd (upd (upd e0 0 w0_0) 3 (.int .u64 (0 : Int))) 4 w0_0) 20 (.bool y2) ∧ Kp s0 s) (fun Gj2 Kj2 => ?_) ?_
  ·
   rcases Bool.eq_false_or_eq_true (fcmp .f64 a0 (0 : Nat) == some .lt) with hb2 | hb2
   ·
    refine sbT hb2 ?_
    rw [if_pos hb2]
    refine uw rfl rfl rfl rfl ?_
    refine uw rfl rfl rfl rfl ?_
    refine uw rfl rfl rfl rfl ?_
    refine uw rfl rfl rfl rfl ?_
    refine uw rfl rfl rfl rfl ?_
    refine uw rfl rfl rfl rfl ?_
    refine uw rfl rfl rfl rfl ?_
    refine pu rfl rfl rfl rfl rfl ?_
    exact Kj2 _ _ _ ⟨s0, _, rfl, (ue (ue (ue (ue rfl rfl) rfl) rfl) rfl), kp0⟩
   ·
    refine sbT hb2 ?_
    rw [if_neg (by rw [hb2]; decide)]
    refine mv w0_0 rfl rfl rfl rfl rfl rfl ?_
    refine fq_ A0_0 (fl_c rfl) rfl rfl rfl rfl rfl rfl rfl rfl ?_
    refine pu rfl rfl rfl rfl rfl ?_
    refine ji [10] (fun (y3 : Bool) (e : Env) (w : World) => ∃ (s : St) (e0 : Env), w = s.w ∧ e = upd (upd (upd (upd (upd e0 0 w0_0) 3 (.int .u64 (0 : Int))) 4 w0_0) 12 (.bool false)) 19 (.bool y3) ∧ Kp s0 s) (fun Gj3 Kj3 => ?_) ?_
    ·
     rcases Bool.eq_false_or_eq_true (fcmp .f64 a0 (0 : Nat) == some .eq) with hb3 | hb3
     ·
      refine sbT hb3 ?_
      rw [if_pos hb3]
      refine mv w0_0 rfl rfl rfl rfl rfl rfl ?_
      refine fa_ (fl_c rfl) A0_0 (by simp) rfl rfl rfl rfl rfl rfl rfl (fun v4 s4 p4 A4 => ?_)
      refine fq_ A4 (fl_c rfl) rfl rfl rfl rfl rfl rfl rfl rfl ?_
      refine pu rfl rfl rfl rfl rfl ?_
      have K5 := (kp0.st p4 rfl)
      exact Kj3 _ _ _ ⟨s4, _, rfl, (ue (ue (ue (ue (ue rfl rfl) rfl) rfl) rfl) rfl), K5⟩
     ·
      refine sbT hb3 ?_
      rw [if_neg (by rw [hb3]; decide)]
      refine uw rfl rfl rfl rfl ?_
      refine uw rfl rfl rfl rfl ?_
      refine uw rfl rfl rfl rfl ?_
      refine pu rfl rfl rfl rfl rfl ?_
      exact Kj3 _ _ _ ⟨s0, _, rfl, (ue (ue (ue (ue (ue rfl rfl) rfl) rfl) rfl) rfl), kp0⟩
    rintro y3 _ _ ⟨s6, _, rfl, rfl, Ky3⟩
    refine pu rfl rfl rfl rfl rfl ?_
    exact Kj2 _ _ _ ⟨s6, _, rfl, (ue (ue (ue (ue rfl rfl) rfl) rfl) rfl), Ky3⟩
  rintro y2 _ _ ⟨s7, _, rfl, rfl, Ky2⟩
  refine dn ?_
  refine jc (fun (y8 : Int × Nat) (e : Env) (w : World) => ∃ (s : St) (e0 : Env) (uy8_0 : Value), w = s.w ∧ e = upd (upd e0 3 (.int .u64 y8.1)) 4 uy8_0 ∧ Kp s0 s ∧ FL uy8_0 y8.2) (fun Gj8 Kj8 => ?_) ?_
  ·
   refine cd rfl (fun h9 => ?_) (fun h9 => ?_)
   ·
    refine sr ?_
    refine pu rfl rfl rfl rfl rfl ?_
    refine dn ?_
    refine rg ?_
    refine mv w0_0 rfl rfl rfl rfl rfl rfl ?_
    refine fng_ A0_0 rfl rfl rfl rfl rfl rfl (fun v10 A10 => ?_)
    refine asg v10 rfl rfl rfl rfl rfl rfl ?_
    refine dn ?_
    exact Kj8 _ _ _ ⟨s7, _, v10, rfl, (ue (ue rfl rfl) rfl), Ky2, A10⟩
   ·
    refine sk ?_
    exact Kj8 _ _ _ ⟨s7, _, w0_0, rfl, (ue (ue rfl rfl) rfl), Ky2, A0_0⟩
  rintro y8 _ _ ⟨s11, _, uy8_0, rfl, rfl, Ky8, Fy8_0⟩
  refine sq ?_
  refine sr ?_
  refine mv uy8_0 rfl rfl rfl rfl rfl rfl ?_
  refine fq_ Fy8_0 (fl_c rfl) rfl rfl rfl rfl rfl rfl rfl rfl ?_
  refine dn ?_
  refine cd rfl (fun h12 => ?_) (fun h12 => ?_)
  ·
   refine sr ?_
   refine pu rfl rfl rfl rfl rfl ?_
   refine pu rfl rfl rfl rfl rfl ?_
   refine dn ?_
   exact re rfl Tryz.func151 rfl (r_t rfl r_nil) rfl ⟨_, rfl, rfl, z.ky Ky8⟩
  ·
   refine sk ?_
   refine sq ?_
   refine sr ?_
   refine mv uy8_0 rfl rfl rfl rfl rfl rfl ?_
   refine fq_ Fy8_0 (fl_c rfl) rfl rfl rfl rfl rfl rfl rfl rfl ?_
   refine dn ?_
   refine cd rfl (fun h13 => ?_) (fun h13 => ?_)
   ·
    refine sr ?_
    refine pu rfl rfl rfl rfl rfl ?_
    refine pu rfl rfl rfl rfl rfl ?_
    refine pu rfl rfl rfl rfl rfl ?_
    refine dn ?_
    exact re rfl Tryz.func151 rfl (r_t rfl r_nil) rfl ⟨_, rfl, rfl, z.ky Ky8⟩
   ·
    refine sk ?_
    refine sr ?_
    refine pu rfl rfl rfl rfl rfl ?_
    refine dn ?_
    refine sq ?_
    refine bl ?_
    refine lpI (fun (x14 : Nat × Int) (e : Env) (w : World) => ∃ (s : St) (e0 : Env) (ux14_0 : Value), w = s.w ∧ e = upd (upd (upd e0 3 (.int .u64 y8.1)) 4 ux14_0) 5 (.int .i64 x14.2) ∧ Kp s0 s ∧ FL ux14_0 x14.1) ⟨s11, _, uy8_0, rfl, (ue (ue (ue rfl rfl) rfl) rfl), Ky8, Fy8_0⟩ (fun g14 ih14 => ?_)
    rintro x14 _ _ ⟨s15, _, ux14_0, rfl, rfl, Kx14, Fx14_0⟩
    unfold spec_FloatBits.b0
    refine sq ?_
    refine sr ?_
    refine mv ux14_0 rfl rfl rfl rfl rfl rfl ?_
    refine fq_ Fx14_0 (fl_c rfl) rfl rfl rfl rfl rfl rfl rfl rfl ?_
    refine dn ?_
    refine cd rfl (fun h16 => ?_) (fun h16 => ?_)
    ·
     refine sk ?_
     refine bl ?_
     refine sr ?_
     refine mv ux14_0 rfl rfl rfl rfl rfl rfl ?_
     refine fa_ Fx14_0 (fl_c rfl) (by simp) rfl rfl rfl rfl rfl rfl rfl (fun v17 s17 p17 A17 => ?_)
     refine asg v17 rfl rfl rfl rfl rfl rfl ?_
     refine dn ?_
     refine rg ?_
     refine pu rfl rfl rfl rfl rfl ?_
     refine pu rfl rfl rfl rfl rfl ?_
     refine pu rfl rfl rfl rfl rfl ?_
     refine dn ?_
     refine ib ?_
     have K18 := (Kx14.st p17 rfl)
     exact lb ih14 ⟨s17, _, v17, rfl, (ue (ue (ue rfl rfl) rfl) rfl), K18, A17⟩
    ·
     refine xt rfl ?_
     refine sgb ?_
     refine sq ?_
     refine bl ?_
     refine lpI (fun (x19 : Nat × Int) (e : Env) (w : World) => ∃ (s : St) (e0 : Env) (ux19_0 : Value), w = s.w ∧ e = upd (upd (upd e0 3 (.int .u64 y8.1)) 4 ux19_0) 5 (.int .i64 x19.2) ∧ Kp s0 s ∧ FL ux19_0 x19.1) ⟨s15, _, ux14_0, rfl, (ue (ue (ue rfl rfl) rfl) rfl), Kx14, Fx14_0⟩ (fun g19 ih19 => ?_)
     rintro x19 _ _ ⟨s20, _, ux19_0, rfl, rfl, Kx19, Fx19_0⟩
     unfold spec_FloatBits.b1
     refine sq ?_
     refine sr ?_
     refine mv ux19_0 rfl rfl rfl rfl rfl rfl ?_
     refine fq_ Fx19_0 (fl_c rfl) rfl rfl rfl rfl rfl rfl rfl rfl ?_
     refine pu rfl rfl rfl rfl rfl ?_
     refine jy [38, 39, 40, 41] [] 41 (.bool ((fcmp .f64 x19.1 (4607182418800017408 : Nat) == some .lt) && (decide (x19.2 > (-1022 : Int))))) rfl (fun Kg21 => ?_) (fun j21 => ?_)
     ·
      rcases Bool.eq_false_or_eq_true (fcmp .f64 x19.1 (4607182418800017408 : Nat) == some .lt) with hb21 | hb21
      ·
       refine sbT hb21 ?_
       refine pu rfl rfl rfl rfl rfl ?_
       refine pu rfl rfl rfl rfl rfl ?_
       refine pu rfl rfl rfl rfl rfl ?_
       exact Kg21 _ (Ag.put ((Ag.put ((Ag.put (Ag.base rfl) rfl)) rfl)) rfl) (by rw [hb21]; rfl)
      ·
       refine sbT hb21 ?_
       refine uw rfl rfl rfl rfl ?_
       refine uw rfl rfl rfl rfl ?_
       refine pu rfl rfl rfl rfl rfl ?_
       exact Kg21 _ (Ag.put ((Ag.put ((Ag.put (Ag.base rfl) rfl)) rfl)) rfl) (by rw [hb21]; rfl)
     refine dn ?_
     refine cd rfl (fun h22 => ?_) (fun h22 => ?_)
     ·
      refine sk ?_
      refine bl ?_
      refine sr ?_
      refine mv ux19_0 rfl rfl rfl rfl rfl rfl ?_
      refine fa_ Fx19_0 (fl_c rfl) (by simp) rfl rfl rfl rfl rfl rfl rfl (fun v23 s23 p23 A23 => ?_)
      refine asg v23 rfl rfl rfl rfl rfl rfl ?_
      refine dn ?_
      refine rg ?_
      refine pu rfl rfl rfl rfl rfl ?_
      refine pu rfl rfl rfl rfl rfl ?_
      refine pu rfl rfl rfl rfl rfl ?_
      refine dn ?_
      refine ib ?_
      have K24 := (Kx19.st p23 rfl)
      exact lb ih19 ⟨s23, _, v23, rfl, (ue (ue (ue rfl rfl) rfl) rfl), K24, A23⟩
     ·
      refine xt rfl ?_
      refine sgb ?_
      refine sq ?_
      refine sr ?_
      refine mv ux19_0 rfl rfl rfl rfl rfl rfl ?_
      refine fq_ Fx19_0 (fl_c rfl) rfl rfl rfl rfl rfl rfl rfl rfl ?_
      refine dn ?_
      refine cd rfl (fun h25 => ?_) (fun h25 => ?_)
      ·
       refine sr ?_
       refine pu rfl rfl rfl rfl rfl ?_
       refine mv ux19_0 rfl rfl rfl rfl rfl rfl ?_
       refine fa_ Fx19_0 (fl_c rfl) (by simp) rfl rfl rfl rfl rfl rfl rfl (fun v26 s26 p26 A26 => ?_)
       refine f2i A26 Tryz.underlying201 Tryz.underlying23 rfl rfl rfl rfl rfl rfl (fun r27 m27 => ?_)
       refine pu rfl rfl rfl rfl rfl ?_
       refine pu rfl rfl rfl rfl rfl ?_
       refine dn ?_
       have K28 := (Kx19.st p26 rfl)
       exact re rfl Tryz.func151 rfl (r_t rfl r_nil) rfl ⟨_, rfl, rfl, z.ky K28⟩
      ·
       refine sk ?_
       refine sr ?_
       refine pu rfl rfl rfl rfl rfl ?_
       refine pu rfl rfl rfl rfl rfl ?_
       refine pu rfl rfl rfl rfl rfl ?_
       refine cv Tryz.underlying201 Tryz.underlying3 rfl rfl rfl rfl rfl rfl ?_
       refine shlK rfl rfl rfl rfl rfl rfl rfl rfl ?_
       refine pu rfl rfl rfl rfl rfl ?_
       refine mv ux19_0 rfl rfl rfl rfl rfl rfl ?_
       refine fa_ Fx19_0 (fl_c rfl) (by simp) rfl rfl rfl rfl rfl rfl rfl (fun v29 s29 p29 A29 => ?_)
       refine fa_ A29 (fl_c rfl) (by simp) rfl rfl rfl rfl rfl rfl rfl (fun v30 s30 p30 A30 => ?_)
       refine f2i A30 Tryz.underlying201 Tryz.underlying23 rfl rfl rfl rfl rfl rfl (fun r31 m31 => ?_)
       refine pu rfl rfl rfl rfl rfl ?_
       refine pu rfl rfl rfl rfl rfl ?_
       refine dn ?_
       have K32 := ((Kx19.st p29 rfl).st p30 rfl)
       exact re rfl Tryz.func151 rfl (r_t rfl r_nil) rfl ⟨_, rfl, rfl, z.ky K32⟩
noncomputable def spec_ItemOk.f (a0 : Item) : Option (Bool) :=
 (if (((decide (a0.Kind < (0 : Int))) || (decide (a0.Kind > (3 : Int)))) || (decide ((a0.T.length : Int) > (40 : Int)))) = true then (some false) else (if ((a0.Kind != (1 : Int)) && (a0.N != (0 : Int))) = true then (some false) else ((if (a0.Kind != (2 : Int)) = true then ((spec_FloatBits.f a0.F).bind fun r14 => (some (r14 != (0 : Int)))) else (some false)).bind fun y13 => (if y13 = true then (some false) else (some ((a0.Kind == (3 : Int)) || ((a0.T.length : Int) == (0 : Int))))))))
def spec_ItemOk.Q (w : World) (F : Nat → Prop) (r : Bool) (v : Value) (w' : World) : Prop :=
 v = (.bool r) ∧ Ky [] w w'
set_option maxHeartbeats 4000000 in
set_option maxRecDepth 100000 in
theorem spec_ItemOk.calls (a0 : Item) (w : World) (F : Nat → Prop) (w0_0 : Value) (w0_1 : Value) (h0_0 : Kd.flt.rd w [w0_0] a0.F F) (h0_1 : (Kd.sl 5 (Kd.int .u8)).rd w [w0_1] a0.T F) (r : Bool) (m : spec_ItemOk.f a0 = some r) :
  Calls Tryz.prog 150 #[(.agg #[(.int .i64 a0.Kind), (.int .i64 a0.N), w0_0, w0_1])] w fun en w' => ∃ v, en = .returned v ∧ spec_ItemOk.Q w F r v w' := by
 obtain ⟨s0, rfl, kp0, z⟩ := start0 w F
 have A0_0 := fl_of h0_0
 have A0_1 := z.rd h0_1
 refine calls_of_TM (args := [(.agg #[(.int .i64 a0.Kind), (.int .i64 a0.N), w0_0, w0_1])]) (R := fun r en w' => ∃ v, en = .returned v ∧ spec_ItemOk.Q s0.w F r v w') Tryz.func150 Tryz.ntmps150 rfl rfl m ?_
 unfold spec_ItemOk.f
 refine sr ?_
 refine bx (cs := [(.int .i64 a0.Kind), (.int .i64 a0.N), w0_0, w0_1]) 40 rfl rfl rfl rfl rfl rfl (fun b2 s2 p2 B2 => ?_)
 refine pu rfl rfl rfl rfl rfl ?_
 refine dn ?_
 refine sq ?_
 refine sr ?_
 refine fa fa33_0 rfl rfl rfl rfl rfl rfl ?_
 refine ld B2 Tryz.underlying3 rfl rfl rfl rfl rfl rfl rfl rfl ?_
 refine pu rfl rfl rfl rfl rfl ?_
 refine pu rfl rfl rfl rfl rfl ?_
 refine jy [6, 7, 8, 9, 10] [8, 9, 10, 11, 12, 13] 10 (.bool ((decide (a0.Kind < (0 : Int))) || (decide (a0.Kind > (3 : Int))))) rfl (fun Kg4 => ?_) (fun j4 => ?_)
 ·
  rcases Bool.eq_false_or_eq_true (decide (a0.Kind < (0 : Int))) with hb4 | hb4
  ·
   refine sbT hb4 ?_
   refine uw rfl rfl rfl rfl ?_
   refine uw rfl rfl rfl rfl ?_
   refine uw rfl rfl rfl rfl ?_
   refine pu rfl rfl rfl rfl rfl ?_
   exact Kg4 _ (Ag.put ((Ag.put ((Ag.put ((Ag.put (Ag.base rfl) rfl)) rfl)) rfl)) rfl) (by rw [hb4]; rfl)
  ·
   refine sbT hb4 ?_
   refine fa fa33_0 rfl rfl rfl rfl rfl rfl ?_
   refine ld B2 Tryz.underlying3 rfl rfl rfl rfl rfl rfl rfl rfl ?_
   refine pu rfl rfl rfl rfl rfl ?_
   refine pu rfl rfl rfl rfl rfl ?_
   exact Kg4 _ (Ag.put ((Ag.put ((Ag.put ((Ag.put (Ag.base rfl) rfl)) rfl)) rfl)) rfl) (by rw [hb4]; rfl)
 refine pu rfl rfl rfl rfl rfl ?_
 refine jy [11, 12, 13, 14, 15, 16] [] 16 (.bool (((decide (a0.Kind < (0 : Int))) || (decide (a0.Kind > (3 : Int)))) || (decide ((a0.T.length : Int) > (40 : Int))))) rfl (fun Kg5 => ?_) (fun j5 => ?_)
 ·
  rcases Bool.eq_false_or_eq_true ((decide (a0.Kind < (0 : Int))) || (decide (a0.Kind > (3 : Int)))) with hb5 | hb5
  ·
   refine sbT hb5 ?_
   refine uw rfl rfl rfl rfl ?_
   refine uw rfl rfl rfl rfl ?_
   refine uw rfl rfl rfl rfl ?_
   refine uw rfl rfl rfl rfl ?_
   refine pu rfl rfl rfl rfl rfl ?_
   exact Kg5 _ (Ag.put ((Ag.put ((Ag.put ((Ag.put ((Ag.put (Ag.base rfl) rfl)) rfl)) rfl)) rfl)) rfl) (by rw [hb5]; rfl)
  ·
   refine sbT hb5 ?_
   refine fa fa33_3 rfl rfl rfl rfl rfl rfl ?_
   refine ld B2 Tryz.underlying24 rfl rfl rfl rfl rfl rfl rfl rfl ?_
   have K6 := (kp0.st p2 rfl)
   have A7 := (A0_1.kp K6)
   refine ln A7 Tryz.underlying24 rfl rfl rfl rfl rfl rfl ?_
   refine pu rfl rfl rfl rfl rfl ?_
   refine pu rfl rfl rfl rfl rfl ?_
   exact Kg5 _ (Ag.put ((Ag.put ((Ag.put ((Ag.put ((Ag.put (Ag.base rfl) rfl)) rfl)) rfl)) rfl)) rfl) (by rw [hb5]; rfl)
 refine dn ?_
 refine cd rfl (fun h8 => ?_) (fun h8 => ?_)
 ·
  refine sr ?_
  refine pu rfl rfl rfl rfl rfl ?_
  refine dn ?_
  have K9 := (kp0.st p2 rfl)
  exact re rfl Tryz.func150 rfl (r_t rfl r_nil) rfl ⟨_, rfl, rfl, z.ky K9⟩
 ·
  refine sk ?_
  refine sq ?_
  refine sr ?_
  refine fa fa33_0 rfl rfl rfl rfl rfl rfl ?_
  refine ld B2 Tryz.underlying3 rfl rfl rfl rfl rfl rfl rfl rfl ?_
  refine pu rfl rfl rfl rfl rfl ?_
  refine pu rfl rfl rfl rfl rfl ?_
  refine jy [20, 21, 22, 23, 24] [] 24 (.bool ((a0.Kind != (1 : Int)) && (a0.N != (0 : Int)))) rfl (fun Kg10 => ?_) (fun j10 => ?_)
  ·
   rcases Bool.eq_false_or_eq_true (a0.Kind != (1 : Int)) with hb10 | hb10
   ·
    refine sbT hb10 ?_
    refine fa fa33_1 rfl rfl rfl rfl rfl rfl ?_
    refine ld B2 Tryz.underlying3 rfl rfl rfl rfl rfl rfl rfl rfl ?_
    refine pu rfl rfl rfl rfl rfl ?_
    refine pu rfl rfl rfl rfl rfl ?_
    exact Kg10 _ (Ag.put ((Ag.put ((Ag.put ((Ag.put (Ag.base rfl) rfl)) rfl)) rfl)) rfl) (by rw [hb10]; rfl)
   ·
    refine sbT hb10 ?_
    refine uw rfl rfl rfl rfl ?_
    refine uw rfl rfl rfl rfl ?_
    refine uw rfl rfl rfl rfl ?_
    refine pu rfl rfl rfl rfl rfl ?_
    exact Kg10 _ (Ag.put ((Ag.put ((Ag.put ((Ag.put (Ag.base rfl) rfl)) rfl)) rfl)) rfl) (by rw [hb10]; rfl)
  refine dn ?_
  refine cd rfl (fun h11 => ?_) (fun h11 => ?_)
  ·
   refine sr ?_
   refine pu rfl rfl rfl rfl rfl ?_
   refine dn ?_
   have K12 := (kp0.st p2 rfl)
   exact re rfl Tryz.func150 rfl (r_t rfl r_nil) rfl ⟨_, rfl, rfl, z.ky K12⟩
  ·
   refine sk ?_
   refine sq ?_
   refine sr ?_
   refine fa fa33_0 rfl rfl rfl rfl rfl rfl ?_
   refine ld B2 Tryz.underlying3 rfl rfl rfl rfl rfl rfl rfl rfl ?_
   refine pu rfl rfl rfl rfl rfl ?_
   refine pu rfl rfl rfl rfl rfl ?_
   refine ji [] (fun (y13 : Bool) (e : Env) (w : World) => ∃ (s : St) (e0 : Env), w = s.w ∧ e = upd (upd e0 1 (.pointer (some ⟨b2, 0, none⟩))) 33 (.bool y13) ∧ Kp s0 s ∧ BlF s b2 33 [(.int .i64 a0.Kind), (.int .i64 a0.N), w0_0, w0_1] 40) (fun Gj13 Kj13 => ?_) ?_
   ·
    rcases Bool.eq_false_or_eq_true (a0.Kind != (2 : Int)) with hb13 | hb13
    ·
     refine sbT hb13 ?_
     rw [if_pos hb13]
     refine fa fa33_2 rfl rfl rfl rfl rfl rfl ?_
     refine ld B2 Tryz.underlying23 rfl rfl rfl rfl rfl rfl rfl rfl ?_
     refine cl rfl rfl rfl rfl rfl Tryz.func151 rfl rfl rfl (fun r14 m14 => spec_FloatBits.calls a0.F s2.w (fun b => memb [] (s2.g b) = true) w0_0 (fl_rdf (s := s2) A0_0) r14 m14) ?_
     rintro r14 _ w14 m14 ⟨rfl, ky14⟩
     obtain ⟨s15, rfl, p15, n15⟩ := nwx s2 w14 41 ky14
     refine pu rfl rfl rfl rfl rfl ?_
     refine pu rfl rfl rfl rfl rfl ?_
     have A16 := (BlF.st B2 p15 rfl)
     have K17 := ((kp0.st p2 rfl).st p15 rfl)
     exact Kj13 _ _ _ ⟨s15, _, rfl, (ue (ue rfl rfl) rfl), K17, A16⟩
    ·
     refine sbT hb13 ?_
     rw [if_neg (by rw [hb13]; decide)]
     refine uw rfl rfl rfl rfl ?_
     refine uw rfl rfl rfl rfl ?_
     refine uw rfl rfl rfl rfl ?_
     refine uw rfl rfl rfl rfl ?_
     refine pu rfl rfl rfl rfl rfl ?_
     have K18 := (kp0.st p2 rfl)
     exact Kj13 _ _ _ ⟨s2, _, rfl, (ue (ue rfl rfl) rfl), K18, B2⟩
   rintro y13 _ _ ⟨s19, _, rfl, rfl, Ky13, By13_b2⟩
   refine dn ?_
   refine cd rfl (fun h21 => ?_) (fun h21 => ?_)
   ·
    refine sr ?_
    refine pu rfl rfl rfl rfl rfl ?_
    refine dn ?_
    exact re rfl Tryz.func150 rfl (r_t rfl r_nil) rfl ⟨_, rfl, rfl, z.ky Ky13⟩
   ·
    refine sk ?_
    refine sr ?_
    refine fa fa33_0 rfl rfl rfl rfl rfl rfl ?_
    refine ld By13_b2 Tryz.underlying3 rfl rfl rfl rfl rfl rfl rfl rfl ?_
    refine pu rfl rfl rfl rfl rfl ?_
    refine pu rfl rfl rfl rfl rfl ?_
    refine jy [37, 38, 39, 40, 41, 42] [9] 42 (.bool ((a0.Kind == (3 : Int)) || ((a0.T.length : Int) == (0 : Int)))) rfl (fun Kg22 => ?_) (fun j22 => ?_)
    ·
     rcases Bool.eq_false_or_eq_true (a0.Kind == (3 : Int)) with hb22 | hb22
     ·
      refine sbT hb22 ?_
      refine uw rfl rfl rfl rfl ?_
      refine uw rfl rfl rfl rfl ?_
      refine uw rfl rfl rfl rfl ?_
      refine uw rfl rfl rfl rfl ?_
      refine pu rfl rfl rfl rfl rfl ?_
      exact Kg22 _ (Ag.put ((Ag.put ((Ag.put ((Ag.put ((Ag.put (Ag.base rfl) rfl)) rfl)) rfl)) rfl)) rfl) (by rw [hb22]; rfl)
     ·
      refine sbT hb22 ?_
      refine fa fa33_3 rfl rfl rfl rfl rfl rfl ?_
      refine ld By13_b2 Tryz.underlying24 rfl rfl rfl rfl rfl rfl rfl rfl ?_
      have A23 := (A0_1.kp Ky13)
      refine ln A23 Tryz.underlying24 rfl rfl rfl rfl rfl rfl ?_
      refine pu rfl rfl rfl rfl rfl ?_
      refine pu rfl rfl rfl rfl rfl ?_
      exact Kg22 _ (Ag.put ((Ag.put ((Ag.put ((Ag.put ((Ag.put (Ag.base rfl) rfl)) rfl)) rfl)) rfl)) rfl) (by rw [hb22]; rfl)
    refine pu rfl rfl rfl rfl rfl ?_
    refine dn ?_
    exact re rfl Tryz.func150 rfl (r_t rfl r_nil) rfl ⟨_, rfl, rfl, z.ky Ky13⟩
noncomputable def spec_KeyOk.f (a0 : Item) : Option (Bool) :=
 ((spec_ItemOk.f a0).bind fun r6 => ((if (r6 && (a0.Kind != (0 : Int))) = true then ((if (fcmp .f64 a0.F (0 : Nat) == some .eq) = true then ((spec_FloatBits.f a0.F).bind fun r13 => (some (r13 != (0 : Int)))) else (some false)).bind fun y12 => (some (!y12))) else (some false)).bind fun y10 => (some y10)))
def spec_KeyOk.Q (w : World) (F : Nat → Prop) (r : Bool) (v : Value) (w' : World) : Prop :=
 v = (.bool r) ∧ Ky [] w w'
set_option maxHeartbeats 4000000 in
set_option maxRecDepth 100000 in
theorem spec_KeyOk.calls (a0 : Item) (w : World) (F : Nat → Prop) (w0_0 : Value) (w0_1 : Value) (h0_0 : Kd.flt.rd w [w0_0] a0.F F) (h0_1 : (Kd.sl 5 (Kd.int .u8)).rd w [w0_1] a0.T F) (r : Bool) (m : spec_KeyOk.f a0 = some r) :
  Calls Tryz.prog 66 #[(.agg #[(.int .i64 a0.Kind), (.int .i64 a0.N), w0_0, w0_1])] w fun en w' => ∃ v, en = .returned v ∧ spec_KeyOk.Q w F r v w' := by
 obtain ⟨s0, rfl, kp0, z⟩ := start0 w F
 have A0_0 := fl_of h0_0
 have A0_1 := z.rd h0_1
 refine calls_of_TM (args := [(.agg #[(.int .i64 a0.Kind), (.int .i64 a0.N), w0_0, w0_1])]) (R := fun r en w' => ∃ v, en = .returned v ∧ spec_KeyOk.Q s0.w F r v w') Tryz.func66 Tryz.ntmps66 rfl rfl m ?_
 unfold spec_KeyOk.f
 refine sr ?_
 refine bx (cs := [(.int .i64 a0.Kind), (.int .i64 a0.N), w0_0, w0_1]) 40 rfl rfl rfl rfl rfl rfl (fun b2 s2 p2 B2 => ?_)
 refine pu rfl rfl rfl rfl rfl ?_
 refine dn ?_
 refine sr ?_
 refine lda (es := [(.int .i64 a0.Kind), (.int .i64 a0.N), w0_0, w0_1]) B2 Tryz.underlying33 z33 rfl rfl rfl rfl rfl rfl rfl rfl ?_
 have K4 := (kp0.st p2 rfl)
 have A5 := (A0_1.kp K4)
 refine cl rfl rfl rfl rfl rfl Tryz.func150 rfl rfl rfl (fun r6 m6 => spec_ItemOk.calls a0 s2.w (fun b => memb [0] (s2.g b) = true) w0_0 w0_1 ((fl_rdf (s := s2) A0_0).sub (D := [0]) rfl) A5 r6 m6) ?_
 rintro r6 _ w6 m6 ⟨rfl, ky6⟩
 obtain ⟨s7, rfl, p7, n7⟩ := nwx s2 w6 41 ky6
 refine pu rfl rfl rfl rfl rfl ?_
 refine jy [5, 6, 7, 8, 9] [7, 8, 9, 10, 11, 12, 13, 14, 15, 16, 17, 18, 19] 9 (.bool (r6 && (a0.Kind != (0 : Int)))) rfl (fun Kg8 => ?_) (fun j8 => ?_)
 ·
  rcases Bool.eq_false_or_eq_true r6 with hb8 | hb8
  ·
   refine sbT hb8 ?_
   refine fa fa33_0 rfl rfl rfl rfl rfl rfl ?_
   have A9 := (BlF.st B2 p7 rfl)
   refine ld A9 Tryz.underlying3 rfl rfl rfl rfl rfl rfl rfl rfl ?_
   refine pu rfl rfl rfl rfl rfl ?_
   refine pu rfl rfl rfl rfl rfl ?_
   exact Kg8 _ (Ag.put ((Ag.put ((Ag.put ((Ag.put (Ag.base rfl) rfl)) rfl)) rfl)) rfl) (by rw [hb8]; rfl)
  ·
   refine sbT hb8 ?_
   refine uw rfl rfl rfl rfl ?_
   refine uw rfl rfl rfl rfl ?_
   refine uw rfl rfl rfl rfl ?_
   refine pu rfl rfl rfl rfl rfl ?_
   exact Kg8 _ (Ag.put ((Ag.put ((Ag.put ((Ag.put (Ag.base rfl) rfl)) rfl)) rfl)) rfl) (by rw [hb8]; rfl)
 refine pu rfl rfl rfl rfl rfl ?_
 refine ji [19] (fun (y10 : Bool) (e : Env) (w : World) => ∃ (s : St) (e0 : Env), w = s.w ∧ e = upd e0 21 (.bool y10) ∧ Kp s0 s) (fun Gj10 Kj10 => ?_) ?_
 ·
  rcases Bool.eq_false_or_eq_true (r6 && (a0.Kind != (0 : Int))) with hb10 | hb10
  ·
   refine sbT hb10 ?_
   rw [if_pos hb10]
   refine fa fa33_2 rfl rfl rfl rfl rfl rfl ?_
   have A11 := (BlF.st B2 p7 rfl)
   refine ld A11 Tryz.underlying23 rfl rfl rfl rfl rfl rfl rfl rfl ?_
   refine fq_ A0_0 (fl_c rfl) rfl rfl rfl rfl rfl rfl rfl rfl ?_
   refine pu rfl rfl rfl rfl rfl ?_
   refine ji [17, 18, 19] (fun (y12 : Bool) (e : Env) (w : World) => ∃ (s : St) (e0 : Env), w = s.w ∧ e = upd (upd e0 10 (.bool true)) 19 (.bool y12) ∧ Kp s0 s) (fun Gj12 Kj12 => ?_) ?_
   ·
    rcases Bool.eq_false_or_eq_true (fcmp .f64 a0.F (0 : Nat) == some .eq) with hb12 | hb12
    ·
     refine sbT hb12 ?_
     rw [if_pos hb12]
     refine fa fa33_2 rfl rfl rfl rfl rfl rfl ?_
     refine ld A11 Tryz.underlying23 rfl rfl rfl rfl rfl rfl rfl rfl ?_
     refine cl rfl rfl rfl rfl rfl Tryz.func151 rfl rfl rfl (fun r13 m13 => spec_FloatBits.calls a0.F s7.w (fun b => memb [] (s7.g b) = true) w0_0 (fl_rdf (s := s7) A0_0) r13 m13) ?_
     rintro r13 _ w13 m13 ⟨rfl, ky13⟩
     obtain ⟨s14, rfl, p14, n14⟩ := nwx s7 w13 42 ky13
     refine pu rfl rfl rfl rfl rfl ?_
     refine pu rfl rfl rfl rfl rfl ?_
     have K15 := ((K4.st p7 rfl).st p14 rfl)
     exact Kj12 _ _ _ ⟨s14, _, rfl, (ue (ue rfl rfl) rfl), K15⟩
    ·
     refine sbT hb12 ?_
     rw [if_neg (by rw [hb12]; decide)]
     refine uw rfl rfl rfl rfl ?_
     refine uw rfl rfl rfl rfl ?_
     refine uw rfl rfl rfl rfl ?_
     refine uw rfl rfl rfl rfl ?_
     refine pu rfl rfl rfl rfl rfl ?_
     have K16 := (K4.st p7 rfl)
     exact Kj12 _ _ _ ⟨s7, _, rfl, (ue (ue rfl rfl) rfl), K16⟩
   rintro y12 _ _ ⟨s17, _, rfl, rfl, Ky12⟩
   refine pu rfl rfl rfl rfl rfl ?_
   refine pu rfl rfl rfl rfl rfl ?_
   exact Kj10 _ _ _ ⟨s17, _, rfl, (ue rfl rfl), Ky12⟩
  ·
   refine sbT hb10 ?_
   rw [if_neg (by rw [hb10]; decide)]
   refine uw rfl rfl rfl rfl ?_
   refine uw rfl rfl rfl rfl ?_
   refine uw rfl rfl rfl rfl ?_
   refine uw rfl rfl rfl rfl ?_
   refine uw rfl rfl rfl rfl ?_
   refine uw rfl rfl rfl rfl ?_
   refine uw rfl rfl rfl rfl ?_
   refine uw rfl rfl rfl rfl ?_
   refine uw rfl rfl rfl rfl ?_
   refine uw rfl rfl rfl rfl ?_
   refine pu rfl rfl rfl rfl rfl ?_
   have K18 := (K4.st p7 rfl)
   exact Kj10 _ _ _ ⟨s7, _, rfl, (ue rfl rfl), K18⟩
 rintro y10 _ _ ⟨s19, _, rfl, rfl, Ky10⟩
 refine pu rfl rfl rfl rfl rfl ?_
 refine dn ?_
 exact re rfl Tryz.func66 rfl (r_t rfl r_nil) rfl ⟨_, rfl, rfl, z.ky Ky10⟩
noncomputable def spec_FloatRank.f (a0 : Nat) : Option (Int) :=
 ((spec_FloatBits.f a0).bind fun r1 => (if (r1 == (9221120237041090560 : Int)) = true then (some (18446744073709551615 : Int)) else (if (fcmp .f64 a0 (0 : Nat) == some .eq) = true then (some (9223372036854775808 : Int)) else (if ((ishr .u64 r1 (63 : Int)) == (1 : Int)) = true then (some (ixor .u64 (IntKind.max .u64) r1)) else (some (ior .u64 r1 (9223372036854775808 : Int)))))))
def spec_FloatRank.Q (w : World) (F : Nat → Prop) (r : Int) (v : Value) (w' : World) : Prop :=
 v = (.int .u64 r) ∧ Ky [] w w'
set_option maxHeartbeats 4000000 in
set_option maxRecDepth 100000 in
theorem spec_FloatRank.calls (a0 : Nat) (w : World) (F : Nat → Prop) (w0_0 : Value) (h0_0 : Kd.flt.rd w [w0_0] a0 F) (r : Int) (m : spec_FloatRank.f a0 = some r) :
  Calls Tryz.prog 261 #[w0_0] w fun en w' => ∃ v, en = .returned v ∧ spec_FloatRank.Q w F r v w' := by
 obtain ⟨s0, rfl, kp0, z⟩ := start0 w F
 have A0_0 := fl_of h0_0
 refine calls_of_TM (args := [w0_0]) (R := fun r en w' => ∃ v, en = .returned v ∧ spec_FloatRank.Q s0.w F r v w') Tryz.func261 Tryz.ntmps261 rfl rfl m ?_
 unfold spec_FloatRank.f
 refine sr ?_
 refine pu rfl rfl rfl rfl rfl ?_
 refine dn ?_
 refine sr ?_
 refine mv w0_0 rfl rfl rfl rfl rfl rfl ?_
 refine cl rfl rfl rfl rfl rfl Tryz.func151 rfl rfl rfl (fun r1 m1 => spec_FloatBits.calls a0 s0.w (fun b => memb [] (s0.g b) = true) w0_0 (fl_rdf (s := s0) A0_0) r1 m1) ?_
 rintro r1 _ w1 m1 ⟨rfl, ky1⟩
 obtain ⟨s2, rfl, p2, n2⟩ := nwx s0 w1 40 ky1
 refine pu rfl rfl rfl rfl rfl ?_
 refine dn ?_
 refine sq ?_
 refine sr ?_
 refine pu rfl rfl rfl rfl rfl ?_
 refine pu rfl rfl rfl rfl rfl ?_
 refine dn ?_
 refine cd rfl (fun h3 => ?_) (fun h3 => ?_)
 ·
  refine sr ?_
  refine pu rfl rfl rfl rfl rfl ?_
  refine dn ?_
  have K4 := (kp0.st p2 rfl)
  exact re rfl Tryz.func261 rfl (r_t rfl r_nil) rfl ⟨_, rfl, rfl, z.ky K4⟩
 ·
  refine sk ?_
  refine sq ?_
  refine sr ?_
  refine mv w0_0 rfl rfl rfl rfl rfl rfl ?_
  refine fq_ A0_0 (fl_c rfl) rfl rfl rfl rfl rfl rfl rfl rfl ?_
  refine dn ?_
  refine cd rfl (fun h5 => ?_) (fun h5 => ?_)
  ·
   refine sr ?_
   refine pu rfl rfl rfl rfl rfl ?_
   refine dn ?_
   have K6 := (kp0.st p2 rfl)
   exact re rfl Tryz.func261 rfl (r_t rfl r_nil) rfl ⟨_, rfl, rfl, z.ky K6⟩
  ·
   refine sk ?_
   refine sq ?_
   refine sr ?_
   refine pu rfl rfl rfl rfl rfl ?_
   refine shrK rfl rfl rfl rfl rfl rfl rfl rfl ?_
   refine pu rfl rfl rfl rfl rfl ?_
   refine dn ?_
   refine cd rfl (fun h7 => ?_) (fun h7 => ?_)
   ·
    refine sr ?_
    refine pu rfl rfl rfl rfl rfl ?_
    refine pu rfl rfl rfl rfl rfl ?_
    refine pu rfl rfl rfl rfl rfl ?_
    refine dn ?_
    have K8 := (kp0.st p2 rfl)
    exact re rfl Tryz.func261 rfl (r_t rfl r_nil) rfl ⟨_, rfl, rfl, z.ky K8⟩
   ·
    refine sk ?_
    refine sr ?_
    refine pu rfl rfl rfl rfl rfl ?_
    refine pu rfl rfl rfl rfl rfl ?_
    refine pu rfl rfl rfl rfl rfl ?_
    refine dn ?_
    have K9 := (kp0.st p2 rfl)
    exact re rfl Tryz.func261 rfl (r_t rfl r_nil) rfl ⟨_, rfl, rfl, z.ky K9⟩
noncomputable def impl_FloatRank.f (a0 : Nat) : Option (Int) :=
 (if (fcmp .f64 a0 a0 != some .eq) = true then (some (18446744073709551615 : Int)) else (if (fcmp .f64 a0 (0 : Nat) == some .eq) = true then (some (9223372036854775808 : Int)) else (if (fcmp .f64 a0 (0 : Nat) == some .gt) = true then (if isN a0 = false then (some (ior .u64 (a0 : Int) (9223372036854775808 : Int))) else none) else (if isN a0 = false then (some (ixor .u64 (IntKind.max .u64) (a0 : Int))) else none))))
def impl_FloatRank.Q (w : World) (F : Nat → Prop) (r : Int) (v : Value) (w' : World) : Prop :=
 v = (.int .u64 r) ∧ Ky [] w w'
set_option maxHeartbeats 4000000 in
set_option maxRecDepth 100000 in
theorem impl_FloatRank.calls (a0 : Nat) (w : World) (F : Nat → Prop) (w0_0 : Value) (h0_0 : Kd.flt.rd w [w0_0] a0 F) (r : Int) (m : impl_FloatRank.f a0 = some r) :
  Calls Tryz.prog 252 #[w0_0] w fun en w' => ∃ v, en = .returned v ∧ impl_FloatRank.Q w F r v w' := by
 obtain ⟨s0, rfl, kp0, z⟩ := start0 w F
 have A0_0 := fl_of h0_0
 refine calls_of_TM (args := [w0_0]) (R := fun r en w' => ∃ v, en = .returned v ∧ impl_FloatRank.Q s0.w F r v w') Tryz.func252 Tryz.ntmps252 rfl rfl m ?_
 unfold impl_FloatRank.f
 refine sr ?_
 refine pu rfl rfl rfl rfl rfl ?_
 refine dn ?_
 refine sq ?_
 refine bl ?_
 refine sr ?_
 refine mv w0_0 rfl rfl rfl rfl rfl rfl ?_
 refine mv w0_0 rfl rfl rfl rfl rfl rfl ?_
 refine fq_ A0_0 A0_0 rfl rfl rfl rfl rfl rfl rfl rfl ?_
 refine pu rfl rfl rfl rfl rfl ?_
 refine dn ?_
 refine cd rfl (fun h1 => ?_) (fun h1 => ?_)
 ·
  refine sr ?_
  refine pu rfl rfl rfl rfl rfl ?_
  refine dn ?_
  exact re rfl Tryz.func252 rfl (r_t rfl r_nil) rfl ⟨_, rfl, rfl, z.ky kp0⟩
 ·
  refine sr ?_
  refine mv w0_0 rfl rfl rfl rfl rfl rfl ?_
  refine fq_ A0_0 (fl_c rfl) rfl rfl rfl rfl rfl rfl rfl rfl ?_
  refine pu rfl rfl rfl rfl rfl ?_
  refine dn ?_
  refine cd rfl (fun h2 => ?_) (fun h2 => ?_)
  ·
   refine sr ?_
   refine pu rfl rfl rfl rfl rfl ?_
   refine dn ?_
   exact re rfl Tryz.func252 rfl (r_t rfl r_nil) rfl ⟨_, rfl, rfl, z.ky kp0⟩
  ·
   refine sr ?_
   refine mv w0_0 rfl rfl rfl rfl rfl rfl ?_
   refine fq_ A0_0 (fl_c rfl) rfl rfl rfl rfl rfl rfl rfl rfl ?_
   refine pu rfl rfl rfl rfl rfl ?_
   refine dn ?_
   refine cd rfl (fun h3 => ?_) (fun h3 => ?_)
   ·
    refine sr ?_
    refine mv w0_0 rfl rfl rfl rfl rfl rfl ?_
    refine fb_ A0_0 rfl rfl rfl rfl rfl Tryz.func166 rfl rfl xn166 xf166 rfl ?_
    refine pu rfl rfl rfl rfl rfl ?_
    refine pu rfl rfl rfl rfl rfl ?_
    refine dn ?_
    exact re rfl Tryz.func252 rfl (r_t rfl r_nil) rfl ⟨_, rfl, rfl, z.ky kp0⟩
   ·
    refine sk ?_
    refine ib ?_
    refine sr ?_
    refine mv w0_0 rfl rfl rfl rfl rfl rfl ?_
    refine fb_ A0_0 rfl rfl rfl rfl rfl Tryz.func166 rfl rfl xn166 xf166 rfl ?_
    refine pu rfl rfl rfl rfl rfl ?_
    refine pu rfl rfl rfl rfl rfl ?_
    refine dn ?_
    exact re rfl Tryz.func252 rfl (r_t rfl r_nil) rfl ⟨_, rfl, rfl, z.ky kp0⟩
noncomputable def impl_within.f (a0 : Int) (a1 : Int) (a2 : Int) : Option (Bool) :=
 (some ((decide (a1 ≤ a0)) && (decide (a0 ≤ a2))))
def impl_within.Q (w : World) (F : Nat → Prop) (r : Bool) (v : Value) (w' : World) : Prop :=
 v = (.bool r) ∧ Ky [] w w'
set_option maxHeartbeats 4000000 in
set_option maxRecDepth 100000 in
theorem impl_within.calls (a0 : Int) (a1 : Int) (a2 : Int) (w : World) (F : Nat → Prop)   (r : Bool) (m : impl_within.f a0 a1 a2 = some r) :
  Calls Tryz.prog 102 #[(.int .i64 a0), (.int .i64 a1), (.int .i64 a2)] w fun en w' => ∃ v, en = .returned v ∧ impl_within.Q w F r v w' := by
 obtain ⟨s0, rfl, kp0, z⟩ := start0 w F
 refine calls_of_TM (args := [(.int .i64 a0), (.int .i64 a1), (.int .i64 a2)]) (R := fun r en w' => ∃ v, en = .returned v ∧ impl_within.Q s0.w F r v w') Tryz.func102 Tryz.ntmps102 rfl rfl m ?_
 unfold impl_within.f
 refine sr ?_
 refine pu rfl rfl rfl rfl rfl ?_
 refine dn ?_
 refine sr ?_
 refine pu rfl rfl rfl rfl rfl ?_
 refine pu rfl rfl rfl rfl rfl ?_
 refine pu rfl rfl rfl rfl rfl ?_
 refine pu rfl rfl rfl rfl rfl ?_
 refine jy [10, 11, 12, 13, 14] [8] 14 (.bool ((decide (a1 ≤ a0)) && (decide (a0 ≤ a2)))) rfl (fun Kg1 => ?_) (fun j1 => ?_)
 ·
  rcases Bool.eq_false_or_eq_true (decide (a1 ≤ a0)) with hb1 | hb1
  ·
   refine sbT hb1 ?_
   refine pu rfl rfl rfl rfl rfl ?_
   refine pu rfl rfl rfl rfl rfl ?_
   refine pu rfl rfl rfl rfl rfl ?_
   refine pu rfl rfl rfl rfl rfl ?_
   exact Kg1 _ (Ag.put ((Ag.put ((Ag.put ((Ag.put (Ag.base rfl) rfl)) rfl)) rfl)) rfl) (by rw [hb1]; rfl)
  ·
   refine sbT hb1 ?_
   refine uw rfl rfl rfl rfl ?_
   refine uw rfl rfl rfl rfl ?_
   refine uw rfl rfl rfl rfl ?_
   refine pu rfl rfl rfl rfl rfl ?_
   exact Kg1 _ (Ag.put ((Ag.put ((Ag.put ((Ag.put (Ag.base rfl) rfl)) rfl)) rfl)) rfl) (by rw [hb1]; rfl)
 refine pu rfl rfl rfl rfl rfl ?_
 refine dn ?_
 exact re rfl Tryz.func102 rfl (r_t rfl r_nil) rfl ⟨_, rfl, rfl, z.ky kp0⟩
noncomputable def impl_ItemOk.f (a0 : Item) : Option (Bool) :=
 ((impl_within.f a0.Kind (0 : Int) (3 : Int)).bind fun r4 => (some (((r4 && ((a0.N == (0 : Int)) || (a0.Kind == (1 : Int)))) && (((a0.F : Int) == 0) || (a0.Kind == (2 : Int)))) && (((a0.T.length : Int) == (0 : Int)) || ((a0.Kind == (3 : Int)) && (decide ((a0.T.length : Int) ≤ (40 : Int))))))))
def impl_ItemOk.Q (w : World) (F : Nat → Prop) (r : Bool) (v : Value) (w' : World) : Prop :=
 v = (.bool r) ∧ Ky [] w w'
set_option maxHeartbeats 4000000 in
set_option maxRecDepth 100000 in
theorem impl_ItemOk.calls (a0 : Item) (w : World) (F : Nat → Prop) (w0_0 : Value) (w0_1 : Value) (h0_0 : Kd.flt.rd w [w0_0] a0.F F) (h0_1 : (Kd.sl 5 (Kd.int .u8)).rd w [w0_1] a0.T F) (r : Bool) (m : impl_ItemOk.f a0 = some r) :
  Calls Tryz.prog 165 #[(.agg #[(.int .i64 a0.Kind), (.int .i64 a0.N), w0_0, w0_1])] w fun en w' => ∃ v, en = .returned v ∧ impl_ItemOk.Q w F r v w' := by
 obtain ⟨s0, rfl, kp0, z⟩ := start0 w F
 have A0_0 := fl_of h0_0
 have A0_1 := z.rd h0_1
 refine calls_of_TM (args := [(.agg #[(.int .i64 a0.Kind), (.int .i64 a0.N), w0_0, w0_1])]) (R := fun r en w' => ∃ v, en = .returned v ∧ impl_ItemOk.Q s0.w F r v w') Tryz.func165 Tryz.ntmps165 rfl rfl m ?_
 unfold impl_ItemOk.f
 refine sr ?_
 refine bx (cs := [(.int .i64 a0.Kind), (.int .i64 a0.N), w0_0, w0_1]) 40 rfl rfl rfl rfl rfl rfl (fun b2 s2 p2 B2 => ?_)
 refine pu rfl rfl rfl rfl rfl ?_
 refine dn ?_
 refine sr ?_
 refine fa fa33_0 rfl rfl rfl rfl rfl rfl ?_
 refine ld B2 Tryz.underlying3 rfl rfl rfl rfl rfl rfl rfl rfl ?_
 refine cl rfl rfl rfl rfl rfl Tryz.func102 rfl rfl rfl (fun r4 m4 => impl_within.calls a0.Kind (0 : Int) (3 : Int) s2.w (fun b => memb [] (s2.g b) = true)  r4 m4) ?_
 rintro r4 _ w4 m4 ⟨rfl, ky4⟩
 obtain ⟨s5, rfl, p5, n5⟩ := nwx s2 w4 41 ky4
 refine pu rfl rfl rfl rfl rfl ?_
 refine jy [6, 7, 8, 9, 10, 11, 12, 13, 14, 15] [13, 14, 15, 16, 17, 18, 19, 20, 21, 22, 23, 24, 25, 26, 27, 28, 29, 30, 31, 32, 33, 34, 35, 36, 37, 38, 39, 40, 41] 15 (.bool (r4 && ((a0.N == (0 : Int)) || (a0.Kind == (1 : Int))))) rfl (fun Kg6 => ?_) (fun j6 => ?_)
 ·
  rcases Bool.eq_false_or_eq_true r4 with hb6 | hb6
  ·
   refine sbT hb6 ?_
   refine fa fa33_1 rfl rfl rfl rfl rfl rfl ?_
   have A7 := (BlF.st B2 p5 rfl)
   refine ld A7 Tryz.underlying3 rfl rfl rfl rfl rfl rfl rfl rfl ?_
   refine pu rfl rfl rfl rfl rfl ?_
   refine pu rfl rfl rfl rfl rfl ?_
   refine jy [10, 11, 12, 13, 14] [12, 13, 14, 15, 16, 17, 18, 19, 20, 21, 22, 23, 24, 25, 26, 27, 28, 29, 30, 31, 32, 33, 34, 35, 36, 37, 38, 39, 40, 41] 14 (.bool ((a0.N == (0 : Int)) || (a0.Kind == (1 : Int)))) rfl (fun Kg8 => ?_) (fun j8 => ?_)
   ·
    rcases Bool.eq_false_or_eq_true (a0.N == (0 : Int)) with hb8 | hb8
    ·
     refine sbT hb8 ?_
     refine uw rfl rfl rfl rfl ?_
     refine uw rfl rfl rfl rfl ?_
     refine uw rfl rfl rfl rfl ?_
     refine pu rfl rfl rfl rfl rfl ?_
     exact Kg8 _ (Ag.put ((Ag.put ((Ag.put ((Ag.put (Ag.base rfl) rfl)) rfl)) rfl)) rfl) (by rw [hb8]; rfl)
    ·
     refine sbT hb8 ?_
     refine fa fa33_0 rfl rfl rfl rfl rfl rfl ?_
     refine ld A7 Tryz.underlying3 rfl rfl rfl rfl rfl rfl rfl rfl ?_
     refine pu rfl rfl rfl rfl rfl ?_
     refine pu rfl rfl rfl rfl rfl ?_
     exact Kg8 _ (Ag.put ((Ag.put ((Ag.put ((Ag.put (Ag.base rfl) rfl)) rfl)) rfl)) rfl) (by rw [hb8]; rfl)
   refine pu rfl rfl rfl rfl rfl ?_
   exact Kg6 _ (Ag.put ((Ag.put ((Ag.ov ((Ag.put ((Ag.put ((Ag.put ((Ag.put (Ag.base rfl) rfl)) rfl)) rfl)) rfl)) rfl)) rfl)) rfl) (by rw [hb6]; rfl)
  ·
   refine sbT hb6 ?_
   refine uw rfl rfl rfl rfl ?_
   refine uw rfl rfl rfl rfl ?_
   refine uw rfl rfl rfl rfl ?_
   refine uw rfl rfl rfl rfl ?_
   refine uw rfl rfl rfl rfl ?_
   refine uw rfl rfl rfl rfl ?_
   refine uw rfl rfl rfl rfl ?_
   refine uw rfl rfl rfl rfl ?_
   refine pu rfl rfl rfl rfl rfl ?_
   exact Kg6 _ (Ag.put ((Ag.put ((Ag.put ((Ag.put ((Ag.put ((Ag.put ((Ag.put ((Ag.put ((Ag.put (Ag.base rfl) rfl)) rfl)) rfl)) rfl)) rfl)) rfl)) rfl)) rfl)) rfl) (by rw [hb6]; rfl)
 refine pu rfl rfl rfl rfl rfl ?_
 refine jy [16, 17, 18, 19, 20, 21, 22, 23, 24, 25, 26] [24, 25, 26, 27, 28, 29, 30, 31, 32, 33, 34, 35, 36, 37, 38, 39, 40, 41] 26 (.bool ((r4 && ((a0.N == (0 : Int)) || (a0.Kind == (1 : Int)))) && (((a0.F : Int) == 0) || (a0.Kind == (2 : Int))))) rfl (fun Kg9 => ?_) (fun j9 => ?_)
 ·
  rcases Bool.eq_false_or_eq_true (r4 && ((a0.N == (0 : Int)) || (a0.Kind == (1 : Int)))) with hb9 | hb9
  ·
   refine sbT hb9 ?_
   refine fa fa33_2 rfl rfl rfl rfl rfl rfl ?_
   have A10 := (BlF.st B2 p5 rfl)
   refine ld A10 Tryz.underlying23 rfl rfl rfl rfl rfl rfl rfl rfl ?_
   refine fbu A0_0 rfl rfl rfl rfl rfl Tryz.func166 rfl rfl xn166 xf166 rfl (fun b11 A11 => ?_)
   refine fz0 A11 rfl rfl rfl rfl rfl rfl rfl ?_
   refine pu rfl rfl rfl rfl rfl ?_
   refine jy [21, 22, 23, 24, 25] [23, 24, 25, 26, 27, 28, 29, 30, 31, 32, 33, 34, 35, 36, 37, 38, 39, 40, 41] 25 (.bool (((a0.F : Int) == 0) || (a0.Kind == (2 : Int)))) rfl (fun Kg12 => ?_) (fun j12 => ?_)
   ·
    rcases Bool.eq_false_or_eq_true ((a0.F : Int) == 0) with hb12 | hb12
    ·
     refine sbT hb12 ?_
     refine uw rfl rfl rfl rfl ?_
     refine uw rfl rfl rfl rfl ?_
     refine uw rfl rfl rfl rfl ?_
     refine pu rfl rfl rfl rfl rfl ?_
     exact Kg12 _ (Ag.put ((Ag.put ((Ag.put ((Ag.put (Ag.base rfl) rfl)) rfl)) rfl)) rfl) (by rw [hb12]; rfl)
    ·
     refine sbT hb12 ?_
     refine fa fa33_0 rfl rfl rfl rfl rfl rfl ?_
     refine ld A10 Tryz.underlying3 rfl rfl rfl rfl rfl rfl rfl rfl ?_
     refine pu rfl rfl rfl rfl rfl ?_
     refine pu rfl rfl rfl rfl rfl ?_
     exact Kg12 _ (Ag.put ((Ag.put ((Ag.put ((Ag.put (Ag.base rfl) rfl)) rfl)) rfl)) rfl) (by rw [hb12]; rfl)
   refine pu rfl rfl rfl rfl rfl ?_
   exact Kg9 _ (Ag.put ((Ag.put ((Ag.ov ((Ag.put ((Ag.put ((Ag.put ((Ag.put ((Ag.put (Ag.base rfl) rfl)) rfl)) rfl)) rfl)) rfl)) rfl)) rfl)) rfl) (by rw [hb9]; rfl)
  ·
   refine sbT hb9 ?_
   refine uw rfl rfl rfl rfl ?_
   refine uw rfl rfl rfl rfl ?_
   refine uw rfl rfl rfl rfl ?_
   refine uw rfl rfl rfl rfl ?_
   refine uw rfl rfl rfl rfl ?_
   refine uw rfl rfl rfl rfl ?_
   refine uw rfl rfl rfl rfl ?_
   refine uw rfl rfl rfl rfl ?_
   refine uw rfl rfl rfl rfl ?_
   refine pu rfl rfl rfl rfl rfl ?_
   exact Kg9 _ (Ag.put ((Ag.put ((Ag.put ((Ag.put ((Ag.put ((Ag.put ((Ag.put ((Ag.put ((Ag.put ((Ag.put (Ag.base rfl) rfl)) rfl)) rfl)) rfl)) rfl)) rfl)) rfl)) rfl)) rfl)) rfl) (by rw [hb9]; rfl)
 refine pu rfl rfl rfl rfl rfl ?_
 refine jy [27, 28, 29, 30, 31, 32, 33, 34, 35, 36, 37, 38, 39, 40, 41, 42, 43] [41] 43 (.bool (((r4 && ((a0.N == (0 : Int)) || (a0.Kind == (1 : Int)))) && (((a0.F : Int) == 0) || (a0.Kind == (2 : Int)))) && (((a0.T.length : Int) == (0 : Int)) || ((a0.Kind == (3 : Int)) && (decide ((a0.T.length : Int) ≤ (40 : Int))))))) rfl (fun Kg13 => ?_) (fun j13 => ?_)
 ·
  rcases Bool.eq_false_or_eq_true ((r4 && ((a0.N == (0 : Int)) || (a0.Kind == (1 : Int)))) && (((a0.F : Int) == 0) || (a0.Kind == (2 : Int)))) with hb13 | hb13
  ·
   refine sbT hb13 ?_
   refine fa fa33_3 rfl rfl rfl rfl rfl rfl ?_
   have A14 := (BlF.st B2 p5 rfl)
   refine ld A14 Tryz.underlying24 rfl rfl rfl rfl rfl rfl rfl rfl ?_
   have K15 := ((kp0.st p2 rfl).st p5 rfl)
   have A16 := (A0_1.kp K15)
   refine ln A16 Tryz.underlying24 rfl rfl rfl rfl rfl rfl ?_
   refine pu rfl rfl rfl rfl rfl ?_
   refine pu rfl rfl rfl rfl rfl ?_
   refine jy [32, 33, 34, 35, 36, 37, 38, 39, 40, 41, 42] [40, 41] 42 (.bool (((a0.T.length : Int) == (0 : Int)) || ((a0.Kind == (3 : Int)) && (decide ((a0.T.length : Int) ≤ (40 : Int)))))) rfl (fun Kg17 => ?_) (fun j17 => ?_)
   ·
    rcases Bool.eq_false_or_eq_true ((a0.T.length : Int) == (0 : Int)) with hb17 | hb17
    ·
     refine sbT hb17 ?_
     refine uw rfl rfl rfl rfl ?_
     refine uw rfl rfl rfl rfl ?_
     refine uw rfl rfl rfl rfl ?_
     refine uw rfl rfl rfl rfl ?_
     refine uw rfl rfl rfl rfl ?_
     refine uw rfl rfl rfl rfl ?_
     refine uw rfl rfl rfl rfl ?_
     refine uw rfl rfl rfl rfl ?_
     refine uw rfl rfl rfl rfl ?_
     refine pu rfl rfl rfl rfl rfl ?_
     exact Kg17 _ (Ag.put ((Ag.put ((Ag.put ((Ag.put ((Ag.put ((Ag.put ((Ag.put ((Ag.put ((Ag.put ((Ag.put (Ag.base rfl) rfl)) rfl)) rfl)) rfl)) rfl)) rfl)) rfl)) rfl)) rfl)) rfl) (by rw [hb17]; rfl)
    ·
     refine sbT hb17 ?_
     refine fa fa33_0 rfl rfl rfl rfl rfl rfl ?_
     refine ld A14 Tryz.underlying3 rfl rfl rfl rfl rfl rfl rfl rfl ?_
     refine pu rfl rfl rfl rfl rfl ?_
     refine pu rfl rfl rfl rfl rfl ?_
     refine jy [36, 37, 38, 39, 40, 41] [39, 40, 41] 41 (.bool ((a0.Kind == (3 : Int)) && (decide ((a0.T.length : Int) ≤ (40 : Int))))) rfl (fun Kg18 => ?_) (fun j18 => ?_)
     ·
      rcases Bool.eq_false_or_eq_true (a0.Kind == (3 : Int)) with hb18 | hb18
      ·
       refine sbT hb18 ?_
       refine fa fa33_3 rfl rfl rfl rfl rfl rfl ?_
       refine ld A14 Tryz.underlying24 rfl rfl rfl rfl rfl rfl rfl rfl ?_
       refine ln A16 Tryz.underlying24 rfl rfl rfl rfl rfl rfl ?_
       refine pu rfl rfl rfl rfl rfl ?_
       refine pu rfl rfl rfl rfl rfl ?_
       exact Kg18 _ (Ag.put ((Ag.put ((Ag.put ((Ag.put ((Ag.put (Ag.base rfl) rfl)) rfl)) rfl)) rfl)) rfl) (by rw [hb18]; rfl)
      ·
       refine sbT hb18 ?_
       refine uw rfl rfl rfl rfl ?_
       refine uw rfl rfl rfl rfl ?_
       refine uw rfl rfl rfl rfl ?_
       refine uw rfl rfl rfl rfl ?_
       refine pu rfl rfl rfl rfl rfl ?_
       exact Kg18 _ (Ag.put ((Ag.put ((Ag.put ((Ag.put ((Ag.put (Ag.base rfl) rfl)) rfl)) rfl)) rfl)) rfl) (by rw [hb18]; rfl)
     refine pu rfl rfl rfl rfl rfl ?_
     exact Kg17 _ (Ag.put ((Ag.put ((Ag.ov ((Ag.put ((Ag.put ((Ag.put ((Ag.put (Ag.base rfl) rfl)) rfl)) rfl)) rfl)) rfl)) rfl)) rfl) (by rw [hb17]; rfl)
   refine pu rfl rfl rfl rfl rfl ?_
   exact Kg13 _ (Ag.put ((Ag.put ((Ag.ov ((Ag.put ((Ag.put ((Ag.put ((Ag.put ((Ag.put (Ag.base rfl) rfl)) rfl)) rfl)) rfl)) rfl)) rfl)) rfl)) rfl) (by rw [hb13]; rfl)
  ·
   refine sbT hb13 ?_
   refine uw rfl rfl rfl rfl ?_
   refine uw rfl rfl rfl rfl ?_
   refine uw rfl rfl rfl rfl ?_
   refine uw rfl rfl rfl rfl ?_
   refine uw rfl rfl rfl rfl ?_
   refine uw rfl rfl rfl rfl ?_
   refine uw rfl rfl rfl rfl ?_
   refine uw rfl rfl rfl rfl ?_
   refine uw rfl rfl rfl rfl ?_
   refine uw rfl rfl rfl rfl ?_
   refine uw rfl rfl rfl rfl ?_
   refine uw rfl rfl rfl rfl ?_
   refine uw rfl rfl rfl rfl ?_
   refine uw rfl rfl rfl rfl ?_
   refine uw rfl rfl rfl rfl ?_
   refine pu rfl rfl rfl rfl rfl ?_
   exact Kg13 _ (Ag.put ((Ag.put ((Ag.put ((Ag.put ((Ag.put ((Ag.put ((Ag.put ((Ag.put ((Ag.put ((Ag.put ((Ag.put ((Ag.put ((Ag.put ((Ag.put ((Ag.put ((Ag.put (Ag.base rfl) rfl)) rfl)) rfl)) rfl)) rfl)) rfl)) rfl)) rfl)) rfl)) rfl)) rfl)) rfl)) rfl)) rfl)) rfl)) rfl) (by rw [hb13]; rfl)
 refine pu rfl rfl rfl rfl rfl ?_
 refine dn ?_
 have K19 := ((kp0.st p2 rfl).st p5 rfl)
 exact re rfl Tryz.func165 rfl (r_t rfl r_nil) rfl ⟨_, rfl, rfl, z.ky K19⟩
noncomputable def impl_KeyOk.f (a0 : Item) : Option (Bool) :=
 ((impl_ItemOk.f a0).bind fun r6 => (some ((r6 && (a0.Kind != (0 : Int))) && ((fcmp .f64 a0.F (0 : Nat) != some .eq) || ((a0.F : Int) == 0)))))
def impl_KeyOk.Q (w : World) (F : Nat → Prop) (r : Bool) (v : Value) (w' : World) : Prop :=
 v = (.bool r) ∧ Ky [] w w'
set_option maxHeartbeats 4000000 in
set_option maxRecDepth 100000 in
theorem impl_KeyOk.calls (a0 : Item) (w : World) (F : Nat → Prop) (w0_0 : Value) (w0_1 : Value) (h0_0 : Kd.flt.rd w [w0_0] a0.F F) (h0_1 : (Kd.sl 5 (Kd.int .u8)).rd w [w0_1] a0.T F) (r : Bool) (m : impl_KeyOk.f a0 = some r) :
  Calls Tryz.prog 76 #[(.agg #[(.int .i64 a0.Kind), (.int .i64 a0.N), w0_0, w0_1])] w fun en w' => ∃ v, en = .returned v ∧ impl_KeyOk.Q w F r v w' := by
 obtain ⟨s0, rfl, kp0, z⟩ := start0 w F
 have A0_0 := fl_of h0_0
 have A0_1 := z.rd h0_1
 refine calls_of_TM (args := [(.agg #[(.int .i64 a0.Kind), (.int .i64 a0.N), w0_0, w0_1])]) (R := fun r en w' => ∃ v, en = .returned v ∧ impl_KeyOk.Q s0.w F r v w') Tryz.func76 Tryz.ntmps76 rfl rfl m ?_
 unfold impl_KeyOk.f
 refine sr ?_
 refine bx (cs := [(.int .i64 a0.Kind), (.int .i64 a0.N), w0_0, w0_1]) 40 rfl rfl rfl rfl rfl rfl (fun b2 s2 p2 B2 => ?_)
 refine pu rfl rfl rfl rfl rfl ?_
 refine dn ?_
 refine sr ?_
 refine lda (es := [(.int .i64 a0.Kind), (.int .i64 a0.N), w0_0, w0_1]) B2 Tryz.underlying33 z33 rfl rfl rfl rfl rfl rfl rfl rfl ?_
 have K4 := (kp0.st p2 rfl)
 have A5 := (A0_1.kp K4)
 refine cl rfl rfl rfl rfl rfl Tryz.func165 rfl rfl rfl (fun r6 m6 => impl_ItemOk.calls a0 s2.w (fun b => memb [0] (s2.g b) = true) w0_0 w0_1 ((fl_rdf (s := s2) A0_0).sub (D := [0]) rfl) A5 r6 m6) ?_
 rintro r6 _ w6 m6 ⟨rfl, ky6⟩
 obtain ⟨s7, rfl, p7, n7⟩ := nwx s2 w6 41 ky6
 refine pu rfl rfl rfl rfl rfl ?_
 refine jy [5, 6, 7, 8, 9] [7, 8, 9, 10, 11, 12, 13, 14, 15, 16, 17, 18] 9 (.bool (r6 && (a0.Kind != (0 : Int)))) rfl (fun Kg8 => ?_) (fun j8 => ?_)
 ·
  rcases Bool.eq_false_or_eq_true r6 with hb8 | hb8
  ·
   refine sbT hb8 ?_
   refine fa fa33_0 rfl rfl rfl rfl rfl rfl ?_
   have A9 := (BlF.st B2 p7 rfl)
   refine ld A9 Tryz.underlying3 rfl rfl rfl rfl rfl rfl rfl rfl ?_
   refine pu rfl rfl rfl rfl rfl ?_
   refine pu rfl rfl rfl rfl rfl ?_
   exact Kg8 _ (Ag.put ((Ag.put ((Ag.put ((Ag.put (Ag.base rfl) rfl)) rfl)) rfl)) rfl) (by rw [hb8]; rfl)
  ·
   refine sbT hb8 ?_
   refine uw rfl rfl rfl rfl ?_
   refine uw rfl rfl rfl rfl ?_
   refine uw rfl rfl rfl rfl ?_
   refine pu rfl rfl rfl rfl rfl ?_
   exact Kg8 _ (Ag.put ((Ag.put ((Ag.put ((Ag.put (Ag.base rfl) rfl)) rfl)) rfl)) rfl) (by rw [hb8]; rfl)
 refine pu rfl rfl rfl rfl rfl ?_
 refine jy [10, 11, 12, 13, 14, 15, 16, 17, 18, 19, 20] [18] 20 (.bool ((r6 && (a0.Kind != (0 : Int))) && ((fcmp .f64 a0.F (0 : Nat) != some .eq) || ((a0.F : Int) == 0)))) rfl (fun Kg10 => ?_) (fun j10 => ?_)
 ·
  rcases Bool.eq_false_or_eq_true (r6 && (a0.Kind != (0 : Int))) with hb10 | hb10
  ·
   refine sbT hb10 ?_
   refine fa fa33_2 rfl rfl rfl rfl rfl rfl ?_
   have A11 := (BlF.st B2 p7 rfl)
   refine ld A11 Tryz.underlying23 rfl rfl rfl rfl rfl rfl rfl rfl ?_
   refine fq_ A0_0 (fl_c rfl) rfl rfl rfl rfl rfl rfl rfl rfl ?_
   refine pu rfl rfl rfl rfl rfl ?_
   refine jy [14, 15, 16, 17, 18, 19] [17, 18] 19 (.bool ((fcmp .f64 a0.F (0 : Nat) != some .eq) || ((a0.F : Int) == 0))) rfl (fun Kg12 => ?_) (fun j12 => ?_)
   ·
    rcases Bool.eq_false_or_eq_true (fcmp .f64 a0.F (0 : Nat) != some .eq) with hb12 | hb12
    ·
     refine sbT hb12 ?_
     refine uw rfl rfl rfl rfl ?_
     refine uw rfl rfl rfl rfl ?_
     refine uw rfl rfl rfl rfl ?_
     refine uw rfl rfl rfl rfl ?_
     refine pu rfl rfl rfl rfl rfl ?_
     exact Kg12 _ (Ag.put ((Ag.put ((Ag.put ((Ag.put ((Ag.put (Ag.base rfl) rfl)) rfl)) rfl)) rfl)) rfl) (by rw [hb12]; rfl)
    ·
     refine sbT hb12 ?_
     refine fa fa33_2 rfl rfl rfl rfl rfl rfl ?_
     refine ld A11 Tryz.underlying23 rfl rfl rfl rfl rfl rfl rfl rfl ?_
     refine fbu A0_0 rfl rfl rfl rfl rfl Tryz.func166 rfl rfl xn166 xf166 rfl (fun b13 A13 => ?_)
     refine fz0 A13 rfl rfl rfl rfl rfl rfl rfl ?_
     refine pu rfl rfl rfl rfl rfl ?_
     exact Kg12 _ (Ag.put ((Ag.put ((Ag.put ((Ag.put ((Ag.put (Ag.base rfl) rfl)) rfl)) rfl)) rfl)) rfl) (by rw [hb12]; rfl)
   refine pu rfl rfl rfl rfl rfl ?_
   exact Kg10 _ (Ag.put ((Ag.put ((Ag.ov ((Ag.put ((Ag.put ((Ag.put ((Ag.put (Ag.base rfl) rfl)) rfl)) rfl)) rfl)) rfl)) rfl)) rfl) (by rw [hb10]; rfl)
  ·
   refine sbT hb10 ?_
   refine uw rfl rfl rfl rfl ?_
   refine uw rfl rfl rfl rfl ?_
   refine uw rfl rfl rfl rfl ?_
   refine uw rfl rfl rfl rfl ?_
   refine uw rfl rfl rfl rfl ?_
   refine uw rfl rfl rfl rfl ?_
   refine uw rfl rfl rfl rfl ?_
   refine uw rfl rfl rfl rfl ?_
   refine uw rfl rfl rfl rfl ?_
   refine pu rfl rfl rfl rfl rfl ?_
   exact Kg10 _ (Ag.put ((Ag.put ((Ag.put ((Ag.put ((Ag.put ((Ag.put ((Ag.put ((Ag.put ((Ag.put ((Ag.put (Ag.base rfl) rfl)) rfl)) rfl)) rfl)) rfl)) rfl)) rfl)) rfl)) rfl)) rfl) (by rw [hb10]; rfl)
 refine pu rfl rfl rfl rfl rfl ?_
 refine dn ?_
 have K14 := (K4.st p7 rfl)
 exact re rfl Tryz.func76 rfl (r_t rfl r_nil) rfl ⟨_, rfl, rfl, z.ky K14⟩
noncomputable def impl_isXid.f (a0 : Int) : Option (Bool) :=
 ((impl_within.f a0 (1 : Int) (400 : Int)).bind fun r1 => (some r1))
def impl_isXid.Q (w : World) (F : Nat → Prop) (r : Bool) (v : Value) (w' : World) : Prop :=
 v = (.bool r) ∧ Ky [] w w'
set_option maxHeartbeats 4000000 in
set_option maxRecDepth 100000 in
theorem impl_isXid.calls (a0 : Int) (w : World) (F : Nat → Prop)   (r : Bool) (m : impl_isXid.f a0 = some r) :
  Calls Tryz.prog 205 #[(.int .i64 a0)] w fun en w' => ∃ v, en = .returned v ∧ impl_isXid.Q w F r v w' := by
 obtain ⟨s0, rfl, kp0, z⟩ := start0 w F
 refine calls_of_TM (args := [(.int .i64 a0)]) (R := fun r en w' => ∃ v, en = .returned v ∧ impl_isXid.Q s0.w F r v w') Tryz.func205 Tryz.ntmps205 rfl rfl m ?_
 unfold impl_isXid.f
 refine sr ?_
 refine pu rfl rfl rfl rfl rfl ?_
 refine dn ?_
 refine sr ?_
 refine pu rfl rfl rfl rfl rfl ?_
 refine cl rfl rfl rfl rfl rfl Tryz.func102 rfl rfl rfl (fun r1 m1 => impl_within.calls a0 (1 : Int) (400 : Int) s0.w (fun b => memb [] (s0.g b) = true)  r1 m1) ?_
 rintro r1 _ w1 m1 ⟨rfl, ky1⟩
 obtain ⟨s2, rfl, p2, n2⟩ := nwx s0 w1 40 ky1
 refine pu rfl rfl rfl rfl rfl ?_
 refine dn ?_
 have K3 := (kp0.st p2 rfl)
 exact re rfl Tryz.func205 rfl (r_t rfl r_nil) rfl ⟨_, rfl, rfl, z.ky K3⟩
noncomputable def slices_Clone_byte_byte.f (a0 : (List Int)) : Option ((List Int)) :=
 (if ([] : (List Int)).length + a0.length ≤ Lim then (some (([] : (List Int)) ++ a0)) else none)
def slices_Clone_byte_byte.Q (w : World) (F : Nat → Prop) (r : (List Int)) (v : Value) (w' : World) : Prop :=
 FO (Kd.sl 5 (Kd.int .u8)) w w' [v] r ∧ Ky [] w w'
set_option maxHeartbeats 4000000 in
set_option maxRecDepth 100000 in
theorem slices_Clone_byte_byte.calls (a0 : (List Int)) (w : World) (F : Nat → Prop) (w0_0 : Value) (h0_0 : (Kd.sl 5 (Kd.int .u8)).rd w [w0_0] a0 F) (r : (List Int)) (m : slices_Clone_byte_byte.f a0 = some r) :
  Calls Tryz.prog 174 #[w0_0] w fun en w' => ∃ v, en = .returned v ∧ slices_Clone_byte_byte.Q w F r v w' := by
 obtain ⟨s0, rfl, kp0, z⟩ := start0 w F
 have A0_0 := z.rd h0_0
 refine calls_of_TM (args := [w0_0]) (R := fun r en w' => ∃ v, en = .returned v ∧ slices_Clone_byte_byte.Q s0.w F r v w') Tryz.func174 Tryz.ntmps174 rfl rfl m ?_
 unfold slices_Clone_byte_byte.f
 refine sr ?_
 refine pu rfl rfl rfl rfl rfl ?_
 refine dn ?_
 refine sq ?_
 refine sr ?_
 refine mv w0_0 rfl rfl rfl rfl rfl rfl ?_
 refine nq A0_0 Tryz.underlying24 rfl rfl rfl rfl rfl rfl rfl (fun nb2 hn2 => ?_)
 refine dn ?_
 refine cdb rfl (fun h3 => ?_) (fun h3 => ?_)
 ·
  obtain rfl := hn2 h3
  refine mg fun _ => ?_
  refine sr ?_
  refine pu rfl rfl rfl rfl rfl ?_
  refine dn ?_
  exact re rfl Tryz.func174 rfl (r_t rfl r_nil) rfl ⟨_, rfl, (ow_nil 5 (Kd.int .u8) s0 40).fo kp0 rfl z.l, z.ky kp0⟩
 ·
  refine sk ?_
  refine sr ?_
  refine lt0 (K := (Kd.int .u8)) 40 Tryz.underlying24 z5 rfl rfl rfl rfl rfl (fun v4 s4 p4 A4 => ?_)
  refine mv w0_0 rfl rfl rfl rfl rfl rfl ?_
  have K6 := (kp0.st p4 rfl)
  have A7 := (A0_0.kp K6)
  refine apF fl_int sl24 A4 A7 rfl rfl rfl rfl rfl rfl rfl (fun v8 s8 p8 A8 => ?_)
  refine asg v8 rfl rfl rfl rfl rfl rfl ?_
  refine dn ?_
  have K10 := (K6.st p8 rfl)
  exact re rfl Tryz.func174 rfl (r_t rfl r_nil) rfl ⟨_, rfl, A8.fo K10 rfl z.l, z.ky K10⟩
noncomputable def laws_sameFloat.f (a0 : Nat) (a1 : Nat) : Option (Bool) :=
 (if ((fcmp .f64 a0 a0 != some .eq) || (fcmp .f64 a1 a1 != some .eq)) = true then (some ((fcmp .f64 a0 a0 != some .eq) && (fcmp .f64 a1 a1 != some .eq))) else (if ((fcmp .f64 a0 (0 : Nat) == some .eq) && (fcmp .f64 a1 (0 : Nat) == some .eq)) = true then (some ((fcmp .f64 (far .quo (4607182418800017408 : Nat) a0) (0 : Nat) == some .gt) == (fcmp .f64 (far .quo (4607182418800017408 : Nat) a1) (0 : Nat) == some .gt))) else (some (fcmp .f64 a0 a1 == some .eq))))
def laws_sameFloat.Q (w : World) (F : Nat → Prop) (r : Bool) (v : Value) (w' : World) : Prop :=
 v = (.bool r) ∧ Ky [] w w'
set_option maxHeartbeats 4000000 in
set_option maxRecDepth 100000 in
theorem laws_sameFloat.calls (a0 : Nat) (a1 : Nat) (w : World) (F : Nat → Prop) (w0_0 : Value) (w1_0 : Value) (h0_0 : Kd.flt.rd w [w0_0] a0 F) (h1_0 : Kd.flt.rd w [w1_0] a1 F) (r : Bool) (m : laws_sameFloat.f a0 a1 = some r) :
  Calls Tryz.prog 87 #[w0_0, w1_0] w fun en w' => ∃ v, en = .returned v ∧ laws_sameFloat.Q w F r v w' := by
 obtain ⟨s0, rfl, kp0, z⟩ := start0 w F
 have A0_0 := fl_of h0_0
 have A1_0 := fl_of h1_0
 refine calls_of_TM (args := [w0_0, w1_0]) (R := fun r en w' => ∃ v, en = .returned v ∧ laws_sameFloat.Q s0.w F r v w') Tryz.func87 Tryz.ntmps87 rfl rfl m ?_
 unfold laws_sameFloat.f
 refine sr ?_
 refine pu rfl rfl rfl rfl rfl ?_
 refine dn ?_
 refine sq ?_
 refine sr ?_
 refine mv w0_0 rfl rfl rfl rfl rfl rfl ?_
 refine mv w0_0 rfl rfl rfl rfl rfl rfl ?_
 refine fq_ A0_0 A0_0 rfl rfl rfl rfl rfl rfl rfl rfl ?_
 refine pu rfl rfl rfl rfl rfl ?_
 refine jy [8, 9, 10, 11, 12] [] 12 (.bool ((fcmp .f64 a0 a0 != some .eq) || (fcmp .f64 a1 a1 != some .eq))) rfl (fun Kg1 => ?_) (fun j1 => ?_)
 ·
  rcases Bool.eq_false_or_eq_true (fcmp .f64 a0 a0 != some .eq) with hb1 | hb1
  ·
   refine sbT hb1 ?_
   refine uw rfl rfl rfl rfl ?_
   refine uw rfl rfl rfl rfl ?_
   refine uw rfl rfl rfl rfl ?_
   refine pu rfl rfl rfl rfl rfl ?_
   exact Kg1 _ (Ag.put ((Ag.put ((Ag.put ((Ag.put (Ag.base rfl) rfl)) rfl)) rfl)) rfl) (by rw [hb1]; rfl)
  ·
   refine sbT hb1 ?_
   refine mv w1_0 rfl rfl rfl rfl rfl rfl ?_
   refine mv w1_0 rfl rfl rfl rfl rfl rfl ?_
   refine fq_ A1_0 A1_0 rfl rfl rfl rfl rfl rfl rfl rfl ?_
   refine pu rfl rfl rfl rfl rfl ?_
   exact Kg1 _ (Ag.put ((Ag.put ((Ag.put ((Ag.put (Ag.base rfl) rfl)) rfl)) rfl)) rfl) (by rw [hb1]; rfl)
 refine dn ?_
 refine cd rfl (fun h2 => ?_) (fun h2 => ?_)
 ·
  refine sr ?_
  refine mv w0_0 rfl rfl rfl rfl rfl rfl ?_
  refine mv w0_0 rfl rfl rfl rfl rfl rfl ?_
  refine fq_ A0_0 A0_0 rfl rfl rfl rfl rfl rfl rfl rfl ?_
  refine pu rfl rfl rfl rfl rfl ?_
  refine jy [16, 17, 18, 19, 20] [8] 20 (.bool ((fcmp .f64 a0 a0 != some .eq) && (fcmp .f64 a1 a1 != some .eq))) rfl (fun Kg3 => ?_) (fun j3 => ?_)
  ·
   rcases Bool.eq_false_or_eq_true (fcmp .f64 a0 a0 != some .eq) with hb3 | hb3
   ·
    refine sbT hb3 ?_
    refine mv w1_0 rfl rfl rfl rfl rfl rfl ?_
    refine mv w1_0 rfl rfl rfl rfl rfl rfl ?_
    refine fq_ A1_0 A1_0 rfl rfl rfl rfl rfl rfl rfl rfl ?_
    refine pu rfl rfl rfl rfl rfl ?_
    exact Kg3 _ (Ag.put ((Ag.put ((Ag.put ((Ag.put (Ag.base rfl) rfl)) rfl)) rfl)) rfl) (by rw [hb3]; rfl)
   ·
    refine sbT hb3 ?_
    refine uw rfl rfl rfl rfl ?_
    refine uw rfl rfl rfl rfl ?_
    refine uw rfl rfl rfl rfl ?_
    refine pu rfl rfl rfl rfl rfl ?_
    exact Kg3 _ (Ag.put ((Ag.put ((Ag.put ((Ag.put (Ag.base rfl) rfl)) rfl)) rfl)) rfl) (by rw [hb3]; rfl)
  refine pu rfl rfl rfl rfl rfl ?_
  refine dn ?_
  exact re rfl Tryz.func87 rfl (r_t rfl r_nil) rfl ⟨_, rfl, rfl, z.ky kp0⟩
 ·
  refine sk ?_
  refine sq ?_
  refine sr ?_
  refine mv w0_0 rfl rfl rfl rfl rfl rfl ?_
  refine fq_ A0_0 (fl_c rfl) rfl rfl rfl rfl rfl rfl rfl rfl ?_
  refine pu rfl rfl rfl rfl rfl ?_
  refine jy [23, 24, 25, 26] [] 26 (.bool ((fcmp .f64 a0 (0 : Nat) == some .eq) && (fcmp .f64 a1 (0 : Nat) == some .eq))) rfl (fun Kg4 => ?_) (fun j4 => ?_)
  ·
   rcases Bool.eq_false_or_eq_true (fcmp .f64 a0 (0 : Nat) == some .eq) with hb4 | hb4
   ·
    refine sbT hb4 ?_
    refine mv w1_0 rfl rfl rfl rfl rfl rfl ?_
    refine fq_ A1_0 (fl_c rfl) rfl rfl rfl rfl rfl rfl rfl rfl ?_
    refine pu rfl rfl rfl rfl rfl ?_
    exact Kg4 _ (Ag.put ((Ag.put ((Ag.put (Ag.base rfl) rfl)) rfl)) rfl) (by rw [hb4]; rfl)
   ·
    refine sbT hb4 ?_
    refine uw rfl rfl rfl rfl ?_
    refine uw rfl rfl rfl rfl ?_
    refine pu rfl rfl rfl rfl rfl ?_
    exact Kg4 _ (Ag.put ((Ag.put ((Ag.put (Ag.base rfl) rfl)) rfl)) rfl) (by rw [hb4]; rfl)
  refine dn ?_
  refine cd rfl (fun h5 => ?_) (fun h5 => ?_)
  ·
   refine sr ?_
   refine mv w0_0 rfl rfl rfl rfl rfl rfl ?_
   refine fa_ (fl_c rfl) A0_0 (by simp) rfl rfl rfl rfl rfl rfl rfl (fun v6 s6 p6 A6 => ?_)
   refine fq_ A6 (fl_c rfl) rfl rfl rfl rfl rfl rfl rfl rfl ?_
   refine mv w1_0 rfl rfl rfl rfl rfl rfl ?_
   refine fa_ (fl_c rfl) A1_0 (by simp) rfl rfl rfl rfl rfl rfl rfl (fun v7 s7 p7 A7 => ?_)
   refine fq_ A7 (fl_c rfl) rfl rfl rfl rfl rfl rfl rfl rfl ?_
   refine beq_ Tryz.underlying4 rfl rfl rfl rfl rfl rfl rfl ?_
   refine pu rfl rfl rfl rfl rfl ?_
   refine dn ?_
   have K8 := ((kp0.st p6 rfl).st p7 rfl)
   exact re rfl Tryz.func87 rfl (r_t rfl r_nil) rfl ⟨_, rfl, rfl, z.ky K8⟩
  ·
   refine sk ?_
   refine sr ?_
   refine mv w0_0 rfl rfl rfl rfl rfl rfl ?_
   refine mv w1_0 rfl rfl rfl rfl rfl rfl ?_
   refine fq_ A0_0 A1_0 rfl rfl rfl rfl rfl rfl rfl rfl ?_
   refine pu rfl rfl rfl rfl rfl ?_
   refine dn ?_
   exact re rfl Tryz.func87 rfl (r_t rfl r_nil) rfl ⟨_, rfl, rfl, z.ky kp0⟩
noncomputable def laws_eqByteS.b0 (a0 : (List Int)) (a1 : (List Int)) (x4 : Int) : Option (Int ⊕ Bool) :=
 (if (decide (x4 < (a0.length : Int))) = true then (if 0 ≤ x4 ∧ x4 < (a0.length : Int) then (if 0 ≤ x4 ∧ x4 < (a1.length : Int) then (if ((at_ a0 x4) != (at_ a1 x4)) = true then (some (Sum.inr false)) else (some (Sum.inl (IntKind.wrap .i64 (x4 + (1 : Int)))))) else none) else none) else ((some true).bind fun o => some (Sum.inr o)))
noncomputable def laws_eqByteS.f (a0 : (List Int)) (a1 : (List Int)) : Option (Bool) :=
 (if ((a0.length : Int) != (a1.length : Int)) = true then (some false) else (iter (laws_eqByteS.b0 a0 a1) (0 : Int)))
def laws_eqByteS.Q (w : World) (F : Nat → Prop) (r : Bool) (v : Value) (w' : World) : Prop :=
 v = (.bool r) ∧ Ky [] w w'
set_option maxHeartbeats 4000000 in
set_option maxRecDepth 100000 in
theorem laws_eqByteS.calls (a0 : (List Int)) (a1 : (List Int)) (w : World) (F : Nat → Prop) (w0_0 : Value) (w1_0 : Value) (h0_0 : (Kd.sl 5 (Kd.int .u8)).rd w [w0_0] a0 F) (h1_0 : (Kd.sl 5 (Kd.int .u8)).rd w [w1_0] a1 F) (r : Bool) (m : laws_eqByteS.f a0 a1 = some r) :
  Calls Tryz.prog 88 #[w0_0, w1_0] w fun en w' => ∃ v, en = .returned v ∧ laws_eqByteS.Q w F r v w' := by
 obtain ⟨s0, rfl, kp0, z⟩ := start0 w F
 have A0_0 := z.rd h0_0
 have A1_0 := z.rd h1_0
 refine calls_of_TM (args := [w0_0, w1_0]) (R := fun r en w' => ∃ v, en = .returned v ∧ laws_eqByteS.Q s0.w F r v w') Tryz.func88 Tryz.ntmps88 rfl rfl m ?_
 unfold laws_eqByteS.f
 refine sr ?_
 refine pu rfl rfl rfl rfl rfl ?_
 refine dn ?_
 refine sq ?_
 refine sr ?_
 refine mv w0_0 rfl rfl rfl rfl rfl rfl ?_
 refine ln A0_0 Tryz.underlying24 rfl rfl rfl rfl rfl rfl ?_
 refine mv w1_0 rfl rfl rfl rfl rfl rfl ?_
 refine ln A1_0 Tryz.underlying24 rfl rfl rfl rfl rfl rfl ?_
 refine pu rfl rfl rfl rfl rfl ?_
 refine dn ?_
 refine cd rfl (fun h3 => ?_) (fun h3 => ?_)
 ·
  refine sr ?_
  refine pu rfl rfl rfl rfl rfl ?_
  refine dn ?_
  exact re rfl Tryz.func88 rfl (r_t rfl r_nil) rfl ⟨_, rfl, rfl, z.ky kp0⟩
 ·
  refine sk ?_
  refine sq ?_
  refine sr ?_
  refine pu rfl rfl rfl rfl rfl ?_
  refine dn ?_
  refine bl ?_
  refine lpI (fun (x4 : Int) (e : Env) (w : World) => ∃ (s : St) (e0 : Env), w = s.w ∧ e = upd (upd (upd e0 0 w0_0) 1 w1_0) 5 (.int .i64 x4) ∧ Kp s0 s) ⟨s0, _, rfl, (ue (ue (ue rfl rfl) rfl) rfl), kp0⟩ (fun g4 ih4 => ?_)
  rintro x4 _ _ ⟨s5, _, rfl, rfl, Kx4⟩
  unfold laws_eqByteS.b0
  refine sq ?_
  refine sr ?_
  refine pu rfl rfl rfl rfl rfl ?_
  refine mv w0_0 rfl rfl rfl rfl rfl rfl ?_
  have A6 := (A0_0.kp Kx4)
  refine ln A6 Tryz.underlying24 rfl rfl rfl rfl rfl rfl ?_
  refine pu rfl rfl rfl rfl rfl ?_
  refine dn ?_
  refine cd rfl (fun h7 => ?_) (fun h7 => ?_)
  ·
   refine sk ?_
   refine sq ?_
   refine bl ?_
   refine sq ?_
   refine zdraw [[], [], [0, 1], [2], [], [], [4, 5], [6], [3, 7]] [some 17, some 18, some 19, some 20, some 21, some 22, some 23, some 24, some 25] [[0], [5], [17, 18], [19], [1], [5], [21, 22], [23], [20, 24]] [0, 1, 2, 3, 4, 5, 6, 7, 8] ⟨by kernel_rfl, by kernel_rfl, by kernel_rfl⟩ (by kernel_rfl) (fun s8 p8 l8 tb8 zd8 => ?_)
   have zd9 := zd8.add 0 17 w0_0 rfl
   have zd10 := zd9.add 1 18 (.int .i64 x4) rfl
   have K11 := (Kx4.st p8 rfl)
   have A12 := (A0_0.kp K11)
   refine mg fun hg13 => ?_
   obtain ⟨ad13, es13, he13, ce13, ia13⟩ := ix_e A12 rfl hg13.1 hg13.2
   have h0_13 := hg13.1
   have h1_13 := hg13.2
   obtain rfl := he13
   have zd15 := zd10.add 2 19 (.pointer (some ad13)) rfl
   have zd16 := zd15.add 3 20 (.int .u8 (at_ a0 x4)) rfl
   have zd17 := zd16.add 4 21 w1_0 rfl
   have zd18 := zd17.add 5 22 (.int .i64 x4) rfl
   have A19 := (A1_0.kp K11)
   refine mg fun hg20 => ?_
   obtain ⟨ad20, es20, he20, ce20, ia20⟩ := ix_e A19 rfl hg20.1 hg20.2
   have h0_20 := hg20.1
   have h1_20 := hg20.2
   obtain rfl := he20
   have zd22 := zd18.add 6 23 (.pointer (some ad20)) rfl
   have zd23 := zd22.add 7 24 (.int .u8 (at_ a1 x4)) rfl
   refine zfin [8] tb8 zd23 (pq_cons (lc0_q ce20 Tryz.underlying5 rfl rfl rfl rfl rfl rfl rfl rfl) rfl (pq_cons (ix_q A19 Tryz.underlying24 z5 hg20.1 hg20.2 ia20 rfl rfl rfl rfl rfl rfl rfl) rfl (pq_cons (pu_q rfl rfl rfl rfl rfl rfl) rfl (pq_cons (mv_q w1_0 rfl rfl rfl rfl rfl rfl) rfl (pq_cons (lc0_q ce13 Tryz.underlying5 rfl rfl rfl rfl rfl rfl rfl rfl) rfl (pq_cons (ix_q A12 Tryz.underlying24 z5 hg13.1 hg13.2 ia13 rfl rfl rfl rfl rfl rfl rfl) rfl (pq_cons (pu_q rfl rfl rfl rfl rfl rfl) rfl (pq_cons (mv_q w0_0 rfl rfl rfl rfl rfl rfl) rfl pq_nil)))))))) (by kernel_rfl) (by decide) ?_
   refine pu rfl rfl rfl rfl rfl ?_
   refine dn ?_
   refine cd rfl (fun h24 => ?_) (fun h24 => ?_)
   ·
    refine sr ?_
    refine pu rfl rfl rfl rfl rfl ?_
    refine dn ?_
    refine sgi ?_
    exact re rfl Tryz.func88 rfl (r_t rfl r_nil) rfl ⟨_, rfl, rfl, z.ky K11⟩
   ·
    refine sk ?_
    refine ib ?_
    refine rg ?_
    refine pu rfl rfl rfl rfl rfl ?_
    refine pu rfl rfl rfl rfl rfl ?_
    refine pu rfl rfl rfl rfl rfl ?_
    refine dn ?_
    exact lb ih4 ⟨s8, _, rfl, (ue (ue (ue rfl rfl) rfl) rfl), K11⟩
  ·
   refine xt rfl ?_
   refine sgb ?_
   refine sr ?_
   refine pu rfl rfl rfl rfl rfl ?_
   refine dn ?_
   exact re rfl Tryz.func88 rfl (r_t rfl r_nil) rfl ⟨_, rfl, rfl, z.ky Kx4⟩
noncomputable def laws_eqItem.f (a0 : Item) (a1 : Item) : Option (Bool) :=
 (if (a0.Kind != a1.Kind) = true then (some false) else (if (a0.N != a1.N) = true then (some false) else ((laws_sameFloat.f a0.F a1.F).bind fun r12 => (if (!r12) = true then (some false) else ((laws_eqByteS.f a0.T a1.T).bind fun r21 => (if (!r21) = true then (some false) else (some true)))))))
def laws_eqItem.Q (w : World) (F : Nat → Prop) (r : Bool) (v : Value) (w' : World) : Prop :=
 v = (.bool r) ∧ Ky [] w w'
set_option maxHeartbeats 4000000 in
set_option maxRecDepth 100000 in
theorem laws_eqItem.calls (a0 : Item) (a1 : Item) (w : World) (F : Nat → Prop) (w0_0 : Value) (w0_1 : Value) (w1_0 : Value) (w1_1 : Value) (h0_0 : Kd.flt.rd w [w0_0] a0.F F) (h0_1 : (Kd.sl 5 (Kd.int .u8)).rd w [w0_1] a0.T F) (h1_0 : Kd.flt.rd w [w1_0] a1.F F) (h1_1 : (Kd.sl 5 (Kd.int .u8)).rd w [w1_1] a1.T F) (r : Bool) (m : laws_eqItem.f a0 a1 = some r) :
  Calls Tryz.prog 17 #[(.agg #[(.int .i64 a0.Kind), (.int .i64 a0.N), w0_0, w0_1]), (.agg #[(.int .i64 a1.Kind), (.int .i64 a1.N), w1_0, w1_1])] w fun en w' => ∃ v, en = .returned v ∧ laws_eqItem.Q w F r v w' := by
 obtain ⟨s0, rfl, kp0, z⟩ := start0 w F
 have A0_0 := fl_of h0_0
 have A0_1 := z.rd h0_1
 have A1_0 := fl_of h1_0
 have A1_1 := z.rd h1_1
 refine calls_of_TM (args := [(.agg #[(.int .i64 a0.Kind), (.int .i64 a0.N), w0_0, w0_1]), (.agg #[(.int .i64 a1.Kind), (.int .i64 a1.N), w1_0, w1_1])]) (R := fun r en w' => ∃ v, en = .returned v ∧ laws_eqItem.Q s0.w F r v w') Tryz.func17 Tryz.ntmps17 rfl rfl m ?_
 unfold laws_eqItem.f
 refine sr ?_
 refine bx (cs := [(.int .i64 a0.Kind), (.int .i64 a0.N), w0_0, w0_1]) 40 rfl rfl rfl rfl rfl rfl (fun b3 s3 p3 B3 => ?_)
 refine bx (cs := [(.int .i64 a1.Kind), (.int .i64 a1.N), w1_0, w1_1]) 41 rfl rfl rfl rfl rfl rfl (fun b5 s5 p5 B5 => ?_)
 refine pu rfl rfl rfl rfl rfl ?_
 refine dn ?_
 refine sq ?_
 refine sr ?_
 refine fa fa33_0 rfl rfl rfl rfl rfl rfl ?_
 have A7 := (BlF.st B3 p5 rfl)
 refine ld A7 Tryz.underlying3 rfl rfl rfl rfl rfl rfl rfl rfl ?_
 refine fa fa33_0 rfl rfl rfl rfl rfl rfl ?_
 refine ld B5 Tryz.underlying3 rfl rfl rfl rfl rfl rfl rfl rfl ?_
 refine pu rfl rfl rfl rfl rfl ?_
 refine dn ?_
 refine cd rfl (fun h8 => ?_) (fun h8 => ?_)
 ·
  refine sr ?_
  refine pu rfl rfl rfl rfl rfl ?_
  refine dn ?_
  have K9 := ((kp0.st p3 rfl).st p5 rfl)
  exact re rfl Tryz.func17 rfl (r_t rfl r_nil) rfl ⟨_, rfl, rfl, z.ky K9⟩
 ·
  refine sk ?_
  refine sq ?_
  refine sr ?_
  refine fa fa33_1 rfl rfl rfl rfl rfl rfl ?_
  refine ld A7 Tryz.underlying3 rfl rfl rfl rfl rfl rfl rfl rfl ?_
  refine fa fa33_1 rfl rfl rfl rfl rfl rfl ?_
  refine ld B5 Tryz.underlying3 rfl rfl rfl rfl rfl rfl rfl rfl ?_
  refine pu rfl rfl rfl rfl rfl ?_
  refine dn ?_
  refine cd rfl (fun h10 => ?_) (fun h10 => ?_)
  ·
   refine sr ?_
   refine pu rfl rfl rfl rfl rfl ?_
   refine dn ?_
   have K11 := ((kp0.st p3 rfl).st p5 rfl)
   exact re rfl Tryz.func17 rfl (r_t rfl r_nil) rfl ⟨_, rfl, rfl, z.ky K11⟩
  ·
   refine sk ?_
   refine sq ?_
   refine sr ?_
   refine fa fa33_2 rfl rfl rfl rfl rfl rfl ?_
   refine ld A7 Tryz.underlying23 rfl rfl rfl rfl rfl rfl rfl rfl ?_
   refine fa fa33_2 rfl rfl rfl rfl rfl rfl ?_
   refine ld B5 Tryz.underlying23 rfl rfl rfl rfl rfl rfl rfl rfl ?_
   refine cl rfl rfl rfl rfl rfl Tryz.func87 rfl rfl rfl (fun r12 m12 => laws_sameFloat.calls a0.F a1.F s5.w (fun b => memb [] (s5.g b) = true) w0_0 w1_0 (fl_rdf (s := s5) A0_0) (fl_rdf (s := s5) A1_0) r12 m12) ?_
   rintro r12 _ w12 m12 ⟨rfl, ky12⟩
   obtain ⟨s13, rfl, p13, n13⟩ := nwx s5 w12 42 ky12
   refine pu rfl rfl rfl rfl rfl ?_
   refine dn ?_
   refine cd rfl (fun h14 => ?_) (fun h14 => ?_)
   ·
    refine sr ?_
    refine pu rfl rfl rfl rfl rfl ?_
    refine dn ?_
    have K15 := (((kp0.st p3 rfl).st p5 rfl).st p13 rfl)
    exact re rfl Tryz.func17 rfl (r_t rfl r_nil) rfl ⟨_, rfl, rfl, z.ky K15⟩
   ·
    refine sk ?_
    refine sq ?_
    refine sr ?_
    refine fa fa33_3 rfl rfl rfl rfl rfl rfl ?_
    have A16 := (BlF.st A7 p13 rfl)
    refine ld A16 Tryz.underlying24 rfl rfl rfl rfl rfl rfl rfl rfl ?_
    refine fa fa33_3 rfl rfl rfl rfl rfl rfl ?_
    have A17 := (BlF.st B5 p13 rfl)
    refine ld A17 Tryz.underlying24 rfl rfl rfl rfl rfl rfl rfl rfl ?_
    have K18 := (((kp0.st p3 rfl).st p5 rfl).st p13 rfl)
    have A19 := (A0_1.kp K18)
    have A20 := (A1_1.kp K18)
    refine cl rfl rfl rfl rfl rfl Tryz.func88 rfl rfl rfl (fun r21 m21 => laws_eqByteS.calls a0.T a1.T s13.w (fun b => memb [0] (s13.g b) = true) w0_1 w1_1 A19 A20 r21 m21) ?_
    rintro r21 _ w21 m21 ⟨rfl, ky21⟩
    obtain ⟨s22, rfl, p22, n22⟩ := nwx s13 w21 43 ky21
    refine pu rfl rfl rfl rfl rfl ?_
    refine dn ?_
    refine cd rfl (fun h23 => ?_) (fun h23 => ?_)
    ·
     refine sr ?_
     refine pu rfl rfl rfl rfl rfl ?_
     refine dn ?_
     have K24 := (K18.st p22 rfl)
     exact re rfl Tryz.func17 rfl (r_t rfl r_nil) rfl ⟨_, rfl, rfl, z.ky K24⟩
    ·
     refine sk ?_
     refine sr ?_
     refine pu rfl rfl rfl rfl rfl ?_
     refine dn ?_
     have K25 := (K18.st p22 rfl)
     exact re rfl Tryz.func17 rfl (r_t rfl r_nil) rfl ⟨_, rfl, rfl, z.ky K25⟩
noncomputable def laws_markByteS.b0  (x2 : (List Int) × Int × Int) : Option (((List Int) × Int × Int) ⊕ (Int × (List Int))) :=
 (if (decide (x2.2.2 < (x2.1.length : Int))) = true then (if 0 ≤ x2.2.2 ∧ x2.2.2 < (x2.1.length : Int) then (some (Sum.inl ((x2.1.set (x2.2.2).toNat (IntKind.wrap .u8 x2.2.1)), (IntKind.wrap .i64 (x2.2.1 + (1 : Int))), (IntKind.wrap .i64 (x2.2.2 + (1 : Int)))))) else none) else ((some (x2.2.1, x2.1)).bind fun o => some (Sum.inr o)))
noncomputable def laws_markByteS.f (a0 : (List Int)) (a1 : Int) : Option (Int × (List Int)) :=
 (iter laws_markByteS.b0 (a0, a1, (0 : Int)))
def laws_markByteS.Q (w : World) (F : Nat → Prop) (os : List Nat) (w0_0 : Value) (r : Int × (List Int)) (v : Value) (w' : World) : Prop :=
 v = (.int .i64 r.1) ∧ FW (Kd.sl 5 (Kd.int .u8)) os w w' [w0_0] r.2 ∧ Ky os w w'
set_option maxHeartbeats 4000000 in
set_option maxRecDepth 100000 in
theorem laws_markByteS.calls (a0 : (List Int)) (a1 : Int) (w : World) (F : Nat → Prop) (w0_0 : Value) (os : List Nat) (h0_0 : (Kd.sl 5 (Kd.int .u8)).ow w [w0_0] a0 os) (hn : os.Nodup) (hF : ∀ b, F b → b ∉ os) (r : Int × (List Int)) (m : laws_markByteS.f a0 a1 = some r) :
  Calls Tryz.prog 91 #[w0_0, (.int .i64 a1)] w fun en w' => ∃ v, en = .returned v ∧ laws_markByteS.Q w F os w0_0 r v w' := by
 obtain ⟨s0, rfl, kp0, z⟩ := start1 w F os hF
 have A0_0 := z.ow h0_0 hn
 refine calls_of_TM (args := [w0_0, (.int .i64 a1)]) (R := fun r en w' => ∃ v, en = .returned v ∧ laws_markByteS.Q s0.w F os w0_0 r v w') Tryz.func91 Tryz.ntmps91 rfl rfl m ?_
 unfold laws_markByteS.f
 refine sr ?_
 refine pu rfl rfl rfl rfl rfl ?_
 refine dn ?_
 refine sq ?_
 refine sr ?_
 refine pu rfl rfl rfl rfl rfl ?_
 refine dn ?_
 refine bl ?_
 refine lpI (fun (x2 : (List Int) × Int × Int) (e : Env) (w : World) => ∃ (s : St) (e0 : Env), w = s.w ∧ e = upd (upd (upd e0 0 w0_0) 1 (.int .i64 x2.2.1)) 5 (.int .i64 x2.2.2) ∧ Kp s0 s ∧ OwF (Kd.sl 5 (Kd.int .u8)) s [w0_0] x2.1 2) ⟨s0, _, rfl, (ue (ue (ue rfl rfl) rfl) rfl), kp0, A0_0⟩ (fun g2 ih2 => ?_)
 rintro x2 _ _ ⟨s3, _, rfl, rfl, Kx2, Ax2_0⟩
 unfold laws_markByteS.b0
 refine sq ?_
 refine sr ?_
 refine pu rfl rfl rfl rfl rfl ?_
 refine mv w0_0 rfl rfl rfl rfl rfl rfl ?_
 refine ln Ax2_0.rd Tryz.underlying24 rfl rfl rfl rfl rfl rfl ?_
 refine pu rfl rfl rfl rfl rfl ?_
 refine dn ?_
 refine cd rfl (fun h5 => ?_) (fun h5 => ?_)
 ·
  refine sk ?_
  refine sq ?_
  refine bl ?_
  refine sr ?_
  refine mv w0_0 rfl rfl rfl rfl rfl rfl ?_
  refine pu rfl rfl rfl rfl rfl ?_
  refine pu rfl rfl rfl rfl rfl ?_
  refine cv Tryz.underlying5 Tryz.underlying3 rfl rfl rfl rfl rfl rfl ?_
  refine ix Ax2_0.rd Tryz.underlying24 z5 rfl rfl rfl rfl rfl rfl rfl rfl (fun ad6 es6 h0_6 h1_6 he6 ce6 ia6 => ?_)
  obtain rfl := he6
  refine so (x' := (IntKind.wrap .u8 x2.2.1)) Ax2_0 ia6 h0_6 h1_6 cs_flat z5 rfl rfl rfl rfl rfl rfl (fun s8 p8 A8 => ?_)
  refine dn ?_
  refine rg ?_
  refine pu rfl rfl rfl rfl rfl ?_
  refine pu rfl rfl rfl rfl rfl ?_
  refine pu rfl rfl rfl rfl rfl ?_
  refine dn ?_
  refine ib ?_
  refine rg ?_
  refine pu rfl rfl rfl rfl rfl ?_
  refine pu rfl rfl rfl rfl rfl ?_
  refine pu rfl rfl rfl rfl rfl ?_
  refine dn ?_
  have K10 := (Kx2.st p8 rfl)
  exact lb ih2 ⟨s8, _, rfl, (ue (ue (ue rfl rfl) rfl) rfl), K10, A8⟩
 ·
  refine xt rfl ?_
  refine sgb ?_
  refine sr ?_
  refine pu rfl rfl rfl rfl rfl ?_
  refine pu rfl rfl rfl rfl rfl ?_
  refine dn ?_
  exact re rfl Tryz.func91 rfl (r_t rfl r_nil) rfl ⟨_, rfl, rfl, z.fw Kx2 Ax2_0, z.ky Kx2⟩
noncomputable def laws_markItem.f (a0 : Item) (a1 : Int) : Option (Int × (List Int)) :=
 ((laws_markByteS.f a0.T a1).bind fun r4 => (some (r4.1, r4.2)))
def laws_markItem.Q (w : World) (F : Nat → Prop) (os : List Nat) (w0_1 : Value) (r : Int × (List Int)) (v : Value) (w' : World) : Prop :=
 v = (.int .i64 r.1) ∧ FW (Kd.sl 5 (Kd.int .u8)) os w w' [w0_1] r.2 ∧ Ky os w w'
set_option maxHeartbeats 4000000 in
set_option maxRecDepth 100000 in
theorem laws_markItem.calls (a0 : Item) (a1 : Int) (w : World) (F : Nat → Prop) (w0_0 : Value) (w0_1 : Value) (h0_0 : Kd.flt.rd w [w0_0] a0.F F) (os : List Nat) (h0_1 : (Kd.sl 5 (Kd.int .u8)).ow w [w0_1] a0.T os) (hn : os.Nodup) (hF : ∀ b, F b → b ∉ os) (r : Int × (List Int)) (m : laws_markItem.f a0 a1 = some r) :
  Calls Tryz.prog 19 #[(.agg #[(.int .i64 a0.Kind), (.int .i64 a0.N), w0_0, w0_1]), (.int .i64 a1)] w fun en w' => ∃ v, en = .returned v ∧ laws_markItem.Q w F os w0_1 r v w' := by
 obtain ⟨s0, rfl, kp0, z⟩ := start1 w F os hF
 have A0_0 := fl_of h0_0
 have A0_1 := z.ow h0_1 hn
 refine calls_of_TM (args := [(.agg #[(.int .i64 a0.Kind), (.int .i64 a0.N), w0_0, w0_1]), (.int .i64 a1)]) (R := fun r en w' => ∃ v, en = .returned v ∧ laws_markItem.Q s0.w F os w0_1 r v w') Tryz.func19 Tryz.ntmps19 rfl rfl m ?_
 unfold laws_markItem.f
 refine sr ?_
 refine bx (cs := [(.int .i64 a0.Kind), (.int .i64 a0.N), w0_0, w0_1]) 40 rfl rfl rfl rfl rfl rfl (fun b2 s2 p2 B2 => ?_)
 refine pu rfl rfl rfl rfl rfl ?_
 refine dn ?_
 refine sr ?_
 refine fa fa33_3 rfl rfl rfl rfl rfl rfl ?_
 refine ld B2 Tryz.underlying24 rfl rfl rfl rfl rfl rfl rfl rfl ?_
 refine pu rfl rfl rfl rfl rfl ?_
 have A5 := (A0_1.st p2 rfl)
 obtain ⟨os4, ho4, hn4, hc4⟩ := A5
 refine cl rfl rfl rfl rfl rfl Tryz.func91 rfl rfl rfl (fun r4 m4 => laws_markByteS.calls a0.T a1 s2.w (fun b => memb [] (s2.g b) = true) w0_1 os4 ho4 hn4 (apart_of hc4 rfl) r4 m4) ?_
 rintro r4 _ w4 m4 ⟨rfl, w4_, ky4⟩
 obtain ⟨s6, rfl, p6, A6⟩ := nwo 41 hc4 ky4 w4_
 refine pu rfl rfl rfl rfl rfl ?_
 refine dn ?_
 refine sr ?_
 refine pu rfl rfl rfl rfl rfl ?_
 refine pu rfl rfl rfl rfl rfl ?_
 refine dn ?_
 have K8 := ((kp0.st p2 rfl).st p6 rfl)
 exact re rfl Tryz.func19 rfl (r_t rfl r_nil) rfl ⟨_, rfl, rfl, z.fw K8 A6, z.ky K8⟩
noncomputable def laws_heldByteS.b0 (a0 : (List Int)) (x2 : Int × Int) : Option ((Int × Int) ⊕ Int) :=
 (if (decide (x2.2 < (a0.length : Int))) = true then (if 0 ≤ x2.2 ∧ x2.2 < (a0.length : Int) then (if ((at_ a0 x2.2) != (IntKind.wrap .u8 x2.1)) = true then (some (Sum.inr (-1 : Int))) else (some (Sum.inl ((IntKind.wrap .i64 (x2.1 + (1 : Int))), (IntKind.wrap .i64 (x2.2 + (1 : Int))))))) else none) else ((some x2.1).bind fun o => some (Sum.inr o)))
noncomputable def laws_heldByteS.f (a0 : (List Int)) (a1 : Int) : Option (Int) :=
 (iter (laws_heldByteS.b0 a0) (a1, (0 : Int)))
def laws_heldByteS.Q (w : World) (F : Nat → Prop) (r : Int) (v : Value) (w' : World) : Prop :=
 v = (.int .i64 r) ∧ Ky [] w w'
set_option maxHeartbeats 4000000 in
set_option maxRecDepth 100000 in
theorem laws_heldByteS.calls (a0 : (List Int)) (a1 : Int) (w : World) (F : Nat → Prop) (w0_0 : Value) (h0_0 : (Kd.sl 5 (Kd.int .u8)).rd w [w0_0] a0 F) (r : Int) (m : laws_heldByteS.f a0 a1 = some r) :
  Calls Tryz.prog 181 #[w0_0, (.int .i64 a1)] w fun en w' => ∃ v, en = .returned v ∧ laws_heldByteS.Q w F r v w' := by
 obtain ⟨s0, rfl, kp0, z⟩ := start0 w F
 have A0_0 := z.rd h0_0
 refine calls_of_TM (args := [w0_0, (.int .i64 a1)]) (R := fun r en w' => ∃ v, en = .returned v ∧ laws_heldByteS.Q s0.w F r v w') Tryz.func181 Tryz.ntmps181 rfl rfl m ?_
 unfold laws_heldByteS.f
 refine sr ?_
 refine pu rfl rfl rfl rfl rfl ?_
 refine dn ?_
 refine sq ?_
 refine sr ?_
 refine pu rfl rfl rfl rfl rfl ?_
 refine dn ?_
 refine bl ?_
 refine lpI (fun (x2 : Int × Int) (e : Env) (w : World) => ∃ (s : St) (e0 : Env), w = s.w ∧ e = upd (upd (upd e0 0 w0_0) 1 (.int .i64 x2.1)) 5 (.int .i64 x2.2) ∧ Kp s0 s) ⟨s0, _, rfl, (ue (ue (ue rfl rfl) rfl) rfl), kp0⟩ (fun g2 ih2 => ?_)
 rintro x2 _ _ ⟨s3, _, rfl, rfl, Kx2⟩
 unfold laws_heldByteS.b0
 refine sq ?_
 refine sr ?_
 refine pu rfl rfl rfl rfl rfl ?_
 refine mv w0_0 rfl rfl rfl rfl rfl rfl ?_
 have A4 := (A0_0.kp Kx2)
 refine ln A4 Tryz.underlying24 rfl rfl rfl rfl rfl rfl ?_
 refine pu rfl rfl rfl rfl rfl ?_
 refine dn ?_
 refine cd rfl (fun h5 => ?_) (fun h5 => ?_)
 ·
  refine sk ?_
  refine sq ?_
  refine bl ?_
  refine sq ?_
  refine sr ?_
  refine mv w0_0 rfl rfl rfl rfl rfl rfl ?_
  refine pu rfl rfl rfl rfl rfl ?_
  refine ix A4 Tryz.underlying24 z5 rfl rfl rfl rfl rfl rfl rfl rfl (fun ad6 es6 h0_6 h1_6 he6 ce6 ia6 => ?_)
  obtain rfl := he6
  refine lc0 ce6 Tryz.underlying5 rfl rfl rfl rfl rfl rfl rfl rfl ?_
  refine pu rfl rfl rfl rfl rfl ?_
  refine cv Tryz.underlying5 Tryz.underlying3 rfl rfl rfl rfl rfl rfl ?_
  refine pu rfl rfl rfl rfl rfl ?_
  refine dn ?_
  refine cd rfl (fun h8 => ?_) (fun h8 => ?_)
  ·
   refine sr ?_
   refine pu rfl rfl rfl rfl rfl ?_
   refine dn ?_
   refine sgi ?_
   exact re rfl Tryz.func181 rfl (r_t rfl r_nil) rfl ⟨_, rfl, rfl, z.ky Kx2⟩
  ·
   refine sk ?_
   refine rg ?_
   refine pu rfl rfl rfl rfl rfl ?_
   refine pu rfl rfl rfl rfl rfl ?_
   refine pu rfl rfl rfl rfl rfl ?_
   refine dn ?_
   refine ib ?_
   refine rg ?_
   refine pu rfl rfl rfl rfl rfl ?_
   refine pu rfl rfl rfl rfl rfl ?_
   refine pu rfl rfl rfl rfl rfl ?_
   refine dn ?_
   exact lb ih2 ⟨s3, _, rfl, (ue (ue (ue rfl rfl) rfl) rfl), Kx2⟩
 ·
  refine xt rfl ?_
  refine sgb ?_
  refine sr ?_
  refine pu rfl rfl rfl rfl rfl ?_
  refine pu rfl rfl rfl rfl rfl ?_
  refine dn ?_
  exact re rfl Tryz.func181 rfl (r_t rfl r_nil) rfl ⟨_, rfl, rfl, z.ky Kx2⟩
noncomputable def laws_szByteSS.b0 (a0 : (List (List Int))) (x3 : Int × Int) : Option ((Int × Int) ⊕ Int) :=
 (if (decide (x3.2 < (a0.length : Int))) = true then (if 0 ≤ x3.2 ∧ x3.2 < (a0.length : Int) then ((laws_szByteS.f (at_ a0 x3.2) x3.1).bind fun r10 => (if (decide (r10 < (0 : Int))) = true then (some (Sum.inr (-1 : Int))) else (some (Sum.inl (r10, (IntKind.wrap .i64 (x3.2 + (1 : Int)))))))) else none) else ((some x3.1).bind fun o => some (Sum.inr o)))
noncomputable def laws_szByteSS.f (a0 : (List (List Int))) (a1 : Int) : Option (Int) :=
 (if (decide ((IntKind.wrap .i64 (a1 - (a0.length : Int))) < (0 : Int))) = true then (some (-1 : Int)) else (iter (laws_szByteSS.b0 a0) ((IntKind.wrap .i64 (a1 - (a0.length : Int))), (0 : Int))))
def laws_szByteSS.Q (w : World) (F : Nat → Prop) (r : Int) (v : Value) (w' : World) : Prop :=
 v = (.int .i64 r) ∧ Ky [] w w'
set_option maxHeartbeats 4000000 in
set_option maxRecDepth 100000 in
theorem laws_szByteSS.calls (a0 : (List (List Int))) (a1 : Int) (w : World) (F : Nat → Prop) (w0_0 : Value) (h0_0 : (Kd.sl 24 (Kd.sl 5 (Kd.int .u8))).rd w [w0_0] a0 F) (r : Int) (m : laws_szByteSS.f a0 a1 = some r) :
  Calls Tryz.prog 257 #[w0_0, (.int .i64 a1)] w fun en w' => ∃ v, en = .returned v ∧ laws_szByteSS.Q w F r v w' := by
 obtain ⟨s0, rfl, kp0, z⟩ := start0 w F
 have A0_0 := z.rd h0_0
 refine calls_of_TM (args := [w0_0, (.int .i64 a1)]) (R := fun r en w' => ∃ v, en = .returned v ∧ laws_szByteSS.Q s0.w F r v w') Tryz.func257 Tryz.ntmps257 rfl rfl m ?_
 unfold laws_szByteSS.f
 refine sr ?_
 refine pu rfl rfl rfl rfl rfl ?_
 refine dn ?_
 refine sr ?_
 refine pu rfl rfl rfl rfl rfl ?_
 refine mv w0_0 rfl rfl rfl rfl rfl rfl ?_
 refine ln A0_0 Tryz.underlying140 rfl rfl rfl rfl rfl rfl ?_
 refine pu rfl rfl rfl rfl rfl ?_
 refine pu rfl rfl rfl rfl rfl ?_
 refine dn ?_
 refine sq ?_
 refine sr ?_
 refine pu rfl rfl rfl rfl rfl ?_
 refine pu rfl rfl rfl rfl rfl ?_
 refine dn ?_
 refine cd rfl (fun h2 => ?_) (fun h2 => ?_)
 ·
  refine sr ?_
  refine pu rfl rfl rfl rfl rfl ?_
  refine dn ?_
  exact re rfl Tryz.func257 rfl (r_t rfl r_nil) rfl ⟨_, rfl, rfl, z.ky kp0⟩
 ·
  refine sk ?_
  refine sq ?_
  refine sr ?_
  refine pu rfl rfl rfl rfl rfl ?_
  refine dn ?_
  refine bl ?_
  refine lpI (fun (x3 : Int × Int) (e : Env) (w : World) => ∃ (s : St) (e0 : Env), w = s.w ∧ e = upd (upd (upd e0 0 w0_0) 1 (.int .i64 x3.1)) 5 (.int .i64 x3.2) ∧ Kp s0 s) ⟨s0, _, rfl, (ue (ue (ue rfl rfl) rfl) rfl), kp0⟩ (fun g3 ih3 => ?_)
  rintro x3 _ _ ⟨s4, _, rfl, rfl, Kx3⟩
  unfold laws_szByteSS.b0
  refine sq ?_
  refine sr ?_
  refine pu rfl rfl rfl rfl rfl ?_
  refine mv w0_0 rfl rfl rfl rfl rfl rfl ?_
  have A5 := (A0_0.kp Kx3)
  refine ln A5 Tryz.underlying140 rfl rfl rfl rfl rfl rfl ?_
  refine pu rfl rfl rfl rfl rfl ?_
  refine dn ?_
  refine cd rfl (fun h6 => ?_) (fun h6 => ?_)
  ·
   refine sk ?_
   refine sq ?_
   refine bl ?_
   refine sr ?_
   refine mv w0_0 rfl rfl rfl rfl rfl rfl ?_
   refine pu rfl rfl rfl rfl rfl ?_
   refine ix A5 Tryz.underlying140 z24 rfl rfl rfl rfl rfl rfl rfl rfl (fun ad7 es7 h0_7 h1_7 he7 ce7 ia7 => ?_)
   obtain ⟨v7, rfl, he7'⟩ := he7
   have A7 : RdF (Kd.sl 5 (Kd.int .u8)) s4 [v7] (at_ a0 x3.2) [0] := ⟨v7, rfl, he7'⟩
   refine lc0 ce7 Tryz.underlying24 rfl rfl rfl rfl rfl rfl rfl rfl ?_
   refine pu rfl rfl rfl rfl rfl ?_
   refine cl rfl rfl rfl rfl rfl Tryz.func63 rfl rfl rfl (fun r10 m10 => laws_szByteS.calls (at_ a0 x3.2) x3.1 s4.w (fun b => memb [0] (s4.g b) = true) v7 A7 r10 m10) ?_
   rintro r10 _ w10 m10 ⟨rfl, ky10⟩
   obtain ⟨s11, rfl, p11, n11⟩ := nwx s4 w10 40 ky10
   refine pu rfl rfl rfl rfl rfl ?_
   refine dn ?_
   refine sr ?_
   refine pu rfl rfl rfl rfl rfl ?_
   refine pu rfl rfl rfl rfl rfl ?_
   refine dn ?_
   refine cd rfl (fun h12 => ?_) (fun h12 => ?_)
   ·
    refine sr ?_
    refine pu rfl rfl rfl rfl rfl ?_
    refine dn ?_
    refine sgi ?_
    have K13 := (Kx3.st p11 rfl)
    exact re rfl Tryz.func257 rfl (r_t rfl r_nil) rfl ⟨_, rfl, rfl, z.ky K13⟩
   ·
    refine sk ?_
    refine ib ?_
    refine rg ?_
    refine pu rfl rfl rfl rfl rfl ?_
    refine pu rfl rfl rfl rfl rfl ?_
    refine pu rfl rfl rfl rfl rfl ?_
    refine dn ?_
    have K14 := (Kx3.st p11 rfl)
    exact lb ih3 ⟨s11, _, rfl, (ue (ue (ue rfl rfl) rfl) rfl), K14⟩
  ·
   refine xt rfl ?_
   refine sgb ?_
   refine sr ?_
   refine pu rfl rfl rfl rfl rfl ?_
   refine pu rfl rfl rfl rfl rfl ?_
   refine dn ?_
   exact re rfl Tryz.func257 rfl (r_t rfl r_nil) rfl ⟨_, rfl, rfl, z.ky Kx3⟩
noncomputable def laws_szPage.f (a0 : Page) (a1 : Int) : Option (Int) :=
 ((laws_szByteSS.f a0.Slots a1).bind fun r6 => (if (decide (r6 < (0 : Int))) = true then (some (-1 : Int)) else (some r6)))
def laws_szPage.Q (w : World) (F : Nat → Prop) (r : Int) (v : Value) (w' : World) : Prop :=
 v = (.int .i64 r) ∧ Ky [] w w'
set_option maxHeartbeats 4000000 in
set_option maxRecDepth 100000 in
theorem laws_szPage.calls (a0 : Page) (a1 : Int) (w : World) (F : Nat → Prop) (w0_0 : Value) (h0_0 : (Kd.sl 24 (Kd.sl 5 (Kd.int .u8))).rd w [w0_0] a0.Slots F) (r : Int) (m : laws_szPage.f a0 a1 = some r) :
  Calls Tryz.prog 182 #[(.agg #[(.int .i64 a0.Lsn), w0_0]), (.int .i64 a1)] w fun en w' => ∃ v, en = .returned v ∧ laws_szPage.Q w F r v w' := by
 obtain ⟨s0, rfl, kp0, z⟩ := start0 w F
 have A0_0 := z.rd h0_0
 refine calls_of_TM (args := [(.agg #[(.int .i64 a0.Lsn), w0_0]), (.int .i64 a1)]) (R := fun r en w' => ∃ v, en = .returned v ∧ laws_szPage.Q s0.w F r v w') Tryz.func182 Tryz.ntmps182 rfl rfl m ?_
 unfold laws_szPage.f
 refine sr ?_
 refine bx (cs := [(.int .i64 a0.Lsn), w0_0]) 40 rfl rfl rfl rfl rfl rfl (fun b2 s2 p2 B2 => ?_)
 refine pu rfl rfl rfl rfl rfl ?_
 refine dn ?_
 refine sr ?_
 refine fa fa222_1 rfl rfl rfl rfl rfl rfl ?_
 refine ld B2 Tryz.underlying140 rfl rfl rfl rfl rfl rfl rfl rfl ?_
 refine pu rfl rfl rfl rfl rfl ?_
 have K4 := (kp0.st p2 rfl)
 have A5 := (A0_0.kp K4)
 refine cl rfl rfl rfl rfl rfl Tryz.func257 rfl rfl rfl (fun r6 m6 => laws_szByteSS.calls a0.Slots a1 s2.w (fun b => memb [0] (s2.g b) = true) w0_0 A5 r6 m6) ?_
 rintro r6 _ w6 m6 ⟨rfl, ky6⟩
 obtain ⟨s7, rfl, p7, n7⟩ := nwx s2 w6 41 ky6
 refine pu rfl rfl rfl rfl rfl ?_
 refine dn ?_
 refine sq ?_
 refine sr ?_
 refine pu rfl rfl rfl rfl rfl ?_
 refine pu rfl rfl rfl rfl rfl ?_
 refine dn ?_
 refine cd rfl (fun h8 => ?_) (fun h8 => ?_)
 ·
  refine sr ?_
  refine pu rfl rfl rfl rfl rfl ?_
  refine dn ?_
  have K9 := (K4.st p7 rfl)
  exact re rfl Tryz.func182 rfl (r_t rfl r_nil) rfl ⟨_, rfl, rfl, z.ky K9⟩
 ·
  refine sk ?_
  refine sr ?_
  refine pu rfl rfl rfl rfl rfl ?_
  refine pu rfl rfl rfl rfl rfl ?_
  refine dn ?_
  have K10 := (K4.st p7 rfl)
  exact re rfl Tryz.func182 rfl (r_t rfl r_nil) rfl ⟨_, rfl, rfl, z.ky K10⟩
noncomputable def laws_szPageS.b0 (a0 : (List Page)) (x3 : Int × Int) : Option ((Int × Int) ⊕ Int) :=
 (if (decide (x3.2 < (a0.length : Int))) = true then (if 0 ≤ x3.2 ∧ x3.2 < (a0.length : Int) then ((laws_szPage.f (at_ a0 x3.2) x3.1).bind fun r10 => (if (decide (r10 < (0 : Int))) = true then (some (Sum.inr (-1 : Int))) else (some (Sum.inl (r10, (IntKind.wrap .i64 (x3.2 + (1 : Int)))))))) else none) else ((some x3.1).bind fun o => some (Sum.inr o)))
noncomputable def laws_szPageS.f (a0 : (List Page)) (a1 : Int) : Option (Int) :=
 (if (decide ((IntKind.wrap .i64 (a1 - (a0.length : Int))) < (0 : Int))) = true then (some (-1 : Int)) else (iter (laws_szPageS.b0 a0) ((IntKind.wrap .i64 (a1 - (a0.length : Int))), (0 : Int))))
def laws_szPageS.Q (w : World) (F : Nat → Prop) (r : Int) (v : Value) (w' : World) : Prop :=
 v = (.int .i64 r) ∧ Ky [] w w'
set_option maxHeartbeats 4000000 in
set_option maxRecDepth 100000 in
theorem laws_szPageS.calls (a0 : (List Page)) (a1 : Int) (w : World) (F : Nat → Prop) (w0_0 : Value) (h0_0 : (Kd.sl 222 kd222).rd w [w0_0] a0 F) (r : Int) (m : laws_szPageS.f a0 a1 = some r) :
  Calls Tryz.prog 94 #[w0_0, (.int .i64 a1)] w fun en w' => ∃ v, en = .returned v ∧ laws_szPageS.Q w F r v w' := by
 obtain ⟨s0, rfl, kp0, z⟩ := start0 w F
 have A0_0 := z.rd h0_0
 refine calls_of_TM (args := [w0_0, (.int .i64 a1)]) (R := fun r en w' => ∃ v, en = .returned v ∧ laws_szPageS.Q s0.w F r v w') Tryz.func94 Tryz.ntmps94 rfl rfl m ?_
 unfold laws_szPageS.f
 refine sr ?_
 refine pu rfl rfl rfl rfl rfl ?_
 refine dn ?_
 refine sr ?_
 refine pu rfl rfl rfl rfl rfl ?_
 refine mv w0_0 rfl rfl rfl rfl rfl rfl ?_
 refine ln A0_0 Tryz.underlying40 rfl rfl rfl rfl rfl rfl ?_
 refine pu rfl rfl rfl rfl rfl ?_
 refine pu rfl rfl rfl rfl rfl ?_
 refine dn ?_
 refine sq ?_
 refine sr ?_
 refine pu rfl rfl rfl rfl rfl ?_
 refine pu rfl rfl rfl rfl rfl ?_
 refine dn ?_
 refine cd rfl (fun h2 => ?_) (fun h2 => ?_)
 ·
  refine sr ?_
  refine pu rfl rfl rfl rfl rfl ?_
  refine dn ?_
  exact re rfl Tryz.func94 rfl (r_t rfl r_nil) rfl ⟨_, rfl, rfl, z.ky kp0⟩
 ·
  refine sk ?_
  refine sq ?_
  refine sr ?_
  refine pu rfl rfl rfl rfl rfl ?_
  refine dn ?_
  refine bl ?_
  refine lpI (fun (x3 : Int × Int) (e : Env) (w : World) => ∃ (s : St) (e0 : Env), w = s.w ∧ e = upd (upd (upd e0 0 w0_0) 1 (.int .i64 x3.1)) 5 (.int .i64 x3.2) ∧ Kp s0 s) ⟨s0, _, rfl, (ue (ue (ue rfl rfl) rfl) rfl), kp0⟩ (fun g3 ih3 => ?_)
  rintro x3 _ _ ⟨s4, _, rfl, rfl, Kx3⟩
  unfold laws_szPageS.b0
  refine sq ?_
  refine sr ?_
  refine pu rfl rfl rfl rfl rfl ?_
  refine mv w0_0 rfl rfl rfl rfl rfl rfl ?_
  have A5 := (A0_0.kp Kx3)
  refine ln A5 Tryz.underlying40 rfl rfl rfl rfl rfl rfl ?_
  refine pu rfl rfl rfl rfl rfl ?_
  refine dn ?_
  refine cd rfl (fun h6 => ?_) (fun h6 => ?_)
  ·
   refine sk ?_
   refine sq ?_
   refine bl ?_
   refine sr ?_
   refine mv w0_0 rfl rfl rfl rfl rfl rfl ?_
   refine pu rfl rfl rfl rfl rfl ?_
   refine ix A5 Tryz.underlying40 z222 rfl rfl rfl rfl rfl rfl rfl rfl (fun ad7 es7 h0_7 h1_7 he7 ce7 ia7 => ?_)
   obtain ⟨v7_0, rfl, A7_0⟩ := op222 he7
   refine lca ce7 Tryz.underlying222 z222 rfl rfl rfl rfl rfl rfl rfl ?_
   refine pu rfl rfl rfl rfl rfl ?_
   refine cl rfl rfl rfl rfl rfl Tryz.func182 rfl rfl rfl (fun r10 m10 => laws_szPage.calls (at_ a0 x3.2) x3.1 s4.w (fun b => memb [0] (s4.g b) = true) v7_0 A7_0 r10 m10) ?_
   rintro r10 _ w10 m10 ⟨rfl, ky10⟩
   obtain ⟨s11, rfl, p11, n11⟩ := nwx s4 w10 40 ky10
   refine pu rfl rfl rfl rfl rfl ?_
   refine dn ?_
   refine sr ?_
   refine pu rfl rfl rfl rfl rfl ?_
   refine pu rfl rfl rfl rfl rfl ?_
   refine dn ?_
   refine cd rfl (fun h12 => ?_) (fun h12 => ?_)
   ·
    refine sr ?_
    refine pu rfl rfl rfl rfl rfl ?_
    refine dn ?_
    refine sgi ?_
    have K13 := (Kx3.st p11 rfl)
    exact re rfl Tryz.func94 rfl (r_t rfl r_nil) rfl ⟨_, rfl, rfl, z.ky K13⟩
   ·
    refine sk ?_
    refine ib ?_
    refine rg ?_
    refine pu rfl rfl rfl rfl rfl ?_
    refine pu rfl rfl rfl rfl rfl ?_
    refine pu rfl rfl rfl rfl rfl ?_
    refine dn ?_
    have K14 := (Kx3.st p11 rfl)
    exact lb ih3 ⟨s11, _, rfl, (ue (ue (ue rfl rfl) rfl) rfl), K14⟩
  ·
   refine xt rfl ?_
   refine sgb ?_
   refine sr ?_
   refine pu rfl rfl rfl rfl rfl ?_
   refine pu rfl rfl rfl rfl rfl ?_
   refine dn ?_
   exact re rfl Tryz.func94 rfl (r_t rfl r_nil) rfl ⟨_, rfl, rfl, z.ky Kx3⟩
noncomputable def laws_szHeap.f (a0 : Heap) (a1 : Int) : Option (Int) :=
 ((laws_szPageS.f a0.Pages a1).bind fun r6 => (if (decide (r6 < (0 : Int))) = true then (some (-1 : Int)) else (some r6)))
def laws_szHeap.Q (w : World) (F : Nat → Prop) (r : Int) (v : Value) (w' : World) : Prop :=
 v = (.int .i64 r) ∧ Ky [] w w'
set_option maxHeartbeats 4000000 in
set_option maxRecDepth 100000 in
theorem laws_szHeap.calls (a0 : Heap) (a1 : Int) (w : World) (F : Nat → Prop) (w0_0 : Value) (h0_0 : (Kd.sl 222 kd222).rd w [w0_0] a0.Pages F) (r : Int) (m : laws_szHeap.f a0 a1 = some r) :
  Calls Tryz.prog 21 #[(.agg #[w0_0]), (.int .i64 a1)] w fun en w' => ∃ v, en = .returned v ∧ laws_szHeap.Q w F r v w' := by
 obtain ⟨s0, rfl, kp0, z⟩ := start0 w F
 have A0_0 := z.rd h0_0
 refine calls_of_TM (args := [(.agg #[w0_0]), (.int .i64 a1)]) (R := fun r en w' => ∃ v, en = .returned v ∧ laws_szHeap.Q s0.w F r v w') Tryz.func21 Tryz.ntmps21 rfl rfl m ?_
 unfold laws_szHeap.f
 refine sr ?_
 refine bx (cs := [w0_0]) 40 rfl rfl rfl rfl rfl rfl (fun b2 s2 p2 B2 => ?_)
 refine pu rfl rfl rfl rfl rfl ?_
 refine dn ?_
 refine sr ?_
 refine fa fa42_0 rfl rfl rfl rfl rfl rfl ?_
 refine ld B2 Tryz.underlying40 rfl rfl rfl rfl rfl rfl rfl rfl ?_
 refine pu rfl rfl rfl rfl rfl ?_
 have K4 := (kp0.st p2 rfl)
 have A5 := (A0_0.kp K4)
 refine cl rfl rfl rfl rfl rfl Tryz.func94 rfl rfl rfl (fun r6 m6 => laws_szPageS.calls a0.Pages a1 s2.w (fun b => memb [0] (s2.g b) = true) w0_0 A5 r6 m6) ?_
 rintro r6 _ w6 m6 ⟨rfl, ky6⟩
 obtain ⟨s7, rfl, p7, n7⟩ := nwx s2 w6 41 ky6
 refine pu rfl rfl rfl rfl rfl ?_
 refine dn ?_
 refine sq ?_
 refine sr ?_
 refine pu rfl rfl rfl rfl rfl ?_
 refine pu rfl rfl rfl rfl rfl ?_
 refine dn ?_
 refine cd rfl (fun h8 => ?_) (fun h8 => ?_)
 ·
  refine sr ?_
  refine pu rfl rfl rfl rfl rfl ?_
  refine dn ?_
  have K9 := (K4.st p7 rfl)
  exact re rfl Tryz.func21 rfl (r_t rfl r_nil) rfl ⟨_, rfl, rfl, z.ky K9⟩
 ·
  refine sk ?_
  refine sr ?_
  refine pu rfl rfl rfl rfl rfl ?_
  refine pu rfl rfl rfl rfl rfl ?_
  refine dn ?_
  have K10 := (K4.st p7 rfl)
  exact re rfl Tryz.func21 rfl (r_t rfl r_nil) rfl ⟨_, rfl, rfl, z.ky K10⟩
noncomputable def laws_toByteSS.b0 (a0 : (List (List Int))) (x4 : (List (List Int)) × Int) : Option (((List (List Int)) × Int) ⊕ (List (List Int))) :=
 (if (decide (x4.2 < (a0.length : Int))) = true then (if 0 ≤ x4.2 ∧ x4.2 < (a0.length : Int) then ((laws_toByteS.f (at_ a0 x4.2)).bind fun r13 => (if 0 ≤ x4.2 ∧ x4.2 < (x4.1.length : Int) then (some (Sum.inl ((x4.1.set (x4.2).toNat r13), (IntKind.wrap .i64 (x4.2 + (1 : Int)))))) else none)) else none) else ((some x4.1).bind fun o => some (Sum.inr o)))
noncomputable def laws_toByteSS.f (a0 : (List (List Int))) : Option ((List (List Int))) :=
 (if 0 ≤ (a0.length : Int) ∧ (a0.length : Int) ≤ (Lim : Int) then (iter (laws_toByteSS.b0 a0) ((List.replicate ((a0.length : Int)).toNat ([] : (List Int))), (0 : Int))) else none)
def laws_toByteSS.Q (w : World) (F : Nat → Prop) (r : (List (List Int))) (v : Value) (w' : World) : Prop :=
 FO (Kd.sl 24 (Kd.sl 5 (Kd.int .u8))) w w' [v] r ∧ Ky [] w w'
set_option maxHeartbeats 4000000 in
set_option maxRecDepth 100000 in
theorem laws_toByteSS.calls (a0 : (List (List Int))) (w : World) (F : Nat → Prop) (w0_0 : Value) (h0_0 : (Kd.sl 24 (Kd.sl 5 (Kd.int .u8))).rd w [w0_0] a0 F) (r : (List (List Int))) (m : laws_toByteSS.f a0 = some r) :
  Calls Tryz.prog 262 #[w0_0] w fun en w' => ∃ v, en = .returned v ∧ laws_toByteSS.Q w F r v w' := by
 obtain ⟨s0, rfl, kp0, z⟩ := start0 w F
 have A0_0 := z.rd h0_0
 refine calls_of_TM (args := [w0_0]) (R := fun r en w' => ∃ v, en = .returned v ∧ laws_toByteSS.Q s0.w F r v w') Tryz.func262 Tryz.ntmps262 rfl rfl m ?_
 unfold laws_toByteSS.f
 refine sr ?_
 refine pu rfl rfl rfl rfl rfl ?_
 refine dn ?_
 refine sr ?_
 refine mv w0_0 rfl rfl rfl rfl rfl rfl ?_
 refine ln A0_0 Tryz.underlying140 rfl rfl rfl rfl rfl rfl ?_
 refine mk (x0 := ([] : (List Int))) (K := (Kd.sl 5 (Kd.int .u8))) 40 sl140 o24 (fun _ => ⟨_, rfl, [], [], [], rfl, ⟨by simp, .inl ⟨rfl, rfl, rfl⟩⟩, ⟨rfl, rfl⟩⟩) rfl rfl rfl rfl rfl rfl rfl (fun v2 s2 p2 A2 => ?_)
 refine asg v2 rfl rfl rfl rfl rfl rfl ?_
 refine dn ?_
 refine sq ?_
 refine sr ?_
 refine pu rfl rfl rfl rfl rfl ?_
 refine dn ?_
 refine bl ?_
 have K5 := (kp0.st p2 rfl)
 refine lpI (fun (x4 : (List (List Int)) × Int) (e : Env) (w : World) => ∃ (s : St) (e0 : Env), w = s.w ∧ e = upd (upd (upd e0 0 w0_0) 3 v2) 4 (.int .i64 x4.2) ∧ Kp s0 s ∧ OwF (Kd.sl 24 (Kd.sl 5 (Kd.int .u8))) s [v2] x4.1 40) ⟨s2, _, rfl, (ue (ue (ue rfl rfl) rfl) rfl), K5, A2⟩ (fun g4 ih4 => ?_)
 rintro x4 _ _ ⟨s6, _, rfl, rfl, Kx4, Ax4_0⟩
 unfold laws_toByteSS.b0
 refine sq ?_
 refine sr ?_
 refine pu rfl rfl rfl rfl rfl ?_
 refine mv w0_0 rfl rfl rfl rfl rfl rfl ?_
 have A8 := (A0_0.kp Kx4)
 refine ln A8 Tryz.underlying140 rfl rfl rfl rfl rfl rfl ?_
 refine pu rfl rfl rfl rfl rfl ?_
 refine dn ?_
 refine cd rfl (fun h9 => ?_) (fun h9 => ?_)
 ·
  refine sk ?_
  refine sq ?_
  refine bl ?_
  refine rg ?_
  refine mv v2 rfl rfl rfl rfl rfl rfl ?_
  refine pu rfl rfl rfl rfl rfl ?_
  refine mv w0_0 rfl rfl rfl rfl rfl rfl ?_
  refine pu rfl rfl rfl rfl rfl ?_
  refine ix A8 Tryz.underlying140 z24 rfl rfl rfl rfl rfl rfl rfl rfl (fun ad10 es10 h0_10 h1_10 he10 ce10 ia10 => ?_)
  obtain ⟨v10, rfl, he10'⟩ := he10
  have A10 : RdF (Kd.sl 5 (Kd.int .u8)) s6 [v10] (at_ a0 x4.2) [0] := ⟨v10, rfl, he10'⟩
  refine lc0 ce10 Tryz.underlying24 rfl rfl rfl rfl rfl rfl rfl rfl ?_
  refine cl rfl rfl rfl rfl rfl Tryz.func73 rfl rfl rfl (fun r13 m13 => laws_toByteS.calls (at_ a0 x4.2) s6.w (fun b => memb [0] (s6.g b) = true) v10 A10 r13 m13) ?_
  rintro r13 v13_0 w13 m13 ⟨f13_0, ky13⟩
  obtain ⟨s14, rfl, p14, n14⟩ := nwx s6 w13 41 ky13
  have A13_0 := f13_0.c n14
  have A16 := (Ax4_0.st p14 rfl)
  refine ix A16.rd Tryz.underlying140 z24 rfl rfl rfl rfl rfl rfl rfl rfl (fun ad17 es17 h0_17 h1_17 he17 ce17 ia17 => ?_)
  obtain ⟨v17, rfl, he17'⟩ := he17
  have A17 : RdF (Kd.sl 5 (Kd.int .u8)) s14 [v17] (at_ x4.1 x4.2) [40] := ⟨v17, rfl, he17'⟩
  refine sog (x' := r13) lg_id A16 ia17 h0_17 h1_17 A13_0 rfl rfl z24 rfl rfl rfl rfl rfl (oc A13_0.rd.one) (fun s20 p20 A20 => ?_)
  refine dn ?_
  refine ib ?_
  refine rg ?_
  refine pu rfl rfl rfl rfl rfl ?_
  refine pu rfl rfl rfl rfl rfl ?_
  refine pu rfl rfl rfl rfl rfl ?_
  refine dn ?_
  have K22 := ((Kx4.st p14 rfl).st p20 rfl)
  exact lb ih4 ⟨s20, _, rfl, (ue (ue (ue rfl rfl) rfl) rfl), K22, A20⟩
 ·
  refine xt rfl ?_
  refine sgb ?_
  refine sr ?_
  refine mv v2 rfl rfl rfl rfl rfl rfl ?_
  refine asg v2 rfl rfl rfl rfl rfl rfl ?_
  refine dn ?_
  exact re rfl Tryz.func262 rfl (r_t rfl r_nil) rfl ⟨_, rfl, Ax4_0.fo Kx4 rfl z.l, z.ky Kx4⟩
noncomputable def laws_toPage.f (a0 : Page) : Option (Page) :=
 ((laws_toByteSS.f a0.Slots).bind fun r14 => (some (Page.mk a0.Lsn r14)))
def laws_toPage.Q (w : World) (F : Nat → Prop) (r : Page) (v : Value) (w' : World) : Prop :=
 ∃ (v0 : Value), v = (.agg #[(.int .i64 r.Lsn), v0]) ∧ FO kd142 w w' [(.int .i64 r.Lsn), v0] r ∧ Ky [] w w'
set_option maxHeartbeats 4000000 in
set_option maxRecDepth 100000 in
theorem laws_toPage.calls (a0 : Page) (w : World) (F : Nat → Prop) (w0_0 : Value) (h0_0 : (Kd.sl 24 (Kd.sl 5 (Kd.int .u8))).rd w [w0_0] a0.Slots F) (r : Page) (m : laws_toPage.f a0 = some r) :
  Calls Tryz.prog 189 #[(.agg #[(.int .i64 a0.Lsn), w0_0])] w fun en w' => ∃ v, en = .returned v ∧ laws_toPage.Q w F r v w' := by
 obtain ⟨s0, rfl, kp0, z⟩ := start0 w F
 have A0_0 := z.rd h0_0
 refine calls_of_TM (args := [(.agg #[(.int .i64 a0.Lsn), w0_0])]) (R := fun r en w' => ∃ v, en = .returned v ∧ laws_toPage.Q s0.w F r v w') Tryz.func189 Tryz.ntmps189 rfl rfl m ?_
 unfold laws_toPage.f
 refine sr ?_
 refine bx (cs := [(.int .i64 a0.Lsn), w0_0]) 40 rfl rfl rfl rfl rfl rfl (fun b2 s2 p2 B2 => ?_)
 refine al (cs := [(.int .i64 (0 : Int)), (.slice none 0 0)]) 41 rfl rfl rfl rfl rfl o142 rfl (fun b4 s4 p4 B4 => ?_)
 refine dn ?_
 refine sr ?_
 refine al (cs := [(.int .i64 (0 : Int)), (.slice none 0 0)]) 42 rfl rfl rfl rfl rfl o142 rfl (fun b6 s6 p6 B6 => ?_)
 refine dn ?_
 refine sr ?_
 refine fa fa222_0 rfl rfl rfl rfl rfl rfl ?_
 have A8 := (BlF.st (BlF.st B2 p4 rfl) p6 rfl)
 refine ld A8 Tryz.underlying3 rfl rfl rfl rfl rfl rfl rfl rfl ?_
 refine fa fa142_0 rfl rfl rfl rfl rfl rfl ?_
 refine sv B6 z3 rfl rfl rfl rfl rfl rfl rfl rfl (fun s9 p9 B9 => ?_)
 refine dn ?_
 refine sr ?_
 refine fa fa222_1 rfl rfl rfl rfl rfl rfl ?_
 have A11 := (BlF.st A8 p9 rfl)
 refine ld A11 Tryz.underlying140 rfl rfl rfl rfl rfl rfl rfl rfl ?_
 have K12 := ((((kp0.st p2 rfl).st p4 rfl).st p6 rfl).st p9 rfl)
 have A13 := (A0_0.kp K12)
 refine cl rfl rfl rfl rfl rfl Tryz.func262 rfl rfl rfl (fun r14 m14 => laws_toByteSS.calls a0.Slots s9.w (fun b => memb [0] (s9.g b) = true) w0_0 A13 r14 m14) ?_
 rintro r14 v14_0 w14 m14 ⟨f14_0, ky14⟩
 obtain ⟨s15, rfl, p15, n15⟩ := nwx s9 w14 43 ky14
 have A14_0 := f14_0.c n15
 refine fa fa142_1 rfl rfl rfl rfl rfl rfl ?_
 have A17 := (BlF.st B9 p15 rfl)
 refine sv A17 z140 rfl rfl rfl rfl rfl rfl A14_0.rd.one rfl (fun s18 p18 B18 => ?_)
 refine dn ?_
 refine sr ?_
 refine lda (es := [(.int .i64 a0.Lsn), v14_0]) B18 Tryz.underlying142 z142 rfl rfl rfl rfl rfl rfl rfl rfl ?_
 have A20 := (BlF.st (BlF.st (BlF.st (BlF.st B4 p6 rfl) p9 rfl) p15 rfl) p18 rfl)
 have A21 := (A14_0.st p18 rfl)
 refine sva (vs := [(.int .i64 a0.Lsn), v14_0]) A20 z142 rfl rfl rfl rfl rfl rfl (on_cons rfl (on_cons A21.rd.one on_nil)) rfl (fun s22 p22 B22 => ?_)
 refine dn ?_
 have A25 := (A21.st p22 rfl)
 have A24 : OwF kd142 s22 [(.int .i64 a0.Lsn), v14_0] (Page.mk a0.Lsn r14) 43 := (ow_isoz (fun x : Page => (x.Lsn, x.Slots)) (Page.mk a0.Lsn r14) (ow_l (fz_int .i64 a0.Lsn) A25))
 have K27 := (((K12.st p15 rfl).st p18 rfl).st p22 rfl)
 exact re rfl Tryz.func189 rfl (r_b B22 Tryz.underlying142 rfl z142 rfl r_nil) rfl ⟨_, rfl, v14_0, rfl, A24.fo K27 rfl z.l, z.ky K27⟩
noncomputable def laws_toPageS.b0 (a0 : (List Page)) (x4 : (List Page) × Int) : Option (((List Page) × Int) ⊕ (List Page)) :=
 (if (decide (x4.2 < (a0.length : Int))) = true then (if 0 ≤ x4.2 ∧ x4.2 < (a0.length : Int) then ((laws_toPage.f (at_ a0 x4.2)).bind fun r13 => (if 0 ≤ x4.2 ∧ x4.2 < (x4.1.length : Int) then (some (Sum.inl ((x4.1.set (x4.2).toNat r13), (IntKind.wrap .i64 (x4.2 + (1 : Int)))))) else none)) else none) else ((some x4.1).bind fun o => some (Sum.inr o)))
noncomputable def laws_toPageS.f (a0 : (List Page)) : Option ((List Page)) :=
 (if 0 ≤ (a0.length : Int) ∧ (a0.length : Int) ≤ (Lim : Int) then (iter (laws_toPageS.b0 a0) ((List.replicate ((a0.length : Int)).toNat (Page.mk (0 : Int) ([] : (List (List Int))))), (0 : Int))) else none)
def laws_toPageS.Q (w : World) (F : Nat → Prop) (r : (List Page)) (v : Value) (w' : World) : Prop :=
 FO (Kd.sl 142 kd142) w w' [v] r ∧ Ky [] w w'
set_option maxHeartbeats 4000000 in
set_option maxRecDepth 100000 in
theorem laws_toPageS.calls (a0 : (List Page)) (w : World) (F : Nat → Prop) (w0_0 : Value) (h0_0 : (Kd.sl 222 kd222).rd w [w0_0] a0 F) (r : (List Page)) (m : laws_toPageS.f a0 = some r) :
  Calls Tryz.prog 100 #[w0_0] w fun en w' => ∃ v, en = .returned v ∧ laws_toPageS.Q w F r v w' := by
 obtain ⟨s0, rfl, kp0, z⟩ := start0 w F
 have A0_0 := z.rd h0_0
 refine calls_of_TM (args := [w0_0]) (R := fun r en w' => ∃ v, en = .returned v ∧ laws_toPageS.Q s0.w F r v w') Tryz.func100 Tryz.ntmps100 rfl rfl m ?_
 unfold laws_toPageS.f
 refine sr ?_
 refine pu rfl rfl rfl rfl rfl ?_
 refine dn ?_
 refine sr ?_
 refine mv w0_0 rfl rfl rfl rfl rfl rfl ?_
 refine ln A0_0 Tryz.underlying40 rfl rfl rfl rfl rfl rfl ?_
 refine mk (x0 := (Page.mk (0 : Int) ([] : (List (List Int))))) (K := kd142) 40 sl44 o142 (fun _ => ⟨_, _, [], [], rfl, rfl, ⟨rfl, rfl⟩, ⟨_, rfl, [], [], [], rfl, ⟨by simp, .inl ⟨rfl, rfl, rfl⟩⟩, ⟨rfl, rfl⟩⟩⟩) rfl rfl rfl rfl rfl rfl rfl (fun v2 s2 p2 A2 => ?_)
 refine asg v2 rfl rfl rfl rfl rfl rfl ?_
 refine dn ?_
 refine sq ?_
 refine sr ?_
 refine pu rfl rfl rfl rfl rfl ?_
 refine dn ?_
 refine bl ?_
 have K5 := (kp0.st p2 rfl)
 refine lpI (fun (x4 : (List Page) × Int) (e : Env) (w : World) => ∃ (s : St) (e0 : Env), w = s.w ∧ e = upd (upd (upd e0 0 w0_0) 3 v2) 4 (.int .i64 x4.2) ∧ Kp s0 s ∧ OwF (Kd.sl 142 kd142) s [v2] x4.1 40) ⟨s2, _, rfl, (ue (ue (ue rfl rfl) rfl) rfl), K5, A2⟩ (fun g4 ih4 => ?_)
 rintro x4 _ _ ⟨s6, _, rfl, rfl, Kx4, Ax4_0⟩
 unfold laws_toPageS.b0
 refine sq ?_
 refine sr ?_
 refine pu rfl rfl rfl rfl rfl ?_
 refine mv w0_0 rfl rfl rfl rfl rfl rfl ?_
 have A8 := (A0_0.kp Kx4)
 refine ln A8 Tryz.underlying40 rfl rfl rfl rfl rfl rfl ?_
 refine pu rfl rfl rfl rfl rfl ?_
 refine dn ?_
 refine cd rfl (fun h9 => ?_) (fun h9 => ?_)
 ·
  refine sk ?_
  refine sq ?_
  refine bl ?_
  refine rg ?_
  refine mv v2 rfl rfl rfl rfl rfl rfl ?_
  refine pu rfl rfl rfl rfl rfl ?_
  refine mv w0_0 rfl rfl rfl rfl rfl rfl ?_
  refine pu rfl rfl rfl rfl rfl ?_
  refine ix A8 Tryz.underlying40 z222 rfl rfl rfl rfl rfl rfl rfl rfl (fun ad10 es10 h0_10 h1_10 he10 ce10 ia10 => ?_)
  obtain ⟨v10_0, rfl, A10_0⟩ := op222 he10
  refine lca ce10 Tryz.underlying222 z222 rfl rfl rfl rfl rfl rfl rfl ?_
  refine cl rfl rfl rfl rfl rfl Tryz.func189 rfl rfl rfl (fun r13 m13 => laws_toPage.calls (at_ a0 x4.2) s6.w (fun b => memb [0] (s6.g b) = true) v10_0 A10_0 r13 m13) ?_
  rintro r13 _ w13 m13 ⟨v13_0, rfl, f13_0, ky13⟩
  obtain ⟨s14, rfl, p14, n14⟩ := nwx s6 w13 41 ky13
  have A13_0 := f13_0.c n14
  obtain ⟨os13_0, ho13_0, hn13_0, hc13_0⟩ := A13_0
  obtain ⟨u13_0_0, qu13_0_0, e13_0, eo13_0, hu13_0_0⟩ := po142 ho13_0
  have yu13_0_0 : v13_0 = u13_0_0 := congrArg (fun l => (List.drop 1 l).headD undef) e13_0
  subst yu13_0_0
  subst eo13_0
  have Au13_0_0 : OwF (Kd.sl 24 (Kd.sl 5 (Kd.int .u8))) s14 [v13_0] r13.Slots 41 := sp1 hu13_0_0 hn13_0 hc13_0
  have A16 := (Ax4_0.st p14 rfl)
  refine ix A16.rd Tryz.underlying44 z142 rfl rfl rfl rfl rfl rfl rfl rfl (fun ad17 es17 h0_17 h1_17 he17 ce17 ia17 => ?_)
  obtain ⟨v17_0, rfl, A17_0⟩ := op142 he17
  have A20 : OwF kd142 s14 [(.int .i64 r13.Lsn), v13_0] r13 41 := (ow_isoz (fun x : Page => (x.Lsn, x.Slots)) r13 (ow_l (fz_int .i64 r13.Lsn) Au13_0_0))
  refine som (x' := r13) A16 ia17 h0_17 h1_17 A20 rfl rfl z142 rfl rfl rfl rfl rfl rfl (fun s22 p22 A22 => ?_)
  refine dn ?_
  refine ib ?_
  refine rg ?_
  refine pu rfl rfl rfl rfl rfl ?_
  refine pu rfl rfl rfl rfl rfl ?_
  refine pu rfl rfl rfl rfl rfl ?_
  refine dn ?_
  have K24 := ((Kx4.st p14 rfl).st p22 rfl)
  exact lb ih4 ⟨s22, _, rfl, (ue (ue (ue rfl rfl) rfl) rfl), K24, A22⟩
 ·
  refine xt rfl ?_
  refine sgb ?_
  refine sr ?_
  refine mv v2 rfl rfl rfl rfl rfl rfl ?_
  refine asg v2 rfl rfl rfl rfl rfl rfl ?_
  refine dn ?_
  exact re rfl Tryz.func100 rfl (r_t rfl r_nil) rfl ⟨_, rfl, Ax4_0.fo Kx4 rfl z.l, z.ky Kx4⟩
noncomputable def laws_toHeap.f (a0 : Heap) : Option (Heap) :=
 ((laws_toPageS.f a0.Pages).bind fun r11 => (some (Heap.mk r11)))
def laws_toHeap.Q (w : World) (F : Nat → Prop) (r : Heap) (v : Value) (w' : World) : Prop :=
 ∃ (v0 : Value), v = (.agg #[v0]) ∧ FO kd46 w w' [v0] r ∧ Ky [] w w'
set_option maxHeartbeats 4000000 in
set_option maxRecDepth 100000 in
theorem laws_toHeap.calls (a0 : Heap) (w : World) (F : Nat → Prop) (w0_0 : Value) (h0_0 : (Kd.sl 222 kd222).rd w [w0_0] a0.Pages F) (r : Heap) (m : laws_toHeap.f a0 = some r) :
  Calls Tryz.prog 23 #[(.agg #[w0_0])] w fun en w' => ∃ v, en = .returned v ∧ laws_toHeap.Q w F r v w' := by
 obtain ⟨s0, rfl, kp0, z⟩ := start0 w F
 have A0_0 := z.rd h0_0
 refine calls_of_TM (args := [(.agg #[w0_0])]) (R := fun r en w' => ∃ v, en = .returned v ∧ laws_toHeap.Q s0.w F r v w') Tryz.func23 Tryz.ntmps23 rfl rfl m ?_
 unfold laws_toHeap.f
 refine sr ?_
 refine bx (cs := [w0_0]) 40 rfl rfl rfl rfl rfl rfl (fun b2 s2 p2 B2 => ?_)
 refine al (cs := [(.slice none 0 0)]) 41 rfl rfl rfl rfl rfl o46 rfl (fun b4 s4 p4 B4 => ?_)
 refine dn ?_
 refine sr ?_
 refine al (cs := [(.slice none 0 0)]) 42 rfl rfl rfl rfl rfl o46 rfl (fun b6 s6 p6 B6 => ?_)
 refine dn ?_
 refine sr ?_
 refine fa fa42_0 rfl rfl rfl rfl rfl rfl ?_
 have A8 := (BlF.st (BlF.st B2 p4 rfl) p6 rfl)
 refine ld A8 Tryz.underlying40 rfl rfl rfl rfl rfl rfl rfl rfl ?_
 have K9 := (((kp0.st p2 rfl).st p4 rfl).st p6 rfl)
 have A10 := (A0_0.kp K9)
 refine cl rfl rfl rfl rfl rfl Tryz.func100 rfl rfl rfl (fun r11 m11 => laws_toPageS.calls a0.Pages s6.w (fun b => memb [0] (s6.g b) = true) w0_0 A10 r11 m11) ?_
 rintro r11 v11_0 w11 m11 ⟨f11_0, ky11⟩
 obtain ⟨s12, rfl, p12, n12⟩ := nwx s6 w11 43 ky11
 have A11_0 := f11_0.c n12
 refine fa fa46_0 rfl rfl rfl rfl rfl rfl ?_
 have A14 := (BlF.st B6 p12 rfl)
 refine sv A14 z44 rfl rfl rfl rfl rfl rfl A11_0.rd.one rfl (fun s15 p15 B15 => ?_)
 refine dn ?_
 refine sr ?_
 refine lda (es := [v11_0]) B15 Tryz.underlying46 z46 rfl rfl rfl rfl rfl rfl rfl rfl ?_
 have A17 := (BlF.st (BlF.st (BlF.st B4 p6 rfl) p12 rfl) p15 rfl)
 have A18 := (A11_0.st p15 rfl)
 refine sva (vs := [v11_0]) A17 z46 rfl rfl rfl rfl rfl rfl (on_cons A18.rd.one on_nil) rfl (fun s19 p19 B19 => ?_)
 refine dn ?_
 have A22 := (A18.st p19 rfl)
 have A21 : OwF kd46 s19 [v11_0] (Heap.mk r11) 43 := (ow_isoz (fun x : Heap => (x.Pages)) (Heap.mk r11) A22)
 have K24 := (((K9.st p12 rfl).st p15 rfl).st p19 rfl)
 exact re rfl Tryz.func23 rfl (r_b B19 Tryz.underlying46 rfl z46 rfl r_nil) rfl ⟨_, rfl, v11_0, rfl, A21.fo K24 rfl z.l, z.ky K24⟩
noncomputable def spec_PageUsed.b0 (a0 : Page) (x15 : Int × Int) : Option ((Int × Int) ⊕ Int) :=
 (if (decide (x15.2 < (a0.Slots.length : Int))) = true then (if 0 ≤ x15.2 ∧ x15.2 < (a0.Slots.length : Int) then (if (decide (((at_ a0.Slots x15.2).length : Int) > (92 : Int))) = true then (some (Sum.inr (-1 : Int))) else (if 0 ≤ x15.2 ∧ x15.2 < (a0.Slots.length : Int) then (some (Sum.inl ((IntKind.wrap .i64 (x15.1 + ((at_ a0.Slots x15.2).length : Int))), (IntKind.wrap .i64 (x15.2 + (1 : Int)))))) else none)) else none) else (((if (decide ((a0.Slots.length : Int) > (0 : Int))) = true then (if 0 ≤ (IntKind.wrap .i64 ((a0.Slots.length : Int) - (1 : Int))) ∧ (IntKind.wrap .i64 ((a0.Slots.length : Int) - (1 : Int))) < (a0.Slots.length : Int) then (some (((at_ a0.Slots (IntKind.wrap .i64 ((a0.Slots.length : Int) - (1 : Int)))).length : Int) == (0 : Int))) else none) else (some false)).bind fun y27 => (if y27 = true then (some (-1 : Int)) else (if (decide (x15.1 > (240 : Int))) = true then (some (-1 : Int)) else (some x15.1)))).bind fun o => some (Sum.inr o)))
noncomputable def spec_PageUsed.f (a0 : Page) : Option (Int) :=
 ((spec_l5in.f a0.Lsn (0 : Int) (1000000 : Int)).bind fun r4 => (if ((!r4) || (decide ((a0.Slots.length : Int) > (16 : Int)))) = true then (some (-1 : Int)) else (iter (spec_PageUsed.b0 a0) ((IntKind.wrap .i64 ((1 : Int) + (a0.Slots.length : Int))), (0 : Int)))))
def spec_PageUsed.Q (w : World) (F : Nat → Prop) (r : Int) (v : Value) (w' : World) : Prop :=
 v = (.int .i64 r) ∧ Ky [] w w'
set_option maxHeartbeats 4000000 in
set_option maxRecDepth 100000 in
theorem spec_PageUsed.calls (a0 : Page) (w : World) (F : Nat → Prop) (w0_0 : Value) (h0_0 : (Kd.sl 24 (Kd.sl 5 (Kd.int .u8))).rd w [w0_0] a0.Slots F) (r : Int) (m : spec_PageUsed.f a0 = some r) :
  Calls Tryz.prog 185 #[(.agg #[(.int .i64 a0.Lsn), w0_0])] w fun en w' => ∃ v, en = .returned v ∧ spec_PageUsed.Q w F r v w' := by
 obtain ⟨s0, rfl, kp0, z⟩ := start0 w F
 have A0_0 := z.rd h0_0
 refine calls_of_TM (args := [(.agg #[(.int .i64 a0.Lsn), w0_0])]) (R := fun r en w' => ∃ v, en = .returned v ∧ spec_PageUsed.Q s0.w F r v w') Tryz.func185 Tryz.ntmps185 rfl rfl m ?_
 unfold spec_PageUsed.f
 refine sr ?_
 refine bx (cs := [(.int .i64 a0.Lsn), w0_0]) 40 rfl rfl rfl rfl rfl rfl (fun b2 s2 p2 B2 => ?_)
 refine pu rfl rfl rfl rfl rfl ?_
 refine dn ?_
 refine sq ?_
 refine sr ?_
 refine fa fa142_0 rfl rfl rfl rfl rfl rfl ?_
 refine ld B2 Tryz.underlying3 rfl rfl rfl rfl rfl rfl rfl rfl ?_
 refine cl rfl rfl rfl rfl rfl Tryz.func96 rfl rfl rfl (fun r4 m4 => spec_l5in.calls a0.Lsn (0 : Int) (1000000 : Int) s2.w (fun b => memb [] (s2.g b) = true)  r4 m4) ?_
 rintro r4 _ w4 m4 ⟨rfl, ky4⟩
 obtain ⟨s5, rfl, p5, n5⟩ := nwx s2 w4 41 ky4
 refine pu rfl rfl rfl rfl rfl ?_
 refine pu rfl rfl rfl rfl rfl ?_
 refine jy [9, 10, 11, 12, 13, 14] [] 14 (.bool ((!r4) || (decide ((a0.Slots.length : Int) > (16 : Int))))) rfl (fun Kg6 => ?_) (fun j6 => ?_)
 ·
  rcases Bool.eq_false_or_eq_true (!r4) with hb6 | hb6
  ·
   refine sbT hb6 ?_
   refine uw rfl rfl rfl rfl ?_
   refine uw rfl rfl rfl rfl ?_
   refine uw rfl rfl rfl rfl ?_
   refine uw rfl rfl rfl rfl ?_
   refine pu rfl rfl rfl rfl rfl ?_
   exact Kg6 _ (Ag.put ((Ag.put ((Ag.put ((Ag.put ((Ag.put (Ag.base rfl) rfl)) rfl)) rfl)) rfl)) rfl) (by rw [hb6]; rfl)
  ·
   refine sbT hb6 ?_
   refine fa fa142_1 rfl rfl rfl rfl rfl rfl ?_
   have A7 := (BlF.st B2 p5 rfl)
   refine ld A7 Tryz.underlying140 rfl rfl rfl rfl rfl rfl rfl rfl ?_
   have K8 := ((kp0.st p2 rfl).st p5 rfl)
   have A9 := (A0_0.kp K8)
   refine ln A9 Tryz.underlying140 rfl rfl rfl rfl rfl rfl ?_
   refine pu rfl rfl rfl rfl rfl ?_
   refine pu rfl rfl rfl rfl rfl ?_
   exact Kg6 _ (Ag.put ((Ag.put ((Ag.put ((Ag.put ((Ag.put (Ag.base rfl) rfl)) rfl)) rfl)) rfl)) rfl) (by rw [hb6]; rfl)
 refine dn ?_
 refine cd rfl (fun h10 => ?_) (fun h10 => ?_)
 ·
  refine sr ?_
  refine pu rfl rfl rfl rfl rfl ?_
  refine dn ?_
  have K11 := ((kp0.st p2 rfl).st p5 rfl)
  exact re rfl Tryz.func185 rfl (r_t rfl r_nil) rfl ⟨_, rfl, rfl, z.ky K11⟩
 ·
  refine sk ?_
  refine sr ?_
  refine fa fa142_1 rfl rfl rfl rfl rfl rfl ?_
  have A12 := (BlF.st B2 p5 rfl)
  refine ld A12 Tryz.underlying140 rfl rfl rfl rfl rfl rfl rfl rfl ?_
  have K13 := ((kp0.st p2 rfl).st p5 rfl)
  have A14 := (A0_0.kp K13)
  refine ln A14 Tryz.underlying140 rfl rfl rfl rfl rfl rfl ?_
  refine pu rfl rfl rfl rfl rfl ?_
  refine pu rfl rfl rfl rfl rfl ?_
  refine dn ?_
  refine sq ?_
  refine sr ?_
  refine pu rfl rfl rfl rfl rfl ?_
  refine dn ?_
  refine bl ?_
  refine lpI (fun (x15 : Int × Int) (e : Env) (w : World) => ∃ (s : St) (e0 : Env), w = s.w ∧ e = upd (upd (upd e0 1 (.pointer (some ⟨b2, 0, none⟩))) 3 (.int .i64 x15.1)) 4 (.int .i64 x15.2) ∧ Kp s0 s ∧ BlF s b2 142 [(.int .i64 a0.Lsn), w0_0] 40) ⟨s5, _, rfl, (ue (ue (ue rfl rfl) rfl) rfl), K13, A12⟩ (fun g15 ih15 => ?_)
  rintro x15 _ _ ⟨s16, _, rfl, rfl, Kx15, Bx15_b2⟩
  unfold spec_PageUsed.b0
  refine sq ?_
  refine sr ?_
  refine pu rfl rfl rfl rfl rfl ?_
  refine fa fa142_1 rfl rfl rfl rfl rfl rfl ?_
  refine ld Bx15_b2 Tryz.underlying140 rfl rfl rfl rfl rfl rfl rfl rfl ?_
  have A18 := (A0_0.kp Kx15)
  refine ln A18 Tryz.underlying140 rfl rfl rfl rfl rfl rfl ?_
  refine pu rfl rfl rfl rfl rfl ?_
  refine dn ?_
  refine cd rfl (fun h19 => ?_) (fun h19 => ?_)
  ·
   refine sk ?_
   refine sq ?_
   refine bl ?_
   refine sq ?_
   refine sr ?_
   refine fa fa142_1 rfl rfl rfl rfl rfl rfl ?_
   refine ld Bx15_b2 Tryz.underlying140 rfl rfl rfl rfl rfl rfl rfl rfl ?_
   refine pu rfl rfl rfl rfl rfl ?_
   refine ix A18 Tryz.underlying140 z24 rfl rfl rfl rfl rfl rfl rfl rfl (fun ad20 es20 h0_20 h1_20 he20 ce20 ia20 => ?_)
   obtain ⟨v20, rfl, he20'⟩ := he20
   have A20 : RdF (Kd.sl 5 (Kd.int .u8)) s16 [v20] (at_ a0.Slots x15.2) [0] := ⟨v20, rfl, he20'⟩
   refine lc0 ce20 Tryz.underlying24 rfl rfl rfl rfl rfl rfl rfl rfl ?_
   refine ln A20 Tryz.underlying24 rfl rfl rfl rfl rfl rfl ?_
   refine pu rfl rfl rfl rfl rfl ?_
   refine dn ?_
   refine cd rfl (fun h23 => ?_) (fun h23 => ?_)
   ·
    refine sr ?_
    refine pu rfl rfl rfl rfl rfl ?_
    refine dn ?_
    refine sgi ?_
    exact re rfl Tryz.func185 rfl (r_t rfl r_nil) rfl ⟨_, rfl, rfl, z.ky Kx15⟩
   ·
    refine sk ?_
    refine rg ?_
    refine pu rfl rfl rfl rfl rfl ?_
    refine fa fa142_1 rfl rfl rfl rfl rfl rfl ?_
    refine ld Bx15_b2 Tryz.underlying140 rfl rfl rfl rfl rfl rfl rfl rfl ?_
    refine pu rfl rfl rfl rfl rfl ?_
    refine ix A18 Tryz.underlying140 z24 rfl rfl rfl rfl rfl rfl rfl rfl (fun ad24 es24 h0_24 h1_24 he24 ce24 ia24 => ?_)
    obtain ⟨v24, rfl, he24'⟩ := he24
    have A24 : RdF (Kd.sl 5 (Kd.int .u8)) s16 [v24] (at_ a0.Slots x15.2) [0] := ⟨v24, rfl, he24'⟩
    refine lc0 ce24 Tryz.underlying24 rfl rfl rfl rfl rfl rfl rfl rfl ?_
    refine ln A24 Tryz.underlying24 rfl rfl rfl rfl rfl rfl ?_
    refine pu rfl rfl rfl rfl rfl ?_
    refine pu rfl rfl rfl rfl rfl ?_
    refine dn ?_
    refine ib ?_
    refine rg ?_
    refine pu rfl rfl rfl rfl rfl ?_
    refine pu rfl rfl rfl rfl rfl ?_
    refine pu rfl rfl rfl rfl rfl ?_
    refine dn ?_
    exact lb ih15 ⟨s16, _, rfl, (ue (ue (ue rfl rfl) rfl) rfl), Kx15, Bx15_b2⟩
  ·
   refine xt rfl ?_
   refine sgb ?_
   refine sq ?_
   refine sr ?_
   refine fa fa142_1 rfl rfl rfl rfl rfl rfl ?_
   refine ld Bx15_b2 Tryz.underlying140 rfl rfl rfl rfl rfl rfl rfl rfl ?_
   refine ln A18 Tryz.underlying140 rfl rfl rfl rfl rfl rfl ?_
   refine pu rfl rfl rfl rfl rfl ?_
   refine pu rfl rfl rfl rfl rfl ?_
   refine ji [] (fun (y27 : Bool) (e : Env) (w : World) => ∃ (s : St) (e0 : Env), w = s.w ∧ e = upd (upd e0 3 (.int .i64 x15.1)) 56 (.bool y27) ∧ Kp s0 s) (fun Gj27 Kj27 => ?_) ?_
   ·
    rcases Bool.eq_false_or_eq_true (decide ((a0.Slots.length : Int) > (0 : Int))) with hb27 | hb27
    ·
     refine sbT hb27 ?_
     rw [if_pos hb27]
     refine fa fa142_1 rfl rfl rfl rfl rfl rfl ?_
     refine ld Bx15_b2 Tryz.underlying140 rfl rfl rfl rfl rfl rfl rfl rfl ?_
     refine fa fa142_1 rfl rfl rfl rfl rfl rfl ?_
     refine ld Bx15_b2 Tryz.underlying140 rfl rfl rfl rfl rfl rfl rfl rfl ?_
     refine ln A18 Tryz.underlying140 rfl rfl rfl rfl rfl rfl ?_
     refine pu rfl rfl rfl rfl rfl ?_
     refine ix A18 Tryz.underlying140 z24 rfl rfl rfl rfl rfl rfl rfl rfl (fun ad28 es28 h0_28 h1_28 he28 ce28 ia28 => ?_)
     obtain ⟨v28, rfl, he28'⟩ := he28
     have A28 : RdF (Kd.sl 5 (Kd.int .u8)) s16 [v28] (at_ a0.Slots (IntKind.wrap .i64 ((a0.Slots.length : Int) - (1 : Int)))) [0] := ⟨v28, rfl, he28'⟩
     refine lc0 ce28 Tryz.underlying24 rfl rfl rfl rfl rfl rfl rfl rfl ?_
     refine ln A28 Tryz.underlying24 rfl rfl rfl rfl rfl rfl ?_
     refine pu rfl rfl rfl rfl rfl ?_
     refine pu rfl rfl rfl rfl rfl ?_
     exact Kj27 _ _ _ ⟨s16, _, rfl, (ue (ue rfl rfl) rfl), Kx15⟩
    ·
     refine sbT hb27 ?_
     rw [if_neg (by rw [hb27]; decide)]
     refine uw rfl rfl rfl rfl ?_
     refine uw rfl rfl rfl rfl ?_
     refine uw rfl rfl rfl rfl ?_
     refine uw rfl rfl rfl rfl ?_
     refine uw rfl rfl rfl rfl ?_
     refine uw rfl rfl rfl rfl ?_
     refine uw rfl rfl rfl rfl ?_
     refine uw rfl rfl rfl rfl ?_
     refine uw rfl rfl rfl rfl ?_
     refine uw rfl rfl rfl rfl ?_
     refine pu rfl rfl rfl rfl rfl ?_
     exact Kj27 _ _ _ ⟨s16, _, rfl, (ue (ue rfl rfl) rfl), Kx15⟩
   rintro y27 _ _ ⟨s31, _, rfl, rfl, Ky27⟩
   refine dn ?_
   refine cd rfl (fun h32 => ?_) (fun h32 => ?_)
   ·
    refine sr ?_
    refine pu rfl rfl rfl rfl rfl ?_
    refine dn ?_
    exact re rfl Tryz.func185 rfl (r_t rfl r_nil) rfl ⟨_, rfl, rfl, z.ky Ky27⟩
   ·
    refine sk ?_
    refine sq ?_
    refine sr ?_
    refine pu rfl rfl rfl rfl rfl ?_
    refine pu rfl rfl rfl rfl rfl ?_
    refine dn ?_
    refine cd rfl (fun h33 => ?_) (fun h33 => ?_)
    ·
     refine sr ?_
     refine pu rfl rfl rfl rfl rfl ?_
     refine dn ?_
     exact re rfl Tryz.func185 rfl (r_t rfl r_nil) rfl ⟨_, rfl, rfl, z.ky Ky27⟩
    ·
     refine sk ?_
     refine sr ?_
     refine pu rfl rfl rfl rfl rfl ?_
     refine pu rfl rfl rfl rfl rfl ?_
     refine dn ?_
     exact re rfl Tryz.func185 rfl (r_t rfl r_nil) rfl ⟨_, rfl, rfl, z.ky Ky27⟩
noncomputable def spec_GetNum.b0 (a0 : (List Int)) (a1 : Int) (x7 : Int × Int) : Option ((Int × Int) ⊕ (Int × Bool)) :=
 (if (decide (x7.2 ≥ (0 : Int))) = true then (if 0 ≤ (IntKind.wrap .i64 (a1 + x7.2)) ∧ (IntKind.wrap .i64 (a1 + x7.2)) < (a0.length : Int) then (if ((x7.2 == (7 : Int)) && (decide ((IntKind.wrap .i64 (at_ a0 (IntKind.wrap .i64 (a1 + x7.2)))) > (127 : Int)))) = true then (some (Sum.inr ((0 : Int), false))) else (some (Sum.inl ((IntKind.wrap .i64 ((IntKind.wrap .i64 (x7.1 * (256 : Int))) + (IntKind.wrap .i64 (at_ a0 (IntKind.wrap .i64 (a1 + x7.2)))))), (IntKind.wrap .i64 (x7.2 - (1 : Int))))))) else none) else ((some (x7.1, true)).bind fun o => some (Sum.inr o)))
noncomputable def spec_GetNum.f (a0 : (List Int)) (a1 : Int) (a2 : Int) : Option (Int × Bool) :=
 (if (((((decide (a2 < (1 : Int))) || (decide (a2 > (8 : Int)))) || (decide (a1 < (0 : Int)))) || (decide (a1 > (a0.length : Int)))) || (decide (a2 > (IntKind.wrap .i64 ((a0.length : Int) - a1))))) = true then (some ((0 : Int), false)) else (iter (spec_GetNum.b0 a0 a1) ((0 : Int), (IntKind.wrap .i64 (a2 - (1 : Int))))))
def spec_GetNum.Q (w : World) (F : Nat → Prop) (r : Int × Bool) (v : Value) (w' : World) : Prop :=
 v = .tuple #[(.int .i64 r.1), (.bool r.2)] ∧ Ky [] w w'
set_option maxHeartbeats 4000000 in
set_option maxRecDepth 100000 in
theorem spec_GetNum.calls (a0 : (List Int)) (a1 : Int) (a2 : Int) (w : World) (F : Nat → Prop) (w0_0 : Value) (h0_0 : (Kd.sl 5 (Kd.int .u8)).rd w [w0_0] a0 F) (r : Int × Bool) (m : spec_GetNum.f a0 a1 a2 = some r) :
  Calls Tryz.prog 233 #[w0_0, (.int .i64 a1), (.int .i64 a2)] w fun en w' => ∃ v, en = .returned v ∧ spec_GetNum.Q w F r v w' := by
 obtain ⟨s0, rfl, kp0, z⟩ := start0 w F
 have A0_0 := z.rd h0_0
 refine calls_of_TM (args := [w0_0, (.int .i64 a1), (.int .i64 a2)]) (R := fun r en w' => ∃ v, en = .returned v ∧ spec_GetNum.Q s0.w F r v w') Tryz.func233 Tryz.ntmps233 rfl rfl m ?_
 unfold spec_GetNum.f
 refine sr ?_
 refine pu rfl rfl rfl rfl rfl ?_
 refine pu rfl rfl rfl rfl rfl ?_
 refine dn ?_
 refine sq ?_
 refine sr ?_
 refine pu rfl rfl rfl rfl rfl ?_
 refine pu rfl rfl rfl rfl rfl ?_
 refine pu rfl rfl rfl rfl rfl ?_
 refine jy [13, 14, 15, 16] [6, 7, 8, 9, 10, 11, 12, 13, 14, 15, 16, 17, 18, 19, 20, 21, 22, 23] 16 (.bool ((decide (a2 < (1 : Int))) || (decide (a2 > (8 : Int))))) rfl (fun Kg2 => ?_) (fun j2 => ?_)
 ·
  rcases Bool.eq_false_or_eq_true (decide (a2 < (1 : Int))) with hb2 | hb2
  ·
   refine sbT hb2 ?_
   refine uw rfl rfl rfl rfl ?_
   refine uw rfl rfl rfl rfl ?_
   refine pu rfl rfl rfl rfl rfl ?_
   exact Kg2 _ (Ag.put ((Ag.put ((Ag.put (Ag.base rfl) rfl)) rfl)) rfl) (by rw [hb2]; rfl)
  ·
   refine sbT hb2 ?_
   refine pu rfl rfl rfl rfl rfl ?_
   refine pu rfl rfl rfl rfl rfl ?_
   refine pu rfl rfl rfl rfl rfl ?_
   exact Kg2 _ (Ag.put ((Ag.put ((Ag.put (Ag.base rfl) rfl)) rfl)) rfl) (by rw [hb2]; rfl)
 refine pu rfl rfl rfl rfl rfl ?_
 refine jy [17, 18, 19, 20] [10, 11, 12, 13, 14, 15, 16, 17, 18, 19, 20, 21, 22, 23] 20 (.bool (((decide (a2 < (1 : Int))) || (decide (a2 > (8 : Int)))) || (decide (a1 < (0 : Int))))) rfl (fun Kg3 => ?_) (fun j3 => ?_)
 ·
  rcases Bool.eq_false_or_eq_true ((decide (a2 < (1 : Int))) || (decide (a2 > (8 : Int)))) with hb3 | hb3
  ·
   refine sbT hb3 ?_
   refine uw rfl rfl rfl rfl ?_
   refine uw rfl rfl rfl rfl ?_
   refine pu rfl rfl rfl rfl rfl ?_
   exact Kg3 _ (Ag.put ((Ag.put ((Ag.put (Ag.base rfl) rfl)) rfl)) rfl) (by rw [hb3]; rfl)
  ·
   refine sbT hb3 ?_
   refine pu rfl rfl rfl rfl rfl ?_
   refine pu rfl rfl rfl rfl rfl ?_
   refine pu rfl rfl rfl rfl rfl ?_
   exact Kg3 _ (Ag.put ((Ag.put ((Ag.put (Ag.base rfl) rfl)) rfl)) rfl) (by rw [hb3]; rfl)
 refine pu rfl rfl rfl rfl rfl ?_
 refine jy [21, 22, 23, 24, 25, 26] [16, 17, 18, 19, 20, 21, 22, 23] 26 (.bool ((((decide (a2 < (1 : Int))) || (decide (a2 > (8 : Int)))) || (decide (a1 < (0 : Int)))) || (decide (a1 > (a0.length : Int))))) rfl (fun Kg4 => ?_) (fun j4 => ?_)
 ·
  rcases Bool.eq_false_or_eq_true (((decide (a2 < (1 : Int))) || (decide (a2 > (8 : Int)))) || (decide (a1 < (0 : Int)))) with hb4 | hb4
  ·
   refine sbT hb4 ?_
   refine uw rfl rfl rfl rfl ?_
   refine uw rfl rfl rfl rfl ?_
   refine uw rfl rfl rfl rfl ?_
   refine uw rfl rfl rfl rfl ?_
   refine pu rfl rfl rfl rfl rfl ?_
   exact Kg4 _ (Ag.put ((Ag.put ((Ag.put ((Ag.put ((Ag.put (Ag.base rfl) rfl)) rfl)) rfl)) rfl)) rfl) (by rw [hb4]; rfl)
  ·
   refine sbT hb4 ?_
   refine pu rfl rfl rfl rfl rfl ?_
   refine mv w0_0 rfl rfl rfl rfl rfl rfl ?_
   refine ln A0_0 Tryz.underlying24 rfl rfl rfl rfl rfl rfl ?_
   refine pu rfl rfl rfl rfl rfl ?_
   refine pu rfl rfl rfl rfl rfl ?_
   exact Kg4 _ (Ag.put ((Ag.put ((Ag.put ((Ag.put ((Ag.put (Ag.base rfl) rfl)) rfl)) rfl)) rfl)) rfl) (by rw [hb4]; rfl)
 refine pu rfl rfl rfl rfl rfl ?_
 refine jy [27, 28, 29, 30, 31, 32, 33, 34] [] 34 (.bool (((((decide (a2 < (1 : Int))) || (decide (a2 > (8 : Int)))) || (decide (a1 < (0 : Int)))) || (decide (a1 > (a0.length : Int)))) || (decide (a2 > (IntKind.wrap .i64 ((a0.length : Int) - a1)))))) rfl (fun Kg5 => ?_) (fun j5 => ?_)
 ·
  rcases Bool.eq_false_or_eq_true ((((decide (a2 < (1 : Int))) || (decide (a2 > (8 : Int)))) || (decide (a1 < (0 : Int)))) || (decide (a1 > (a0.length : Int)))) with hb5 | hb5
  ·
   refine sbT hb5 ?_
   refine uw rfl rfl rfl rfl ?_
   refine uw rfl rfl rfl rfl ?_
   refine uw rfl rfl rfl rfl ?_
   refine uw rfl rfl rfl rfl ?_
   refine uw rfl rfl rfl rfl ?_
   refine uw rfl rfl rfl rfl ?_
   refine pu rfl rfl rfl rfl rfl ?_
   exact Kg5 _ (Ag.put ((Ag.put ((Ag.put ((Ag.put ((Ag.put ((Ag.put ((Ag.put (Ag.base rfl) rfl)) rfl)) rfl)) rfl)) rfl)) rfl)) rfl) (by rw [hb5]; rfl)
  ·
   refine sbT hb5 ?_
   refine pu rfl rfl rfl rfl rfl ?_
   refine mv w0_0 rfl rfl rfl rfl rfl rfl ?_
   refine ln A0_0 Tryz.underlying24 rfl rfl rfl rfl rfl rfl ?_
   refine pu rfl rfl rfl rfl rfl ?_
   refine pu rfl rfl rfl rfl rfl ?_
   refine pu rfl rfl rfl rfl rfl ?_
   refine pu rfl rfl rfl rfl rfl ?_
   exact Kg5 _ (Ag.put ((Ag.put ((Ag.put ((Ag.put ((Ag.put ((Ag.put ((Ag.put (Ag.base rfl) rfl)) rfl)) rfl)) rfl)) rfl)) rfl)) rfl) (by rw [hb5]; rfl)
 refine dn ?_
 refine cd rfl (fun h6 => ?_) (fun h6 => ?_)
 ·
  refine sr ?_
  refine pu rfl rfl rfl rfl rfl ?_
  refine pu rfl rfl rfl rfl rfl ?_
  refine dn ?_
  exact re rfl Tryz.func233 rfl (r_t rfl (r_t rfl r_nil)) rfl ⟨_, rfl, rfl, z.ky kp0⟩
 ·
  refine sk ?_
  refine sr ?_
  refine pu rfl rfl rfl rfl rfl ?_
  refine dn ?_
  refine sq ?_
  refine sr ?_
  refine pu rfl rfl rfl rfl rfl ?_
  refine pu rfl rfl rfl rfl rfl ?_
  refine pu rfl rfl rfl rfl rfl ?_
  refine dn ?_
  refine bl ?_
  refine lpI (fun (x7 : Int × Int) (e : Env) (w : World) => ∃ (s : St) (e0 : Env), w = s.w ∧ e = upd (upd (upd (upd e0 0 w0_0) 1 (.int .i64 a1)) 8 (.int .i64 x7.1)) 9 (.int .i64 x7.2) ∧ Kp s0 s) ⟨s0, _, rfl, (ue (ue (ue (ue rfl rfl) rfl) rfl) rfl), kp0⟩ (fun g7 ih7 => ?_)
  rintro x7 _ _ ⟨s8, _, rfl, rfl, Kx7⟩
  unfold spec_GetNum.b0
  refine sq ?_
  refine sr ?_
  refine pu rfl rfl rfl rfl rfl ?_
  refine pu rfl rfl rfl rfl rfl ?_
  refine dn ?_
  refine cd rfl (fun h9 => ?_) (fun h9 => ?_)
  ·
   refine sk ?_
   refine sq ?_
   refine bl ?_
   refine sr ?_
   refine mv w0_0 rfl rfl rfl rfl rfl rfl ?_
   refine pu rfl rfl rfl rfl rfl ?_
   refine pu rfl rfl rfl rfl rfl ?_
   refine pu rfl rfl rfl rfl rfl ?_
   have A10 := (A0_0.kp Kx7)
   refine ix A10 Tryz.underlying24 z5 rfl rfl rfl rfl rfl rfl rfl rfl (fun ad11 es11 h0_11 h1_11 he11 ce11 ia11 => ?_)
   obtain rfl := he11
   refine lc0 ce11 Tryz.underlying5 rfl rfl rfl rfl rfl rfl rfl rfl ?_
   refine cv Tryz.underlying3 Tryz.underlying5 rfl rfl rfl rfl rfl rfl ?_
   refine pu rfl rfl rfl rfl rfl ?_
   refine dn ?_
   refine sq ?_
   refine sr ?_
   refine pu rfl rfl rfl rfl rfl ?_
   refine pu rfl rfl rfl rfl rfl ?_
   refine pu rfl rfl rfl rfl rfl ?_
   refine jy [50, 51, 52, 53] [] 53 (.bool ((x7.2 == (7 : Int)) && (decide ((IntKind.wrap .i64 (at_ a0 (IntKind.wrap .i64 (a1 + x7.2)))) > (127 : Int))))) rfl (fun Kg13 => ?_) (fun j13 => ?_)
   ·
    rcases Bool.eq_false_or_eq_true (x7.2 == (7 : Int)) with hb13 | hb13
    ·
     refine sbT hb13 ?_
     refine pu rfl rfl rfl rfl rfl ?_
     refine pu rfl rfl rfl rfl rfl ?_
     refine pu rfl rfl rfl rfl rfl ?_
     exact Kg13 _ (Ag.put ((Ag.put ((Ag.put (Ag.base rfl) rfl)) rfl)) rfl) (by rw [hb13]; rfl)
    ·
     refine sbT hb13 ?_
     refine uw rfl rfl rfl rfl ?_
     refine uw rfl rfl rfl rfl ?_
     refine pu rfl rfl rfl rfl rfl ?_
     exact Kg13 _ (Ag.put ((Ag.put ((Ag.put (Ag.base rfl) rfl)) rfl)) rfl) (by rw [hb13]; rfl)
   refine dn ?_
   refine cd rfl (fun h14 => ?_) (fun h14 => ?_)
   ·
    refine sr ?_
    refine pu rfl rfl rfl rfl rfl ?_
    refine pu rfl rfl rfl rfl rfl ?_
    refine dn ?_
    refine sgi ?_
    exact re rfl Tryz.func233 rfl (r_t rfl (r_t rfl r_nil)) rfl ⟨_, rfl, rfl, z.ky Kx7⟩
   ·
    refine sk ?_
    refine rg ?_
    refine pu rfl rfl rfl rfl rfl ?_
    refine pu rfl rfl rfl rfl rfl ?_
    refine pu rfl rfl rfl rfl rfl ?_
    refine pu rfl rfl rfl rfl rfl ?_
    refine pu rfl rfl rfl rfl rfl ?_
    refine dn ?_
    refine ib ?_
    refine rg ?_
    refine pu rfl rfl rfl rfl rfl ?_
    refine pu rfl rfl rfl rfl rfl ?_
    refine pu rfl rfl rfl rfl rfl ?_
    refine dn ?_
    exact lb ih7 ⟨s8, _, rfl, (ue (ue (ue (ue rfl rfl) rfl) rfl) rfl), Kx7⟩
  ·
   refine xt rfl ?_
   refine sgb ?_
   refine sr ?_
   refine pu rfl rfl rfl rfl rfl ?_
   refine pu rfl rfl rfl rfl rfl ?_
   refine pu rfl rfl rfl rfl rfl ?_
   refine dn ?_
   exact re rfl Tryz.func233 rfl (r_t rfl (r_t rfl r_nil)) rfl ⟨_, rfl, rfl, z.ky Kx7⟩
noncomputable def spec_l3low.b0 (a0 : (List Int)) (x2 : Int × Int) : Option ((Int × Int) ⊕ Int) :=
 (if (decide (x2.2 < (a0.length : Int))) = true then (if 0 ≤ x2.2 ∧ x2.2 < (a0.length : Int) then (some (Sum.inl ((ior .u64 (ishl .u64 x2.1 (8 : Int)) (IntKind.wrap .u64 (at_ a0 x2.2))), (IntKind.wrap .i64 (x2.2 + (1 : Int)))))) else none) else ((some x2.1).bind fun o => some (Sum.inr o)))
noncomputable def spec_l3low.f (a0 : (List Int)) : Option (Int) :=
 (iter (spec_l3low.b0 a0) ((0 : Int), (0 : Int)))
def spec_l3low.Q (w : World) (F : Nat → Prop) (r : Int) (v : Value) (w' : World) : Prop :=
 v = (.int .u64 r) ∧ Ky [] w w'
set_option maxHeartbeats 4000000 in
set_option maxRecDepth 100000 in
theorem spec_l3low.calls (a0 : (List Int)) (w : World) (F : Nat → Prop) (w0_0 : Value) (h0_0 : (Kd.sl 5 (Kd.int .u8)).rd w [w0_0] a0 F) (r : Int) (m : spec_l3low.f a0 = some r) :
  Calls Tryz.prog 308 #[w0_0] w fun en w' => ∃ v, en = .returned v ∧ spec_l3low.Q w F r v w' := by
 obtain ⟨s0, rfl, kp0, z⟩ := start0 w F
 have A0_0 := z.rd h0_0
 refine calls_of_TM (args := [w0_0]) (R := fun r en w' => ∃ v, en = .returned v ∧ spec_l3low.Q s0.w F r v w') Tryz.func308 Tryz.ntmps308 rfl rfl m ?_
 unfold spec_l3low.f
 refine sr ?_
 refine pu rfl rfl rfl rfl rfl ?_
 refine dn ?_
 refine sr ?_
 refine pu rfl rfl rfl rfl rfl ?_
 refine dn ?_
 refine sq ?_
 refine sr ?_
 refine pu rfl rfl rfl rfl rfl ?_
 refine dn ?_
 refine bl ?_
 refine lpI (fun (x2 : Int × Int) (e : Env) (w : World) => ∃ (s : St) (e0 : Env), w = s.w ∧ e = upd (upd (upd e0 0 w0_0) 3 (.int .u64 x2.1)) 4 (.int .i64 x2.2) ∧ Kp s0 s) ⟨s0, _, rfl, (ue (ue (ue rfl rfl) rfl) rfl), kp0⟩ (fun g2 ih2 => ?_)
 rintro x2 _ _ ⟨s3, _, rfl, rfl, Kx2⟩
 unfold spec_l3low.b0
 refine sq ?_
 refine sr ?_
 refine pu rfl rfl rfl rfl rfl ?_
 refine mv w0_0 rfl rfl rfl rfl rfl rfl ?_
 have A4 := (A0_0.kp Kx2)
 refine ln A4 Tryz.underlying24 rfl rfl rfl rfl rfl rfl ?_
 refine pu rfl rfl rfl rfl rfl ?_
 refine dn ?_
 refine cd rfl (fun h5 => ?_) (fun h5 => ?_)
 ·
  refine sk ?_
  refine sq ?_
  refine bl ?_
  refine rg ?_
  refine pu rfl rfl rfl rfl rfl ?_
  refine shlK rfl rfl rfl rfl rfl rfl rfl rfl ?_
  refine mv w0_0 rfl rfl rfl rfl rfl rfl ?_
  refine pu rfl rfl rfl rfl rfl ?_
  refine ix A4 Tryz.underlying24 z5 rfl rfl rfl rfl rfl rfl rfl rfl (fun ad6 es6 h0_6 h1_6 he6 ce6 ia6 => ?_)
  obtain rfl := he6
  refine lc0 ce6 Tryz.underlying5 rfl rfl rfl rfl rfl rfl rfl rfl ?_
  refine cv Tryz.underlying201 Tryz.underlying5 rfl rfl rfl rfl rfl rfl ?_
  refine pu rfl rfl rfl rfl rfl ?_
  refine pu rfl rfl rfl rfl rfl ?_
  refine dn ?_
  refine ib ?_
  refine rg ?_
  refine pu rfl rfl rfl rfl rfl ?_
  refine pu rfl rfl rfl rfl rfl ?_
  refine pu rfl rfl rfl rfl rfl ?_
  refine dn ?_
  exact lb ih2 ⟨s3, _, rfl, (ue (ue (ue rfl rfl) rfl) rfl), Kx2⟩
 ·
  refine xt rfl ?_
  refine sgb ?_
  refine sr ?_
  refine pu rfl rfl rfl rfl rfl ?_
  refine pu rfl rfl rfl rfl rfl ?_
  refine dn ?_
  exact re rfl Tryz.func308 rfl (r_t rfl r_nil) rfl ⟨_, rfl, rfl, z.ky Kx2⟩
noncomputable def spec_FloatOf.b1  (x21 : Nat × Int) : Option ((Nat × Int) ⊕ (Nat ⊕ Nat)) :=
 (if (decide (x21.2 < (0 : Int))) = true then (some (Sum.inl ((far .quo x21.1 (4611686018427387904 : Nat)), (IntKind.wrap .i64 (x21.2 + (1 : Int)))))) else ((some (Sum.inl x21.1)).bind fun o => some (Sum.inr o)))
noncomputable def spec_FloatOf.b0  (x16 : Nat × Int) : Option ((Nat × Int) ⊕ (Nat ⊕ Nat)) :=
 (if (decide (x16.2 > (0 : Int))) = true then (some (Sum.inl ((far .mul x16.1 (4611686018427387904 : Nat)), (IntKind.wrap .i64 (x16.2 - (1 : Int)))))) else ((iter spec_FloatOf.b1 (x16.1, x16.2)).bind fun o => some (Sum.inr o)))
noncomputable def spec_FloatOf.f (a0 : Int) : Option (Nat) :=
 ((if ((IntKind.wrap .i64 (iand .u64 (ishr .u64 a0 (52 : Int)) (2047 : Int))) == (2047 : Int)) = true then (if ((iand .u64 a0 (4503599627370495 : Int)) != (0 : Int)) = true then (some (Sum.inr (far .quo (0 : Nat) (0 : Nat)))) else (some (Sum.inl (far .quo (4607182418800017408 : Nat) (0 : Nat))))) else ((if ((IntKind.wrap .i64 (iand .u64 (ishr .u64 a0 (52 : Int)) (2047 : Int))) == (0 : Int)) = true then (some ((far .quo (FloatKind.f64.nearest (iand .u64 a0 (4503599627370495 : Int))) (4841369599423283200 : Nat)), (-1022 : Int))) else (some ((far .add (far .quo (FloatKind.f64.nearest (iand .u64 a0 (4503599627370495 : Int))) (4841369599423283200 : Nat)) (4607182418800017408 : Nat)), (IntKind.wrap .i64 ((IntKind.wrap .i64 (iand .u64 (ishr .u64 a0 (52 : Int)) (2047 : Int))) - (1023 : Int)))))).bind fun y10 => (iter spec_FloatOf.b0 (y10.1, y10.2)))).bind (sel fun y3 => (if ((ishr .u64 a0 (63 : Int)) == (1 : Int)) = true then (some (fneg y3)) else (some y3))))
def spec_FloatOf.Q (w : World) (F : Nat → Prop) (r : Nat) (v : Value) (w' : World) : Prop :=
 FL v r ∧ Ky [] w w'
set_option maxHeartbeats 4000000 in
set_option maxRecDepth 100000 in
theorem spec_FloatOf.calls (a0 : Int) (w : World) (F : Nat → Prop)   (r : Nat) (m : spec_FloatOf.f a0 = some r) :
  Calls Tryz.prog 310 #[(.int .u64 a0)] w fun en w' => ∃ v, en = .returned v ∧ spec_FloatOf.Q w F r v w' := by
 obtain ⟨s0, rfl, kp0, z⟩ := start0 w F
 refine calls_of_TM (args := [(.int .u64 a0)]) (R := fun r en w' => ∃ v, en = .returned v ∧ spec_FloatOf.Q s0.w F r v w') Tryz.func310 Tryz.ntmps310 rfl rfl m ?_
 unfold spec_FloatOf.f
 refine sr ?_
 refine asg (.float .f64 0) rfl rfl rfl rfl rfl rfl ?_
 refine dn ?_
 refine sr ?_
 refine pu rfl rfl rfl rfl rfl ?_
 refine shrK rfl rfl rfl rfl rfl rfl rfl rfl ?_
 refine pu rfl rfl rfl rfl rfl ?_
 refine cv Tryz.underlying3 Tryz.underlying201 rfl rfl rfl rfl rfl rfl ?_
 refine pu rfl rfl rfl rfl rfl ?_
 refine dn ?_
 refine sr ?_
 refine pu rfl rfl rfl rfl rfl ?_
 refine pu rfl rfl rfl rfl rfl ?_
 refine pu rfl rfl rfl rfl rfl ?_
 refine dn ?_
 refine sr ?_
 refine asg (.float .f64 0) rfl rfl rfl rfl rfl rfl ?_
 refine dn ?_
 refine sr ?_
 refine pu rfl rfl rfl rfl rfl ?_
 refine i2f Tryz.underlying23 Tryz.underlying201 rfl rfl rfl rfl rfl rfl (fun v1 A1 => ?_)
 refine fa_ A1 (fl_c rfl) (by simp) rfl rfl rfl rfl rfl rfl rfl (fun v2 s2 p2 A2 => ?_)
 refine asg v2 rfl rfl rfl rfl rfl rfl ?_
 refine dn ?_
 refine sq ?_
 refine sr ?_
 refine pu rfl rfl rfl rfl rfl ?_
 refine pu rfl rfl rfl rfl rfl ?_
 refine dn ?_
 refine jr (fun (y3 : Nat) (e : Env) (w : World) => ∃ (s : St) (e0 : Env) (uy3_0 : Value), w = s.w ∧ e = upd (upd e0 0 (.int .u64 a0)) 6 uy3_0 ∧ Kp s0 s ∧ FL uy3_0 y3) (fun Gj3 Kj3 hG3 => ?_) ?_
 ·
  refine cd rfl (fun h4 => ?_) (fun h4 => ?_)
  ·
   refine sq ?_
   refine sr ?_
   refine pu rfl rfl rfl rfl rfl ?_
   refine pu rfl rfl rfl rfl rfl ?_
   refine dn ?_
   refine cd rfl (fun h5 => ?_) (fun h5 => ?_)
   ·
    refine sr ?_
    refine mv (.float .f64 0) rfl rfl rfl rfl rfl rfl ?_
    refine mv (.float .f64 0) rfl rfl rfl rfl rfl rfl ?_
    refine fa_ (fl_c rfl) (fl_c rfl) (by simp) rfl rfl rfl rfl rfl rfl rfl (fun v6 s6 p6 A6 => ?_)
    refine asg v6 rfl rfl rfl rfl rfl rfl ?_
    refine dn ?_
    refine jri hG3 ?_
    have K7 := ((kp0.st p2 rfl).st p6 rfl)
    exact re rfl Tryz.func310 rfl (r_t rfl r_nil) rfl ⟨_, rfl, A6, z.ky K7⟩
   ·
    refine sk ?_
    refine rg ?_
    refine mv (.float .f64 0) rfl rfl rfl rfl rfl rfl ?_
    refine fa_ (fl_c rfl) (fl_c rfl) (by simp) rfl rfl rfl rfl rfl rfl rfl (fun v8 s8 p8 A8 => ?_)
    refine asg v8 rfl rfl rfl rfl rfl rfl ?_
    refine dn ?_
    have K9 := ((kp0.st p2 rfl).st p8 rfl)
    exact Kj3 _ _ _ ⟨s8, _, v8, rfl, (ue (ue rfl rfl) rfl), K9, A8⟩
  ·
   refine sr ?_
   refine pu rfl rfl rfl rfl rfl ?_
   refine pu rfl rfl rfl rfl rfl ?_
   refine pu rfl rfl rfl rfl rfl ?_
   refine dn ?_
   refine sq ?_
   refine sr ?_
   refine pu rfl rfl rfl rfl rfl ?_
   refine pu rfl rfl rfl rfl rfl ?_
   refine dn ?_
   refine jc (fun (y10 : Nat × Int) (e : Env) (w : World) => ∃ (s : St) (e0 : Env) (uy10_0 : Value), w = s.w ∧ e = upd (upd (upd e0 0 (.int .u64 a0)) 6 uy10_0) 7 (.int .i64 y10.2) ∧ Kp s0 s ∧ FL uy10_0 y10.1) (fun Gj10 Kj10 => ?_) ?_
   ·
    refine cd rfl (fun h11 => ?_) (fun h11 => ?_)
    ·
     refine rg ?_
     refine pu rfl rfl rfl rfl rfl ?_
     refine dn ?_
     have K12 := (kp0.st p2 rfl)
     exact Kj10 _ _ _ ⟨s2, _, v2, rfl, (ue (ue (ue rfl rfl) rfl) rfl), K12, A2⟩
    ·
     refine rg ?_
     refine mv v2 rfl rfl rfl rfl rfl rfl ?_
     refine fa_ A2 (fl_c rfl) (by simp) rfl rfl rfl rfl rfl rfl rfl (fun v13 s13 p13 A13 => ?_)
     refine asg v13 rfl rfl rfl rfl rfl rfl ?_
     refine dn ?_
     have K14 := ((kp0.st p2 rfl).st p13 rfl)
     exact Kj10 _ _ _ ⟨s13, _, v13, rfl, (ue (ue (ue rfl rfl) rfl) rfl), K14, A13⟩
   rintro y10 _ _ ⟨s15, _, uy10_0, rfl, rfl, Ky10, Fy10_0⟩
   refine sq ?_
   refine bl ?_
   refine lpI (fun (x16 : Nat × Int) (e : Env) (w : World) => ∃ (s : St) (e0 : Env) (ux16_0 : Value), w = s.w ∧ e = upd (upd (upd e0 0 (.int .u64 a0)) 6 ux16_0) 7 (.int .i64 x16.2) ∧ Kp s0 s ∧ FL ux16_0 x16.1) ⟨s15, _, uy10_0, rfl, (ue (ue (ue rfl rfl) rfl) rfl), Ky10, Fy10_0⟩ (fun g16 ih16 => ?_)
   rintro x16 _ _ ⟨s17, _, ux16_0, rfl, rfl, Kx16, Fx16_0⟩
   unfold spec_FloatOf.b0
   refine sq ?_
   refine sr ?_
   refine pu rfl rfl rfl rfl rfl ?_
   refine pu rfl rfl rfl rfl rfl ?_
   refine dn ?_
   refine cd rfl (fun h18 => ?_) (fun h18 => ?_)
   ·
    refine sk ?_
    refine sq ?_
    refine bl ?_
    refine rg ?_
    refine mv ux16_0 rfl rfl rfl rfl rfl rfl ?_
    refine fa_ Fx16_0 (fl_c rfl) (by simp) rfl rfl rfl rfl rfl rfl rfl (fun v19 s19 p19 A19 => ?_)
    refine asg v19 rfl rfl rfl rfl rfl rfl ?_
    refine dn ?_
    refine ib ?_
    refine rg ?_
    refine pu rfl rfl rfl rfl rfl ?_
    refine pu rfl rfl rfl rfl rfl ?_
    refine pu rfl rfl rfl rfl rfl ?_
    refine dn ?_
    have K20 := (Kx16.st p19 rfl)
    exact lb ih16 ⟨s19, _, v19, rfl, (ue (ue (ue rfl rfl) rfl) rfl), K20, A19⟩
   ·
    refine xt rfl ?_
    refine sgb ?_
    refine bl ?_
    refine lpI (fun (x21 : Nat × Int) (e : Env) (w : World) => ∃ (s : St) (e0 : Env) (ux21_0 : Value), w = s.w ∧ e = upd (upd (upd e0 0 (.int .u64 a0)) 6 ux21_0) 7 (.int .i64 x21.2) ∧ Kp s0 s ∧ FL ux21_0 x21.1) ⟨s17, _, ux16_0, rfl, (ue (ue (ue rfl rfl) rfl) rfl), Kx16, Fx16_0⟩ (fun g21 ih21 => ?_)
    rintro x21 _ _ ⟨s22, _, ux21_0, rfl, rfl, Kx21, Fx21_0⟩
    unfold spec_FloatOf.b1
    refine sq ?_
    refine sr ?_
    refine pu rfl rfl rfl rfl rfl ?_
    refine pu rfl rfl rfl rfl rfl ?_
    refine dn ?_
    refine cd rfl (fun h23 => ?_) (fun h23 => ?_)
    ·
     refine sk ?_
     refine sq ?_
     refine bl ?_
     refine rg ?_
     refine mv ux21_0 rfl rfl rfl rfl rfl rfl ?_
     refine fa_ Fx21_0 (fl_c rfl) (by simp) rfl rfl rfl rfl rfl rfl rfl (fun v24 s24 p24 A24 => ?_)
     refine asg v24 rfl rfl rfl rfl rfl rfl ?_
     refine dn ?_
     refine ib ?_
     refine rg ?_
     refine pu rfl rfl rfl rfl rfl ?_
     refine pu rfl rfl rfl rfl rfl ?_
     refine pu rfl rfl rfl rfl rfl ?_
     refine dn ?_
     have K25 := (Kx21.st p24 rfl)
     exact lb ih21 ⟨s24, _, v24, rfl, (ue (ue (ue rfl rfl) rfl) rfl), K25, A24⟩
    ·
     refine xt rfl ?_
     refine sgb ?_
     exact Kj3 _ _ _ ⟨s22, _, ux21_0, rfl, (ue (ue rfl rfl) rfl), Kx21, Fx21_0⟩
 rintro y3 _ _ ⟨s26, _, uy3_0, rfl, rfl, Ky3, Fy3_0⟩
 refine sq ?_
 refine sr ?_
 refine pu rfl rfl rfl rfl rfl ?_
 refine shrK rfl rfl rfl rfl rfl rfl rfl rfl ?_
 refine pu rfl rfl rfl rfl rfl ?_
 refine dn ?_
 refine cd rfl (fun h27 => ?_) (fun h27 => ?_)
 ·
  refine sr ?_
  refine mv uy3_0 rfl rfl rfl rfl rfl rfl ?_
  refine fng_ Fy3_0 rfl rfl rfl rfl rfl rfl (fun v28 A28 => ?_)
  refine asg v28 rfl rfl rfl rfl rfl rfl ?_
  refine dn ?_
  exact re rfl Tryz.func310 rfl (r_t rfl r_nil) rfl ⟨_, rfl, A28, z.ky Ky3⟩
 ·
  refine sk ?_
  refine sr ?_
  refine mv uy3_0 rfl rfl rfl rfl rfl rfl ?_
  refine asg uy3_0 rfl rfl rfl rfl rfl rfl ?_
  refine dn ?_
  exact re rfl Tryz.func310 rfl (r_t rfl r_nil) rfl ⟨_, rfl, Fy3_0, z.ky Ky3⟩
noncomputable def spec_FloatUnrank.f (a0 : Int) : Option (Nat × Bool) :=
 ((if (a0 == (18446744073709551615 : Int)) = true then (some (9221120237041090560 : Int)) else ((if ((ishr .u64 a0 (63 : Int)) == (1 : Int)) = true then (some (iand .u64 a0 (9223372036854775807 : Int))) else (some (ixor .u64 (IntKind.max .u64) a0))).bind fun y3 => (some y3))).bind fun y1 => ((spec_FloatOf.f y1).bind fun r7 => ((spec_FloatRank.f r7).bind fun r9 => (if (r9 != a0) = true then (some ((0 : Nat), false)) else (some (r7, true))))))
def spec_FloatUnrank.Q (w : World) (F : Nat → Prop) (r : Nat × Bool) (v : Value) (w' : World) : Prop :=
 ∃ (v0 : Value), v = .tuple #[v0, (.bool r.2)] ∧ FL v0 r.1 ∧ Ky [] w w'
set_option maxHeartbeats 4000000 in
set_option maxRecDepth 100000 in
theorem spec_FloatUnrank.calls (a0 : Int) (w : World) (F : Nat → Prop)   (r : Nat × Bool) (m : spec_FloatUnrank.f a0 = some r) :
  Calls Tryz.prog 309 #[(.int .u64 a0)] w fun en w' => ∃ v, en = .returned v ∧ spec_FloatUnrank.Q w F r v w' := by
 obtain ⟨s0, rfl, kp0, z⟩ := start0 w F
 refine calls_of_TM (args := [(.int .u64 a0)]) (R := fun r en w' => ∃ v, en = .returned v ∧ spec_FloatUnrank.Q s0.w F r v w') Tryz.func309 Tryz.ntmps309 rfl rfl m ?_
 unfold spec_FloatUnrank.f
 refine sr ?_
 refine asg (.float .f64 0) rfl rfl rfl rfl rfl rfl ?_
 refine pu rfl rfl rfl rfl rfl ?_
 refine dn ?_
 refine sr ?_
 refine pu rfl rfl rfl rfl rfl ?_
 refine dn ?_
 refine sq ?_
 refine sr ?_
 refine pu rfl rfl rfl rfl rfl ?_
 refine pu rfl rfl rfl rfl rfl ?_
 refine dn ?_
 refine jc (fun (y1 : Int) (e : Env) (w : World) => ∃ (s : St) (e0 : Env), w = s.w ∧ e = upd (upd e0 0 (.int .u64 a0)) 4 (.int .u64 y1) ∧ Kp s0 s) (fun Gj1 Kj1 => ?_) ?_
 ·
  refine cd rfl (fun h2 => ?_) (fun h2 => ?_)
  ·
   refine rg ?_
   refine pu rfl rfl rfl rfl rfl ?_
   refine dn ?_
   exact Kj1 _ _ _ ⟨s0, _, rfl, (ue (ue rfl rfl) rfl), kp0⟩
  ·
   refine sr ?_
   refine pu rfl rfl rfl rfl rfl ?_
   refine shrK rfl rfl rfl rfl rfl rfl rfl rfl ?_
   refine pu rfl rfl rfl rfl rfl ?_
   refine dn ?_
   refine jc (fun (y3 : Int) (e : Env) (w : World) => ∃ (s : St) (e0 : Env), w = s.w ∧ e = upd (upd e0 0 (.int .u64 a0)) 4 (.int .u64 y3) ∧ Kp s0 s) (fun Gj3 Kj3 => ?_) ?_
   ·
    refine cd rfl (fun h4 => ?_) (fun h4 => ?_)
    ·
     refine rg ?_
     refine pu rfl rfl rfl rfl rfl ?_
     refine pu rfl rfl rfl rfl rfl ?_
     refine pu rfl rfl rfl rfl rfl ?_
     refine dn ?_
     exact Kj3 _ _ _ ⟨s0, _, rfl, (ue (ue rfl rfl) rfl), kp0⟩
    ·
     refine rg ?_
     refine pu rfl rfl rfl rfl rfl ?_
     refine pu rfl rfl rfl rfl rfl ?_
     refine pu rfl rfl rfl rfl rfl ?_
     refine dn ?_
     exact Kj3 _ _ _ ⟨s0, _, rfl, (ue (ue rfl rfl) rfl), kp0⟩
   rintro y3 _ _ ⟨s5, _, rfl, rfl, Ky3⟩
   exact Kj1 _ _ _ ⟨s5, _, rfl, (ue (ue rfl rfl) rfl), Ky3⟩
 rintro y1 _ _ ⟨s6, _, rfl, rfl, Ky1⟩
 refine sr ?_
 refine pu rfl rfl rfl rfl rfl ?_
 refine cl rfl rfl rfl rfl rfl Tryz.func310 rfl rfl rfl (fun r7 m7 => spec_FloatOf.calls y1 s6.w (fun b => memb [] (s6.g b) = true)  r7 m7) ?_
 rintro r7 v7_0 w7 m7 ⟨f7_0, ky7⟩
 obtain ⟨s8, rfl, p8, n8⟩ := nwx s6 w7 40 ky7
 refine asg v7_0 rfl rfl rfl rfl rfl rfl ?_
 refine dn ?_
 refine sq ?_
 refine sr ?_
 refine mv v7_0 rfl rfl rfl rfl rfl rfl ?_
 refine cl rfl rfl rfl rfl rfl Tryz.func261 rfl rfl rfl (fun r9 m9 => spec_FloatRank.calls r7 s8.w (fun b => memb [] (s8.g b) = true) v7_0 (fl_rdf (s := s8) f7_0) r9 m9) ?_
 rintro r9 _ w9 m9 ⟨rfl, ky9⟩
 obtain ⟨s10, rfl, p10, n10⟩ := nwx s8 w9 41 ky9
 refine pu rfl rfl rfl rfl rfl ?_
 refine pu rfl rfl rfl rfl rfl ?_
 refine dn ?_
 refine cd rfl (fun h11 => ?_) (fun h11 => ?_)
 ·
  refine sr ?_
  refine asg (.float .f64 0) rfl rfl rfl rfl rfl rfl ?_
  refine pu rfl rfl rfl rfl rfl ?_
  refine dn ?_
  have K12 := ((Ky1.st p8 rfl).st p10 rfl)
  exact re rfl Tryz.func309 rfl (r_t rfl (r_t rfl r_nil)) rfl ⟨_, rfl, (.float .f64 0), rfl, (fl_c rfl), z.ky K12⟩
 ·
  refine sk ?_
  refine sr ?_
  refine mv v7_0 rfl rfl rfl rfl rfl rfl ?_
  refine asg v7_0 rfl rfl rfl rfl rfl rfl ?_
  refine pu rfl rfl rfl rfl rfl ?_
  refine dn ?_
  have K13 := ((Ky1.st p8 rfl).st p10 rfl)
  exact re rfl Tryz.func309 rfl (r_t rfl (r_t rfl r_nil)) rfl ⟨_, rfl, v7_0, rfl, f7_0, z.ky K13⟩
noncomputable def spec_l3high.b0 (a0 : Int) (x1 : (List Int) × Int) : Option (((List Int) × Int) ⊕ (List Int)) :=
 (if (decide (x1.2 ≥ (0 : Int))) = true then (if 0 ≤ (IntKind.wrap .u64 (IntKind.wrap .i64 ((8 : Int) * x1.2))) then (if x1.1.length + ([(IntKind.wrap .u8 (iand .u64 (ishr .u64 a0 (IntKind.wrap .u64 (IntKind.wrap .i64 ((8 : Int) * x1.2)))) (255 : Int)))]).length ≤ Lim then (some (Sum.inl ((x1.1 ++ [(IntKind.wrap .u8 (iand .u64 (ishr .u64 a0 (IntKind.wrap .u64 (IntKind.wrap .i64 ((8 : Int) * x1.2)))) (255 : Int)))]), (IntKind.wrap .i64 (x1.2 - (1 : Int)))))) else none) else none) else ((some x1.1).bind fun o => some (Sum.inr o)))
noncomputable def spec_l3high.f (a0 : Int) : Option ((List Int)) :=
 (iter (spec_l3high.b0 a0) (([] : (List Int)), (7 : Int)))
def spec_l3high.Q (w : World) (F : Nat → Prop) (r : (List Int)) (v : Value) (w' : World) : Prop :=
 FO (Kd.sl 5 (Kd.int .u8)) w w' [v] r ∧ Ky [] w w'
set_option maxHeartbeats 4000000 in
set_option maxRecDepth 100000 in
theorem spec_l3high.calls (a0 : Int) (w : World) (F : Nat → Prop)   (r : (List Int)) (m : spec_l3high.f a0 = some r) :
  Calls Tryz.prog 311 #[(.int .u64 a0)] w fun en w' => ∃ v, en = .returned v ∧ spec_l3high.Q w F r v w' := by
 obtain ⟨s0, rfl, kp0, z⟩ := start0 w F
 refine calls_of_TM (args := [(.int .u64 a0)]) (R := fun r en w' => ∃ v, en = .returned v ∧ spec_l3high.Q s0.w F r v w') Tryz.func311 Tryz.ntmps311 rfl rfl m ?_
 unfold spec_l3high.f
 refine sr ?_
 refine pu rfl rfl rfl rfl rfl ?_
 refine dn ?_
 refine sr ?_
 refine pu rfl rfl rfl rfl rfl ?_
 refine dn ?_
 refine sq ?_
 refine sr ?_
 refine pu rfl rfl rfl rfl rfl ?_
 refine dn ?_
 refine bl ?_
 refine lpI (fun (x1 : (List Int) × Int) (e : Env) (w : World) => ∃ (s : St) (e0 : Env) (vx1_0 : Value), w = s.w ∧ e = upd (upd (upd e0 0 (.int .u64 a0)) 3 vx1_0) 4 (.int .i64 x1.2) ∧ Kp s0 s ∧ OwF (Kd.sl 5 (Kd.int .u8)) s [vx1_0] x1.1 40) ⟨s0, _, (.slice none 0 0), rfl, (ue (ue (ue rfl rfl) rfl) rfl), kp0, (ow_nil 5 (Kd.int .u8) _ 40)⟩ (fun g1 ih1 => ?_)
 rintro x1 _ _ ⟨s2, _, vx1_0, rfl, rfl, Kx1, Ax1_0⟩
 unfold spec_l3high.b0
 refine sq ?_
 refine sr ?_
 refine pu rfl rfl rfl rfl rfl ?_
 refine pu rfl rfl rfl rfl rfl ?_
 refine dn ?_
 refine cd rfl (fun h4 => ?_) (fun h4 => ?_)
 ·
  refine sk ?_
  refine sq ?_
  refine bl ?_
  refine rg ?_
  refine mv vx1_0 rfl rfl rfl rfl rfl rfl ?_
  refine pu rfl rfl rfl rfl rfl ?_
  refine pu rfl rfl rfl rfl rfl ?_
  refine pu rfl rfl rfl rfl rfl ?_
  refine cv Tryz.underlying275 Tryz.underlying3 rfl rfl rfl rfl rfl rfl ?_
  refine shr_ rfl rfl rfl rfl rfl rfl rfl ?_
  refine pu rfl rfl rfl rfl rfl ?_
  refine cv Tryz.underlying5 Tryz.underlying201 rfl rfl rfl rfl rfl rfl ?_
  refine ltF (K := (Kd.int .u8)) (cells := [(.int .u8 (IntKind.wrap .u8 (iand .u64 (ishr .u64 a0 (IntKind.wrap .u64 (IntKind.wrap .i64 ((8 : Int) * x1.2)))) (255 : Int))))]) [(IntKind.wrap .u8 (iand .u64 (ishr .u64 a0 (IntKind.wrap .u64 (IntKind.wrap .i64 ((8 : Int) * x1.2)))) (255 : Int)))] 41 fl_int Tryz.underlying24 z5 o5 (fun w => (els_flat _ _ _)) rfl rfl rfl rfl rfl rfl rfl rfl rfl rfl (fun v5 s5 p5 A5 => ?_)
  have A7 := (Ax1_0.st p5 rfl)
  refine apF fl_int sl24 A7 A5.rd rfl rfl rfl rfl rfl rfl rfl (fun v8 s8 p8 A8 => ?_)
  refine asg v8 rfl rfl rfl rfl rfl rfl ?_
  refine dn ?_
  refine ib ?_
  refine rg ?_
  refine pu rfl rfl rfl rfl rfl ?_
  refine pu rfl rfl rfl rfl rfl ?_
  refine pu rfl rfl rfl rfl rfl ?_
  refine dn ?_
  have K10 := ((Kx1.st p5 rfl).st p8 rfl)
  exact lb ih1 ⟨s8, _, v8, rfl, (ue (ue (ue rfl rfl) rfl) rfl), K10, A8⟩
 ·
  refine xt rfl ?_
  refine sgb ?_
  refine sr ?_
  refine mv vx1_0 rfl rfl rfl rfl rfl rfl ?_
  refine asg vx1_0 rfl rfl rfl rfl rfl rfl ?_
  refine dn ?_
  exact re rfl Tryz.func311 rfl (r_t rfl r_nil) rfl ⟨_, rfl, Ax1_0.fo Kx1 rfl z.l, z.ky Kx1⟩
noncomputable def spec_l3bytes.f (a0 : Item) (a1 : Int) : Option ((List Int)) :=
 (if (a0.Kind == (1 : Int)) = true then ((spec_l3high.f (ixor .u64 (IntKind.wrap .u64 a0.N) (9223372036854775808 : Int))).bind fun r8 => (if ([(IntKind.wrap .u8 a0.Kind)]).length + r8.length ≤ Lim then (some ([(IntKind.wrap .u8 a0.Kind)] ++ r8)) else none)) else (if (a0.Kind == (2 : Int)) = true then ((spec_l3high.f a1).bind fun r16 => (if ([(IntKind.wrap .u8 a0.Kind)]).length + r16.length ≤ Lim then (some ([(IntKind.wrap .u8 a0.Kind)] ++ r16)) else none)) else (if ([(IntKind.wrap .u8 a0.Kind)]).length + a0.T.length ≤ Lim then (some ([(IntKind.wrap .u8 a0.Kind)] ++ a0.T)) else none)))
def spec_l3bytes.Q (w : World) (F : Nat → Prop) (r : (List Int)) (v : Value) (w' : World) : Prop :=
 FO (Kd.sl 5 (Kd.int .u8)) w w' [v] r ∧ Ky [] w w'
set_option maxHeartbeats 4000000 in
set_option maxRecDepth 100000 in
theorem spec_l3bytes.calls (a0 : Item) (a1 : Int) (w : World) (F : Nat → Prop) (w0_0 : Value) (w0_1 : Value) (h0_0 : Kd.flt.rd w [w0_0] a0.F F) (h0_1 : (Kd.sl 5 (Kd.int .u8)).rd w [w0_1] a0.T F) (r : (List Int)) (m : spec_l3bytes.f a0 a1 = some r) :
  Calls Tryz.prog 260 #[(.agg #[(.int .i64 a0.Kind), (.int .i64 a0.N), w0_0, w0_1]), (.int .u64 a1)] w fun en w' => ∃ v, en = .returned v ∧ spec_l3bytes.Q w F r v w' := by
 obtain ⟨s0, rfl, kp0, z⟩ := start0 w F
 have A0_0 := fl_of h0_0
 have A0_1 := z.rd h0_1
 refine calls_of_TM (args := [(.agg #[(.int .i64 a0.Kind), (.int .i64 a0.N), w0_0, w0_1]), (.int .u64 a1)]) (R := fun r en w' => ∃ v, en = .returned v ∧ spec_l3bytes.Q s0.w F r v w') Tryz.func260 Tryz.ntmps260 rfl rfl m ?_
 unfold spec_l3bytes.f
 refine sr ?_
 refine bx (cs := [(.int .i64 a0.Kind), (.int .i64 a0.N), w0_0, w0_1]) 40 rfl rfl rfl rfl rfl rfl (fun b2 s2 p2 B2 => ?_)
 refine pu rfl rfl rfl rfl rfl ?_
 refine dn ?_
 refine sr ?_
 refine fa fa33_0 rfl rfl rfl rfl rfl rfl ?_
 refine ld B2 Tryz.underlying3 rfl rfl rfl rfl rfl rfl rfl rfl ?_
 refine cv Tryz.underlying5 Tryz.underlying3 rfl rfl rfl rfl rfl rfl ?_
 refine ltF (K := (Kd.int .u8)) (cells := [(.int .u8 (IntKind.wrap .u8 a0.Kind))]) [(IntKind.wrap .u8 a0.Kind)] 41 fl_int Tryz.underlying24 z5 o5 (fun w => (els_flat _ _ _)) rfl rfl rfl rfl rfl rfl rfl rfl rfl rfl (fun v4 s4 p4 A4 => ?_)
 refine asg v4 rfl rfl rfl rfl rfl rfl ?_
 refine dn ?_
 refine sq ?_
 refine sr ?_
 refine fa fa33_0 rfl rfl rfl rfl rfl rfl ?_
 have A6 := (BlF.st B2 p4 rfl)
 refine ld A6 Tryz.underlying3 rfl rfl rfl rfl rfl rfl rfl rfl ?_
 refine dn ?_
 refine bl ?_
 refine sr ?_
 refine pu rfl rfl rfl rfl rfl ?_
 refine pu rfl rfl rfl rfl rfl ?_
 refine dn ?_
 refine cd rfl (fun h7 => ?_) (fun h7 => ?_)
 ·
  refine sr ?_
  refine mv v4 rfl rfl rfl rfl rfl rfl ?_
  refine fa fa33_1 rfl rfl rfl rfl rfl rfl ?_
  refine ld A6 Tryz.underlying3 rfl rfl rfl rfl rfl rfl rfl rfl ?_
  refine cv Tryz.underlying201 Tryz.underlying3 rfl rfl rfl rfl rfl rfl ?_
  refine pu rfl rfl rfl rfl rfl ?_
  refine cl rfl rfl rfl rfl rfl Tryz.func311 rfl rfl rfl (fun r8 m8 => spec_l3high.calls (ixor .u64 (IntKind.wrap .u64 a0.N) (9223372036854775808 : Int)) s4.w (fun b => memb [] (s4.g b) = true)  r8 m8) ?_
  rintro r8 v8_0 w8 m8 ⟨f8_0, ky8⟩
  obtain ⟨s9, rfl, p9, n9⟩ := nwx s4 w8 42 ky8
  have A8_0 := f8_0.c n9
  have A11 := (A4.st p9 rfl)
  refine apF fl_int sl24 A11 A8_0.rd rfl rfl rfl rfl rfl rfl rfl (fun v12 s12 p12 A12 => ?_)
  refine asg v12 rfl rfl rfl rfl rfl rfl ?_
  refine dn ?_
  have K14 := ((((kp0.st p2 rfl).st p4 rfl).st p9 rfl).st p12 rfl)
  exact re rfl Tryz.func260 rfl (r_t rfl r_nil) rfl ⟨_, rfl, A12.fo K14 rfl z.l, z.ky K14⟩
 ·
  refine sr ?_
  refine pu rfl rfl rfl rfl rfl ?_
  refine pu rfl rfl rfl rfl rfl ?_
  refine dn ?_
  refine cd rfl (fun h15 => ?_) (fun h15 => ?_)
  ·
   refine sr ?_
   refine mv v4 rfl rfl rfl rfl rfl rfl ?_
   refine pu rfl rfl rfl rfl rfl ?_
   refine cl rfl rfl rfl rfl rfl Tryz.func311 rfl rfl rfl (fun r16 m16 => spec_l3high.calls a1 s4.w (fun b => memb [] (s4.g b) = true)  r16 m16) ?_
   rintro r16 v16_0 w16 m16 ⟨f16_0, ky16⟩
   obtain ⟨s17, rfl, p17, n17⟩ := nwx s4 w16 43 ky16
   have A16_0 := f16_0.c n17
   have A19 := (A4.st p17 rfl)
   refine apF fl_int sl24 A19 A16_0.rd rfl rfl rfl rfl rfl rfl rfl (fun v20 s20 p20 A20 => ?_)
   refine asg v20 rfl rfl rfl rfl rfl rfl ?_
   refine dn ?_
   have K22 := ((((kp0.st p2 rfl).st p4 rfl).st p17 rfl).st p20 rfl)
   exact re rfl Tryz.func260 rfl (r_t rfl r_nil) rfl ⟨_, rfl, A20.fo K22 rfl z.l, z.ky K22⟩
  ·
   refine sk ?_
   refine ib ?_
   refine sr ?_
   refine mv v4 rfl rfl rfl rfl rfl rfl ?_
   refine fa fa33_3 rfl rfl rfl rfl rfl rfl ?_
   refine ld A6 Tryz.underlying24 rfl rfl rfl rfl rfl rfl rfl rfl ?_
   have K23 := ((kp0.st p2 rfl).st p4 rfl)
   have A24 := (A0_1.kp K23)
   refine apF fl_int sl24 A4 A24 rfl rfl rfl rfl rfl rfl rfl (fun v25 s25 p25 A25 => ?_)
   refine asg v25 rfl rfl rfl rfl rfl rfl ?_
   refine dn ?_
   have K27 := (K23.st p25 rfl)
   exact re rfl Tryz.func260 rfl (r_t rfl r_nil) rfl ⟨_, rfl, A25.fo K27 rfl z.l, z.ky K27⟩
noncomputable def spec_KeyBytes.f (a0 : Item) : Option ((List Int)) :=
 ((spec_KeyOk.f a0).bind fun r6 => (if (!r6) = true then (some ([] : (List Int))) else ((spec_FloatRank.f a0.F).bind fun r19 => ((spec_l3bytes.f a0 r19).bind fun r25 => (some r25)))))
def spec_KeyBytes.Q (w : World) (F : Nat → Prop) (r : (List Int)) (v : Value) (w' : World) : Prop :=
 FO (Kd.sl 5 (Kd.int .u8)) w w' [v] r ∧ Ky [] w w'
set_option maxHeartbeats 4000000 in
set_option maxRecDepth 100000 in
theorem spec_KeyBytes.calls (a0 : Item) (w : World) (F : Nat → Prop) (w0_0 : Value) (w0_1 : Value) (h0_0 : Kd.flt.rd w [w0_0] a0.F F) (h0_1 : (Kd.sl 5 (Kd.int .u8)).rd w [w0_1] a0.T F) (r : (List Int)) (m : spec_KeyBytes.f a0 = some r) :
  Calls Tryz.prog 186 #[(.agg #[(.int .i64 a0.Kind), (.int .i64 a0.N), w0_0, w0_1])] w fun en w' => ∃ v, en = .returned v ∧ spec_KeyBytes.Q w F r v w' := by
 obtain ⟨s0, rfl, kp0, z⟩ := start0 w F
 have A0_0 := fl_of h0_0
 have A0_1 := z.rd h0_1
 refine calls_of_TM (args := [(.agg #[(.int .i64 a0.Kind), (.int .i64 a0.N), w0_0, w0_1])]) (R := fun r en w' => ∃ v, en = .returned v ∧ spec_KeyBytes.Q s0.w F r v w') Tryz.func186 Tryz.ntmps186 rfl rfl m ?_
 unfold spec_KeyBytes.f
 refine sr ?_
 refine bx (cs := [(.int .i64 a0.Kind), (.int .i64 a0.N), w0_0, w0_1]) 40 rfl rfl rfl rfl rfl rfl (fun b2 s2 p2 B2 => ?_)
 refine pu rfl rfl rfl rfl rfl ?_
 refine dn ?_
 refine sq ?_
 refine sr ?_
 refine lda (es := [(.int .i64 a0.Kind), (.int .i64 a0.N), w0_0, w0_1]) B2 Tryz.underlying33 z33 rfl rfl rfl rfl rfl rfl rfl rfl ?_
 have K4 := (kp0.st p2 rfl)
 have A5 := (A0_1.kp K4)
 refine cl rfl rfl rfl rfl rfl Tryz.func66 rfl rfl rfl (fun r6 m6 => spec_KeyOk.calls a0 s2.w (fun b => memb [0] (s2.g b) = true) w0_0 w0_1 ((fl_rdf (s := s2) A0_0).sub (D := [0]) rfl) A5 r6 m6) ?_
 rintro r6 _ w6 m6 ⟨rfl, ky6⟩
 obtain ⟨s7, rfl, p7, n7⟩ := nwx s2 w6 41 ky6
 refine pu rfl rfl rfl rfl rfl ?_
 refine dn ?_
 refine cd rfl (fun h8 => ?_) (fun h8 => ?_)
 ·
  refine sr ?_
  refine pu rfl rfl rfl rfl rfl ?_
  refine dn ?_
  have K9 := (K4.st p7 rfl)
  exact re rfl Tryz.func186 rfl (r_t rfl r_nil) rfl ⟨_, rfl, (ow_nil 5 (Kd.int .u8) s7 40).fo K9 rfl z.l, z.ky K9⟩
 ·
  refine sk ?_
  refine sq ?_
  refine zdraw [[], [], [1], [2], [0, 3, 3], [4, 4, 0, 1, 2, 3, 4]] [some 6, some 7, some 8, some 9, some 10, some 2] [[1], [1], [7], [8], [6, 9], [10]] [0, 1, 2, 3, 4, 5] ⟨by kernel_rfl, by kernel_rfl, by kernel_rfl⟩ (by kernel_rfl) (fun s10 p10 l10 tb10 zd10 => ?_)
  have A11 := (BlF.st (BlF.st B2 p7 rfl) p10 rfl)
  have zd12 := zd10.add 0 6 (.agg #[(.int .i64 a0.Kind), (.int .i64 a0.N), w0_0, w0_1]) rfl
  have zd13 := zd12.add 1 7 (.pointer (some ⟨b2, 2, none⟩)) rfl
  have A14 := (BlF.st (BlF.st B2 p7 rfl) p10 rfl)
  have zd15 := zd13.add 2 8 w0_0 rfl
  have A17 := (BlF.st (BlF.st B2 p7 rfl) p10 rfl)
  have A18 := (BlF.st (BlF.st B2 p7 rfl) p10 rfl)
  refine zstep 3 [some 6] tb10 zd15 (pq_cons (ld_q A18 Tryz.underlying23 rfl rfl rfl rfl rfl rfl rfl rfl) rfl (pq_cons (fa_q fa33_2 rfl rfl rfl rfl rfl rfl) rfl (pq_cons (lda_q (es := [(.int .i64 a0.Kind), (.int .i64 a0.N), w0_0, w0_1]) A17 Tryz.underlying33 z33 rfl rfl rfl rfl rfl rfl rfl rfl) rfl pq_nil))) (by kernel_rfl) rfl (fun l16 e16 zd16 => ?_)
  refine cl rfl rfl rfl rfl rfl Tryz.func261 rfl rfl rfl (fun r19 m19 => spec_FloatRank.calls a0.F s10.w (fun b => memb [] (s10.g b) = true) w0_0 (fl_rdf (s := s10) A0_0) r19 m19) ?_
  rintro r19 _ w19 m19 ⟨rfl, ky19⟩
  obtain ⟨s20, rfl, p20, n20⟩ := nwx s10 w19 42 ky19
  refine zdone (L' := [0]) (D' := [1, 2, 3]) zd16 rfl rfl rfl (fun zd21 => ?_)
  have A22 := (BlF.st (BlF.st (BlF.st B2 p7 rfl) p10 rfl) p20 rfl)
  refine zfin [4, 5] tb10 zd21 (pq_cons (lda_q (es := [(.int .i64 a0.Kind), (.int .i64 a0.N), w0_0, w0_1]) A22 Tryz.underlying33 z33 rfl rfl rfl rfl rfl rfl rfl rfl) rfl pq_nil) (by kernel_rfl) (by decide) ?_
  have K23 := (((K4.st p7 rfl).st p10 rfl).st p20 rfl)
  have A24 := (A0_1.kp K23)
  refine cl rfl rfl rfl rfl rfl Tryz.func260 rfl rfl rfl (fun r25 m25 => spec_l3bytes.calls a0 r19 s20.w (fun b => memb [0] (s20.g b) = true) w0_0 w0_1 ((fl_rdf (s := s20) A0_0).sub (D := [0]) rfl) A24 r25 m25) ?_
  rintro r25 v25_0 w25 m25 ⟨f25_0, ky25⟩
  obtain ⟨s26, rfl, p26, n26⟩ := nwx s20 w25 43 ky25
  have A25_0 := f25_0.c n26
  refine asg v25_0 rfl rfl rfl rfl rfl rfl ?_
  refine dn ?_
  have K28 := (K23.st p26 rfl)
  exact re rfl Tryz.func186 rfl (r_t rfl r_nil) rfl ⟨_, rfl, A25_0.fo K28 rfl z.l, z.ky K28⟩
noncomputable def spec_KeyRead.f (a0 : (List Int)) : Option (Item × Bool) :=
 (if ((decide ((a0.length : Int) < (1 : Int))) || (decide ((a0.length : Int) > (41 : Int)))) = true then (some ((Item.mk (0 : Int) (0 : Int) (0 : Nat) ([] : (List Int))), false)) else (if 0 ≤ (0 : Int) ∧ (0 : Int) < (a0.length : Int) then ((if ((IntKind.wrap .i64 (at_ a0 (0 : Int))) == (1 : Int)) = true then (if 0 ≤ (1 : Int) ∧ (1 : Int) ≤ (a0.length : Int) then ((spec_l3low.f (a0.drop ((1 : Int)).toNat)).bind fun r26 => (some ((IntKind.wrap .i64 (ixor .u64 r26 (9223372036854775808 : Int))), (0 : Nat), ([] : (List Int))))) else none) else ((if ((IntKind.wrap .i64 (at_ a0 (0 : Int))) == (2 : Int)) = true then (if 0 ≤ (1 : Int) ∧ (1 : Int) ≤ (a0.length : Int) then ((spec_l3low.f (a0.drop ((1 : Int)).toNat)).bind fun r39 => ((spec_FloatUnrank.f r39).bind fun r41 => (some (r41.1, ([] : (List Int)))))) else none) else ((if ((IntKind.wrap .i64 (at_ a0 (0 : Int))) == (3 : Int)) = true then (if 0 ≤ (1 : Int) ∧ (1 : Int) ≤ (a0.length : Int) then (if ([] : (List Int)).length + (a0.drop ((1 : Int)).toNat).length ≤ Lim then (some (([] : (List Int)) ++ (a0.drop ((1 : Int)).toNat))) else none) else none) else (some ([] : (List Int)))).bind fun y48 => (some ((0 : Nat), y48)))).bind fun y33 => (some ((0 : Int), y33.1, y33.2)))).bind fun y20 => ((spec_KeyBytes.f (Item.mk (IntKind.wrap .i64 (at_ a0 (0 : Int))) y20.1 y20.2.1 y20.2.2)).bind fun r90 => (if (!((str r90).toList == (str a0).toList)) = true then (some ((Item.mk (0 : Int) (0 : Int) (0 : Nat) ([] : (List Int))), false)) else (some ((Item.mk (IntKind.wrap .i64 (at_ a0 (0 : Int))) y20.1 y20.2.1 y20.2.2), true))))) else none))
def spec_KeyRead.Q (w : World) (F : Nat → Prop) (r : Item × Bool) (v : Value) (w' : World) : Prop :=
 ∃ (v0 : Value) (v1 : Value), v = .tuple #[(.agg #[(.int .i64 r.1.Kind), (.int .i64 r.1.N), v0, v1]), (.bool r.2)] ∧ FO kd33 w w' [(.int .i64 r.1.Kind), (.int .i64 r.1.N), v0, v1] r.1 ∧ Ky [] w w'
set_option maxHeartbeats 4000000 in
set_option maxRecDepth 100000 in
theorem spec_KeyRead.calls (a0 : (List Int)) (w : World) (F : Nat → Prop) (w0_0 : Value) (h0_0 : (Kd.sl 5 (Kd.int .u8)).rd w [w0_0] a0 F) (r : Item × Bool) (m : spec_KeyRead.f a0 = some r) :
  Calls Tryz.prog 258 #[w0_0] w fun en w' => ∃ v, en = .returned v ∧ spec_KeyRead.Q w F r v w' := by
 obtain ⟨s0, rfl, kp0, z⟩ := start0 w F
 have A0_0 := z.rd h0_0
 refine calls_of_TM (args := [w0_0]) (R := fun r en w' => ∃ v, en = .returned v ∧ spec_KeyRead.Q s0.w F r v w') Tryz.func258 Tryz.ntmps258 rfl rfl m ?_
 unfold spec_KeyRead.f
 refine sr ?_
 refine al (cs := [(.int .i64 (0 : Int)), (.int .i64 (0 : Int)), (.float .f64 0), (.slice none 0 0)]) 40 rfl rfl rfl rfl rfl o33 rfl (fun b2 s2 p2 B2 => ?_)
 refine pu rfl rfl rfl rfl rfl ?_
 refine dn ?_
 refine sr ?_
 refine al (cs := [(.int .i64 (0 : Int)), (.int .i64 (0 : Int)), (.float .f64 0), (.slice none 0 0)]) 41 rfl rfl rfl rfl rfl o33 rfl (fun b4 s4 p4 B4 => ?_)
 refine dn ?_
 refine sq ?_
 refine sr ?_
 refine mv w0_0 rfl rfl rfl rfl rfl rfl ?_
 have K6 := ((kp0.st p2 rfl).st p4 rfl)
 have A7 := (A0_0.kp K6)
 refine ln A7 Tryz.underlying24 rfl rfl rfl rfl rfl rfl ?_
 refine pu rfl rfl rfl rfl rfl ?_
 refine pu rfl rfl rfl rfl rfl ?_
 refine jy [8, 9, 10, 11, 12] [] 12 (.bool ((decide ((a0.length : Int) < (1 : Int))) || (decide ((a0.length : Int) > (41 : Int))))) rfl (fun Kg8 => ?_) (fun j8 => ?_)
 ·
  rcases Bool.eq_false_or_eq_true (decide ((a0.length : Int) < (1 : Int))) with hb8 | hb8
  ·
   refine sbT hb8 ?_
   refine uw rfl rfl rfl rfl ?_
   refine uw rfl rfl rfl rfl ?_
   refine uw rfl rfl rfl rfl ?_
   refine pu rfl rfl rfl rfl rfl ?_
   exact Kg8 _ (Ag.put ((Ag.put ((Ag.put ((Ag.put (Ag.base rfl) rfl)) rfl)) rfl)) rfl) (by rw [hb8]; rfl)
  ·
   refine sbT hb8 ?_
   refine mv w0_0 rfl rfl rfl rfl rfl rfl ?_
   refine ln A7 Tryz.underlying24 rfl rfl rfl rfl rfl rfl ?_
   refine pu rfl rfl rfl rfl rfl ?_
   refine pu rfl rfl rfl rfl rfl ?_
   exact Kg8 _ (Ag.put ((Ag.put ((Ag.put ((Ag.put (Ag.base rfl) rfl)) rfl)) rfl)) rfl) (by rw [hb8]; rfl)
 refine dn ?_
 refine cd rfl (fun h9 => ?_) (fun h9 => ?_)
 ·
  refine sr ?_
  refine lda (es := [(.int .i64 (0 : Int)), (.int .i64 (0 : Int)), (.float .f64 0), (.slice none 0 0)]) B4 Tryz.underlying33 z33 rfl rfl rfl rfl rfl rfl rfl rfl ?_
  have A10 := (BlF.st B2 p4 rfl)
  refine sva (vs := [(.int .i64 (0 : Int)), (.int .i64 (0 : Int)), (.float .f64 0), (.slice none 0 0)]) A10 z33 rfl rfl rfl rfl rfl rfl (on_cons rfl (on_cons rfl (on_cons (FL.one (fl_c rfl)) (on_cons rfl on_nil)))) rfl (fun s11 p11 B11 => ?_)
  refine pu rfl rfl rfl rfl rfl ?_
  refine dn ?_
  have A13 : OwF kd33 s11 [(.int .i64 (0 : Int)), (.int .i64 (0 : Int)), (.float .f64 0), (.slice none 0 0)] (Item.mk (0 : Int) (0 : Int) (0 : Nat) ([] : (List Int))) 42 := ow_z _ _ (fz_iso (fun x : Item => (x.Kind, x.N, x.F, x.T)) (Item.mk (0 : Int) (0 : Int) (0 : Nat) ([] : (List Int))) (fz_pair (fz_int .i64 (0 : Int)) (fz_pair (fz_int .i64 (0 : Int)) (fz_pair (fz_flt (fl_c rfl)) (fz_nil 5 (Kd.int .u8))))))
  have K15 := (K6.st p11 rfl)
  exact re rfl Tryz.func258 rfl (r_b B11 Tryz.underlying33 rfl z33 rfl (r_t rfl r_nil)) rfl ⟨_, rfl, (.float .f64 0), (.slice none 0 0), rfl, A13.fo K15 rfl z.l, z.ky K15⟩
 ·
  refine sk ?_
  refine sr ?_
  refine mv w0_0 rfl rfl rfl rfl rfl rfl ?_
  refine ix A7 Tryz.underlying24 z5 rfl rfl rfl rfl rfl rfl rfl rfl (fun ad16 es16 h0_16 h1_16 he16 ce16 ia16 => ?_)
  obtain rfl := he16
  refine lc0 ce16 Tryz.underlying5 rfl rfl rfl rfl rfl rfl rfl rfl ?_
  refine cv Tryz.underlying3 Tryz.underlying5 rfl rfl rfl rfl rfl rfl ?_
  refine fa fa33_0 rfl rfl rfl rfl rfl rfl ?_
  refine sv B4 z3 rfl rfl rfl rfl rfl rfl rfl rfl (fun s18 p18 B18 => ?_)
  refine dn ?_
  refine sq ?_
  refine sr ?_
  refine fa fa33_0 rfl rfl rfl rfl rfl rfl ?_
  refine ld B18 Tryz.underlying3 rfl rfl rfl rfl rfl rfl rfl rfl ?_
  refine dn ?_
  refine bl ?_
  refine sr ?_
  refine pu rfl rfl rfl rfl rfl ?_
  refine pu rfl rfl rfl rfl rfl ?_
  refine dn ?_
  refine jc (fun (y20 : Int × Nat × (List Int)) (e : Env) (w : World) => ∃ (s : St) (e0 : Env) (vy20_0 uy20_0 : Value), w = s.w ∧ e = upd (upd (upd e0 0 w0_0) 2 (.pointer (some ⟨b2, 0, none⟩))) 4 (.pointer (some ⟨b4, 0, none⟩)) ∧ Kp s0 s ∧ OwF (Kd.sl 5 (Kd.int .u8)) s [vy20_0] y20.2.2 46 ∧ FL uy20_0 y20.2.1 ∧ BlF s b4 33 [(.int .i64 (IntKind.wrap .i64 (at_ a0 (0 : Int)))), (.int .i64 y20.1), uy20_0, vy20_0] 41 ∧ BlF s b2 33 [(.int .i64 (0 : Int)), (.int .i64 (0 : Int)), (.float .f64 0), (.slice none 0 0)] 40) (fun Gj20 Kj20 => ?_) ?_
  ·
   refine cd rfl (fun h21 => ?_) (fun h21 => ?_)
   ·
    refine rg ?_
    refine mv w0_0 rfl rfl rfl rfl rfl rfl ?_
    have K22 := (K6.st p18 rfl)
    have A23 := (A0_0.kp K22)
    refine sla A23 Tryz.underlying24 z5 rfl rfl rfl rfl rfl rfl rfl (fun v24 A24 => ?_)
    refine cl rfl rfl rfl rfl rfl Tryz.func308 rfl rfl rfl (fun r26 m26 => spec_l3low.calls (a0.drop ((1 : Int)).toNat) s18.w (fun b => memb [0] (s18.g b) = true) v24 A24 r26 m26) ?_
    rintro r26 _ w26 m26 ⟨rfl, ky26⟩
    obtain ⟨s27, rfl, p27, n27⟩ := nwx s18 w26 43 ky26
    refine pu rfl rfl rfl rfl rfl ?_
    refine cv Tryz.underlying3 Tryz.underlying201 rfl rfl rfl rfl rfl rfl ?_
    refine fa fa33_1 rfl rfl rfl rfl rfl rfl ?_
    have A28 := (BlF.st B18 p27 rfl)
    refine sv A28 z3 rfl rfl rfl rfl rfl rfl rfl rfl (fun s29 p29 B29 => ?_)
    refine dn ?_
    have A31 := (BlF.st (BlF.st (BlF.st (BlF.st B2 p4 rfl) p18 rfl) p27 rfl) p29 rfl)
    have K32 := ((K22.st p27 rfl).st p29 rfl)
    exact Kj20 _ _ _ ⟨s29, _, (.slice none 0 0), (.float .f64 0), rfl, (ue (ue (ue rfl rfl) rfl) rfl), K32, (ow_nil 5 (Kd.int .u8) _ 46), (fl_c rfl), B29, A31⟩
   ·
    refine sr ?_
    refine pu rfl rfl rfl rfl rfl ?_
    refine pu rfl rfl rfl rfl rfl ?_
    refine dn ?_
    refine jc (fun (y33 : Nat × (List Int)) (e : Env) (w : World) => ∃ (s : St) (e0 : Env) (vy33_0 uy33_0 : Value), w = s.w ∧ e = upd (upd (upd e0 0 w0_0) 2 (.pointer (some ⟨b2, 0, none⟩))) 4 (.pointer (some ⟨b4, 0, none⟩)) ∧ Kp s0 s ∧ OwF (Kd.sl 5 (Kd.int .u8)) s [vy33_0] y33.2 46 ∧ FL uy33_0 y33.1 ∧ BlF s b4 33 [(.int .i64 (IntKind.wrap .i64 (at_ a0 (0 : Int)))), (.int .i64 (0 : Int)), uy33_0, vy33_0] 41 ∧ BlF s b2 33 [(.int .i64 (0 : Int)), (.int .i64 (0 : Int)), (.float .f64 0), (.slice none 0 0)] 40) (fun Gj33 Kj33 => ?_) ?_
    ·
     refine cd rfl (fun h34 => ?_) (fun h34 => ?_)
     ·
      refine rg ?_
      refine mv w0_0 rfl rfl rfl rfl rfl rfl ?_
      have K35 := (K6.st p18 rfl)
      have A36 := (A0_0.kp K35)
      refine sla A36 Tryz.underlying24 z5 rfl rfl rfl rfl rfl rfl rfl (fun v37 A37 => ?_)
      refine cl rfl rfl rfl rfl rfl Tryz.func308 rfl rfl rfl (fun r39 m39 => spec_l3low.calls (a0.drop ((1 : Int)).toNat) s18.w (fun b => memb [0] (s18.g b) = true) v37 A37 r39 m39) ?_
      rintro r39 _ w39 m39 ⟨rfl, ky39⟩
      obtain ⟨s40, rfl, p40, n40⟩ := nwx s18 w39 44 ky39
      refine cl rfl rfl rfl rfl rfl Tryz.func309 rfl rfl rfl (fun r41 m41 => spec_FloatUnrank.calls r39 s40.w (fun b => memb [] (s40.g b) = true)  r41 m41) ?_
      rintro r41 _ w41 m41 ⟨v41_0, rfl, f41_0, ky41⟩
      obtain ⟨s42, rfl, p42, n42⟩ := nwx s40 w41 45 ky41
      refine pu rfl rfl rfl rfl rfl ?_
      refine pu (v := v41_0) rfl rfl rfl rfl rfl ?_
      refine pu (v := (.bool r41.2)) rfl rfl rfl rfl rfl ?_
      refine fa fa33_2 rfl rfl rfl rfl rfl rfl ?_
      have A43 := (BlF.st (BlF.st B18 p40 rfl) p42 rfl)
      refine sv A43 z23 rfl rfl rfl rfl rfl rfl (FL.one f41_0) rfl (fun s44 p44 B44 => ?_)
      refine dn ?_
      have A46 := (BlF.st (BlF.st (BlF.st (BlF.st (BlF.st B2 p4 rfl) p18 rfl) p40 rfl) p42 rfl) p44 rfl)
      have K47 := (((K35.st p40 rfl).st p42 rfl).st p44 rfl)
      exact Kj33 _ _ _ ⟨s44, _, (.slice none 0 0), v41_0, rfl, (ue (ue (ue rfl rfl) rfl) rfl), K47, (ow_nil 5 (Kd.int .u8) _ 46), f41_0, B44, A46⟩
     ·
      refine sr ?_
      refine pu rfl rfl rfl rfl rfl ?_
      refine pu rfl rfl rfl rfl rfl ?_
      refine dn ?_
      refine jc (fun (y48 : (List Int)) (e : Env) (w : World) => ∃ (s : St) (e0 : Env) (vy48_0 : Value), w = s.w ∧ e = upd (upd (upd e0 0 w0_0) 2 (.pointer (some ⟨b2, 0, none⟩))) 4 (.pointer (some ⟨b4, 0, none⟩)) ∧ Kp s0 s ∧ OwF (Kd.sl 5 (Kd.int .u8)) s [vy48_0] y48 46 ∧ BlF s b4 33 [(.int .i64 (IntKind.wrap .i64 (at_ a0 (0 : Int)))), (.int .i64 (0 : Int)), (.float .f64 0), vy48_0] 41 ∧ BlF s b2 33 [(.int .i64 (0 : Int)), (.int .i64 (0 : Int)), (.float .f64 0), (.slice none 0 0)] 40) (fun Gj48 Kj48 => ?_) ?_
      ·
       refine cd rfl (fun h49 => ?_) (fun h49 => ?_)
       ·
        refine rg ?_
        refine lt0 (K := (Kd.int .u8)) 46 Tryz.underlying24 z5 rfl rfl rfl rfl rfl (fun v50 s50 p50 A50 => ?_)
        refine mv w0_0 rfl rfl rfl rfl rfl rfl ?_
        have K52 := ((K6.st p18 rfl).st p50 rfl)
        have A53 := (A0_0.kp K52)
        refine sla A53 Tryz.underlying24 z5 rfl rfl rfl rfl rfl rfl rfl (fun v54 A54 => ?_)
        refine apF fl_int sl24 A50 A54 rfl rfl rfl rfl rfl rfl rfl (fun v56 s56 p56 A56 => ?_)
        refine fa fa33_3 rfl rfl rfl rfl rfl rfl ?_
        have A58 := (BlF.st (BlF.st B18 p50 rfl) p56 rfl)
        refine sv A58 z24 rfl rfl rfl rfl rfl rfl A56.rd.one rfl (fun s59 p59 B59 => ?_)
        refine dn ?_
        have A61 := (A56.st p59 rfl)
        have A62 := (BlF.st (BlF.st (BlF.st (BlF.st (BlF.st B2 p4 rfl) p18 rfl) p50 rfl) p56 rfl) p59 rfl)
        have K63 := ((K52.st p56 rfl).st p59 rfl)
        exact Kj48 _ _ _ ⟨s59, _, v56, rfl, (ue (ue (ue rfl rfl) rfl) rfl), K63, A61, B59, A62⟩
       ·
        refine sk ?_
        have A64 := (BlF.st (BlF.st B2 p4 rfl) p18 rfl)
        have K65 := (K6.st p18 rfl)
        exact Kj48 _ _ _ ⟨s18, _, (.slice none 0 0), rfl, (ue (ue (ue rfl rfl) rfl) rfl), K65, (ow_nil 5 (Kd.int .u8) _ 46), B18, A64⟩
      rintro y48 _ _ ⟨s66, _, vy48_0, rfl, rfl, Ky48, Ay48_0, By48_b4, By48_b2⟩
      exact Kj33 _ _ _ ⟨s66, _, vy48_0, (.float .f64 0), rfl, (ue (ue (ue rfl rfl) rfl) rfl), Ky48, Ay48_0, (fl_c rfl), By48_b4, By48_b2⟩
    rintro y33 _ _ ⟨s70, _, vy33_0, uy33_0, rfl, rfl, Ky33, Ay33_0, Fy33_0, By33_b4, By33_b2⟩
    exact Kj20 _ _ _ ⟨s70, _, vy33_0, uy33_0, rfl, (ue (ue (ue rfl rfl) rfl) rfl), Ky33, Ay33_0, Fy33_0, By33_b4, By33_b2⟩
  rintro y20 _ _ ⟨s74, _, vy20_0, uy20_0, rfl, rfl, Ky20, Ay20_0, Fy20_0, By20_b4, By20_b2⟩
  refine ib ?_
  refine sq ?_
  refine sq ?_
  refine zdraw [[], [0], [1], [], [3], [2, 4]] [some 46, some 47, some 48, some 49, some 50, some 51] [[4], [46], [47], [0], [49], [48, 50]] [0, 1, 2, 3, 4, 5] ⟨by kernel_rfl, by kernel_rfl, by kernel_rfl⟩ (by kernel_rfl) (fun s78 p78 l78 tb78 zd78 => ?_)
  have A79 := (BlF.st By20_b4 p78 rfl)
  have zd80 := zd78.add 0 46 (.agg #[(.int .i64 (IntKind.wrap .i64 (at_ a0 (0 : Int)))), (.int .i64 y20.1), uy20_0, vy20_0]) rfl
  have zd81 := zd80.add 3 49 w0_0 rfl
  have K82 := (Ky20.st p78 rfl)
  have A83 := (A0_0.kp K82)
  have zd84 := zd81.add 4 50 (.string (str a0)) rfl
  have A86 := (BlF.st By20_b4 p78 rfl)
  have K87 := (Ky20.st p78 rfl)
  have A88 := (A0_0.kp K87)
  refine zstep 1 [some 50, some 49] tb78 zd84 (pq_cons (b2s_q A88 Tryz.underlying24 Tryz.underlying9 Tryz.underlying5 rfl rfl rfl rfl rfl rfl) rfl (pq_cons (mv_q w0_0 rfl rfl rfl rfl rfl rfl) rfl (pq_cons (lda_q (es := [(.int .i64 (IntKind.wrap .i64 (at_ a0 (0 : Int)))), (.int .i64 y20.1), uy20_0, vy20_0]) A86 Tryz.underlying33 z33 rfl rfl rfl rfl rfl rfl rfl rfl) rfl pq_nil))) (by kernel_rfl) rfl (fun l85 e85 zd85 => ?_)
  have A89 := (Ay20_0.st p78 rfl)
  refine cl rfl rfl rfl rfl rfl Tryz.func186 rfl rfl rfl (fun r90 m90 => spec_KeyBytes.calls (Item.mk (IntKind.wrap .i64 (at_ a0 (0 : Int))) y20.1 y20.2.1 y20.2.2) s78.w (fun b => memb [46] (s78.g b) = true) uy20_0 vy20_0 ((fl_rdf (s := s78) Fy20_0).sub (D := [46]) rfl) A89.rd r90 m90) ?_
  rintro r90 v90_0 w90 m90 ⟨f90_0, ky90⟩
  obtain ⟨s91, rfl, p91, n91⟩ := nwx s78 w90 47 ky90
  have A90_0 := f90_0.c n91
  refine zdone (L' := [4, 3]) (D' := [0, 1]) zd85 rfl rfl rfl (fun zd93 => ?_)
  have zd94 := zd93.add 2 48 (.string (str r90)) rfl
  have K95 := ((Ky20.st p78 rfl).st p91 rfl)
  have A96 := (A0_0.kp K95)
  refine zfin [5] tb78 zd94 (pq_cons (b2s_q A90_0.rd Tryz.underlying24 Tryz.underlying9 Tryz.underlying5 rfl rfl rfl rfl rfl rfl) rfl (pq_cons (b2s_q A96 Tryz.underlying24 Tryz.underlying9 Tryz.underlying5 rfl rfl rfl rfl rfl rfl) rfl (pq_cons (mv_q w0_0 rfl rfl rfl rfl rfl rfl) rfl pq_nil))) (by kernel_rfl) (by decide) ?_
  refine pu rfl rfl rfl rfl rfl ?_
  refine dn ?_
  refine cd rfl (fun h97 => ?_) (fun h97 => ?_)
  ·
   refine sr ?_
   refine bd (cells := [(.int .i64 (0 : Int)), (.int .i64 (0 : Int)), (.float .f64 0), (.slice none 0 0)]) pl33 o33 rfl rfl rfl rfl rfl rfl ?_
   have A98 := (BlF.st (BlF.st By20_b2 p78 rfl) p91 rfl)
   refine sva (vs := [(.int .i64 (0 : Int)), (.int .i64 (0 : Int)), (.float .f64 0), (.slice none 0 0)]) A98 z33 rfl rfl rfl rfl rfl rfl (on_cons rfl (on_cons rfl (on_cons (FL.one (fl_c rfl)) (on_cons rfl on_nil)))) rfl (fun s99 p99 B99 => ?_)
   refine pu rfl rfl rfl rfl rfl ?_
   refine dn ?_
   have A101 : OwF kd33 s99 [(.int .i64 (0 : Int)), (.int .i64 (0 : Int)), (.float .f64 0), (.slice none 0 0)] (Item.mk (0 : Int) (0 : Int) (0 : Nat) ([] : (List Int))) 48 := ow_z _ _ (fz_iso (fun x : Item => (x.Kind, x.N, x.F, x.T)) (Item.mk (0 : Int) (0 : Int) (0 : Nat) ([] : (List Int))) (fz_pair (fz_int .i64 (0 : Int)) (fz_pair (fz_int .i64 (0 : Int)) (fz_pair (fz_flt (fl_c rfl)) (fz_nil 5 (Kd.int .u8))))))
   have K103 := (((Ky20.st p78 rfl).st p91 rfl).st p99 rfl)
   exact re rfl Tryz.func258 rfl (r_b B99 Tryz.underlying33 rfl z33 rfl (r_t rfl r_nil)) rfl ⟨_, rfl, (.float .f64 0), (.slice none 0 0), rfl, A101.fo K103 rfl z.l, z.ky K103⟩
  ·
   refine sk ?_
   refine sr ?_
   have A104 := (BlF.st (BlF.st By20_b4 p78 rfl) p91 rfl)
   refine lda (es := [(.int .i64 (IntKind.wrap .i64 (at_ a0 (0 : Int)))), (.int .i64 y20.1), uy20_0, vy20_0]) A104 Tryz.underlying33 z33 rfl rfl rfl rfl rfl rfl rfl rfl ?_
   have A105 := (BlF.st (BlF.st By20_b2 p78 rfl) p91 rfl)
   have A106 := (A89.st p91 rfl)
   refine sva (vs := [(.int .i64 (IntKind.wrap .i64 (at_ a0 (0 : Int)))), (.int .i64 y20.1), uy20_0, vy20_0]) A105 z33 rfl rfl rfl rfl rfl rfl (on_cons rfl (on_cons rfl (on_cons (FL.one Fy20_0) (on_cons A106.rd.one on_nil)))) rfl (fun s107 p107 B107 => ?_)
   refine pu rfl rfl rfl rfl rfl ?_
   refine dn ?_
   have A110 := (A106.st p107 rfl)
   have A109 : OwF kd33 s107 [(.int .i64 (IntKind.wrap .i64 (at_ a0 (0 : Int)))), (.int .i64 y20.1), uy20_0, vy20_0] (Item.mk (IntKind.wrap .i64 (at_ a0 (0 : Int))) y20.1 y20.2.1 y20.2.2) 46 := (ow_isoz (fun x : Item => (x.Kind, x.N, x.F, x.T)) (Item.mk (IntKind.wrap .i64 (at_ a0 (0 : Int))) y20.1 y20.2.1 y20.2.2) (ow_l (fz_int .i64 (IntKind.wrap .i64 (at_ a0 (0 : Int)))) (ow_l (fz_int .i64 y20.1) (ow_l (fz_flt Fy20_0) A110))))
   have K112 := (((Ky20.st p78 rfl).st p91 rfl).st p107 rfl)
   exact re rfl Tryz.func258 rfl (r_b B107 Tryz.underlying33 rfl z33 rfl (r_t rfl r_nil)) rfl ⟨_, rfl, uy20_0, vy20_0, rfl, A109.fo K112 rfl z.l, z.ky K112⟩
noncomputable def spec_ValueBytes.f (a0 : Item) : Option ((List Int)) :=
 ((spec_ItemOk.f a0).bind fun r6 => (if ((!r6) || (a0.Kind == (0 : Int))) = true then (some ([] : (List Int))) else ((spec_FloatBits.f a0.F).bind fun r21 => ((spec_l3bytes.f a0 r21).bind fun r27 => (some r27)))))
def spec_ValueBytes.Q (w : World) (F : Nat → Prop) (r : (List Int)) (v : Value) (w' : World) : Prop :=
 FO (Kd.sl 5 (Kd.int .u8)) w w' [v] r ∧ Ky [] w w'
set_option maxHeartbeats 4000000 in
set_option maxRecDepth 100000 in
theorem spec_ValueBytes.calls (a0 : Item) (w : World) (F : Nat → Prop) (w0_0 : Value) (w0_1 : Value) (h0_0 : Kd.flt.rd w [w0_0] a0.F F) (h0_1 : (Kd.sl 5 (Kd.int .u8)).rd w [w0_1] a0.T F) (r : (List Int)) (m : spec_ValueBytes.f a0 = some r) :
  Calls Tryz.prog 187 #[(.agg #[(.int .i64 a0.Kind), (.int .i64 a0.N), w0_0, w0_1])] w fun en w' => ∃ v, en = .returned v ∧ spec_ValueBytes.Q w F r v w' := by
 obtain ⟨s0, rfl, kp0, z⟩ := start0 w F
 have A0_0 := fl_of h0_0
 have A0_1 := z.rd h0_1
 refine calls_of_TM (args := [(.agg #[(.int .i64 a0.Kind), (.int .i64 a0.N), w0_0, w0_1])]) (R := fun r en w' => ∃ v, en = .returned v ∧ spec_ValueBytes.Q s0.w F r v w') Tryz.func187 Tryz.ntmps187 rfl rfl m ?_
 unfold spec_ValueBytes.f
 refine sr ?_
 refine bx (cs := [(.int .i64 a0.Kind), (.int .i64 a0.N), w0_0, w0_1]) 40 rfl rfl rfl rfl rfl rfl (fun b2 s2 p2 B2 => ?_)
 refine pu rfl rfl rfl rfl rfl ?_
 refine dn ?_
 refine sq ?_
 refine sr ?_
 refine lda (es := [(.int .i64 a0.Kind), (.int .i64 a0.N), w0_0, w0_1]) B2 Tryz.underlying33 z33 rfl rfl rfl rfl rfl rfl rfl rfl ?_
 have K4 := (kp0.st p2 rfl)
 have A5 := (A0_1.kp K4)
 refine cl rfl rfl rfl rfl rfl Tryz.func150 rfl rfl rfl (fun r6 m6 => spec_ItemOk.calls a0 s2.w (fun b => memb [0] (s2.g b) = true) w0_0 w0_1 ((fl_rdf (s := s2) A0_0).sub (D := [0]) rfl) A5 r6 m6) ?_
 rintro r6 _ w6 m6 ⟨rfl, ky6⟩
 obtain ⟨s7, rfl, p7, n7⟩ := nwx s2 w6 41 ky6
 refine pu rfl rfl rfl rfl rfl ?_
 refine pu rfl rfl rfl rfl rfl ?_
 refine jy [6, 7, 8, 9, 10] [] 10 (.bool ((!r6) || (a0.Kind == (0 : Int)))) rfl (fun Kg8 => ?_) (fun j8 => ?_)
 ·
  rcases Bool.eq_false_or_eq_true (!r6) with hb8 | hb8
  ·
   refine sbT hb8 ?_
   refine uw rfl rfl rfl rfl ?_
   refine uw rfl rfl rfl rfl ?_
   refine uw rfl rfl rfl rfl ?_
   refine pu rfl rfl rfl rfl rfl ?_
   exact Kg8 _ (Ag.put ((Ag.put ((Ag.put ((Ag.put (Ag.base rfl) rfl)) rfl)) rfl)) rfl) (by rw [hb8]; rfl)
  ·
   refine sbT hb8 ?_
   refine fa fa33_0 rfl rfl rfl rfl rfl rfl ?_
   have A9 := (BlF.st B2 p7 rfl)
   refine ld A9 Tryz.underlying3 rfl rfl rfl rfl rfl rfl rfl rfl ?_
   refine pu rfl rfl rfl rfl rfl ?_
   refine pu rfl rfl rfl rfl rfl ?_
   exact Kg8 _ (Ag.put ((Ag.put ((Ag.put ((Ag.put (Ag.base rfl) rfl)) rfl)) rfl)) rfl) (by rw [hb8]; rfl)
 refine dn ?_
 refine cd rfl (fun h10 => ?_) (fun h10 => ?_)
 ·
  refine sr ?_
  refine pu rfl rfl rfl rfl rfl ?_
  refine dn ?_
  have K11 := (K4.st p7 rfl)
  exact re rfl Tryz.func187 rfl (r_t rfl r_nil) rfl ⟨_, rfl, (ow_nil 5 (Kd.int .u8) s7 40).fo K11 rfl z.l, z.ky K11⟩
 ·
  refine sk ?_
  refine sq ?_
  refine zdraw [[], [], [1], [2], [0, 3, 3], [4, 4, 0, 1, 2, 3, 4]] [some 11, some 12, some 13, some 14, some 15, some 2] [[1], [1], [12], [13], [11, 14], [15]] [0, 1, 2, 3, 4, 5] ⟨by kernel_rfl, by kernel_rfl, by kernel_rfl⟩ (by kernel_rfl) (fun s12 p12 l12 tb12 zd12 => ?_)
  have A13 := (BlF.st (BlF.st B2 p7 rfl) p12 rfl)
  have zd14 := zd12.add 0 11 (.agg #[(.int .i64 a0.Kind), (.int .i64 a0.N), w0_0, w0_1]) rfl
  have zd15 := zd14.add 1 12 (.pointer (some ⟨b2, 2, none⟩)) rfl
  have A16 := (BlF.st (BlF.st B2 p7 rfl) p12 rfl)
  have zd17 := zd15.add 2 13 w0_0 rfl
  have A19 := (BlF.st (BlF.st B2 p7 rfl) p12 rfl)
  have A20 := (BlF.st (BlF.st B2 p7 rfl) p12 rfl)
  refine zstep 3 [some 11] tb12 zd17 (pq_cons (ld_q A20 Tryz.underlying23 rfl rfl rfl rfl rfl rfl rfl rfl) rfl (pq_cons (fa_q fa33_2 rfl rfl rfl rfl rfl rfl) rfl (pq_cons (lda_q (es := [(.int .i64 a0.Kind), (.int .i64 a0.N), w0_0, w0_1]) A19 Tryz.underlying33 z33 rfl rfl rfl rfl rfl rfl rfl rfl) rfl pq_nil))) (by kernel_rfl) rfl (fun l18 e18 zd18 => ?_)
  refine cl rfl rfl rfl rfl rfl Tryz.func151 rfl rfl rfl (fun r21 m21 => spec_FloatBits.calls a0.F s12.w (fun b => memb [] (s12.g b) = true) w0_0 (fl_rdf (s := s12) A0_0) r21 m21) ?_
  rintro r21 _ w21 m21 ⟨rfl, ky21⟩
  obtain ⟨s22, rfl, p22, n22⟩ := nwx s12 w21 42 ky21
  refine zdone (L' := [0]) (D' := [1, 2, 3]) zd18 rfl rfl rfl (fun zd23 => ?_)
  have A24 := (BlF.st (BlF.st (BlF.st B2 p7 rfl) p12 rfl) p22 rfl)
  refine zfin [4, 5] tb12 zd23 (pq_cons (lda_q (es := [(.int .i64 a0.Kind), (.int .i64 a0.N), w0_0, w0_1]) A24 Tryz.underlying33 z33 rfl rfl rfl rfl rfl rfl rfl rfl) rfl pq_nil) (by kernel_rfl) (by decide) ?_
  have K25 := (((K4.st p7 rfl).st p12 rfl).st p22 rfl)
  have A26 := (A0_1.kp K25)
  refine cl rfl rfl rfl rfl rfl Tryz.func260 rfl rfl rfl (fun r27 m27 => spec_l3bytes.calls a0 r21 s22.w (fun b => memb [0] (s22.g b) = true) w0_0 w0_1 ((fl_rdf (s := s22) A0_0).sub (D := [0]) rfl) A26 r27 m27) ?_
  rintro r27 v27_0 w27 m27 ⟨f27_0, ky27⟩
  obtain ⟨s28, rfl, p28, n28⟩ := nwx s22 w27 43 ky27
  have A27_0 := f27_0.c n28
  refine asg v27_0 rfl rfl rfl rfl rfl rfl ?_
  refine dn ?_
  have K30 := (K25.st p28 rfl)
  exact re rfl Tryz.func187 rfl (r_t rfl r_nil) rfl ⟨_, rfl, A27_0.fo K30 rfl z.l, z.ky K30⟩
noncomputable def spec_ValueRead.f (a0 : (List Int)) : Option (Item × Bool) :=
 (if ((decide ((a0.length : Int) < (1 : Int))) || (decide ((a0.length : Int) > (41 : Int)))) = true then (some ((Item.mk (0 : Int) (0 : Int) (0 : Nat) ([] : (List Int))), false)) else (if 0 ≤ (0 : Int) ∧ (0 : Int) < (a0.length : Int) then ((if ((IntKind.wrap .i64 (at_ a0 (0 : Int))) == (1 : Int)) = true then (if 0 ≤ (1 : Int) ∧ (1 : Int) ≤ (a0.length : Int) then ((spec_l3low.f (a0.drop ((1 : Int)).toNat)).bind fun r26 => (some ((IntKind.wrap .i64 (ixor .u64 r26 (9223372036854775808 : Int))), (0 : Nat), ([] : (List Int))))) else none) else ((if ((IntKind.wrap .i64 (at_ a0 (0 : Int))) == (2 : Int)) = true then (if 0 ≤ (1 : Int) ∧ (1 : Int) ≤ (a0.length : Int) then ((spec_l3low.f (a0.drop ((1 : Int)).toNat)).bind fun r39 => ((spec_FloatOf.f r39).bind fun r41 => (some (r41, ([] : (List Int)))))) else none) else ((if ((IntKind.wrap .i64 (at_ a0 (0 : Int))) == (3 : Int)) = true then (if 0 ≤ (1 : Int) ∧ (1 : Int) ≤ (a0.length : Int) then (if ([] : (List Int)).length + (a0.drop ((1 : Int)).toNat).length ≤ Lim then (some (([] : (List Int)) ++ (a0.drop ((1 : Int)).toNat))) else none) else none) else (some ([] : (List Int)))).bind fun y48 => (some ((0 : Nat), y48)))).bind fun y33 => (some ((0 : Int), y33.1, y33.2)))).bind fun y20 => ((spec_ValueBytes.f (Item.mk (IntKind.wrap .i64 (at_ a0 (0 : Int))) y20.1 y20.2.1 y20.2.2)).bind fun r90 => (if (!((str r90).toList == (str a0).toList)) = true then (some ((Item.mk (0 : Int) (0 : Int) (0 : Nat) ([] : (List Int))), false)) else (some ((Item.mk (IntKind.wrap .i64 (at_ a0 (0 : Int))) y20.1 y20.2.1 y20.2.2), true))))) else none))
def spec_ValueRead.Q (w : World) (F : Nat → Prop) (r : Item × Bool) (v : Value) (w' : World) : Prop :=
 ∃ (v0 : Value) (v1 : Value), v = .tuple #[(.agg #[(.int .i64 r.1.Kind), (.int .i64 r.1.N), v0, v1]), (.bool r.2)] ∧ FO kd33 w w' [(.int .i64 r.1.Kind), (.int .i64 r.1.N), v0, v1] r.1 ∧ Ky [] w w'
set_option maxHeartbeats 4000000 in
set_option maxRecDepth 100000 in
theorem spec_ValueRead.calls (a0 : (List Int)) (w : World) (F : Nat → Prop) (w0_0 : Value) (h0_0 : (Kd.sl 5 (Kd.int .u8)).rd w [w0_0] a0 F) (r : Item × Bool) (m : spec_ValueRead.f a0 = some r) :
  Calls Tryz.prog 259 #[w0_0] w fun en w' => ∃ v, en = .returned v ∧ spec_ValueRead.Q w F r v w' := by
 obtain ⟨s0, rfl, kp0, z⟩ := start0 w F
 have A0_0 := z.rd h0_0
 refine calls_of_TM (args := [w0_0]) (R := fun r en w' => ∃ v, en = .returned v ∧ spec_ValueRead.Q s0.w F r v w') Tryz.func259 Tryz.ntmps259 rfl rfl m ?_
 unfold spec_ValueRead.f
 refine sr ?_
 refine al (cs := [(.int .i64 (0 : Int)), (.int .i64 (0 : Int)), (.float .f64 0), (.slice none 0 0)]) 40 rfl rfl rfl rfl rfl o33 rfl (fun b2 s2 p2 B2 => ?_)
 refine pu rfl rfl rfl rfl rfl ?_
 refine dn ?_
 refine sr ?_
 refine al (cs := [(.int .i64 (0 : Int)), (.int .i64 (0 : Int)), (.float .f64 0), (.slice none 0 0)]) 41 rfl rfl rfl rfl rfl o33 rfl (fun b4 s4 p4 B4 => ?_)
 refine dn ?_
 refine sq ?_
 refine sr ?_
 refine mv w0_0 rfl rfl rfl rfl rfl rfl ?_
 have K6 := ((kp0.st p2 rfl).st p4 rfl)
 have A7 := (A0_0.kp K6)
 refine ln A7 Tryz.underlying24 rfl rfl rfl rfl rfl rfl ?_
 refine pu rfl rfl rfl rfl rfl ?_
 refine pu rfl rfl rfl rfl rfl ?_
 refine jy [8, 9, 10, 11, 12] [] 12 (.bool ((decide ((a0.length : Int) < (1 : Int))) || (decide ((a0.length : Int) > (41 : Int))))) rfl (fun Kg8 => ?_) (fun j8 => ?_)
 ·
  rcases Bool.eq_false_or_eq_true (decide ((a0.length : Int) < (1 : Int))) with hb8 | hb8
  ·
   refine sbT hb8 ?_
   refine uw rfl rfl rfl rfl ?_
   refine uw rfl rfl rfl rfl ?_
   refine uw rfl rfl rfl rfl ?_
   refine pu rfl rfl rfl rfl rfl ?_
   exact Kg8 _ (Ag.put ((Ag.put ((Ag.put ((Ag.put (Ag.base rfl) rfl)) rfl)) rfl)) rfl) (by rw [hb8]; rfl)
  ·
   refine sbT hb8 ?_
   refine mv w0_0 rfl rfl rfl rfl rfl rfl ?_
   refine ln A7 Tryz.underlying24 rfl rfl rfl rfl rfl rfl ?_
   refine pu rfl rfl rfl rfl rfl ?_
   refine pu rfl rfl rfl rfl rfl ?_
   exact Kg8 _ (Ag.put ((Ag.put ((Ag.put ((Ag.put (Ag.base rfl) rfl)) rfl)) rfl)) rfl) (by rw [hb8]; rfl)
 refine dn ?_
 refine cd rfl (fun h9 => ?_) (fun h9 => ?_)
 ·
  refine sr ?_
  refine lda (es := [(.int .i64 (0 : Int)), (.int .i64 (0 : Int)), (.float .f64 0), (.slice none 0 0)]) B4 Tryz.underlying33 z33 rfl rfl rfl rfl rfl rfl rfl rfl ?_
  have A10 := (BlF.st B2 p4 rfl)
  refine sva (vs := [(.int .i64 (0 : Int)), (.int .i64 (0 : Int)), (.float .f64 0), (.slice none 0 0)]) A10 z33 rfl rfl rfl rfl rfl rfl (on_cons rfl (on_cons rfl (on_cons (FL.one (fl_c rfl)) (on_cons rfl on_nil)))) rfl (fun s11 p11 B11 => ?_)
  refine pu rfl rfl rfl rfl rfl ?_
  refine dn ?_
  have A13 : OwF kd33 s11 [(.int .i64 (0 : Int)), (.int .i64 (0 : Int)), (.float .f64 0), (.slice none 0 0)] (Item.mk (0 : Int) (0 : Int) (0 : Nat) ([] : (List Int))) 42 := ow_z _ _ (fz_iso (fun x : Item => (x.Kind, x.N, x.F, x.T)) (Item.mk (0 : Int) (0 : Int) (0 : Nat) ([] : (List Int))) (fz_pair (fz_int .i64 (0 : Int)) (fz_pair (fz_int .i64 (0 : Int)) (fz_pair (fz_flt (fl_c rfl)) (fz_nil 5 (Kd.int .u8))))))
  have K15 := (K6.st p11 rfl)
  exact re rfl Tryz.func259 rfl (r_b B11 Tryz.underlying33 rfl z33 rfl (r_t rfl r_nil)) rfl ⟨_, rfl, (.float .f64 0), (.slice none 0 0), rfl, A13.fo K15 rfl z.l, z.ky K15⟩
 ·
  refine sk ?_
  refine sr ?_
  refine mv w0_0 rfl rfl rfl rfl rfl rfl ?_
  refine ix A7 Tryz.underlying24 z5 rfl rfl rfl rfl rfl rfl rfl rfl (fun ad16 es16 h0_16 h1_16 he16 ce16 ia16 => ?_)
  obtain rfl := he16
  refine lc0 ce16 Tryz.underlying5 rfl rfl rfl rfl rfl rfl rfl rfl ?_
  refine cv Tryz.underlying3 Tryz.underlying5 rfl rfl rfl rfl rfl rfl ?_
  refine fa fa33_0 rfl rfl rfl rfl rfl rfl ?_
  refine sv B4 z3 rfl rfl rfl rfl rfl rfl rfl rfl (fun s18 p18 B18 => ?_)
  refine dn ?_
  refine sq ?_
  refine sr ?_
  refine fa fa33_0 rfl rfl rfl rfl rfl rfl ?_
  refine ld B18 Tryz.underlying3 rfl rfl rfl rfl rfl rfl rfl rfl ?_
  refine dn ?_
  refine bl ?_
  refine sr ?_
  refine pu rfl rfl rfl rfl rfl ?_
  refine pu rfl rfl rfl rfl rfl ?_
  refine dn ?_
  refine jc (fun (y20 : Int × Nat × (List Int)) (e : Env) (w : World) => ∃ (s : St) (e0 : Env) (vy20_0 uy20_0 : Value), w = s.w ∧ e = upd (upd (upd e0 0 w0_0) 2 (.pointer (some ⟨b2, 0, none⟩))) 4 (.pointer (some ⟨b4, 0, none⟩)) ∧ Kp s0 s ∧ OwF (Kd.sl 5 (Kd.int .u8)) s [vy20_0] y20.2.2 46 ∧ FL uy20_0 y20.2.1 ∧ BlF s b4 33 [(.int .i64 (IntKind.wrap .i64 (at_ a0 (0 : Int)))), (.int .i64 y20.1), uy20_0, vy20_0] 41 ∧ BlF s b2 33 [(.int .i64 (0 : Int)), (.int .i64 (0 : Int)), (.float .f64 0), (.slice none 0 0)] 40) (fun Gj20 Kj20 => ?_) ?_
  ·
   refine cd rfl (fun h21 => ?_) (fun h21 => ?_)
   ·
    refine rg ?_
    refine mv w0_0 rfl rfl rfl rfl rfl rfl ?_
    have K22 := (K6.st p18 rfl)
    have A23 := (A0_0.kp K22)
    refine sla A23 Tryz.underlying24 z5 rfl rfl rfl rfl rfl rfl rfl (fun v24 A24 => ?_)
    refine cl rfl rfl rfl rfl rfl Tryz.func308 rfl rfl rfl (fun r26 m26 => spec_l3low.calls (a0.drop ((1 : Int)).toNat) s18.w (fun b => memb [0] (s18.g b) = true) v24 A24 r26 m26) ?_
    rintro r26 _ w26 m26 ⟨rfl, ky26⟩
    obtain ⟨s27, rfl, p27, n27⟩ := nwx s18 w26 43 ky26
    refine pu rfl rfl rfl rfl rfl ?_
    refine cv Tryz.underlying3 Tryz.underlying201 rfl rfl rfl rfl rfl rfl ?_
    refine fa fa33_1 rfl rfl rfl rfl rfl rfl ?_
    have A28 := (BlF.st B18 p27 rfl)
    refine sv A28 z3 rfl rfl rfl rfl rfl rfl rfl rfl (fun s29 p29 B29 => ?_)
    refine dn ?_
    have A31 := (BlF.st (BlF.st (BlF.st (BlF.st B2 p4 rfl) p18 rfl) p27 rfl) p29 rfl)
    have K32 := ((K22.st p27 rfl).st p29 rfl)
    exact Kj20 _ _ _ ⟨s29, _, (.slice none 0 0), (.float .f64 0), rfl, (ue (ue (ue rfl rfl) rfl) rfl), K32, (ow_nil 5 (Kd.int .u8) _ 46), (fl_c rfl), B29, A31⟩
   ·
    refine sr ?_
    refine pu rfl rfl rfl rfl rfl ?_
    refine pu rfl rfl rfl rfl rfl ?_
    refine dn ?_
    refine jc (fun (y33 : Nat × (List Int)) (e : Env) (w : World) => ∃ (s : St) (e0 : Env) (vy33_0 uy33_0 : Value), w = s.w ∧ e = upd (upd (upd e0 0 w0_0) 2 (.pointer (some ⟨b2, 0, none⟩))) 4 (.pointer (some ⟨b4, 0, none⟩)) ∧ Kp s0 s ∧ OwF (Kd.sl 5 (Kd.int .u8)) s [vy33_0] y33.2 46 ∧ FL uy33_0 y33.1 ∧ BlF s b4 33 [(.int .i64 (IntKind.wrap .i64 (at_ a0 (0 : Int)))), (.int .i64 (0 : Int)), uy33_0, vy33_0] 41 ∧ BlF s b2 33 [(.int .i64 (0 : Int)), (.int .i64 (0 : Int)), (.float .f64 0), (.slice none 0 0)] 40) (fun Gj33 Kj33 => ?_) ?_
    ·
     refine cd rfl (fun h34 => ?_) (fun h34 => ?_)
     ·
      refine rg ?_
      refine mv w0_0 rfl rfl rfl rfl rfl rfl ?_
      have K35 := (K6.st p18 rfl)
      have A36 := (A0_0.kp K35)
      refine sla A36 Tryz.underlying24 z5 rfl rfl rfl rfl rfl rfl rfl (fun v37 A37 => ?_)
      refine cl rfl rfl rfl rfl rfl Tryz.func308 rfl rfl rfl (fun r39 m39 => spec_l3low.calls (a0.drop ((1 : Int)).toNat) s18.w (fun b => memb [0] (s18.g b) = true) v37 A37 r39 m39) ?_
      rintro r39 _ w39 m39 ⟨rfl, ky39⟩
      obtain ⟨s40, rfl, p40, n40⟩ := nwx s18 w39 44 ky39
      refine cl rfl rfl rfl rfl rfl Tryz.func310 rfl rfl rfl (fun r41 m41 => spec_FloatOf.calls r39 s40.w (fun b => memb [] (s40.g b) = true)  r41 m41) ?_
      rintro r41 v41_0 w41 m41 ⟨f41_0, ky41⟩
      obtain ⟨s42, rfl, p42, n42⟩ := nwx s40 w41 45 ky41
      refine fa fa33_2 rfl rfl rfl rfl rfl rfl ?_
      have A43 := (BlF.st (BlF.st B18 p40 rfl) p42 rfl)
      refine sv A43 z23 rfl rfl rfl rfl rfl rfl (FL.one f41_0) rfl (fun s44 p44 B44 => ?_)
      refine dn ?_
      have A46 := (BlF.st (BlF.st (BlF.st (BlF.st (BlF.st B2 p4 rfl) p18 rfl) p40 rfl) p42 rfl) p44 rfl)
      have K47 := (((K35.st p40 rfl).st p42 rfl).st p44 rfl)
      exact Kj33 _ _ _ ⟨s44, _, (.slice none 0 0), v41_0, rfl, (ue (ue (ue rfl rfl) rfl) rfl), K47, (ow_nil 5 (Kd.int .u8) _ 46), f41_0, B44, A46⟩
     ·
      refine sr ?_
      refine pu rfl rfl rfl rfl rfl ?_
      refine pu rfl rfl rfl rfl rfl ?_
      refine dn ?_
      refine jc (fun (y48 : (List Int)) (e : Env) (w : World) => ∃ (s : St) (e0 : Env) (vy48_0 : Value), w = s.w ∧ e = upd (upd (upd e0 0 w0_0) 2 (.pointer (some ⟨b2, 0, none⟩))) 4 (.pointer (some ⟨b4, 0, none⟩)) ∧ Kp s0 s ∧ OwF (Kd.sl 5 (Kd.int .u8)) s [vy48_0] y48 46 ∧ BlF s b4 33 [(.int .i64 (IntKind.wrap .i64 (at_ a0 (0 : Int)))), (.int .i64 (0 : Int)), (.float .f64 0), vy48_0] 41 ∧ BlF s b2 33 [(.int .i64 (0 : Int)), (.int .i64 (0 : Int)), (.float .f64 0), (.slice none 0 0)] 40) (fun Gj48 Kj48 => ?_) ?_
      ·
       refine cd rfl (fun h49 => ?_) (fun h49 => ?_)
       ·
        refine rg ?_
        refine lt0 (K := (Kd.int .u8)) 46 Tryz.underlying24 z5 rfl rfl rfl rfl rfl (fun v50 s50 p50 A50 => ?_)
        refine mv w0_0 rfl rfl rfl rfl rfl rfl ?_
        have K52 := ((K6.st p18 rfl).st p50 rfl)
        have A53 := (A0_0.kp K52)
        refine sla A53 Tryz.underlying24 z5 rfl rfl rfl rfl rfl rfl rfl (fun v54 A54 => ?_)
        refine apF fl_int sl24 A50 A54 rfl rfl rfl rfl rfl rfl rfl (fun v56 s56 p56 A56 => ?_)
        refine fa fa33_3 rfl rfl rfl rfl rfl rfl ?_
        have A58 := (BlF.st (BlF.st B18 p50 rfl) p56 rfl)
        refine sv A58 z24 rfl rfl rfl rfl rfl rfl A56.rd.one rfl (fun s59 p59 B59 => ?_)
        refine dn ?_
        have A61 := (A56.st p59 rfl)
        have A62 := (BlF.st (BlF.st (BlF.st (BlF.st (BlF.st B2 p4 rfl) p18 rfl) p50 rfl) p56 rfl) p59 rfl)
        have K63 := ((K52.st p56 rfl).st p59 rfl)
        exact Kj48 _ _ _ ⟨s59, _, v56, rfl, (ue (ue (ue rfl rfl) rfl) rfl), K63, A61, B59, A62⟩
       ·
        refine sk ?_
        have A64 := (BlF.st (BlF.st B2 p4 rfl) p18 rfl)
        have K65 := (K6.st p18 rfl)
        exact Kj48 _ _ _ ⟨s18, _, (.slice none 0 0), rfl, (ue (ue (ue rfl rfl) rfl) rfl), K65, (ow_nil 5 (Kd.int .u8) _ 46), B18, A64⟩
      rintro y48 _ _ ⟨s66, _, vy48_0, rfl, rfl, Ky48, Ay48_0, By48_b4, By48_b2⟩
      exact Kj33 _ _ _ ⟨s66, _, vy48_0, (.float .f64 0), rfl, (ue (ue (ue rfl rfl) rfl) rfl), Ky48, Ay48_0, (fl_c rfl), By48_b4, By48_b2⟩
    rintro y33 _ _ ⟨s70, _, vy33_0, uy33_0, rfl, rfl, Ky33, Ay33_0, Fy33_0, By33_b4, By33_b2⟩
    exact Kj20 _ _ _ ⟨s70, _, vy33_0, uy33_0, rfl, (ue (ue (ue rfl rfl) rfl) rfl), Ky33, Ay33_0, Fy33_0, By33_b4, By33_b2⟩
  rintro y20 _ _ ⟨s74, _, vy20_0, uy20_0, rfl, rfl, Ky20, Ay20_0, Fy20_0, By20_b4, By20_b2⟩
  refine ib ?_
  refine sq ?_
  refine sq ?_
  refine zdraw [[], [0], [1], [], [3], [2, 4]] [some 43, some 44, some 45, some 46, some 47, some 48] [[4], [43], [44], [0], [46], [45, 47]] [0, 1, 2, 3, 4, 5] ⟨by kernel_rfl, by kernel_rfl, by kernel_rfl⟩ (by kernel_rfl) (fun s78 p78 l78 tb78 zd78 => ?_)
  have A79 := (BlF.st By20_b4 p78 rfl)
  have zd80 := zd78.add 0 43 (.agg #[(.int .i64 (IntKind.wrap .i64 (at_ a0 (0 : Int)))), (.int .i64 y20.1), uy20_0, vy20_0]) rfl
  have zd81 := zd80.add 3 46 w0_0 rfl
  have K82 := (Ky20.st p78 rfl)
  have A83 := (A0_0.kp K82)
  have zd84 := zd81.add 4 47 (.string (str a0)) rfl
  have A86 := (BlF.st By20_b4 p78 rfl)
  have K87 := (Ky20.st p78 rfl)
  have A88 := (A0_0.kp K87)
  refine zstep 1 [some 47, some 46] tb78 zd84 (pq_cons (b2s_q A88 Tryz.underlying24 Tryz.underlying9 Tryz.underlying5 rfl rfl rfl rfl rfl rfl) rfl (pq_cons (mv_q w0_0 rfl rfl rfl rfl rfl rfl) rfl (pq_cons (lda_q (es := [(.int .i64 (IntKind.wrap .i64 (at_ a0 (0 : Int)))), (.int .i64 y20.1), uy20_0, vy20_0]) A86 Tryz.underlying33 z33 rfl rfl rfl rfl rfl rfl rfl rfl) rfl pq_nil))) (by kernel_rfl) rfl (fun l85 e85 zd85 => ?_)
  have A89 := (Ay20_0.st p78 rfl)
  refine cl rfl rfl rfl rfl rfl Tryz.func187 rfl rfl rfl (fun r90 m90 => spec_ValueBytes.calls (Item.mk (IntKind.wrap .i64 (at_ a0 (0 : Int))) y20.1 y20.2.1 y20.2.2) s78.w (fun b => memb [46] (s78.g b) = true) uy20_0 vy20_0 ((fl_rdf (s := s78) Fy20_0).sub (D := [46]) rfl) A89.rd r90 m90) ?_
  rintro r90 v90_0 w90 m90 ⟨f90_0, ky90⟩
  obtain ⟨s91, rfl, p91, n91⟩ := nwx s78 w90 47 ky90
  have A90_0 := f90_0.c n91
  refine zdone (L' := [4, 3]) (D' := [0, 1]) zd85 rfl rfl rfl (fun zd93 => ?_)
  have zd94 := zd93.add 2 45 (.string (str r90)) rfl
  have K95 := ((Ky20.st p78 rfl).st p91 rfl)
  have A96 := (A0_0.kp K95)
  refine zfin [5] tb78 zd94 (pq_cons (b2s_q A90_0.rd Tryz.underlying24 Tryz.underlying9 Tryz.underlying5 rfl rfl rfl rfl rfl rfl) rfl (pq_cons (b2s_q A96 Tryz.underlying24 Tryz.underlying9 Tryz.underlying5 rfl rfl rfl rfl rfl rfl) rfl (pq_cons (mv_q w0_0 rfl rfl rfl rfl rfl rfl) rfl pq_nil))) (by kernel_rfl) (by decide) ?_
  refine pu rfl rfl rfl rfl rfl ?_
  refine dn ?_
  refine cd rfl (fun h97 => ?_) (fun h97 => ?_)
  ·
   refine sr ?_
   refine bd (cells := [(.int .i64 (0 : Int)), (.int .i64 (0 : Int)), (.float .f64 0), (.slice none 0 0)]) pl33 o33 rfl rfl rfl rfl rfl rfl ?_
   have A98 := (BlF.st (BlF.st By20_b2 p78 rfl) p91 rfl)
   refine sva (vs := [(.int .i64 (0 : Int)), (.int .i64 (0 : Int)), (.float .f64 0), (.slice none 0 0)]) A98 z33 rfl rfl rfl rfl rfl rfl (on_cons rfl (on_cons rfl (on_cons (FL.one (fl_c rfl)) (on_cons rfl on_nil)))) rfl (fun s99 p99 B99 => ?_)
   refine pu rfl rfl rfl rfl rfl ?_
   refine dn ?_
   have A101 : OwF kd33 s99 [(.int .i64 (0 : Int)), (.int .i64 (0 : Int)), (.float .f64 0), (.slice none 0 0)] (Item.mk (0 : Int) (0 : Int) (0 : Nat) ([] : (List Int))) 48 := ow_z _ _ (fz_iso (fun x : Item => (x.Kind, x.N, x.F, x.T)) (Item.mk (0 : Int) (0 : Int) (0 : Nat) ([] : (List Int))) (fz_pair (fz_int .i64 (0 : Int)) (fz_pair (fz_int .i64 (0 : Int)) (fz_pair (fz_flt (fl_c rfl)) (fz_nil 5 (Kd.int .u8))))))
   have K103 := (((Ky20.st p78 rfl).st p91 rfl).st p99 rfl)
   exact re rfl Tryz.func259 rfl (r_b B99 Tryz.underlying33 rfl z33 rfl (r_t rfl r_nil)) rfl ⟨_, rfl, (.float .f64 0), (.slice none 0 0), rfl, A101.fo K103 rfl z.l, z.ky K103⟩
  ·
   refine sk ?_
   refine sr ?_
   have A104 := (BlF.st (BlF.st By20_b4 p78 rfl) p91 rfl)
   refine lda (es := [(.int .i64 (IntKind.wrap .i64 (at_ a0 (0 : Int)))), (.int .i64 y20.1), uy20_0, vy20_0]) A104 Tryz.underlying33 z33 rfl rfl rfl rfl rfl rfl rfl rfl ?_
   have A105 := (BlF.st (BlF.st By20_b2 p78 rfl) p91 rfl)
   have A106 := (A89.st p91 rfl)
   refine sva (vs := [(.int .i64 (IntKind.wrap .i64 (at_ a0 (0 : Int)))), (.int .i64 y20.1), uy20_0, vy20_0]) A105 z33 rfl rfl rfl rfl rfl rfl (on_cons rfl (on_cons rfl (on_cons (FL.one Fy20_0) (on_cons A106.rd.one on_nil)))) rfl (fun s107 p107 B107 => ?_)
   refine pu rfl rfl rfl rfl rfl ?_
   refine dn ?_
   have A110 := (A106.st p107 rfl)
   have A109 : OwF kd33 s107 [(.int .i64 (IntKind.wrap .i64 (at_ a0 (0 : Int)))), (.int .i64 y20.1), uy20_0, vy20_0] (Item.mk (IntKind.wrap .i64 (at_ a0 (0 : Int))) y20.1 y20.2.1 y20.2.2) 46 := (ow_isoz (fun x : Item => (x.Kind, x.N, x.F, x.T)) (Item.mk (IntKind.wrap .i64 (at_ a0 (0 : Int))) y20.1 y20.2.1 y20.2.2) (ow_l (fz_int .i64 (IntKind.wrap .i64 (at_ a0 (0 : Int)))) (ow_l (fz_int .i64 y20.1) (ow_l (fz_flt Fy20_0) A110))))
   have K112 := (((Ky20.st p78 rfl).st p91 rfl).st p107 rfl)
   exact re rfl Tryz.func259 rfl (r_b B107 Tryz.underlying33 rfl z33 rfl (r_t rfl r_nil)) rfl ⟨_, rfl, uy20_0, vy20_0, rfl, A109.fo K112 rfl z.l, z.ky K112⟩
noncomputable def spec_TupleOk.f (a0 : Tuple) : Option (Bool) :=
 ((spec_l5in.f a0.Xmin (1 : Int) (400 : Int)).bind fun r5 => ((if r5 = true then ((spec_l5in.f a0.Xmax (0 : Int) (400 : Int)).bind fun r9 => (some r9)) else (some false)).bind fun y7 => ((if y7 = true then ((spec_KeyOk.f a0.Key).bind fun r19 => (some r19)) else (some false)).bind fun y17 => ((if y17 = true then ((spec_ItemOk.f a0.Value).bind fun r27 => (some r27)) else (some false)).bind fun y25 => (some (y25 && (a0.Value.Kind != (0 : Int))))))))
def spec_TupleOk.Q (w : World) (F : Nat → Prop) (r : Bool) (v : Value) (w' : World) : Prop :=
 v = (.bool r) ∧ Ky [] w w'
set_option maxHeartbeats 4000000 in
set_option maxRecDepth 100000 in
theorem spec_TupleOk.calls (a0 : Tuple) (w : World) (F : Nat → Prop) (w0_0 : Value) (w0_1 : Value) (w0_2 : Value) (w0_3 : Value) (h0_0 : Kd.flt.rd w [w0_0] a0.Key.F F) (h0_1 : (Kd.sl 5 (Kd.int .u8)).rd w [w0_1] a0.Key.T F) (h0_2 : Kd.flt.rd w [w0_2] a0.Value.F F) (h0_3 : (Kd.sl 5 (Kd.int .u8)).rd w [w0_3] a0.Value.T F) (r : Bool) (m : spec_TupleOk.f a0 = some r) :
  Calls Tryz.prog 109 #[(.agg #[(.int .i64 a0.Xmin), (.int .i64 a0.Xmax), (.int .i64 a0.Key.Kind), (.int .i64 a0.Key.N), w0_0, w0_1, (.int .i64 a0.Value.Kind), (.int .i64 a0.Value.N), w0_2, w0_3])] w fun en w' => ∃ v, en = .returned v ∧ spec_TupleOk.Q w F r v w' := by
 obtain ⟨s0, rfl, kp0, z⟩ := start0 w F
 have A0_0 := fl_of h0_0
 have A0_1 := z.rd h0_1
 have A0_2 := fl_of h0_2
 have A0_3 := z.rd h0_3
 refine calls_of_TM (args := [(.agg #[(.int .i64 a0.Xmin), (.int .i64 a0.Xmax), (.int .i64 a0.Key.Kind), (.int .i64 a0.Key.N), w0_0, w0_1, (.int .i64 a0.Value.Kind), (.int .i64 a0.Value.N), w0_2, w0_3])]) (R := fun r en w' => ∃ v, en = .returned v ∧ spec_TupleOk.Q s0.w F r v w') Tryz.func109 Tryz.ntmps109 rfl rfl m ?_
 unfold spec_TupleOk.f
 refine sr ?_
 refine bx (cs := [(.int .i64 a0.Xmin), (.int .i64 a0.Xmax), (.int .i64 a0.Key.Kind), (.int .i64 a0.Key.N), w0_0, w0_1, (.int .i64 a0.Value.Kind), (.int .i64 a0.Value.N), w0_2, w0_3]) 40 rfl rfl rfl rfl rfl rfl (fun b3 s3 p3 B3 => ?_)
 refine pu rfl rfl rfl rfl rfl ?_
 refine dn ?_
 refine sr ?_
 refine fa fa58_0 rfl rfl rfl rfl rfl rfl ?_
 refine ld B3 Tryz.underlying3 rfl rfl rfl rfl rfl rfl rfl rfl ?_
 refine cl rfl rfl rfl rfl rfl Tryz.func96 rfl rfl rfl (fun r5 m5 => spec_l5in.calls a0.Xmin (1 : Int) (400 : Int) s3.w (fun b => memb [] (s3.g b) = true)  r5 m5) ?_
 rintro r5 _ w5 m5 ⟨rfl, ky5⟩
 obtain ⟨s6, rfl, p6, n6⟩ := nwx s3 w5 41 ky5
 refine pu rfl rfl rfl rfl rfl ?_
 refine ji [8, 9, 10, 11, 12, 13, 14, 15, 16, 17, 18, 19, 20, 21, 22, 23, 24] (fun (y7 : Bool) (e : Env) (w : World) => ∃ (s : St) (e0 : Env), w = s.w ∧ e = upd (upd e0 1 (.pointer (some ⟨b3, 0, none⟩))) 10 (.bool y7) ∧ Kp s0 s ∧ BlF s b3 58 [(.int .i64 a0.Xmin), (.int .i64 a0.Xmax), (.int .i64 a0.Key.Kind), (.int .i64 a0.Key.N), w0_0, w0_1, (.int .i64 a0.Value.Kind), (.int .i64 a0.Value.N), w0_2, w0_3] 40) (fun Gj7 Kj7 => ?_) ?_
 ·
  rcases Bool.eq_false_or_eq_true r5 with hb7 | hb7
  ·
   refine sbT hb7 ?_
   rw [if_pos hb7]
   refine fa fa58_1 rfl rfl rfl rfl rfl rfl ?_
   have A8 := (BlF.st B3 p6 rfl)
   refine ld A8 Tryz.underlying3 rfl rfl rfl rfl rfl rfl rfl rfl ?_
   refine cl rfl rfl rfl rfl rfl Tryz.func96 rfl rfl rfl (fun r9 m9 => spec_l5in.calls a0.Xmax (0 : Int) (400 : Int) s6.w (fun b => memb [] (s6.g b) = true)  r9 m9) ?_
   rintro r9 _ w9 m9 ⟨rfl, ky9⟩
   obtain ⟨s10, rfl, p10, n10⟩ := nwx s6 w9 42 ky9
   refine pu rfl rfl rfl rfl rfl ?_
   have A11 := (BlF.st A8 p10 rfl)
   have K12 := (((kp0.st p3 rfl).st p6 rfl).st p10 rfl)
   exact Kj7 _ _ _ ⟨s10, _, rfl, (ue (ue rfl rfl) rfl), K12, A11⟩
  ·
   refine sbT hb7 ?_
   rw [if_neg (by rw [hb7]; decide)]
   refine uw rfl rfl rfl rfl ?_
   refine uw rfl rfl rfl rfl ?_
   refine uw rfl rfl rfl rfl ?_
   refine pu rfl rfl rfl rfl rfl ?_
   have A13 := (BlF.st B3 p6 rfl)
   have K14 := ((kp0.st p3 rfl).st p6 rfl)
   exact Kj7 _ _ _ ⟨s6, _, rfl, (ue (ue rfl rfl) rfl), K14, A13⟩
 rintro y7 _ _ ⟨s15, _, rfl, rfl, Ky7, By7_b3⟩
 refine pu rfl rfl rfl rfl rfl ?_
 refine ji [13, 14, 15, 16, 17, 18, 19, 20, 21, 22, 23, 24] (fun (y17 : Bool) (e : Env) (w : World) => ∃ (s : St) (e0 : Env), w = s.w ∧ e = upd (upd e0 1 (.pointer (some ⟨b3, 0, none⟩))) 15 (.bool y17) ∧ Kp s0 s ∧ BlF s b3 58 [(.int .i64 a0.Xmin), (.int .i64 a0.Xmax), (.int .i64 a0.Key.Kind), (.int .i64 a0.Key.N), w0_0, w0_1, (.int .i64 a0.Value.Kind), (.int .i64 a0.Value.N), w0_2, w0_3] 40) (fun Gj17 Kj17 => ?_) ?_
 ·
  rcases Bool.eq_false_or_eq_true y7 with hb17 | hb17
  ·
   refine sbT hb17 ?_
   rw [if_pos hb17]
   refine fa fa58_2 rfl rfl rfl rfl rfl rfl ?_
   refine lda (es := [(.int .i64 a0.Key.Kind), (.int .i64 a0.Key.N), w0_0, w0_1]) By7_b3 Tryz.underlying33 z33 rfl rfl rfl rfl rfl rfl rfl rfl ?_
   have A18 := (A0_1.kp Ky7)
   refine cl rfl rfl rfl rfl rfl Tryz.func66 rfl rfl rfl (fun r19 m19 => spec_KeyOk.calls a0.Key s15.w (fun b => memb [0] (s15.g b) = true) w0_0 w0_1 ((fl_rdf (s := s15) A0_0).sub (D := [0]) rfl) A18 r19 m19) ?_
   rintro r19 _ w19 m19 ⟨rfl, ky19⟩
   obtain ⟨s20, rfl, p20, n20⟩ := nwx s15 w19 43 ky19
   refine pu rfl rfl rfl rfl rfl ?_
   have A21 := (BlF.st By7_b3 p20 rfl)
   have K22 := (Ky7.st p20 rfl)
   exact Kj17 _ _ _ ⟨s20, _, rfl, (ue (ue rfl rfl) rfl), K22, A21⟩
  ·
   refine sbT hb17 ?_
   rw [if_neg (by rw [hb17]; decide)]
   refine uw rfl rfl rfl rfl ?_
   refine uw rfl rfl rfl rfl ?_
   refine uw rfl rfl rfl rfl ?_
   refine pu rfl rfl rfl rfl rfl ?_
   exact Kj17 _ _ _ ⟨s15, _, rfl, (ue (ue rfl rfl) rfl), Ky7, By7_b3⟩
 rintro y17 _ _ ⟨s23, _, rfl, rfl, Ky17, By17_b3⟩
 refine pu rfl rfl rfl rfl rfl ?_
 refine ji [18, 19, 20, 21, 22, 23, 24] (fun (y25 : Bool) (e : Env) (w : World) => ∃ (s : St) (e0 : Env), w = s.w ∧ e = upd (upd e0 1 (.pointer (some ⟨b3, 0, none⟩))) 20 (.bool y25) ∧ Kp s0 s ∧ BlF s b3 58 [(.int .i64 a0.Xmin), (.int .i64 a0.Xmax), (.int .i64 a0.Key.Kind), (.int .i64 a0.Key.N), w0_0, w0_1, (.int .i64 a0.Value.Kind), (.int .i64 a0.Value.N), w0_2, w0_3] 40) (fun Gj25 Kj25 => ?_) ?_
 ·
  rcases Bool.eq_false_or_eq_true y17 with hb25 | hb25
  ·
   refine sbT hb25 ?_
   rw [if_pos hb25]
   refine fa fa58_3 rfl rfl rfl rfl rfl rfl ?_
   refine lda (es := [(.int .i64 a0.Value.Kind), (.int .i64 a0.Value.N), w0_2, w0_3]) By17_b3 Tryz.underlying33 z33 rfl rfl rfl rfl rfl rfl rfl rfl ?_
   have A26 := (A0_3.kp Ky17)
   refine cl rfl rfl rfl rfl rfl Tryz.func150 rfl rfl rfl (fun r27 m27 => spec_ItemOk.calls a0.Value s23.w (fun b => memb [0] (s23.g b) = true) w0_2 w0_3 ((fl_rdf (s := s23) A0_2).sub (D := [0]) rfl) A26 r27 m27) ?_
   rintro r27 _ w27 m27 ⟨rfl, ky27⟩
   obtain ⟨s28, rfl, p28, n28⟩ := nwx s23 w27 44 ky27
   refine pu rfl rfl rfl rfl rfl ?_
   have A29 := (BlF.st By17_b3 p28 rfl)
   have K30 := (Ky17.st p28 rfl)
   exact Kj25 _ _ _ ⟨s28, _, rfl, (ue (ue rfl rfl) rfl), K30, A29⟩
  ·
   refine sbT hb25 ?_
   rw [if_neg (by rw [hb25]; decide)]
   refine uw rfl rfl rfl rfl ?_
   refine uw rfl rfl rfl rfl ?_
   refine uw rfl rfl rfl rfl ?_
   refine pu rfl rfl rfl rfl rfl ?_
   exact Kj25 _ _ _ ⟨s23, _, rfl, (ue (ue rfl rfl) rfl), Ky17, By17_b3⟩
 rintro y25 _ _ ⟨s31, _, rfl, rfl, Ky25, By25_b3⟩
 refine pu rfl rfl rfl rfl rfl ?_
 refine jy [21, 22, 23, 24, 25, 26] [24] 26 (.bool (y25 && (a0.Value.Kind != (0 : Int)))) rfl (fun Kg33 => ?_) (fun j33 => ?_)
 ·
  rcases Bool.eq_false_or_eq_true y25 with hb33 | hb33
  ·
   refine sbT hb33 ?_
   refine fa fa58_3 rfl rfl rfl rfl rfl rfl ?_
   refine fa fa33_0 rfl rfl rfl rfl rfl rfl ?_
   refine ld By25_b3 Tryz.underlying3 rfl rfl rfl rfl rfl rfl rfl rfl ?_
   refine pu rfl rfl rfl rfl rfl ?_
   refine pu rfl rfl rfl rfl rfl ?_
   exact Kg33 _ (Ag.put ((Ag.put ((Ag.put ((Ag.put ((Ag.put (Ag.base rfl) rfl)) rfl)) rfl)) rfl)) rfl) (by rw [hb33]; rfl)
  ·
   refine sbT hb33 ?_
   refine uw rfl rfl rfl rfl ?_
   refine uw rfl rfl rfl rfl ?_
   refine uw rfl rfl rfl rfl ?_
   refine uw rfl rfl rfl rfl ?_
   refine pu rfl rfl rfl rfl rfl ?_
   exact Kg33 _ (Ag.put ((Ag.put ((Ag.put ((Ag.put ((Ag.put (Ag.base rfl) rfl)) rfl)) rfl)) rfl)) rfl) (by rw [hb33]; rfl)
 refine pu rfl rfl rfl rfl rfl ?_
 refine dn ?_
 exact re rfl Tryz.func109 rfl (r_t rfl r_nil) rfl ⟨_, rfl, rfl, z.ky Ky25⟩
noncomputable def spec_PutNum.b0 (a1 : Int) (x4 : Int × (List Int) × Int) : Option ((Int × (List Int) × Int) ⊕ (List Int)) :=
 (if (decide (x4.2.2 < a1)) = true then (if x4.2.1.length + ([(IntKind.wrap .u8 (x4.1.tmod (256 : Int)))]).length ≤ Lim then (some (Sum.inl ((IntKind.wrap .i64 (x4.1.tdiv (256 : Int))), (x4.2.1 ++ [(IntKind.wrap .u8 (x4.1.tmod (256 : Int)))]), (IntKind.wrap .i64 (x4.2.2 + (1 : Int)))))) else none) else ((if (decide (x4.1 > (0 : Int))) = true then (some ([] : (List Int))) else (some x4.2.1)).bind fun o => some (Sum.inr o)))
noncomputable def spec_PutNum.f (a0 : Int) (a1 : Int) : Option ((List Int)) :=
 (if (((decide (a1 < (1 : Int))) || (decide (a1 > (8 : Int)))) || (decide (a0 < (0 : Int)))) = true then (some ([] : (List Int))) else (iter (spec_PutNum.b0 a1) (a0, ([] : (List Int)), (0 : Int))))
def spec_PutNum.Q (w : World) (F : Nat → Prop) (r : (List Int)) (v : Value) (w' : World) : Prop :=
 FO (Kd.sl 5 (Kd.int .u8)) w w' [v] r ∧ Ky [] w w'
set_option maxHeartbeats 4000000 in
set_option maxRecDepth 100000 in
theorem spec_PutNum.calls (a0 : Int) (a1 : Int) (w : World) (F : Nat → Prop)   (r : (List Int)) (m : spec_PutNum.f a0 a1 = some r) :
  Calls Tryz.prog 188 #[(.int .i64 a0), (.int .i64 a1)] w fun en w' => ∃ v, en = .returned v ∧ spec_PutNum.Q w F r v w' := by
 obtain ⟨s0, rfl, kp0, z⟩ := start0 w F
 refine calls_of_TM (args := [(.int .i64 a0), (.int .i64 a1)]) (R := fun r en w' => ∃ v, en = .returned v ∧ spec_PutNum.Q s0.w F r v w') Tryz.func188 Tryz.ntmps188 rfl rfl m ?_
 unfold spec_PutNum.f
 refine sr ?_
 refine pu rfl rfl rfl rfl rfl ?_
 refine dn ?_
 refine sr ?_
 refine pu rfl rfl rfl rfl rfl ?_
 refine dn ?_
 refine sq ?_
 refine sr ?_
 refine pu rfl rfl rfl rfl rfl ?_
 refine pu rfl rfl rfl rfl rfl ?_
 refine pu rfl rfl rfl rfl rfl ?_
 refine jy [9, 10, 11, 12] [6, 7, 8, 9] 12 (.bool ((decide (a1 < (1 : Int))) || (decide (a1 > (8 : Int))))) rfl (fun Kg1 => ?_) (fun j1 => ?_)
 ·
  rcases Bool.eq_false_or_eq_true (decide (a1 < (1 : Int))) with hb1 | hb1
  ·
   refine sbT hb1 ?_
   refine uw rfl rfl rfl rfl ?_
   refine uw rfl rfl rfl rfl ?_
   refine pu rfl rfl rfl rfl rfl ?_
   exact Kg1 _ (Ag.put ((Ag.put ((Ag.put (Ag.base rfl) rfl)) rfl)) rfl) (by rw [hb1]; rfl)
  ·
   refine sbT hb1 ?_
   refine pu rfl rfl rfl rfl rfl ?_
   refine pu rfl rfl rfl rfl rfl ?_
   refine pu rfl rfl rfl rfl rfl ?_
   exact Kg1 _ (Ag.put ((Ag.put ((Ag.put (Ag.base rfl) rfl)) rfl)) rfl) (by rw [hb1]; rfl)
 refine pu rfl rfl rfl rfl rfl ?_
 refine jy [13, 14, 15, 16] [] 16 (.bool (((decide (a1 < (1 : Int))) || (decide (a1 > (8 : Int)))) || (decide (a0 < (0 : Int))))) rfl (fun Kg2 => ?_) (fun j2 => ?_)
 ·
  rcases Bool.eq_false_or_eq_true ((decide (a1 < (1 : Int))) || (decide (a1 > (8 : Int)))) with hb2 | hb2
  ·
   refine sbT hb2 ?_
   refine uw rfl rfl rfl rfl ?_
   refine uw rfl rfl rfl rfl ?_
   refine pu rfl rfl rfl rfl rfl ?_
   exact Kg2 _ (Ag.put ((Ag.put ((Ag.put (Ag.base rfl) rfl)) rfl)) rfl) (by rw [hb2]; rfl)
  ·
   refine sbT hb2 ?_
   refine pu rfl rfl rfl rfl rfl ?_
   refine pu rfl rfl rfl rfl rfl ?_
   refine pu rfl rfl rfl rfl rfl ?_
   exact Kg2 _ (Ag.put ((Ag.put ((Ag.put (Ag.base rfl) rfl)) rfl)) rfl) (by rw [hb2]; rfl)
 refine dn ?_
 refine cd rfl (fun h3 => ?_) (fun h3 => ?_)
 ·
  refine sr ?_
  refine pu rfl rfl rfl rfl rfl ?_
  refine pu rfl rfl rfl rfl rfl ?_
  refine dn ?_
  exact re rfl Tryz.func188 rfl (r_t rfl r_nil) rfl ⟨_, rfl, (ow_nil 5 (Kd.int .u8) s0 40).fo kp0 rfl z.l, z.ky kp0⟩
 ·
  refine sk ?_
  refine sq ?_
  refine sr ?_
  refine pu rfl rfl rfl rfl rfl ?_
  refine dn ?_
  refine bl ?_
  refine lpI (fun (x4 : Int × (List Int) × Int) (e : Env) (w : World) => ∃ (s : St) (e0 : Env) (vx4_0 : Value), w = s.w ∧ e = upd (upd (upd (upd e0 0 (.int .i64 x4.1)) 1 (.int .i64 a1)) 5 vx4_0) 6 (.int .i64 x4.2.2) ∧ Kp s0 s ∧ OwF (Kd.sl 5 (Kd.int .u8)) s [vx4_0] x4.2.1 40) ⟨s0, _, (.slice none 0 0), rfl, (ue (ue (ue (ue rfl rfl) rfl) rfl) rfl), kp0, (ow_nil 5 (Kd.int .u8) _ 40)⟩ (fun g4 ih4 => ?_)
  rintro x4 _ _ ⟨s5, _, vx4_0, rfl, rfl, Kx4, Ax4_0⟩
  unfold spec_PutNum.b0
  refine sq ?_
  refine sr ?_
  refine pu rfl rfl rfl rfl rfl ?_
  refine pu rfl rfl rfl rfl rfl ?_
  refine pu rfl rfl rfl rfl rfl ?_
  refine dn ?_
  refine cd rfl (fun h7 => ?_) (fun h7 => ?_)
  ·
   refine sk ?_
   refine sq ?_
   refine bl ?_
   refine sr ?_
   refine mv vx4_0 rfl rfl rfl rfl rfl rfl ?_
   refine pu rfl rfl rfl rfl rfl ?_
   refine remK rfl rfl rfl rfl rfl rfl rfl rfl ?_
   refine cv Tryz.underlying5 Tryz.underlying3 rfl rfl rfl rfl rfl rfl ?_
   refine ltF (K := (Kd.int .u8)) (cells := [(.int .u8 (IntKind.wrap .u8 (x4.1.tmod (256 : Int))))]) [(IntKind.wrap .u8 (x4.1.tmod (256 : Int)))] 41 fl_int Tryz.underlying24 z5 o5 (fun w => (els_flat _ _ _)) rfl rfl rfl rfl rfl rfl rfl rfl rfl rfl (fun v8 s8 p8 A8 => ?_)
   have A10 := (Ax4_0.st p8 rfl)
   refine apF fl_int sl24 A10 A8.rd rfl rfl rfl rfl rfl rfl rfl (fun v11 s11 p11 A11 => ?_)
   refine asg v11 rfl rfl rfl rfl rfl rfl ?_
   refine dn ?_
   refine rg ?_
   refine pu rfl rfl rfl rfl rfl ?_
   refine quoK rfl rfl rfl rfl rfl rfl rfl rfl ?_
   refine pu rfl rfl rfl rfl rfl ?_
   refine dn ?_
   refine ib ?_
   refine rg ?_
   refine pu rfl rfl rfl rfl rfl ?_
   refine pu rfl rfl rfl rfl rfl ?_
   refine pu rfl rfl rfl rfl rfl ?_
   refine dn ?_
   have K13 := ((Kx4.st p8 rfl).st p11 rfl)
   exact lb ih4 ⟨s11, _, v11, rfl, (ue (ue (ue (ue rfl rfl) rfl) rfl) rfl), K13, A11⟩
  ·
   refine xt rfl ?_
   refine sgb ?_
   refine sq ?_
   refine sr ?_
   refine pu rfl rfl rfl rfl rfl ?_
   refine pu rfl rfl rfl rfl rfl ?_
   refine dn ?_
   refine cd rfl (fun h14 => ?_) (fun h14 => ?_)
   ·
    refine sr ?_
    refine pu rfl rfl rfl rfl rfl ?_
    refine dn ?_
    exact re rfl Tryz.func188 rfl (r_t rfl r_nil) rfl ⟨_, rfl, (ow_nil 5 (Kd.int .u8) s5 40).fo Kx4 rfl z.l, z.ky Kx4⟩
   ·
    refine sk ?_
    refine sr ?_
    refine mv vx4_0 rfl rfl rfl rfl rfl rfl ?_
    refine asg vx4_0 rfl rfl rfl rfl rfl rfl ?_
    refine dn ?_
    exact re rfl Tryz.func188 rfl (r_t rfl r_nil) rfl ⟨_, rfl, Ax4_0.fo Kx4 rfl z.l, z.ky Kx4⟩
noncomputable def spec_TupleBytes.f (a0 : Tuple) : Option ((List Int)) :=
 ((spec_TupleOk.f a0).bind fun r8 => (if (!r8) = true then (some ([] : (List Int))) else ((spec_KeyBytes.f a0.Key).bind fun r15 => ((spec_ValueBytes.f a0.Value).bind fun r21 => ((spec_PutNum.f a0.Xmin (4 : Int)).bind fun r25 => ((spec_PutNum.f a0.Xmax (4 : Int)).bind fun r29 => (if r25.length + r29.length ≤ Lim then (if (r25 ++ r29).length + ([(IntKind.wrap .u8 (r15.length : Int))]).length ≤ Lim then (if ((r25 ++ r29) ++ [(IntKind.wrap .u8 (r15.length : Int))]).length + r15.length ≤ Lim then (if (((r25 ++ r29) ++ [(IntKind.wrap .u8 (r15.length : Int))]) ++ r15).length + ([(IntKind.wrap .u8 (r21.length : Int))]).length ≤ Lim then (if ((((r25 ++ r29) ++ [(IntKind.wrap .u8 (r15.length : Int))]) ++ r15) ++ [(IntKind.wrap .u8 (r21.length : Int))]).length + r21.length ≤ Lim then (some (((((r25 ++ r29) ++ [(IntKind.wrap .u8 (r15.length : Int))]) ++ r15) ++ [(IntKind.wrap .u8 (r21.length : Int))]) ++ r21)) else none) else none) else none) else none) else none)))))))
def spec_TupleBytes.Q (w : World) (F : Nat → Prop) (r : (List Int)) (v : Value) (w' : World) : Prop :=
 FO (Kd.sl 5 (Kd.int .u8)) w w' [v] r ∧ Ky [] w w'
set_option maxHeartbeats 4000000 in
set_option maxRecDepth 100000 in
theorem spec_TupleBytes.calls (a0 : Tuple) (w : World) (F : Nat → Prop) (w0_0 : Value) (w0_1 : Value) (w0_2 : Value) (w0_3 : Value) (h0_0 : Kd.flt.rd w [w0_0] a0.Key.F F) (h0_1 : (Kd.sl 5 (Kd.int .u8)).rd w [w0_1] a0.Key.T F) (h0_2 : Kd.flt.rd w [w0_2] a0.Value.F F) (h0_3 : (Kd.sl 5 (Kd.int .u8)).rd w [w0_3] a0.Value.T F) (r : (List Int)) (m : spec_TupleBytes.f a0 = some r) :
  Calls Tryz.prog 99 #[(.agg #[(.int .i64 a0.Xmin), (.int .i64 a0.Xmax), (.int .i64 a0.Key.Kind), (.int .i64 a0.Key.N), w0_0, w0_1, (.int .i64 a0.Value.Kind), (.int .i64 a0.Value.N), w0_2, w0_3])] w fun en w' => ∃ v, en = .returned v ∧ spec_TupleBytes.Q w F r v w' := by
 obtain ⟨s0, rfl, kp0, z⟩ := start0 w F
 have A0_0 := fl_of h0_0
 have A0_1 := z.rd h0_1
 have A0_2 := fl_of h0_2
 have A0_3 := z.rd h0_3
 refine calls_of_TM (args := [(.agg #[(.int .i64 a0.Xmin), (.int .i64 a0.Xmax), (.int .i64 a0.Key.Kind), (.int .i64 a0.Key.N), w0_0, w0_1, (.int .i64 a0.Value.Kind), (.int .i64 a0.Value.N), w0_2, w0_3])]) (R := fun r en w' => ∃ v, en = .returned v ∧ spec_TupleBytes.Q s0.w F r v w') Tryz.func99 Tryz.ntmps99 rfl rfl m ?_
 unfold spec_TupleBytes.f
 refine sr ?_
 refine bx (cs := [(.int .i64 a0.Xmin), (.int .i64 a0.Xmax), (.int .i64 a0.Key.Kind), (.int .i64 a0.Key.N), w0_0, w0_1, (.int .i64 a0.Value.Kind), (.int .i64 a0.Value.N), w0_2, w0_3]) 40 rfl rfl rfl rfl rfl rfl (fun b3 s3 p3 B3 => ?_)
 refine pu rfl rfl rfl rfl rfl ?_
 refine dn ?_
 refine sq ?_
 refine sr ?_
 refine lda (es := [(.int .i64 a0.Xmin), (.int .i64 a0.Xmax), (.int .i64 a0.Key.Kind), (.int .i64 a0.Key.N), w0_0, w0_1, (.int .i64 a0.Value.Kind), (.int .i64 a0.Value.N), w0_2, w0_3]) B3 Tryz.underlying58 z58 rfl rfl rfl rfl rfl rfl rfl rfl ?_
 have K5 := (kp0.st p3 rfl)
 have A6 := (A0_1.kp K5)
 have A7 := (A0_3.kp K5)
 refine cl rfl rfl rfl rfl rfl Tryz.func109 rfl rfl rfl (fun r8 m8 => spec_TupleOk.calls a0 s3.w (fun b => memb [0] (s3.g b) = true) w0_0 w0_1 w0_2 w0_3 ((fl_rdf (s := s3) A0_0).sub (D := [0]) rfl) A6 ((fl_rdf (s := s3) A0_2).sub (D := [0]) rfl) A7 r8 m8) ?_
 rintro r8 _ w8 m8 ⟨rfl, ky8⟩
 obtain ⟨s9, rfl, p9, n9⟩ := nwx s3 w8 41 ky8
 refine pu rfl rfl rfl rfl rfl ?_
 refine dn ?_
 refine cd rfl (fun h10 => ?_) (fun h10 => ?_)
 ·
  refine sr ?_
  refine pu rfl rfl rfl rfl rfl ?_
  refine dn ?_
  have K11 := (K5.st p9 rfl)
  exact re rfl Tryz.func99 rfl (r_t rfl r_nil) rfl ⟨_, rfl, (ow_nil 5 (Kd.int .u8) s9 40).fo K11 rfl z.l, z.ky K11⟩
 ·
  refine sk ?_
  refine sr ?_
  refine fa fa58_2 rfl rfl rfl rfl rfl rfl ?_
  have A12 := (BlF.st B3 p9 rfl)
  refine lda (es := [(.int .i64 a0.Key.Kind), (.int .i64 a0.Key.N), w0_0, w0_1]) A12 Tryz.underlying33 z33 rfl rfl rfl rfl rfl rfl rfl rfl ?_
  have K13 := (K5.st p9 rfl)
  have A14 := (A0_1.kp K13)
  refine cl rfl rfl rfl rfl rfl Tryz.func186 rfl rfl rfl (fun r15 m15 => spec_KeyBytes.calls a0.Key s9.w (fun b => memb [0] (s9.g b) = true) w0_0 w0_1 ((fl_rdf (s := s9) A0_0).sub (D := [0]) rfl) A14 r15 m15) ?_
  rintro r15 v15_0 w15 m15 ⟨f15_0, ky15⟩
  obtain ⟨s16, rfl, p16, n16⟩ := nwx s9 w15 42 ky15
  have A15_0 := f15_0.c n16
  refine asg v15_0 rfl rfl rfl rfl rfl rfl ?_
  refine dn ?_
  refine sr ?_
  refine fa fa58_3 rfl rfl rfl rfl rfl rfl ?_
  have A18 := (BlF.st A12 p16 rfl)
  refine lda (es := [(.int .i64 a0.Value.Kind), (.int .i64 a0.Value.N), w0_2, w0_3]) A18 Tryz.underlying33 z33 rfl rfl rfl rfl rfl rfl rfl rfl ?_
  have K19 := (K13.st p16 rfl)
  have A20 := (A0_3.kp K19)
  refine cl rfl rfl rfl rfl rfl Tryz.func187 rfl rfl rfl (fun r21 m21 => spec_ValueBytes.calls a0.Value s16.w (fun b => memb [0] (s16.g b) = true) w0_2 w0_3 ((fl_rdf (s := s16) A0_2).sub (D := [0]) rfl) A20 r21 m21) ?_
  rintro r21 v21_0 w21 m21 ⟨f21_0, ky21⟩
  obtain ⟨s22, rfl, p22, n22⟩ := nwx s16 w21 43 ky21
  have A21_0 := f21_0.c n22
  refine asg v21_0 rfl rfl rfl rfl rfl rfl ?_
  refine dn ?_
  refine sr ?_
  refine fa fa58_0 rfl rfl rfl rfl rfl rfl ?_
  have A24 := (BlF.st A18 p22 rfl)
  refine ld A24 Tryz.underlying3 rfl rfl rfl rfl rfl rfl rfl rfl ?_
  refine cl rfl rfl rfl rfl rfl Tryz.func188 rfl rfl rfl (fun r25 m25 => spec_PutNum.calls a0.Xmin (4 : Int) s22.w (fun b => memb [] (s22.g b) = true)  r25 m25) ?_
  rintro r25 v25_0 w25 m25 ⟨f25_0, ky25⟩
  obtain ⟨s26, rfl, p26, n26⟩ := nwx s22 w25 44 ky25
  have A25_0 := f25_0.c n26
  refine asg v25_0 rfl rfl rfl rfl rfl rfl ?_
  refine dn ?_
  refine sr ?_
  refine mv v25_0 rfl rfl rfl rfl rfl rfl ?_
  refine fa fa58_1 rfl rfl rfl rfl rfl rfl ?_
  have A28 := (BlF.st A24 p26 rfl)
  refine ld A28 Tryz.underlying3 rfl rfl rfl rfl rfl rfl rfl rfl ?_
  refine cl rfl rfl rfl rfl rfl Tryz.func188 rfl rfl rfl (fun r29 m29 => spec_PutNum.calls a0.Xmax (4 : Int) s26.w (fun b => memb [] (s26.g b) = true)  r29 m29) ?_
  rintro r29 v29_0 w29 m29 ⟨f29_0, ky29⟩
  obtain ⟨s30, rfl, p30, n30⟩ := nwx s26 w29 45 ky29
  have A29_0 := f29_0.c n30
  have A32 := (A25_0.st p30 rfl)
  refine apF fl_int sl24 A32 A29_0.rd rfl rfl rfl rfl rfl rfl rfl (fun v33 s33 p33 A33 => ?_)
  refine asg v33 rfl rfl rfl rfl rfl rfl ?_
  refine dn ?_
  refine sr ?_
  refine mv v33 rfl rfl rfl rfl rfl rfl ?_
  refine mv v15_0 rfl rfl rfl rfl rfl rfl ?_
  have A35 := ((((A15_0.st p22 rfl).st p26 rfl).st p30 rfl).st p33 rfl)
  refine ln A35.rd Tryz.underlying24 rfl rfl rfl rfl rfl rfl ?_
  refine cv Tryz.underlying5 Tryz.underlying3 rfl rfl rfl rfl rfl rfl ?_
  refine ltF (K := (Kd.int .u8)) (cells := [(.int .u8 (IntKind.wrap .u8 (r15.length : Int)))]) [(IntKind.wrap .u8 (r15.length : Int))] 46 fl_int Tryz.underlying24 z5 o5 (fun w => (els_flat _ _ _)) rfl rfl rfl rfl rfl rfl rfl rfl rfl rfl (fun v36 s36 p36 A36 => ?_)
  have A38 := (A33.st p36 rfl)
  refine apF fl_int sl24 A38 A36.rd rfl rfl rfl rfl rfl rfl rfl (fun v39 s39 p39 A39 => ?_)
  refine asg v39 rfl rfl rfl rfl rfl rfl ?_
  refine dn ?_
  refine sr ?_
  refine mv v39 rfl rfl rfl rfl rfl rfl ?_
  refine mv v15_0 rfl rfl rfl rfl rfl rfl ?_
  have A41 := ((A35.st p36 rfl).st p39 rfl)
  refine apF fl_int sl24 A39 A41.rd rfl rfl rfl rfl rfl rfl rfl (fun v42 s42 p42 A42 => ?_)
  refine asg v42 rfl rfl rfl rfl rfl rfl ?_
  refine dn ?_
  refine sr ?_
  refine mv v42 rfl rfl rfl rfl rfl rfl ?_
  refine mv v21_0 rfl rfl rfl rfl rfl rfl ?_
  have A44 := ((((((A21_0.st p26 rfl).st p30 rfl).st p33 rfl).st p36 rfl).st p39 rfl).st p42 rfl)
  refine ln A44.rd Tryz.underlying24 rfl rfl rfl rfl rfl rfl ?_
  refine cv Tryz.underlying5 Tryz.underlying3 rfl rfl rfl rfl rfl rfl ?_
  refine ltF (K := (Kd.int .u8)) (cells := [(.int .u8 (IntKind.wrap .u8 (r21.length : Int)))]) [(IntKind.wrap .u8 (r21.length : Int))] 47 fl_int Tryz.underlying24 z5 o5 (fun w => (els_flat _ _ _)) rfl rfl rfl rfl rfl rfl rfl rfl rfl rfl (fun v45 s45 p45 A45 => ?_)
  have A47 := (A42.st p45 rfl)
  refine apF fl_int sl24 A47 A45.rd rfl rfl rfl rfl rfl rfl rfl (fun v48 s48 p48 A48 => ?_)
  refine asg v48 rfl rfl rfl rfl rfl rfl ?_
  refine dn ?_
  refine sr ?_
  refine mv v48 rfl rfl rfl rfl rfl rfl ?_
  refine mv v21_0 rfl rfl rfl rfl rfl rfl ?_
  have A50 := ((A44.st p45 rfl).st p48 rfl)
  refine apF fl_int sl24 A48 A50.rd rfl rfl rfl rfl rfl rfl rfl (fun v51 s51 p51 A51 => ?_)
  refine asg v51 rfl rfl rfl rfl rfl rfl ?_
  refine dn ?_
  have K53 := ((((((((((K19.st p22 rfl).st p26 rfl).st p30 rfl).st p33 rfl).st p36 rfl).st p39 rfl).st p42 rfl).st p45 rfl).st p48 rfl).st p51 rfl)
  exact re rfl Tryz.func99 rfl (r_t rfl r_nil) rfl ⟨_, rfl, A51.fo K53 rfl z.l, z.ky K53⟩
end Go.Proofs.YtcagjdngannneaaGreat
