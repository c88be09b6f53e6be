/- The functions as models, and that the calls come to what the models tell. -/
import Derived.Test.YtcagjdngannneaaXsa
set_option linter.unusedVariables false
set_option linter.unusedSimpArgs false
namespace Go.Proofs.Ytcagjdngannneaa
open Go V
noncomputable def laws_markItemS.b0  (x2 : (List Item) × Int × Int) : Option (((List Item) × Int × Int) ⊕ (Int × (List Item))) :=
 (if (decide (x2.2.2 < (x2.1.length : Int))) = true then (if 0 ≤ x2.2.2 ∧ x2.2.2 < (x2.1.length : Int) then (if 0 ≤ x2.2.2 ∧ x2.2.2 < ((x2.1.set (x2.2.2).toNat (Item.mk x2.2.1 (at_ x2.1 x2.2.2).N (at_ x2.1 x2.2.2).F (at_ x2.1 x2.2.2).T)).length : Int) then ((some ((x2.1.set (x2.2.2).toNat (Item.mk x2.2.1 (at_ x2.1 x2.2.2).N (at_ x2.1 x2.2.2).F (at_ x2.1 x2.2.2).T)).set (x2.2.2).toNat (Item.mk (at_ (x2.1.set (x2.2.2).toNat (Item.mk x2.2.1 (at_ x2.1 x2.2.2).N (at_ x2.1 x2.2.2).F (at_ x2.1 x2.2.2).T)) x2.2.2).Kind (IntKind.wrap .i64 (x2.2.1 + (1 : Int))) (at_ (x2.1.set (x2.2.2).toNat (Item.mk x2.2.1 (at_ x2.1 x2.2.2).N (at_ x2.1 x2.2.2).F (at_ x2.1 x2.2.2).T)) x2.2.2).F (at_ (x2.1.set (x2.2.2).toNat (Item.mk x2.2.1 (at_ x2.1 x2.2.2).N (at_ x2.1 x2.2.2).F (at_ x2.1 x2.2.2).T)) x2.2.2).T))).bind fun y16 => (if 0 ≤ x2.2.2 ∧ x2.2.2 < (y16.length : Int) then ((some (y16.set (x2.2.2).toNat (Item.mk (at_ y16 x2.2.2).Kind (at_ y16 x2.2.2).N (FloatKind.f64.nearest (IntKind.wrap .i64 ((IntKind.wrap .i64 (x2.2.1 + (1 : Int))) + (1 : Int)))) (at_ y16 x2.2.2).T))).bind fun y23 => (if 0 ≤ x2.2.2 ∧ x2.2.2 < (y23.length : Int) then ((laws_markByteS.f ((at_ y23 x2.2.2).T) (IntKind.wrap .i64 ((IntKind.wrap .i64 ((IntKind.wrap .i64 (x2.2.1 + (1 : Int))) + (1 : Int))) + (1 : Int)))).bind fun r27 => (some (Sum.inl ((y23.set (x2.2.2).toNat (Item.mk (at_ y23 x2.2.2).Kind (at_ y23 x2.2.2).N (at_ y23 x2.2.2).F r27.2)), r27.1, (IntKind.wrap .i64 (x2.2.2 + (1 : Int))))))) else none)) else none)) else none) else none) else ((some (x2.2.1, x2.1)).bind fun o => some (Sum.inr o)))
noncomputable def laws_markItemS.f (a0 : (List Item)) (a1 : Int) : Option (Int × (List Item)) :=
 (iter laws_markItemS.b0 (a0, a1, (0 : Int)))
def laws_markItemS.Q (w : World) (F : Nat → Prop) (os : List Nat) (w0_0 : Value) (r : Int × (List Item)) (v : Value) (w' : World) : Prop :=
 v = (.int .i64 r.1) ∧ FW (Kd.sl 48 kd48) os w w' [w0_0] r.2 ∧ Ky os w w'
set_option maxHeartbeats 4000000 in
set_option maxRecDepth 100000 in
theorem laws_markItemS.calls (a0 : (List Item)) (a1 : Int) (w : World) (F : Nat → Prop) (w0_0 : Value) (os : List Nat) (h0_0 : (Kd.sl 48 kd48).ow w [w0_0] a0 os) (hn : os.Nodup) (hF : ∀ b, F b → b ∉ os) (r : Int × (List Item)) (m : laws_markItemS.f a0 a1 = some r) :
  Calls Try.prog 60 #[w0_0, (.int .i64 a1)] w fun en w' => ∃ v, en = .returned v ∧ laws_markItemS.Q w F os w0_0 r v w' := by
 obtain ⟨s0, rfl, kp0, z⟩ := start1 w F os hF
 have A0_0 := z.ow h0_0 hn
 refine calls_of_TM (args := [w0_0, (.int .i64 a1)]) (R := fun r en w' => ∃ v, en = .returned v ∧ laws_markItemS.Q s0.w F os w0_0 r v w') Try.func60 Try.ntmps60 rfl rfl m ?_
 unfold laws_markItemS.f
 refine sr ?_
 refine pu rfl rfl rfl rfl rfl ?_
 refine dn ?_
 refine sq ?_
 refine sr ?_
 refine pu rfl rfl rfl rfl rfl ?_
 refine dn ?_
 refine bl ?_
 refine lpI (fun (x2 : (List Item) × Int × Int) (e : Env) (w : World) => ∃ (s : St) (e0 : Env), w = s.w ∧ e = upd (upd (upd e0 0 w0_0) 1 (.int .i64 x2.2.1)) 5 (.int .i64 x2.2.2) ∧ Kp s0 s ∧ OwF (Kd.sl 48 kd48) s [w0_0] x2.1 2) ⟨s0, _, rfl, (ue (ue (ue rfl rfl) rfl) rfl), kp0, A0_0⟩ (fun g2 ih2 => ?_)
 rintro x2 _ _ ⟨s3, _, rfl, rfl, Kx2, Ax2_0⟩
 unfold laws_markItemS.b0
 refine sq ?_
 refine sr ?_
 refine pu rfl rfl rfl rfl rfl ?_
 refine mv w0_0 rfl rfl rfl rfl rfl rfl ?_
 refine ln Ax2_0.rd Try.underlying57 rfl rfl rfl rfl rfl rfl ?_
 refine pu rfl rfl rfl rfl rfl ?_
 refine dn ?_
 refine cd rfl (fun h5 => ?_) (fun h5 => ?_)
 ·
  refine sk ?_
  refine sq ?_
  refine bl ?_
  refine sr ?_
  refine mv w0_0 rfl rfl rfl rfl rfl rfl ?_
  refine pu rfl rfl rfl rfl rfl ?_
  refine pu rfl rfl rfl rfl rfl ?_
  refine ix Ax2_0.rd Try.underlying57 z48 rfl rfl rfl rfl rfl rfl rfl rfl (fun ad6 es6 h0_6 h1_6 he6 ce6 ia6 => ?_)
  obtain ⟨v6_0, v6_1, rfl, A6_0, A6_1⟩ := op48 he6
  refine fa fa48_0 rfl rfl rfl rfl rfl rfl ?_
  refine so (x' := (Item.mk x2.2.1 (at_ x2.1 x2.2.2).N (at_ x2.1 x2.2.2).F (at_ x2.1 x2.2.2).T)) Ax2_0 ia6 h0_6 h1_6 (cs_iso (cs_left cs_flat)) z3 rfl rfl rfl rfl rfl rfl (fun s9 p9 A9 => ?_)
  refine dn ?_
  refine sr ?_
  refine pu rfl rfl rfl rfl rfl ?_
  refine pu rfl rfl rfl rfl rfl ?_
  refine pu rfl rfl rfl rfl rfl ?_
  refine dn ?_
  refine sr ?_
  refine mv w0_0 rfl rfl rfl rfl rfl rfl ?_
  refine pu rfl rfl rfl rfl rfl ?_
  refine pu rfl rfl rfl rfl rfl ?_
  refine ix A9.rd Try.underlying57 z48 rfl rfl rfl rfl rfl rfl rfl rfl (fun ad11 es11 h0_11 h1_11 he11 ce11 ia11 => ?_)
  obtain ⟨v11_0, v11_1, rfl, A11_0, A11_1⟩ := op48 he11
  refine fa fa48_1 rfl rfl rfl rfl rfl rfl ?_
  refine so (x' := (Item.mk (at_ (x2.1.set (x2.2.2).toNat (Item.mk x2.2.1 (at_ x2.1 x2.2.2).N (at_ x2.1 x2.2.2).F (at_ x2.1 x2.2.2).T)) x2.2.2).Kind (IntKind.wrap .i64 (x2.2.1 + (1 : Int))) (at_ (x2.1.set (x2.2.2).toNat (Item.mk x2.2.1 (at_ x2.1 x2.2.2).N (at_ x2.1 x2.2.2).F (at_ x2.1 x2.2.2).T)) x2.2.2).F (at_ (x2.1.set (x2.2.2).toNat (Item.mk x2.2.1 (at_ x2.1 x2.2.2).N (at_ x2.1 x2.2.2).F (at_ x2.1 x2.2.2).T)) x2.2.2).T)) A9 ia11 h0_11 h1_11 (cs_iso (cs_right (cs_left cs_flat))) z3 rfl rfl rfl rfl rfl rfl (fun s14 p14 A14 => ?_)
  refine nb (fun y16 h16 => ?_)
  have A16 : OwF (Kd.sl 48 kd48) s14 [w0_0] y16 2 := by rw [h16]; exact A14
  refine dn ?_
  refine sr ?_
  refine pu rfl rfl rfl rfl rfl ?_
  refine pu rfl rfl rfl rfl rfl ?_
  refine pu rfl rfl rfl rfl rfl ?_
  refine dn ?_
  refine sr ?_
  refine mv w0_0 rfl rfl rfl rfl rfl rfl ?_
  refine pu rfl rfl rfl rfl rfl ?_
  refine pu rfl rfl rfl rfl rfl ?_
  refine i2f Try.underlying36 Try.underlying3 rfl rfl rfl rfl rfl rfl (fun v17 A17 => ?_)
  refine ix A16.rd Try.underlying57 z48 rfl rfl rfl rfl rfl rfl rfl rfl (fun ad18 es18 h0_18 h1_18 he18 ce18 ia18 => ?_)
  obtain ⟨v18_0, v18_1, rfl, A18_0, A18_1⟩ := op48 he18
  refine fa fa48_2 rfl rfl rfl rfl rfl rfl ?_
  refine so (x' := (Item.mk (at_ y16 x2.2.2).Kind (at_ y16 x2.2.2).N (FloatKind.f64.nearest (IntKind.wrap .i64 ((IntKind.wrap .i64 (x2.2.1 + (1 : Int))) + (1 : Int)))) (at_ y16 x2.2.2).T)) A16 ia18 h0_18 h1_18 (cs_iso (cs_right (cs_right (cs_left (cs_flt A17))))) z36 rfl rfl rfl rfl rfl rfl (fun s21 p21 A21 => ?_)
  refine nb (fun y23 h23 => ?_)
  have A23 : OwF (Kd.sl 48 kd48) s21 [w0_0] y23 2 := by rw [h23]; exact A21
  refine dn ?_
  refine sr ?_
  refine pu rfl rfl rfl rfl rfl ?_
  refine pu rfl rfl rfl rfl rfl ?_
  refine pu rfl rfl rfl rfl rfl ?_
  refine dn ?_
  refine rg ?_
  refine mv w0_0 rfl rfl rfl rfl rfl rfl ?_
  refine pu rfl rfl rfl rfl rfl ?_
  refine ix A23.rd Try.underlying57 z48 rfl rfl rfl rfl rfl rfl rfl rfl (fun ad24 es24 h0_24 h1_24 he24 ce24 ia24 => ?_)
  obtain ⟨v24_0, v24_1, rfl, A24_0, A24_1⟩ := op48 he24
  refine fa fa48_3 rfl rfl rfl rfl rfl rfl ?_
  refine lc ce24 Try.underlying37 rfl rfl rfl rfl rfl rfl rfl rfl ?_
  refine pu rfl rfl rfl rfl rfl ?_
  obtain ⟨os27, ho27, hn27, hc27, put27⟩ := focus (ln_iso (fun x : Item => (x.Kind, x.N, x.F, x.T)) (fun x => x.T) (fun x y => (Item.mk x.Kind x.N x.F y)) (ln_right (ln_right (ln_right ln_sl))) (fun _ => rfl) (fun _ _ => rfl)) A23 h0_24 h1_24 ia24 ce24 rfl rfl
  refine cl rfl rfl rfl rfl rfl Try.func81 rfl rfl rfl (fun r27 m27 => laws_markByteS.calls ((at_ y23 x2.2.2).T) (IntKind.wrap .i64 ((IntKind.wrap .i64 ((IntKind.wrap .i64 (x2.2.1 + (1 : Int))) + (1 : Int))) + (1 : Int))) s21.w (fun b => memb [] (s21.g b) = true) v24_1 os27 ho27 hn27 (apart_of hc27 rfl) r27 m27) ?_
  rintro r27 _ w27 m27 ⟨rfl, w27_, ky27⟩
  obtain ⟨s28, rfl, p28, A28⟩ := put27 w27 _ 40 ky27 w27_
  refine pu rfl rfl rfl rfl rfl ?_
  refine dn ?_
  refine ib ?_
  refine rg ?_
  refine pu rfl rfl rfl rfl rfl ?_
  refine pu rfl rfl rfl rfl rfl ?_
  refine pu rfl rfl rfl rfl rfl ?_
  refine dn ?_
  have K30 := ((((Kx2.st p9 rfl).st p14 rfl).st p21 rfl).st p28 rfl)
  exact lb ih2 ⟨s28, _, rfl, (ue (ue (ue rfl rfl) rfl) rfl), K30, A28⟩
 ·
  refine xt rfl ?_
  refine sgb ?_
  refine sr ?_
  refine pu rfl rfl rfl rfl rfl ?_
  refine pu rfl rfl rfl rfl rfl ?_
  refine dn ?_
  exact re rfl Try.func60 rfl (r_t rfl r_nil) rfl ⟨_, rfl, rfl, z.fw Kx2 Ax2_0, z.ky Kx2⟩
noncomputable def spec_l3copy.f (a0 : Item) : Option (Item) :=
 (if ([] : (List Int)).length + a0.T.length ≤ Lim then (some (Item.mk a0.Kind a0.N a0.F (([] : (List Int)) ++ a0.T))) else none)
def spec_l3copy.Q (w : World) (F : Nat → Prop) (r : Item) (v : Value) (w' : World) : Prop :=
 ∃ (v0 : Value) (v1 : Value), v = (.agg #[(.int .i64 r.Kind), (.int .i64 r.N), v0, v1]) ∧ FO kd48 w w' [(.int .i64 r.Kind), (.int .i64 r.N), v0, v1] r ∧ Ky [] w w'
set_option maxHeartbeats 4000000 in
set_option maxRecDepth 100000 in
theorem spec_l3copy.calls (a0 : Item) (w : World) (F : Nat → Prop) (w0_0 : Value) (w0_1 : Value) (h0_0 : Kd.flt.rd w [w0_0] a0.F F) (h0_1 : (Kd.sl 5 (Kd.int .u8)).rd w [w0_1] a0.T F) (r : Item) (m : spec_l3copy.f a0 = some r) :
  Calls Try.prog 63 #[(.agg #[(.int .i64 a0.Kind), (.int .i64 a0.N), w0_0, w0_1])] w fun en w' => ∃ v, en = .returned v ∧ spec_l3copy.Q w F r v w' := by
 obtain ⟨s0, rfl, kp0, z⟩ := start0 w F
 have A0_0 := fl_of h0_0
 have A0_1 := z.rd h0_1
 refine calls_of_TM (args := [(.agg #[(.int .i64 a0.Kind), (.int .i64 a0.N), w0_0, w0_1])]) (R := fun r en w' => ∃ v, en = .returned v ∧ spec_l3copy.Q s0.w F r v w') Try.func63 Try.ntmps63 rfl rfl m ?_
 unfold spec_l3copy.f
 refine sr ?_
 refine bx (cs := [(.int .i64 a0.Kind), (.int .i64 a0.N), w0_0, w0_1]) 40 rfl rfl rfl rfl rfl rfl (fun b2 s2 p2 B2 => ?_)
 refine al (cs := [(.int .i64 (0 : Int)), (.int .i64 (0 : Int)), (.float .f64 0), (.slice none 0 0)]) 41 rfl rfl rfl rfl rfl o48 rfl (fun b4 s4 p4 B4 => ?_)
 refine dn ?_
 refine sr ?_
 refine lt0 (K := (Kd.int .u8)) 42 Try.underlying37 z5 rfl rfl rfl rfl rfl (fun v6 s6 p6 A6 => ?_)
 refine fa fa48_3 rfl rfl rfl rfl rfl rfl ?_
 have A8 := (BlF.st (BlF.st B2 p4 rfl) p6 rfl)
 refine ld A8 Try.underlying37 rfl rfl rfl rfl rfl rfl rfl rfl ?_
 have K9 := (((kp0.st p2 rfl).st p4 rfl).st p6 rfl)
 have A10 := (A0_1.kp K9)
 refine apF fl_int sl37 A6 A10 rfl rfl rfl rfl rfl rfl rfl (fun v11 s11 p11 A11 => ?_)
 refine fa fa48_3 rfl rfl rfl rfl rfl rfl ?_
 have A13 := (BlF.st A8 p11 rfl)
 refine sv A13 z37 rfl rfl rfl rfl rfl rfl A11.rd.one rfl (fun s14 p14 B14 => ?_)
 refine dn ?_
 refine sr ?_
 refine lda (es := [(.int .i64 a0.Kind), (.int .i64 a0.N), w0_0, v11]) B14 Try.underlying48 z48 rfl rfl rfl rfl rfl rfl rfl rfl ?_
 have A16 := (BlF.st (BlF.st (BlF.st B4 p6 rfl) p11 rfl) p14 rfl)
 have A17 := (A11.st p14 rfl)
 refine sva (vs := [(.int .i64 a0.Kind), (.int .i64 a0.N), w0_0, v11]) A16 z48 rfl rfl rfl rfl rfl rfl (on_cons rfl (on_cons rfl (on_cons (FL.one A0_0) (on_cons A17.rd.one on_nil)))) rfl (fun s18 p18 B18 => ?_)
 refine dn ?_
 have A21 := (A17.st p18 rfl)
 have A20 : OwF kd48 s18 [(.int .i64 a0.Kind), (.int .i64 a0.N), w0_0, v11] (Item.mk a0.Kind a0.N a0.F (([] : (List Int)) ++ a0.T)) 42 := (ow_isoz (fun x : Item => (x.Kind, x.N, x.F, x.T)) (Item.mk a0.Kind a0.N a0.F (([] : (List Int)) ++ a0.T)) (ow_l (fz_int .i64 a0.Kind) (ow_l (fz_int .i64 a0.N) (ow_l (fz_flt A0_0) A21))))
 have K23 := (((K9.st p11 rfl).st p14 rfl).st p18 rfl)
 exact re rfl Try.func63 rfl (r_b B18 Try.underlying48 rfl z48 rfl r_nil) rfl ⟨_, rfl, w0_0, v11, rfl, A20.fo K23 rfl z.l, z.ky K23⟩
noncomputable def spec_l5in.f (a0 : Int) (a1 : Int) (a2 : Int) : Option (Bool) :=
 (some ((decide (a0 ≥ a1)) && (decide (a0 ≤ a2))))
def spec_l5in.Q (w : World) (F : Nat → Prop) (r : Bool) (v : Value) (w' : World) : Prop :=
 v = (.bool r) ∧ Ky [] w w'
set_option maxHeartbeats 4000000 in
set_option maxRecDepth 100000 in
theorem spec_l5in.calls (a0 : Int) (a1 : Int) (a2 : Int) (w : World) (F : Nat → Prop)   (r : Bool) (m : spec_l5in.f a0 a1 a2 = some r) :
  Calls Try.prog 135 #[(.int .i64 a0), (.int .i64 a1), (.int .i64 a2)] w fun en w' => ∃ v, en = .returned v ∧ spec_l5in.Q w F r v w' := by
 obtain ⟨s0, rfl, kp0, z⟩ := start0 w F
 refine calls_of_TM (args := [(.int .i64 a0), (.int .i64 a1), (.int .i64 a2)]) (R := fun r en w' => ∃ v, en = .returned v ∧ spec_l5in.Q s0.w F r v w') Try.func135 Try.ntmps135 rfl rfl m ?_
 unfold spec_l5in.f
 refine sr ?_
 refine pu rfl rfl rfl rfl rfl ?_
 refine dn ?_
 refine sr ?_
 refine pu rfl rfl rfl rfl rfl ?_
 refine pu rfl rfl rfl rfl rfl ?_
 refine pu rfl rfl rfl rfl rfl ?_
 refine pu rfl rfl rfl rfl rfl ?_
 refine jy [10, 11, 12, 13, 14] [8] 14 (.bool ((decide (a0 ≥ a1)) && (decide (a0 ≤ a2)))) rfl (fun Kg1 => ?_) (fun j1 => ?_)
 ·
  rcases Bool.eq_false_or_eq_true (decide (a0 ≥ a1)) with hb1 | hb1
  ·
   refine sbT hb1 ?_
   refine pu rfl rfl rfl rfl rfl ?_
   refine pu rfl rfl rfl rfl rfl ?_
   refine pu rfl rfl rfl rfl rfl ?_
   refine pu rfl rfl rfl rfl rfl ?_
   exact Kg1 _ (Ag.put ((Ag.put ((Ag.put ((Ag.put (Ag.base rfl) rfl)) rfl)) rfl)) rfl) (by rw [hb1]; rfl)
  ·
   refine sbT hb1 ?_
   refine uw rfl rfl rfl rfl ?_
   refine uw rfl rfl rfl rfl ?_
   refine uw rfl rfl rfl rfl ?_
   refine pu rfl rfl rfl rfl rfl ?_
   exact Kg1 _ (Ag.put ((Ag.put ((Ag.put ((Ag.put (Ag.base rfl) rfl)) rfl)) rfl)) rfl) (by rw [hb1]; rfl)
 refine pu rfl rfl rfl rfl rfl ?_
 refine dn ?_
 exact re rfl Try.func135 rfl (r_t rfl r_nil) rfl ⟨_, rfl, rfl, z.ky kp0⟩
noncomputable def slices_Clone_byte_byte.f (a0 : (List Int)) : Option ((List Int)) :=
 (if ([] : (List Int)).length + a0.length ≤ Lim then (some (([] : (List Int)) ++ a0)) else none)
def slices_Clone_byte_byte.Q (w : World) (F : Nat → Prop) (r : (List Int)) (v : Value) (w' : World) : Prop :=
 FO (Kd.sl 5 (Kd.int .u8)) w w' [v] r ∧ Ky [] w w'
set_option maxHeartbeats 4000000 in
set_option maxRecDepth 100000 in
theorem slices_Clone_byte_byte.calls (a0 : (List Int)) (w : World) (F : Nat → Prop) (w0_0 : Value) (h0_0 : (Kd.sl 5 (Kd.int .u8)).rd w [w0_0] a0 F) (r : (List Int)) (m : slices_Clone_byte_byte.f a0 = some r) :
  Calls Try.prog 207 #[w0_0] w fun en w' => ∃ v, en = .returned v ∧ slices_Clone_byte_byte.Q w F r v w' := by
 obtain ⟨s0, rfl, kp0, z⟩ := start0 w F
 have A0_0 := z.rd h0_0
 refine calls_of_TM (args := [w0_0]) (R := fun r en w' => ∃ v, en = .returned v ∧ slices_Clone_byte_byte.Q s0.w F r v w') Try.func207 Try.ntmps207 rfl rfl m ?_
 unfold slices_Clone_byte_byte.f
 refine sr ?_
 refine pu rfl rfl rfl rfl rfl ?_
 refine dn ?_
 refine sq ?_
 refine sr ?_
 refine mv w0_0 rfl rfl rfl rfl rfl rfl ?_
 refine nq A0_0 Try.underlying37 rfl rfl rfl rfl rfl rfl rfl (fun nb2 hn2 => ?_)
 refine dn ?_
 refine cdb rfl (fun h3 => ?_) (fun h3 => ?_)
 ·
  obtain rfl := hn2 h3
  refine mg fun _ => ?_
  refine sr ?_
  refine pu rfl rfl rfl rfl rfl ?_
  refine dn ?_
  exact re rfl Try.func207 rfl (r_t rfl r_nil) rfl ⟨_, rfl, (ow_nil 5 (Kd.int .u8) s0 40).fo kp0 rfl z.l, z.ky kp0⟩
 ·
  refine sk ?_
  refine sr ?_
  refine lt0 (K := (Kd.int .u8)) 40 Try.underlying37 z5 rfl rfl rfl rfl rfl (fun v4 s4 p4 A4 => ?_)
  refine mv w0_0 rfl rfl rfl rfl rfl rfl ?_
  have K6 := (kp0.st p4 rfl)
  have A7 := (A0_0.kp K6)
  refine apF fl_int sl37 A4 A7 rfl rfl rfl rfl rfl rfl rfl (fun v8 s8 p8 A8 => ?_)
  refine asg v8 rfl rfl rfl rfl rfl rfl ?_
  refine dn ?_
  have K10 := (K6.st p8 rfl)
  exact re rfl Try.func207 rfl (r_t rfl r_nil) rfl ⟨_, rfl, A8.fo K10 rfl z.l, z.ky K10⟩
noncomputable def impl_Item_own.f (a0 : Item) : Option (Item) :=
 ((slices_Clone_byte_byte.f a0.T).bind fun r9 => (some (Item.mk a0.Kind a0.N a0.F r9)))
def impl_Item_own.Q (w : World) (F : Nat → Prop) (r : Item) (v : Value) (w' : World) : Prop :=
 ∃ (v0 : Value) (v1 : Value), v = (.agg #[(.int .i64 r.Kind), (.int .i64 r.N), v0, v1]) ∧ FO kd48 w w' [(.int .i64 r.Kind), (.int .i64 r.N), v0, v1] r ∧ Ky [] w w'
set_option maxHeartbeats 4000000 in
set_option maxRecDepth 100000 in
theorem impl_Item_own.calls (a0 : Item) (w : World) (F : Nat → Prop) (w0_0 : Value) (w0_1 : Value) (h0_0 : Kd.flt.rd w [w0_0] a0.F F) (h0_1 : (Kd.sl 5 (Kd.int .u8)).rd w [w0_1] a0.T F) (r : Item) (m : impl_Item_own.f a0 = some r) :
  Calls Try.prog 171 #[(.agg #[(.int .i64 a0.Kind), (.int .i64 a0.N), w0_0, w0_1])] w fun en w' => ∃ v, en = .returned v ∧ impl_Item_own.Q w F r v w' := by
 obtain ⟨s0, rfl, kp0, z⟩ := start0 w F
 have A0_0 := fl_of h0_0
 have A0_1 := z.rd h0_1
 refine calls_of_TM (args := [(.agg #[(.int .i64 a0.Kind), (.int .i64 a0.N), w0_0, w0_1])]) (R := fun r en w' => ∃ v, en = .returned v ∧ impl_Item_own.Q s0.w F r v w') Try.func171 Try.ntmps171 rfl rfl m ?_
 unfold impl_Item_own.f
 refine sr ?_
 refine bx (cs := [(.int .i64 a0.Kind), (.int .i64 a0.N), w0_0, w0_1]) 40 rfl rfl rfl rfl rfl rfl (fun b2 s2 p2 B2 => ?_)
 refine al (cs := [(.int .i64 (0 : Int)), (.int .i64 (0 : Int)), (.float .f64 0), (.slice none 0 0)]) 41 rfl rfl rfl rfl rfl o48 rfl (fun b4 s4 p4 B4 => ?_)
 refine dn ?_
 refine sr ?_
 refine fa fa48_3 rfl rfl rfl rfl rfl rfl ?_
 have A6 := (BlF.st B2 p4 rfl)
 refine ld A6 Try.underlying37 rfl rfl rfl rfl rfl rfl rfl rfl ?_
 have K7 := ((kp0.st p2 rfl).st p4 rfl)
 have A8 := (A0_1.kp K7)
 refine cl rfl rfl rfl rfl rfl Try.func207 rfl rfl rfl (fun r9 m9 => slices_Clone_byte_byte.calls a0.T s4.w (fun b => memb [0] (s4.g b) = true) w0_1 A8 r9 m9) ?_
 rintro r9 v9_0 w9 m9 ⟨f9_0, ky9⟩
 obtain ⟨s10, rfl, p10, n10⟩ := nwx s4 w9 42 ky9
 have A9_0 := f9_0.c n10
 refine fa fa48_3 rfl rfl rfl rfl rfl rfl ?_
 have A12 := (BlF.st A6 p10 rfl)
 refine sv A12 z37 rfl rfl rfl rfl rfl rfl A9_0.rd.one rfl (fun s13 p13 B13 => ?_)
 refine dn ?_
 refine sr ?_
 refine lda (es := [(.int .i64 a0.Kind), (.int .i64 a0.N), w0_0, v9_0]) B13 Try.underlying48 z48 rfl rfl rfl rfl rfl rfl rfl rfl ?_
 have A15 := (BlF.st (BlF.st B4 p10 rfl) p13 rfl)
 have A16 := (A9_0.st p13 rfl)
 refine sva (vs := [(.int .i64 a0.Kind), (.int .i64 a0.N), w0_0, v9_0]) A15 z48 rfl rfl rfl rfl rfl rfl (on_cons rfl (on_cons rfl (on_cons (FL.one A0_0) (on_cons A16.rd.one on_nil)))) rfl (fun s17 p17 B17 => ?_)
 refine dn ?_
 have A20 := (A16.st p17 rfl)
 have A19 : OwF kd48 s17 [(.int .i64 a0.Kind), (.int .i64 a0.N), w0_0, v9_0] (Item.mk a0.Kind a0.N a0.F r9) 42 := (ow_isoz (fun x : Item => (x.Kind, x.N, x.F, x.T)) (Item.mk a0.Kind a0.N a0.F r9) (ow_l (fz_int .i64 a0.Kind) (ow_l (fz_int .i64 a0.N) (ow_l (fz_flt A0_0) A20))))
 have K22 := (((K7.st p10 rfl).st p13 rfl).st p17 rfl)
 exact re rfl Try.func171 rfl (r_b B17 Try.underlying48 rfl z48 rfl r_nil) rfl ⟨_, rfl, w0_0, v9_0, rfl, A19.fo K22 rfl z.l, z.ky K22⟩
noncomputable def laws_markItem.f (a0 : Item) (a1 : Int) : Option (Int × (List Int)) :=
 ((laws_markByteS.f a0.T a1).bind fun r4 => (some (r4.1, r4.2)))
def laws_markItem.Q (w : World) (F : Nat → Prop) (os : List Nat) (w0_1 : Value) (r : Int × (List Int)) (v : Value) (w' : World) : Prop :=
 v = (.int .i64 r.1) ∧ FW (Kd.sl 5 (Kd.int .u8)) os w w' [w0_1] r.2 ∧ Ky os w w'
set_option maxHeartbeats 4000000 in
set_option maxRecDepth 100000 in
theorem laws_markItem.calls (a0 : Item) (a1 : Int) (w : World) (F : Nat → Prop) (w0_0 : Value) (w0_1 : Value) (h0_0 : Kd.flt.rd w [w0_0] a0.F F) (os : List Nat) (h0_1 : (Kd.sl 5 (Kd.int .u8)).ow w [w0_1] a0.T os) (hn : os.Nodup) (hF : ∀ b, F b → b ∉ os) (r : Int × (List Int)) (m : laws_markItem.f a0 a1 = some r) :
  Calls Try.prog 26 #[(.agg #[(.int .i64 a0.Kind), (.int .i64 a0.N), w0_0, w0_1]), (.int .i64 a1)] w fun en w' => ∃ v, en = .returned v ∧ laws_markItem.Q w F os w0_1 r v w' := by
 obtain ⟨s0, rfl, kp0, z⟩ := start1 w F os hF
 have A0_0 := fl_of h0_0
 have A0_1 := z.ow h0_1 hn
 refine calls_of_TM (args := [(.agg #[(.int .i64 a0.Kind), (.int .i64 a0.N), w0_0, w0_1]), (.int .i64 a1)]) (R := fun r en w' => ∃ v, en = .returned v ∧ laws_markItem.Q s0.w F os w0_1 r v w') Try.func26 Try.ntmps26 rfl rfl m ?_
 unfold laws_markItem.f
 refine sr ?_
 refine bx (cs := [(.int .i64 a0.Kind), (.int .i64 a0.N), w0_0, w0_1]) 40 rfl rfl rfl rfl rfl rfl (fun b2 s2 p2 B2 => ?_)
 refine pu rfl rfl rfl rfl rfl ?_
 refine dn ?_
 refine sr ?_
 refine fa fa48_3 rfl rfl rfl rfl rfl rfl ?_
 refine ld B2 Try.underlying37 rfl rfl rfl rfl rfl rfl rfl rfl ?_
 refine pu rfl rfl rfl rfl rfl ?_
 have A5 := (A0_1.st p2 rfl)
 obtain ⟨os4, ho4, hn4, hc4⟩ := A5
 refine cl rfl rfl rfl rfl rfl Try.func81 rfl rfl rfl (fun r4 m4 => laws_markByteS.calls a0.T a1 s2.w (fun b => memb [] (s2.g b) = true) w0_1 os4 ho4 hn4 (apart_of hc4 rfl) r4 m4) ?_
 rintro r4 _ w4 m4 ⟨rfl, w4_, ky4⟩
 obtain ⟨s6, rfl, p6, A6⟩ := nwo 41 hc4 ky4 w4_
 refine pu rfl rfl rfl rfl rfl ?_
 refine dn ?_
 refine sr ?_
 refine pu rfl rfl rfl rfl rfl ?_
 refine pu rfl rfl rfl rfl rfl ?_
 refine dn ?_
 have K8 := ((kp0.st p2 rfl).st p6 rfl)
 exact re rfl Try.func26 rfl (r_t rfl r_nil) rfl ⟨_, rfl, rfl, z.fw K8 A6, z.ky K8⟩
noncomputable def laws_heldByteS.b0 (a0 : (List Int)) (x2 : Int × Int) : Option ((Int × Int) ⊕ Int) :=
 (if (decide (x2.2 < (a0.length : Int))) = true then (if 0 ≤ x2.2 ∧ x2.2 < (a0.length : Int) then (if ((at_ a0 x2.2) != (IntKind.wrap .u8 x2.1)) = true then (some (Sum.inr (-1 : Int))) else (some (Sum.inl ((IntKind.wrap .i64 (x2.1 + (1 : Int))), (IntKind.wrap .i64 (x2.2 + (1 : Int))))))) else none) else ((some x2.1).bind fun o => some (Sum.inr o)))
noncomputable def laws_heldByteS.f (a0 : (List Int)) (a1 : Int) : Option (Int) :=
 (iter (laws_heldByteS.b0 a0) (a1, (0 : Int)))
def laws_heldByteS.Q (w : World) (F : Nat → Prop) (r : Int) (v : Value) (w' : World) : Prop :=
 v = (.int .i64 r) ∧ Ky [] w w'
set_option maxHeartbeats 4000000 in
set_option maxRecDepth 100000 in
theorem laws_heldByteS.calls (a0 : (List Int)) (a1 : Int) (w : World) (F : Nat → Prop) (w0_0 : Value) (h0_0 : (Kd.sl 5 (Kd.int .u8)).rd w [w0_0] a0 F) (r : Int) (m : laws_heldByteS.f a0 a1 = some r) :
  Calls Try.prog 169 #[w0_0, (.int .i64 a1)] w fun en w' => ∃ v, en = .returned v ∧ laws_heldByteS.Q w F r v w' := by
 obtain ⟨s0, rfl, kp0, z⟩ := start0 w F
 have A0_0 := z.rd h0_0
 refine calls_of_TM (args := [w0_0, (.int .i64 a1)]) (R := fun r en w' => ∃ v, en = .returned v ∧ laws_heldByteS.Q s0.w F r v w') Try.func169 Try.ntmps169 rfl rfl m ?_
 unfold laws_heldByteS.f
 refine sr ?_
 refine pu rfl rfl rfl rfl rfl ?_
 refine dn ?_
 refine sq ?_
 refine sr ?_
 refine pu rfl rfl rfl rfl rfl ?_
 refine dn ?_
 refine bl ?_
 refine lpI (fun (x2 : Int × Int) (e : Env) (w : World) => ∃ (s : St) (e0 : Env), w = s.w ∧ e = upd (upd (upd e0 0 w0_0) 1 (.int .i64 x2.1)) 5 (.int .i64 x2.2) ∧ Kp s0 s) ⟨s0, _, rfl, (ue (ue (ue rfl rfl) rfl) rfl), kp0⟩ (fun g2 ih2 => ?_)
 rintro x2 _ _ ⟨s3, _, rfl, rfl, Kx2⟩
 unfold laws_heldByteS.b0
 refine sq ?_
 refine sr ?_
 refine pu rfl rfl rfl rfl rfl ?_
 refine mv w0_0 rfl rfl rfl rfl rfl rfl ?_
 have A4 := (A0_0.kp Kx2)
 refine ln A4 Try.underlying37 rfl rfl rfl rfl rfl rfl ?_
 refine pu rfl rfl rfl rfl rfl ?_
 refine dn ?_
 refine cd rfl (fun h5 => ?_) (fun h5 => ?_)
 ·
  refine sk ?_
  refine sq ?_
  refine bl ?_
  refine sq ?_
  refine sr ?_
  refine mv w0_0 rfl rfl rfl rfl rfl rfl ?_
  refine pu rfl rfl rfl rfl rfl ?_
  refine ix A4 Try.underlying37 z5 rfl rfl rfl rfl rfl rfl rfl rfl (fun ad6 es6 h0_6 h1_6 he6 ce6 ia6 => ?_)
  obtain rfl := he6
  refine lc0 ce6 Try.underlying5 rfl rfl rfl rfl rfl rfl rfl rfl ?_
  refine pu rfl rfl rfl rfl rfl ?_
  refine cv Try.underlying5 Try.underlying3 rfl rfl rfl rfl rfl rfl ?_
  refine pu rfl rfl rfl rfl rfl ?_
  refine dn ?_
  refine cd rfl (fun h8 => ?_) (fun h8 => ?_)
  ·
   refine sr ?_
   refine pu rfl rfl rfl rfl rfl ?_
   refine dn ?_
   refine sgi ?_
   exact re rfl Try.func169 rfl (r_t rfl r_nil) rfl ⟨_, rfl, rfl, z.ky Kx2⟩
  ·
   refine sk ?_
   refine rg ?_
   refine pu rfl rfl rfl rfl rfl ?_
   refine pu rfl rfl rfl rfl rfl ?_
   refine pu rfl rfl rfl rfl rfl ?_
   refine dn ?_
   refine ib ?_
   refine rg ?_
   refine pu rfl rfl rfl rfl rfl ?_
   refine pu rfl rfl rfl rfl rfl ?_
   refine pu rfl rfl rfl rfl rfl ?_
   refine dn ?_
   exact lb ih2 ⟨s3, _, rfl, (ue (ue (ue rfl rfl) rfl) rfl), Kx2⟩
 ·
  refine xt rfl ?_
  refine sgb ?_
  refine sr ?_
  refine pu rfl rfl rfl rfl rfl ?_
  refine pu rfl rfl rfl rfl rfl ?_
  refine dn ?_
  exact re rfl Try.func169 rfl (r_t rfl r_nil) rfl ⟨_, rfl, rfl, z.ky Kx2⟩
noncomputable def spec_l13spans.b0 (a0 : (List Span)) (x2 : (List Span) × Int) : Option (((List Span) × Int) ⊕ (List Span)) :=
 (if (decide (x2.2 < (a0.length : Int))) = true then (if 0 ≤ x2.2 ∧ x2.2 < (a0.length : Int) then (if 0 ≤ x2.2 ∧ x2.2 < (a0.length : Int) then ((spec_l3copy.f ((at_ a0 x2.2).From)).bind fun r30 => ((spec_l3copy.f ((at_ a0 x2.2).To)).bind fun r39 => (if x2.1.length + ([(Span.mk r30 r39)]).length ≤ Lim then (some (Sum.inl ((x2.1 ++ [(Span.mk r30 r39)]), (IntKind.wrap .i64 (x2.2 + (1 : Int)))))) else none))) else none) else none) else ((some x2.1).bind fun o => some (Sum.inr o)))
noncomputable def spec_l13spans.f (a0 : (List Span)) : Option ((List Span)) :=
 (iter (spec_l13spans.b0 a0) (([] : (List Span)), (0 : Int)))
def spec_l13spans.Q (w : World) (F : Nat → Prop) (r : (List Span)) (v : Value) (w' : World) : Prop :=
 FO (Kd.sl 80 kd80) w w' [v] r ∧ Ky [] w w'
set_option maxHeartbeats 4000000 in
set_option maxRecDepth 100000 in
theorem spec_l13spans.calls (a0 : (List Span)) (w : World) (F : Nat → Prop) (w0_0 : Value) (h0_0 : (Kd.sl 80 kd80).rd w [w0_0] a0 F) (r : (List Span)) (m : spec_l13spans.f a0 = some r) :
  Calls Try.prog 108 #[w0_0] w fun en w' => ∃ v, en = .returned v ∧ spec_l13spans.Q w F r v w' := by
 obtain ⟨s0, rfl, kp0, z⟩ := start0 w F
 have A0_0 := z.rd h0_0
 refine calls_of_TM (args := [w0_0]) (R := fun r en w' => ∃ v, en = .returned v ∧ spec_l13spans.Q s0.w F r v w') Try.func108 Try.ntmps108 rfl rfl m ?_
 unfold spec_l13spans.f
 refine sr ?_
 refine pu rfl rfl rfl rfl rfl ?_
 refine dn ?_
 refine sr ?_
 refine pu rfl rfl rfl rfl rfl ?_
 refine dn ?_
 refine sq ?_
 refine sr ?_
 refine pu rfl rfl rfl rfl rfl ?_
 refine dn ?_
 refine bl ?_
 refine lpI (fun (x2 : (List Span) × Int) (e : Env) (w : World) => ∃ (s : St) (e0 : Env) (vx2_0 : Value), w = s.w ∧ e = upd (upd (upd e0 0 w0_0) 3 vx2_0) 4 (.int .i64 x2.2) ∧ Kp s0 s ∧ OwF (Kd.sl 80 kd80) s [vx2_0] x2.1 41) ⟨s0, _, (.slice none 0 0), rfl, (ue (ue (ue rfl rfl) rfl) rfl), kp0, (ow_nil 80 kd80 _ 41)⟩ (fun g2 ih2 => ?_)
 rintro x2 _ _ ⟨s3, _, vx2_0, rfl, rfl, Kx2, Ax2_0⟩
 unfold spec_l13spans.b0
 refine sq ?_
 refine sr ?_
 refine pu rfl rfl rfl rfl rfl ?_
 refine mv w0_0 rfl rfl rfl rfl rfl rfl ?_
 have A5 := (A0_0.kp Kx2)
 refine ln A5 Try.underlying56 rfl rfl rfl rfl rfl rfl ?_
 refine pu rfl rfl rfl rfl rfl ?_
 refine dn ?_
 refine cd rfl (fun h6 => ?_) (fun h6 => ?_)
 ·
  refine sk ?_
  refine sq ?_
  refine bl ?_
  refine zdraw [[], [], [], [1, 2], [3], [4], [5], [], [], [7, 8], [9], [10], [11, 6], [6, 12], [13], [0, 14, 12], [15, 15, 0, 1, 2, 3, 4, 5, 6, 7, 8, 9, 10, 11, 12, 13, 14, 15]] [some 11, some 12, some 13, some 14, some 15, some 16, some 17, some 18, some 19, some 20, some 21, some 22, some 23, some 24, some 25, some 26, some 3] [[3], [0], [4], [12, 13], [14], [15], [16], [0], [4], [18, 19], [20], [21], [22], [17, 23], [24], [11, 25], [26]] [0, 1, 2, 3, 4, 5, 6, 7, 8, 9, 10, 11, 12, 13, 14, 15, 16] ⟨by kernel_rfl, by kernel_rfl, by kernel_rfl⟩ (by kernel_rfl) (fun s7 p7 l7 tb7 zd7 => ?_)
  have zd8 := zd7.add 0 11 vx2_0 rfl
  have zd9 := zd8.add 1 12 w0_0 rfl
  have zd10 := zd9.add 2 13 (.int .i64 x2.2) rfl
  have K11 := (Kx2.st p7 rfl)
  have A12 := (A0_0.kp K11)
  refine mg fun hg13 => ?_
  obtain ⟨ad13, es13, he13, ce13, ia13⟩ := ix_e A12 rfl hg13.1 hg13.2
  have h0_13 := hg13.1
  have h1_13 := hg13.2
  obtain ⟨v13_0, v13_1, v13_2, v13_3, rfl, A13_0, A13_1, A13_2, A13_3⟩ := op80 he13
  have zd17 := zd10.add 3 14 (.pointer (some ad13)) rfl
  have zd18 := zd17.add 4 15 (.pointer (some ad13)) rfl
  have zd19 := zd18.add 5 16 (.agg #[(.int .i64 (((at_ a0 x2.2).From).Kind)), (.int .i64 (((at_ a0 x2.2).From).N)), v13_0, v13_1]) rfl
  have zd20 := zd19.add 7 18 w0_0 rfl
  have zd21 := zd20.add 8 19 (.int .i64 x2.2) rfl
  refine mg fun hg22 => ?_
  obtain ⟨ad22, es22, he22, ce22, ia22⟩ := ix_e A12 rfl hg22.1 hg22.2
  have h0_22 := hg22.1
  have h1_22 := hg22.2
  obtain ⟨v22_0, v22_1, v22_2, v22_3, rfl, A22_0, A22_1, A22_2, A22_3⟩ := op80 he22
  have zd26 := zd21.add 9 20 (.pointer (some ad22)) rfl
  have zd27 := zd26.add 10 21 (.pointer (some (ad22.add 4))) rfl
  have zd28 := zd27.add 11 22 (.agg #[(.int .i64 (((at_ a0 x2.2).To).Kind)), (.int .i64 (((at_ a0 x2.2).To).N)), v22_2, v22_3]) rfl
  refine zstep 6 [some 22, some 21, some 20, some 19, some 18, some 11] tb7 zd28 (pq_cons (lcq_q (q := 4) (es' := [(.int .i64 (((at_ a0 x2.2).To).Kind)), (.int .i64 (((at_ a0 x2.2).To).N)), v22_2, v22_3]) ce22 Try.underlying48 z48 rfl rfl rfl rfl rfl rfl rfl rfl) rfl (pq_cons (fa_q fa80_1 rfl rfl rfl rfl rfl rfl) rfl (pq_cons (ix_q A12 Try.underlying56 z80 hg22.1 hg22.2 ia22 rfl rfl rfl rfl rfl rfl rfl) rfl (pq_cons (pu_q rfl rfl rfl rfl rfl rfl) rfl (pq_cons (mv_q w0_0 rfl rfl rfl rfl rfl rfl) rfl (pq_cons (lcq_q (q := 0) (es' := [(.int .i64 (((at_ a0 x2.2).From).Kind)), (.int .i64 (((at_ a0 x2.2).From).N)), v13_0, v13_1]) ce13 Try.underlying48 z48 rfl rfl rfl rfl rfl rfl rfl rfl) rfl (pq_cons (fa_q fa80_0 rfl rfl rfl rfl rfl rfl) rfl (pq_cons (ix_q A12 Try.underlying56 z80 hg13.1 hg13.2 ia13 rfl rfl rfl rfl rfl rfl rfl) rfl (pq_cons (pu_q rfl rfl rfl rfl rfl rfl) rfl (pq_cons (mv_q w0_0 rfl rfl rfl rfl rfl rfl) rfl (pq_cons (mv_q vx2_0 rfl rfl rfl rfl rfl rfl) rfl pq_nil))))))))))) (by kernel_rfl) rfl (fun l29 e29 zd29 => ?_)
  refine cl rfl rfl rfl rfl rfl Try.func63 rfl rfl rfl (fun r30 m30 => spec_l3copy.calls ((at_ a0 x2.2).From) s7.w (fun b => memb [0] (s7.g b) = true) v13_0 v13_1 ((fl_rdf (s := s7) A13_0).sub (D := [0]) rfl) A13_1 r30 m30) ?_
  rintro r30 _ w30 m30 ⟨v30_0, v30_1, rfl, f30_0, ky30⟩
  obtain ⟨s31, rfl, p31, n31⟩ := nwx s7 w30 42 ky30
  have A30_0 := f30_0.c n31
  obtain ⟨os30_0, ho30_0, hn30_0, hc30_0⟩ := A30_0
  obtain ⟨u30_0_0, u30_0_1, qu30_0_1, e30_0, eo30_0, hu30_0_0, hu30_0_1⟩ := po48 ho30_0
  have yu30_0_0 : v30_0 = u30_0_0 := congrArg (fun l => (List.drop 2 l).headD undef) e30_0
  have yu30_0_1 : v30_1 = u30_0_1 := congrArg (fun l => (List.drop 3 l).headD undef) e30_0
  subst yu30_0_0
  subst yu30_0_1
  subst eo30_0
  have Au30_0_1 : OwF (Kd.sl 5 (Kd.int .u8)) s31 [v30_1] r30.T 42 := sp1 hu30_0_1 hn30_0 hc30_0
  refine zdone (L' := [11, 10, 9, 8, 7, 0]) (D' := [1, 2, 3, 4, 5, 6]) zd29 rfl rfl rfl (fun zd33 => ?_)
  have K35 := (K11.st p31 rfl)
  have A36 := (A0_0.kp K35)
  have ce37 := (ce22.st p31 rfl rfl)
  refine zstep 12 [some 11] tb7 zd33 (pq_cons (lcq_q (q := 4) (es' := [(.int .i64 (((at_ a0 x2.2).To).Kind)), (.int .i64 (((at_ a0 x2.2).To).N)), v22_2, v22_3]) ce37 Try.underlying48 z48 rfl rfl rfl rfl rfl rfl rfl rfl) rfl (pq_cons (fa_q fa80_1 rfl rfl rfl rfl rfl rfl) rfl (pq_cons (ix_q A36 Try.underlying56 z80 hg22.1 hg22.2 ia22 rfl rfl rfl rfl rfl rfl rfl) rfl (pq_cons (pu_q rfl rfl rfl rfl rfl rfl) rfl (pq_cons (mv_q w0_0 rfl rfl rfl rfl rfl rfl) rfl (pq_cons (mv_q vx2_0 rfl rfl rfl rfl rfl rfl) rfl pq_nil)))))) (by kernel_rfl) rfl (fun l34 e34 zd34 => ?_)
  have A38 := (A22_3.st p31 rfl)
  refine cl rfl rfl rfl rfl rfl Try.func63 rfl rfl rfl (fun r39 m39 => spec_l3copy.calls ((at_ a0 x2.2).To) s31.w (fun b => memb [0] (s31.g b) = true) v22_2 v22_3 ((fl_rdf (s := s31) A22_2).sub (D := [0]) rfl) A38 r39 m39) ?_
  rintro r39 _ w39 m39 ⟨v39_0, v39_1, rfl, f39_0, ky39⟩
  obtain ⟨s40, rfl, p40, n40⟩ := nwx s31 w39 43 ky39
  have A39_0 := f39_0.c n40
  obtain ⟨os39_0, ho39_0, hn39_0, hc39_0⟩ := A39_0
  obtain ⟨u39_0_0, u39_0_1, qu39_0_1, e39_0, eo39_0, hu39_0_0, hu39_0_1⟩ := po48 ho39_0
  have yu39_0_0 : v39_0 = u39_0_0 := congrArg (fun l => (List.drop 2 l).headD undef) e39_0
  have yu39_0_1 : v39_1 = u39_0_1 := congrArg (fun l => (List.drop 3 l).headD undef) e39_0
  subst yu39_0_0
  subst yu39_0_1
  subst eo39_0
  have Au39_0_1 : OwF (Kd.sl 5 (Kd.int .u8)) s40 [v39_1] r39.T 43 := sp1 hu39_0_1 hn39_0 hc39_0
  refine zdone (L' := [0]) (D' := [7, 8, 9, 10, 11, 12, 1, 2, 3, 4, 5, 6]) zd34 rfl rfl rfl (fun zd42 => ?_)
  have zd43 := zd42.add 13 24 (.agg #[(.int .i64 r30.Kind), (.int .i64 r30.N), v30_0, v30_1, (.int .i64 r39.Kind), (.int .i64 r39.N), v39_0, v39_1]) rfl
  refine zstep 14 [some 11] tb7 zd43 (pq_cons (bd_q (cells := [(.int .i64 r30.Kind), (.int .i64 r30.N), v30_0, v30_1, (.int .i64 r39.Kind), (.int .i64 r39.N), v39_0, v39_1]) pl80 o80 rfl rfl rfl rfl rfl rfl) rfl (pq_cons (mv_q vx2_0 rfl rfl rfl rfl rfl rfl) rfl pq_nil)) (by kernel_rfl) rfl (fun l44 e44 zd44 => ?_)
  have A45 := (Au30_0_1.st p40 rfl)
  obtain ⟨s46, hw46, p46, A46⟩ := ow_2 (ow_isoz (fun x : Item => (x.Kind, x.N, x.F, x.T)) r30 (ow_l (fz_int .i64 r30.Kind) (ow_l (fz_int .i64 r30.N) (ow_l (fz_flt hu30_0_0) A45)))) (ow_isoz (fun x : Item => (x.Kind, x.N, x.F, x.T)) r39 (ow_l (fz_int .i64 r39.Kind) (ow_l (fz_int .i64 r39.N) (ow_l (fz_flt hu39_0_0) Au39_0_1)))) rfl rfl
  rw [hw46]
  have A48 : OwF kd80 s46 [(.int .i64 r30.Kind), (.int .i64 r30.N), v30_0, v30_1, (.int .i64 r39.Kind), (.int .i64 r39.N), v39_0, v39_1] (Span.mk r30 r39) 42 := (ow_isoz (fun x : Span => (x.From, x.To)) (Span.mk r30 r39) A46)
  have L50 := lo_one A48
  refine ltO (K := kd80) (cells := [(.int .i64 r30.Kind), (.int .i64 r30.N), v30_0, v30_1, (.int .i64 r39.Kind), (.int .i64 r39.N), v39_0, v39_1]) [(Span.mk r30 r39)] 42 Try.underlying56 z80 o80 L50 rfl rfl rfl rfl rfl rfl rfl rfl rfl rfl (fun v51 s51 p51 A51 => ?_)
  refine zdone (L' := [0]) (D' := [13, 14, 7, 8, 9, 10, 11, 12, 1, 2, 3, 4, 5, 6]) zd44 rfl rfl rfl (fun zd53 => ?_)
  refine zfin [15, 16] tb7 zd53 (pq_cons (mv_q vx2_0 rfl rfl rfl rfl rfl rfl) rfl pq_nil) (by kernel_rfl) (by decide) ?_
  have A54 := (((((Ax2_0.st p7 rfl).st p31 rfl).st p40 rfl).st p46 rfl).st p51 rfl)
  refine apO sl56 A54 A51 rfl rfl rfl rfl rfl rfl rfl rfl rfl (fun v55 s55 p55 A55 => ?_)
  refine asg v55 rfl rfl rfl rfl rfl rfl ?_
  refine dn ?_
  refine ib ?_
  refine rg ?_
  refine pu rfl rfl rfl rfl rfl ?_
  refine pu rfl rfl rfl rfl rfl ?_
  refine pu rfl rfl rfl rfl rfl ?_
  refine dn ?_
  have K57 := ((((K35.st p40 rfl).st p46 rfl).st p51 rfl).st p55 rfl)
  exact lb ih2 ⟨s55, _, v55, rfl, (ue (ue (ue rfl rfl) rfl) rfl), K57, A55⟩
 ·
  refine xt rfl ?_
  refine sgb ?_
  refine sr ?_
  refine mv vx2_0 rfl rfl rfl rfl rfl rfl ?_
  refine asg vx2_0 rfl rfl rfl rfl rfl rfl ?_
  refine dn ?_
  exact re rfl Try.func108 rfl (r_t rfl r_nil) rfl ⟨_, rfl, Ax2_0.fo Kx2 rfl z.l, z.ky Kx2⟩
noncomputable def spec_l13items.b0 (a0 : (List Item)) (x2 : (List Item) × Int) : Option (((List Item) × Int) ⊕ (List Item)) :=
 (if (decide (x2.2 < (a0.length : Int))) = true then (if 0 ≤ x2.2 ∧ x2.2 < (a0.length : Int) then ((spec_l3copy.f (at_ a0 x2.2)).bind fun r10 => (if x2.1.length + ([r10]).length ≤ Lim then (some (Sum.inl ((x2.1 ++ [r10]), (IntKind.wrap .i64 (x2.2 + (1 : Int)))))) else none)) else none) else ((some x2.1).bind fun o => some (Sum.inr o)))
noncomputable def spec_l13items.f (a0 : (List Item)) : Option ((List Item)) :=
 (iter (spec_l13items.b0 a0) (([] : (List Item)), (0 : Int)))
def spec_l13items.Q (w : World) (F : Nat → Prop) (r : (List Item)) (v : Value) (w' : World) : Prop :=
 FO (Kd.sl 48 kd48) w w' [v] r ∧ Ky [] w w'
set_option maxHeartbeats 4000000 in
set_option maxRecDepth 100000 in
theorem spec_l13items.calls (a0 : (List Item)) (w : World) (F : Nat → Prop) (w0_0 : Value) (h0_0 : (Kd.sl 48 kd48).rd w [w0_0] a0 F) (r : (List Item)) (m : spec_l13items.f a0 = some r) :
  Calls Try.prog 163 #[w0_0] w fun en w' => ∃ v, en = .returned v ∧ spec_l13items.Q w F r v w' := by
 obtain ⟨s0, rfl, kp0, z⟩ := start0 w F
 have A0_0 := z.rd h0_0
 refine calls_of_TM (args := [w0_0]) (R := fun r en w' => ∃ v, en = .returned v ∧ spec_l13items.Q s0.w F r v w') Try.func163 Try.ntmps163 rfl rfl m ?_
 unfold spec_l13items.f
 refine sr ?_
 refine pu rfl rfl rfl rfl rfl ?_
 refine dn ?_
 refine sr ?_
 refine pu rfl rfl rfl rfl rfl ?_
 refine dn ?_
 refine sq ?_
 refine sr ?_
 refine pu rfl rfl rfl rfl rfl ?_
 refine dn ?_
 refine bl ?_
 refine lpI (fun (x2 : (List Item) × Int) (e : Env) (w : World) => ∃ (s : St) (e0 : Env) (vx2_0 : Value), w = s.w ∧ e = upd (upd (upd e0 0 w0_0) 3 vx2_0) 4 (.int .i64 x2.2) ∧ Kp s0 s ∧ OwF (Kd.sl 48 kd48) s [vx2_0] x2.1 41) ⟨s0, _, (.slice none 0 0), rfl, (ue (ue (ue rfl rfl) rfl) rfl), kp0, (ow_nil 48 kd48 _ 41)⟩ (fun g2 ih2 => ?_)
 rintro x2 _ _ ⟨s3, _, vx2_0, rfl, rfl, Kx2, Ax2_0⟩
 unfold spec_l13items.b0
 refine sq ?_
 refine sr ?_
 refine pu rfl rfl rfl rfl rfl ?_
 refine mv w0_0 rfl rfl rfl rfl rfl rfl ?_
 have A5 := (A0_0.kp Kx2)
 refine ln A5 Try.underlying57 rfl rfl rfl rfl rfl rfl ?_
 refine pu rfl rfl rfl rfl rfl ?_
 refine dn ?_
 refine cd rfl (fun h6 => ?_) (fun h6 => ?_)
 ·
  refine sk ?_
  refine sq ?_
  refine bl ?_
  refine rg ?_
  refine mv vx2_0 rfl rfl rfl rfl rfl rfl ?_
  refine mv w0_0 rfl rfl rfl rfl rfl rfl ?_
  refine pu rfl rfl rfl rfl rfl ?_
  refine ix A5 Try.underlying57 z48 rfl rfl rfl rfl rfl rfl rfl rfl (fun ad7 es7 h0_7 h1_7 he7 ce7 ia7 => ?_)
  obtain ⟨v7_0, v7_1, rfl, A7_0, A7_1⟩ := op48 he7
  refine lca ce7 Try.underlying48 z48 rfl rfl rfl rfl rfl rfl rfl ?_
  refine cl rfl rfl rfl rfl rfl Try.func63 rfl rfl rfl (fun r10 m10 => spec_l3copy.calls (at_ a0 x2.2) s3.w (fun b => memb [0] (s3.g b) = true) v7_0 v7_1 ((fl_rdf (s := s3) A7_0).sub (D := [0]) rfl) A7_1 r10 m10) ?_
  rintro r10 _ w10 m10 ⟨v10_0, v10_1, rfl, f10_0, ky10⟩
  obtain ⟨s11, rfl, p11, n11⟩ := nwx s3 w10 42 ky10
  have A10_0 := f10_0.c n11
  obtain ⟨os10_0, ho10_0, hn10_0, hc10_0⟩ := A10_0
  obtain ⟨u10_0_0, u10_0_1, qu10_0_1, e10_0, eo10_0, hu10_0_0, hu10_0_1⟩ := po48 ho10_0
  have yu10_0_0 : v10_0 = u10_0_0 := congrArg (fun l => (List.drop 2 l).headD undef) e10_0
  have yu10_0_1 : v10_1 = u10_0_1 := congrArg (fun l => (List.drop 3 l).headD undef) e10_0
  subst yu10_0_0
  subst yu10_0_1
  subst eo10_0
  have Au10_0_1 : OwF (Kd.sl 5 (Kd.int .u8)) s11 [v10_1] r10.T 42 := sp1 hu10_0_1 hn10_0 hc10_0
  have A13 : OwF kd48 s11 [(.int .i64 r10.Kind), (.int .i64 r10.N), v10_0, v10_1] r10 42 := (ow_isoz (fun x : Item => (x.Kind, x.N, x.F, x.T)) r10 (ow_l (fz_int .i64 r10.Kind) (ow_l (fz_int .i64 r10.N) (ow_l (fz_flt hu10_0_0) Au10_0_1))))
  have L15 := lo_one A13
  refine ltO (K := kd48) (cells := [(.int .i64 r10.Kind), (.int .i64 r10.N), v10_0, v10_1]) [r10] 42 Try.underlying57 z48 o48 L15 rfl rfl rfl rfl rfl rfl rfl rfl rfl rfl (fun v16 s16 p16 A16 => ?_)
  have A18 := ((Ax2_0.st p11 rfl).st p16 rfl)
  refine apO sl57 A18 A16 rfl rfl rfl rfl rfl rfl rfl rfl rfl (fun v19 s19 p19 A19 => ?_)
  refine asg v19 rfl rfl rfl rfl rfl rfl ?_
  refine dn ?_
  refine ib ?_
  refine rg ?_
  refine pu rfl rfl rfl rfl rfl ?_
  refine pu rfl rfl rfl rfl rfl ?_
  refine pu rfl rfl rfl rfl rfl ?_
  refine dn ?_
  have K21 := (((Kx2.st p11 rfl).st p16 rfl).st p19 rfl)
  exact lb ih2 ⟨s19, _, v19, rfl, (ue (ue (ue rfl rfl) rfl) rfl), K21, A19⟩
 ·
  refine xt rfl ?_
  refine sgb ?_
  refine sr ?_
  refine mv vx2_0 rfl rfl rfl rfl rfl rfl ?_
  refine asg vx2_0 rfl rfl rfl rfl rfl rfl ?_
  refine dn ?_
  exact re rfl Try.func163 rfl (r_t rfl r_nil) rfl ⟨_, rfl, Ax2_0.fo Kx2 rfl z.l, z.ky Kx2⟩
noncomputable def spec_l13copy.b0 (a0 : (List Track)) (x2 : (List Track) × Int) : Option (((List Track) × Int) ⊕ (List Track)) :=
 (if (decide (x2.2 < (a0.length : Int))) = true then (if 0 ≤ x2.2 ∧ x2.2 < (a0.length : Int) then ((spec_l13spans.f ((at_ a0 x2.2).Reads)).bind fun r18 => ((spec_l13items.f ((at_ a0 x2.2).Writes)).bind fun r25 => (if x2.1.length + ([(Track.mk ((at_ a0 x2.2).Xid) ((at_ a0 x2.2).Begun) ((at_ a0 x2.2).Ended) ((at_ a0 x2.2).All) r18 r25 ((at_ a0 x2.2).In) ((at_ a0 x2.2).Out))]).length ≤ Lim then (some (Sum.inl ((x2.1 ++ [(Track.mk ((at_ a0 x2.2).Xid) ((at_ a0 x2.2).Begun) ((at_ a0 x2.2).Ended) ((at_ a0 x2.2).All) r18 r25 ((at_ a0 x2.2).In) ((at_ a0 x2.2).Out))]), (IntKind.wrap .i64 (x2.2 + (1 : Int)))))) else none))) else none) else ((some x2.1).bind fun o => some (Sum.inr o)))
noncomputable def spec_l13copy.f (a0 : (List Track)) : Option ((List Track)) :=
 (iter (spec_l13copy.b0 a0) (([] : (List Track)), (0 : Int)))
def spec_l13copy.Q (w : World) (F : Nat → Prop) (r : (List Track)) (v : Value) (w' : World) : Prop :=
 FO (Kd.sl 59 kd59) w w' [v] r ∧ Ky [] w w'
set_option maxHeartbeats 4000000 in
set_option maxRecDepth 100000 in
theorem spec_l13copy.calls (a0 : (List Track)) (w : World) (F : Nat → Prop) (w0_0 : Value) (h0_0 : (Kd.sl 59 kd59).rd w [w0_0] a0 F) (r : (List Track)) (m : spec_l13copy.f a0 = some r) :
  Calls Try.prog 97 #[w0_0] w fun en w' => ∃ v, en = .returned v ∧ spec_l13copy.Q w F r v w' := by
 obtain ⟨s0, rfl, kp0, z⟩ := start0 w F
 have A0_0 := z.rd h0_0
 refine calls_of_TM (args := [w0_0]) (R := fun r en w' => ∃ v, en = .returned v ∧ spec_l13copy.Q s0.w F r v w') Try.func97 Try.ntmps97 rfl rfl m ?_
 unfold spec_l13copy.f
 refine sr ?_
 refine pu rfl rfl rfl rfl rfl ?_
 refine dn ?_
 refine sr ?_
 refine pu rfl rfl rfl rfl rfl ?_
 refine dn ?_
 refine sq ?_
 refine sr ?_
 refine pu rfl rfl rfl rfl rfl ?_
 refine dn ?_
 refine bl ?_
 refine lpI (fun (x2 : (List Track) × Int) (e : Env) (w : World) => ∃ (s : St) (e0 : Env) (vx2_0 : Value), w = s.w ∧ e = upd (upd (upd e0 0 w0_0) 3 vx2_0) 4 (.int .i64 x2.2) ∧ Kp s0 s ∧ OwF (Kd.sl 59 kd59) s [vx2_0] x2.1 41) ⟨s0, _, (.slice none 0 0), rfl, (ue (ue (ue rfl rfl) rfl) rfl), kp0, (ow_nil 59 kd59 _ 41)⟩ (fun g2 ih2 => ?_)
 rintro x2 _ _ ⟨s3, _, vx2_0, rfl, rfl, Kx2, Ax2_0⟩
 unfold spec_l13copy.b0
 refine sq ?_
 refine sr ?_
 refine pu rfl rfl rfl rfl rfl ?_
 refine mv w0_0 rfl rfl rfl rfl rfl rfl ?_
 have A5 := (A0_0.kp Kx2)
 refine ln A5 Try.underlying62 rfl rfl rfl rfl rfl rfl ?_
 refine pu rfl rfl rfl rfl rfl ?_
 refine dn ?_
 refine cd rfl (fun h6 => ?_) (fun h6 => ?_)
 ·
  refine sk ?_
  refine sq ?_
  refine bl ?_
  refine sr ?_
  refine mv w0_0 rfl rfl rfl rfl rfl rfl ?_
  refine pu rfl rfl rfl rfl rfl ?_
  refine ix A5 Try.underlying62 z59 rfl rfl rfl rfl rfl rfl rfl rfl (fun ad7 es7 h0_7 h1_7 he7 ce7 ia7 => ?_)
  obtain ⟨v7_0, v7_1, rfl, A7_0, A7_1⟩ := op59 he7
  refine lca ce7 Try.underlying59 z59 rfl rfl rfl rfl rfl rfl rfl ?_
  refine al (cs := [(.int .i64 (0 : Int)), (.int .i64 (0 : Int)), (.int .i64 (0 : Int)), (.bool false), (.slice none 0 0), (.slice none 0 0), (.bool false), (.bool false)]) 42 rfl rfl rfl rfl rfl o59 rfl (fun b11 s11 p11 B11 => ?_)
  have A13 := (A7_1.st p11 rfl)
  have A14 := (A7_0.st p11 rfl)
  refine sva (vs := [(.int .i64 ((at_ a0 x2.2).Xid)), (.int .i64 ((at_ a0 x2.2).Begun)), (.int .i64 ((at_ a0 x2.2).Ended)), (.bool ((at_ a0 x2.2).All)), v7_0, v7_1, (.bool ((at_ a0 x2.2).In)), (.bool ((at_ a0 x2.2).Out))]) B11 z59 rfl rfl rfl rfl rfl rfl (on_cons rfl (on_cons rfl (on_cons rfl (on_cons rfl (on_cons A14.one (on_cons A13.one (on_cons rfl (on_cons rfl on_nil)))))))) rfl (fun s15 p15 B15 => ?_)
  refine dn ?_
  refine sr ?_
  refine fa fa59_4 rfl rfl rfl rfl rfl rfl ?_
  refine ld B15 Try.underlying56 rfl rfl rfl rfl rfl rfl rfl rfl ?_
  have A17 := (A14.st p15 rfl)
  refine cl rfl rfl rfl rfl rfl Try.func108 rfl rfl rfl (fun r18 m18 => spec_l13spans.calls ((at_ a0 x2.2).Reads) s15.w (fun b => memb [0] (s15.g b) = true) v7_0 A17 r18 m18) ?_
  rintro r18 v18_0 w18 m18 ⟨f18_0, ky18⟩
  obtain ⟨s19, rfl, p19, n19⟩ := nwx s15 w18 43 ky18
  have A18_0 := f18_0.c n19
  refine fa fa59_4 rfl rfl rfl rfl rfl rfl ?_
  have A21 := (BlF.st B15 p19 rfl)
  refine sv A21 z56 rfl rfl rfl rfl rfl rfl A18_0.rd.one rfl (fun s22 p22 B22 => ?_)
  refine dn ?_
  refine sr ?_
  refine fa fa59_5 rfl rfl rfl rfl rfl rfl ?_
  refine ld B22 Try.underlying57 rfl rfl rfl rfl rfl rfl rfl rfl ?_
  have A24 := (((A13.st p15 rfl).st p19 rfl).st p22 rfl)
  refine cl rfl rfl rfl rfl rfl Try.func163 rfl rfl rfl (fun r25 m25 => spec_l13items.calls ((at_ a0 x2.2).Writes) s22.w (fun b => memb [0] (s22.g b) = true) v7_1 A24 r25 m25) ?_
  rintro r25 v25_0 w25 m25 ⟨f25_0, ky25⟩
  obtain ⟨s26, rfl, p26, n26⟩ := nwx s22 w25 44 ky25
  have A25_0 := f25_0.c n26
  refine fa fa59_5 rfl rfl rfl rfl rfl rfl ?_
  have A28 := (BlF.st B22 p26 rfl)
  refine sv A28 z57 rfl rfl rfl rfl rfl rfl A25_0.rd.one rfl (fun s29 p29 B29 => ?_)
  refine dn ?_
  refine rg ?_
  refine mv vx2_0 rfl rfl rfl rfl rfl rfl ?_
  refine lda (es := [(.int .i64 ((at_ a0 x2.2).Xid)), (.int .i64 ((at_ a0 x2.2).Begun)), (.int .i64 ((at_ a0 x2.2).Ended)), (.bool ((at_ a0 x2.2).All)), v18_0, v25_0, (.bool ((at_ a0 x2.2).In)), (.bool ((at_ a0 x2.2).Out))]) B29 Try.underlying59 z59 rfl rfl rfl rfl rfl rfl rfl rfl ?_
  have A31 := (((A18_0.st p22 rfl).st p26 rfl).st p29 rfl)
  have A32 := (A25_0.st p29 rfl)
  obtain ⟨s33, hw33, p33, A33⟩ := ow_2 A31 (ow_r A32 (fz_pair (fz_bool ((at_ a0 x2.2).In)) (fz_bool ((at_ a0 x2.2).Out)))) rfl rfl
  rw [hw33]
  have A35 : OwF kd59 s33 [(.int .i64 ((at_ a0 x2.2).Xid)), (.int .i64 ((at_ a0 x2.2).Begun)), (.int .i64 ((at_ a0 x2.2).Ended)), (.bool ((at_ a0 x2.2).All)), v18_0, v25_0, (.bool ((at_ a0 x2.2).In)), (.bool ((at_ a0 x2.2).Out))] (Track.mk ((at_ a0 x2.2).Xid) ((at_ a0 x2.2).Begun) ((at_ a0 x2.2).Ended) ((at_ a0 x2.2).All) r18 r25 ((at_ a0 x2.2).In) ((at_ a0 x2.2).Out)) 43 := (ow_isoz (fun x : Track => (x.Xid, x.Begun, x.Ended, x.All, x.Reads, x.Writes, x.In, x.Out)) (Track.mk ((at_ a0 x2.2).Xid) ((at_ a0 x2.2).Begun) ((at_ a0 x2.2).Ended) ((at_ a0 x2.2).All) r18 r25 ((at_ a0 x2.2).In) ((at_ a0 x2.2).Out)) (ow_l (fz_int .i64 ((at_ a0 x2.2).Xid)) (ow_l (fz_int .i64 ((at_ a0 x2.2).Begun)) (ow_l (fz_int .i64 ((at_ a0 x2.2).Ended)) (ow_l (fz_bool ((at_ a0 x2.2).All)) A33)))))
  have L37 := lo_one A35
  refine ltO (K := kd59) (cells := [(.int .i64 ((at_ a0 x2.2).Xid)), (.int .i64 ((at_ a0 x2.2).Begun)), (.int .i64 ((at_ a0 x2.2).Ended)), (.bool ((at_ a0 x2.2).All)), v18_0, v25_0, (.bool ((at_ a0 x2.2).In)), (.bool ((at_ a0 x2.2).Out))]) [(Track.mk ((at_ a0 x2.2).Xid) ((at_ a0 x2.2).Begun) ((at_ a0 x2.2).Ended) ((at_ a0 x2.2).All) r18 r25 ((at_ a0 x2.2).In) ((at_ a0 x2.2).Out))] 43 Try.underlying62 z59 o59 L37 rfl rfl rfl rfl rfl rfl rfl rfl rfl rfl (fun v38 s38 p38 A38 => ?_)
  have A40 := ((((((((Ax2_0.st p11 rfl).st p15 rfl).st p19 rfl).st p22 rfl).st p26 rfl).st p29 rfl).st p33 rfl).st p38 rfl)
  refine apO sl62 A40 A38 rfl rfl rfl rfl rfl rfl rfl rfl rfl (fun v41 s41 p41 A41 => ?_)
  refine asg v41 rfl rfl rfl rfl rfl rfl ?_
  refine dn ?_
  refine ib ?_
  refine rg ?_
  refine pu rfl rfl rfl rfl rfl ?_
  refine pu rfl rfl rfl rfl rfl ?_
  refine pu rfl rfl rfl rfl rfl ?_
  refine dn ?_
  have K43 := (((((((((Kx2.st p11 rfl).st p15 rfl).st p19 rfl).st p22 rfl).st p26 rfl).st p29 rfl).st p33 rfl).st p38 rfl).st p41 rfl)
  exact lb ih2 ⟨s41, _, v41, rfl, (ue (ue (ue rfl rfl) rfl) rfl), K43, A41⟩
 ·
  refine xt rfl ?_
  refine sgb ?_
  refine sr ?_
  refine mv vx2_0 rfl rfl rfl rfl rfl rfl ?_
  refine asg vx2_0 rfl rfl rfl rfl rfl rfl ?_
  refine dn ?_
  exact re rfl Try.func97 rfl (r_t rfl r_nil) rfl ⟨_, rfl, Ax2_0.fo Kx2 rfl z.l, z.ky Kx2⟩
noncomputable def spec_TracksOk.b3 (a0 : (List Track)) (x3 : Int) (x71 : Int) : Option (Int ⊕ (Int ⊕ Bool)) :=
 (if (decide (x71 < x3)) = true then (if 0 ≤ x71 ∧ x71 < (a0.length : Int) then (if ((at_ a0 x71).Xid == (at_ a0 x3).Xid) = true then (some (Sum.inr (Sum.inr false))) else (some (Sum.inl (IntKind.wrap .i64 (x71 + (1 : Int)))))) else none) else ((some (Sum.inl (IntKind.wrap .i64 (x3 + (1 : Int))))).bind fun o => some (Sum.inr o)))
noncomputable def spec_TracksOk.b2 (a0 : (List Track)) (x3 : Int) (x56 : Int) : Option (Int ⊕ (Int ⊕ Bool)) :=
 (if (decide (x56 < (((at_ a0 x3).Writes).length : Int))) = true then (if 0 ≤ x56 ∧ x56 < (((at_ a0 x3).Writes).length : Int) then ((spec_KeyOk.f (at_ ((at_ a0 x3).Writes) x56)).bind fun r63 => (if (!r63) = true then (some (Sum.inr (Sum.inr false))) else (some (Sum.inl (IntKind.wrap .i64 (x56 + (1 : Int))))))) else none) else ((iter (spec_TracksOk.b3 a0 x3) (0 : Int)).bind fun o => some (Sum.inr o)))
noncomputable def spec_TracksOk.b1 (a0 : (List Track)) (x3 : Int) (x36 : Int) : Option (Int ⊕ (Int ⊕ Bool)) :=
 (if (decide (x36 < (((at_ a0 x3).Reads).length : Int))) = true then (if 0 ≤ x36 ∧ x36 < (((at_ a0 x3).Reads).length : Int) then ((spec_SpanOk.f (Span.mk ((at_ ((at_ a0 x3).Reads) x36).From) ((at_ ((at_ a0 x3).Reads) x36).To))).bind fun r48 => (if (!r48) = true then (some (Sum.inr (Sum.inr false))) else (some (Sum.inl (IntKind.wrap .i64 (x36 + (1 : Int))))))) else none) else ((iter (spec_TracksOk.b2 a0 x3) (0 : Int)).bind fun o => some (Sum.inr o)))
noncomputable def spec_TracksOk.b0 (a0 : (List Track)) (x3 : Int) : Option (Int ⊕ Bool) :=
 (if (decide (x3 < (a0.length : Int))) = true then (if 0 ≤ x3 ∧ x3 < (a0.length : Int) then ((spec_l5in.f ((at_ a0 x3).Xid) (1 : Int) (400 : Int)).bind fun r17 => (if ((((((!r17) || (decide ((at_ a0 x3).Begun < (1 : Int)))) || (((at_ a0 x3).Ended != (0 : Int)) && (decide ((at_ a0 x3).Ended ≤ (at_ a0 x3).Begun)))) || (decide ((((at_ a0 x3).Reads).length : Int) > (6 : Int)))) || ((at_ a0 x3).All && (decide ((((at_ a0 x3).Reads).length : Int) > (0 : Int))))) || (decide ((((at_ a0 x3).Writes).length : Int) > (200 : Int)))) = true then (some (Sum.inr false)) else (iter (spec_TracksOk.b1 a0 x3) (0 : Int)))) else none) else ((some true).bind fun o => some (Sum.inr o)))
noncomputable def spec_TracksOk.f (a0 : (List Track)) : Option (Bool) :=
 (if (decide ((a0.length : Int) > (64 : Int))) = true then (some false) else (iter (spec_TracksOk.b0 a0) (0 : Int)))
def spec_TracksOk.Q (w : World) (F : Nat → Prop) (r : Bool) (v : Value) (w' : World) : Prop :=
 v = (.bool r) ∧ Ky [] w w'
set_option maxHeartbeats 4000000 in
set_option maxRecDepth 100000 in
theorem spec_TracksOk.calls (a0 : (List Track)) (w : World) (F : Nat → Prop) (w0_0 : Value) (h0_0 : (Kd.sl 59 kd59).rd w [w0_0] a0 F) (r : Bool) (m : spec_TracksOk.f a0 = some r) :
  Calls Try.prog 96 #[w0_0] w fun en w' => ∃ v, en = .returned v ∧ spec_TracksOk.Q w F r v w' := by
 obtain ⟨s0, rfl, kp0, z⟩ := start0 w F
 have A0_0 := z.rd h0_0
 refine calls_of_TM (args := [w0_0]) (R := fun r en w' => ∃ v, en = .returned v ∧ spec_TracksOk.Q s0.w F r v w') Try.func96 Try.ntmps96 rfl rfl m ?_
 unfold spec_TracksOk.f
 refine sr ?_
 refine pu rfl rfl rfl rfl rfl ?_
 refine dn ?_
 refine sq ?_
 refine sr ?_
 refine mv w0_0 rfl rfl rfl rfl rfl rfl ?_
 refine ln A0_0 Try.underlying62 rfl rfl rfl rfl rfl rfl ?_
 refine pu rfl rfl rfl rfl rfl ?_
 refine dn ?_
 refine cd rfl (fun h2 => ?_) (fun h2 => ?_)
 ·
  refine sr ?_
  refine pu rfl rfl rfl rfl rfl ?_
  refine dn ?_
  exact re rfl Try.func96 rfl (r_t rfl r_nil) rfl ⟨_, rfl, rfl, z.ky kp0⟩
 ·
  refine sk ?_
  refine sq ?_
  refine sr ?_
  refine pu rfl rfl rfl rfl rfl ?_
  refine dn ?_
  refine bl ?_
  refine lpI (fun (x3 : Int) (e : Env) (w : World) => ∃ (s : St) (e0 : Env), w = s.w ∧ e = upd (upd e0 0 w0_0) 3 (.int .i64 x3) ∧ Kp s0 s) ⟨s0, _, rfl, (ue (ue rfl rfl) rfl), kp0⟩ (fun g3 ih3 => ?_)
  rintro x3 _ _ ⟨s4, _, rfl, rfl, Kx3⟩
  unfold spec_TracksOk.b0
  refine sq ?_
  refine sr ?_
  refine pu rfl rfl rfl rfl rfl ?_
  refine mv w0_0 rfl rfl rfl rfl rfl rfl ?_
  have A5 := (A0_0.kp Kx3)
  refine ln A5 Try.underlying62 rfl rfl rfl rfl rfl rfl ?_
  refine pu rfl rfl rfl rfl rfl ?_
  refine dn ?_
  refine cd rfl (fun h6 => ?_) (fun h6 => ?_)
  ·
   refine sk ?_
   refine sq ?_
   refine bl ?_
   refine sr ?_
   refine mv w0_0 rfl rfl rfl rfl rfl rfl ?_
   refine pu rfl rfl rfl rfl rfl ?_
   refine ix A5 Try.underlying62 z59 rfl rfl rfl rfl rfl rfl rfl rfl (fun ad7 es7 h0_7 h1_7 he7 ce7 ia7 => ?_)
   obtain ⟨v7_0, v7_1, rfl, A7_0, A7_1⟩ := op59 he7
   refine lca ce7 Try.underlying59 z59 rfl rfl rfl rfl rfl rfl rfl ?_
   refine al (cs := [(.int .i64 (0 : Int)), (.int .i64 (0 : Int)), (.int .i64 (0 : Int)), (.bool false), (.slice none 0 0), (.slice none 0 0), (.bool false), (.bool false)]) 40 rfl rfl rfl rfl rfl o59 rfl (fun b11 s11 p11 B11 => ?_)
   have A13 := (A7_1.st p11 rfl)
   have A14 := (A7_0.st p11 rfl)
   refine sva (vs := [(.int .i64 ((at_ a0 x3).Xid)), (.int .i64 ((at_ a0 x3).Begun)), (.int .i64 ((at_ a0 x3).Ended)), (.bool ((at_ a0 x3).All)), v7_0, v7_1, (.bool ((at_ a0 x3).In)), (.bool ((at_ a0 x3).Out))]) B11 z59 rfl rfl rfl rfl rfl rfl (on_cons rfl (on_cons rfl (on_cons rfl (on_cons rfl (on_cons A14.one (on_cons A13.one (on_cons rfl (on_cons rfl on_nil)))))))) rfl (fun s15 p15 B15 => ?_)
   refine dn ?_
   refine sq ?_
   refine sr ?_
   refine fa fa59_0 rfl rfl rfl rfl rfl rfl ?_
   refine ld B15 Try.underlying3 rfl rfl rfl rfl rfl rfl rfl rfl ?_
   refine cl rfl rfl rfl rfl rfl Try.func135 rfl rfl rfl (fun r17 m17 => spec_l5in.calls ((at_ a0 x3).Xid) (1 : Int) (400 : Int) s15.w (fun b => memb [] (s15.g b) = true)  r17 m17) ?_
   rintro r17 _ w17 m17 ⟨rfl, ky17⟩
   obtain ⟨s18, rfl, p18, n18⟩ := nwx s15 w17 41 ky17
   refine pu rfl rfl rfl rfl rfl ?_
   refine pu rfl rfl rfl rfl rfl ?_
   refine jy [25, 26, 27, 28, 29] [9, 10, 11, 12, 13, 14, 15, 16, 17, 18, 19, 20, 21, 22, 23, 24, 25, 26, 27, 28, 29, 30, 31, 32, 33, 34, 35, 36, 37, 38, 39, 40, 41, 42] 29 (.bool ((!r17) || (decide ((at_ a0 x3).Begun < (1 : Int))))) rfl (fun Kg19 => ?_) (fun j19 => ?_)
   ·
    rcases Bool.eq_false_or_eq_true (!r17) with hb19 | hb19
    ·
     refine sbT hb19 ?_
     refine uw rfl rfl rfl rfl ?_
     refine uw rfl rfl rfl rfl ?_
     refine uw rfl rfl rfl rfl ?_
     refine pu rfl rfl rfl rfl rfl ?_
     exact Kg19 _ (Ag.put ((Ag.put ((Ag.put ((Ag.put (Ag.base rfl) rfl)) rfl)) rfl)) rfl) (by rw [hb19]; rfl)
    ·
     refine sbT hb19 ?_
     refine fa fa59_1 rfl rfl rfl rfl rfl rfl ?_
     have A20 := (BlF.st B15 p18 rfl)
     refine ld A20 Try.underlying3 rfl rfl rfl rfl rfl rfl rfl rfl ?_
     refine pu rfl rfl rfl rfl rfl ?_
     refine pu rfl rfl rfl rfl rfl ?_
     exact Kg19 _ (Ag.put ((Ag.put ((Ag.put ((Ag.put (Ag.base rfl) rfl)) rfl)) rfl)) rfl) (by rw [hb19]; rfl)
   refine pu rfl rfl rfl rfl rfl ?_
   refine jy [30, 31, 32, 33, 34, 35, 36, 37, 38, 39, 40, 41] [21, 22, 23, 24, 25, 26, 27, 28, 29, 30, 31, 32, 33, 34, 35, 36, 37, 38, 39, 40, 41, 42] 41 (.bool (((!r17) || (decide ((at_ a0 x3).Begun < (1 : Int)))) || (((at_ a0 x3).Ended != (0 : Int)) && (decide ((at_ a0 x3).Ended ≤ (at_ a0 x3).Begun))))) rfl (fun Kg21 => ?_) (fun j21 => ?_)
   ·
    rcases Bool.eq_false_or_eq_true ((!r17) || (decide ((at_ a0 x3).Begun < (1 : Int)))) with hb21 | hb21
    ·
     refine sbT hb21 ?_
     refine uw rfl rfl rfl rfl ?_
     refine uw rfl rfl rfl rfl ?_
     refine uw rfl rfl rfl rfl ?_
     refine uw rfl rfl rfl rfl ?_
     refine uw rfl rfl rfl rfl ?_
     refine uw rfl rfl rfl rfl ?_
     refine uw rfl rfl rfl rfl ?_
     refine uw rfl rfl rfl rfl ?_
     refine uw rfl rfl rfl rfl ?_
     refine uw rfl rfl rfl rfl ?_
     refine pu rfl rfl rfl rfl rfl ?_
     exact Kg21 _ (Ag.put ((Ag.put ((Ag.put ((Ag.put ((Ag.put ((Ag.put ((Ag.put ((Ag.put ((Ag.put ((Ag.put ((Ag.put (Ag.base rfl) rfl)) rfl)) rfl)) rfl)) rfl)) rfl)) rfl)) rfl)) rfl)) rfl)) rfl) (by rw [hb21]; rfl)
    ·
     refine sbT hb21 ?_
     refine fa fa59_2 rfl rfl rfl rfl rfl rfl ?_
     have A22 := (BlF.st B15 p18 rfl)
     refine ld A22 Try.underlying3 rfl rfl rfl rfl rfl rfl rfl rfl ?_
     refine pu rfl rfl rfl rfl rfl ?_
     refine pu rfl rfl rfl rfl rfl ?_
     refine jy [34, 35, 36, 37, 38, 39, 40] [20, 21, 22, 23, 24, 25, 26, 27, 28, 29, 30, 31, 32, 33, 34, 35, 36, 37, 38, 39, 40, 41, 42] 40 (.bool (((at_ a0 x3).Ended != (0 : Int)) && (decide ((at_ a0 x3).Ended ≤ (at_ a0 x3).Begun)))) rfl (fun Kg23 => ?_) (fun j23 => ?_)
     ·
      rcases Bool.eq_false_or_eq_true ((at_ a0 x3).Ended != (0 : Int)) with hb23 | hb23
      ·
       refine sbT hb23 ?_
       refine fa fa59_2 rfl rfl rfl rfl rfl rfl ?_
       refine ld A22 Try.underlying3 rfl rfl rfl rfl rfl rfl rfl rfl ?_
       refine fa fa59_1 rfl rfl rfl rfl rfl rfl ?_
       refine ld A22 Try.underlying3 rfl rfl rfl rfl rfl rfl rfl rfl ?_
       refine pu rfl rfl rfl rfl rfl ?_
       refine pu rfl rfl rfl rfl rfl ?_
       exact Kg23 _ (Ag.put ((Ag.put ((Ag.put ((Ag.put ((Ag.put ((Ag.put (Ag.base rfl) rfl)) rfl)) rfl)) rfl)) rfl)) rfl) (by rw [hb23]; rfl)
      ·
       refine sbT hb23 ?_
       refine uw rfl rfl rfl rfl ?_
       refine uw rfl rfl rfl rfl ?_
       refine uw rfl rfl rfl rfl ?_
       refine uw rfl rfl rfl rfl ?_
       refine uw rfl rfl rfl rfl ?_
       refine pu rfl rfl rfl rfl rfl ?_
       exact Kg23 _ (Ag.put ((Ag.put ((Ag.put ((Ag.put ((Ag.put ((Ag.put (Ag.base rfl) rfl)) rfl)) rfl)) rfl)) rfl)) rfl) (by rw [hb23]; rfl)
     refine pu rfl rfl rfl rfl rfl ?_
     exact Kg21 _ (Ag.put ((Ag.put ((Ag.ov ((Ag.put ((Ag.put ((Ag.put ((Ag.put (Ag.base rfl) rfl)) rfl)) rfl)) rfl)) rfl)) rfl)) rfl) (by rw [hb21]; rfl)
   refine pu rfl rfl rfl rfl rfl ?_
   refine jy [42, 43, 44, 45, 46, 47] [27, 28, 29, 30, 31, 32, 33, 34, 35, 36, 37, 38, 39, 40, 41, 42] 47 (.bool ((((!r17) || (decide ((at_ a0 x3).Begun < (1 : Int)))) || (((at_ a0 x3).Ended != (0 : Int)) && (decide ((at_ a0 x3).Ended ≤ (at_ a0 x3).Begun)))) || (decide ((((at_ a0 x3).Reads).length : Int) > (6 : Int))))) rfl (fun Kg24 => ?_) (fun j24 => ?_)
   ·
    rcases Bool.eq_false_or_eq_true (((!r17) || (decide ((at_ a0 x3).Begun < (1 : Int)))) || (((at_ a0 x3).Ended != (0 : Int)) && (decide ((at_ a0 x3).Ended ≤ (at_ a0 x3).Begun)))) with hb24 | hb24
    ·
     refine sbT hb24 ?_
     refine uw rfl rfl rfl rfl ?_
     refine uw rfl rfl rfl rfl ?_
     refine uw rfl rfl rfl rfl ?_
     refine uw rfl rfl rfl rfl ?_
     refine pu rfl rfl rfl rfl rfl ?_
     exact Kg24 _ (Ag.put ((Ag.put ((Ag.put ((Ag.put ((Ag.put (Ag.base rfl) rfl)) rfl)) rfl)) rfl)) rfl) (by rw [hb24]; rfl)
    ·
     refine sbT hb24 ?_
     refine fa fa59_4 rfl rfl rfl rfl rfl rfl ?_
     have A25 := (BlF.st B15 p18 rfl)
     refine ld A25 Try.underlying56 rfl rfl rfl rfl rfl rfl rfl rfl ?_
     have A26 := ((A14.st p15 rfl).st p18 rfl)
     refine ln A26 Try.underlying56 rfl rfl rfl rfl rfl rfl ?_
     refine pu rfl rfl rfl rfl rfl ?_
     refine pu rfl rfl rfl rfl rfl ?_
     exact Kg24 _ (Ag.put ((Ag.put ((Ag.put ((Ag.put ((Ag.put (Ag.base rfl) rfl)) rfl)) rfl)) rfl)) rfl) (by rw [hb24]; rfl)
   refine pu rfl rfl rfl rfl rfl ?_
   refine jy [48, 49, 50, 51, 52, 53, 54, 55, 56, 57] [37, 38, 39, 40, 41, 42] 57 (.bool (((((!r17) || (decide ((at_ a0 x3).Begun < (1 : Int)))) || (((at_ a0 x3).Ended != (0 : Int)) && (decide ((at_ a0 x3).Ended ≤ (at_ a0 x3).Begun)))) || (decide ((((at_ a0 x3).Reads).length : Int) > (6 : Int)))) || ((at_ a0 x3).All && (decide ((((at_ a0 x3).Reads).length : Int) > (0 : Int)))))) rfl (fun Kg27 => ?_) (fun j27 => ?_)
   ·
    rcases Bool.eq_false_or_eq_true ((((!r17) || (decide ((at_ a0 x3).Begun < (1 : Int)))) || (((at_ a0 x3).Ended != (0 : Int)) && (decide ((at_ a0 x3).Ended ≤ (at_ a0 x3).Begun)))) || (decide ((((at_ a0 x3).Reads).length : Int) > (6 : Int)))) with hb27 | hb27
    ·
     refine sbT hb27 ?_
     refine uw rfl rfl rfl rfl ?_
     refine uw rfl rfl rfl rfl ?_
     refine uw rfl rfl rfl rfl ?_
     refine uw rfl rfl rfl rfl ?_
     refine uw rfl rfl rfl rfl ?_
     refine uw rfl rfl rfl rfl ?_
     refine uw rfl rfl rfl rfl ?_
     refine uw rfl rfl rfl rfl ?_
     refine pu rfl rfl rfl rfl rfl ?_
     exact Kg27 _ (Ag.put ((Ag.put ((Ag.put ((Ag.put ((Ag.put ((Ag.put ((Ag.put ((Ag.put ((Ag.put (Ag.base rfl) rfl)) rfl)) rfl)) rfl)) rfl)) rfl)) rfl)) rfl)) rfl) (by rw [hb27]; rfl)
    ·
     refine sbT hb27 ?_
     refine fa fa59_3 rfl rfl rfl rfl rfl rfl ?_
     have A28 := (BlF.st B15 p18 rfl)
     refine ld A28 Try.underlying4 rfl rfl rfl rfl rfl rfl rfl rfl ?_
     refine pu rfl rfl rfl rfl rfl ?_
     refine jy [51, 52, 53, 54, 55, 56] [36, 37, 38, 39, 40, 41, 42] 56 (.bool ((at_ a0 x3).All && (decide ((((at_ a0 x3).Reads).length : Int) > (0 : Int))))) rfl (fun Kg29 => ?_) (fun j29 => ?_)
     ·
      rcases Bool.eq_false_or_eq_true ((at_ a0 x3).All) with hb29 | hb29
      ·
       refine sbT hb29 ?_
       refine fa fa59_4 rfl rfl rfl rfl rfl rfl ?_
       refine ld A28 Try.underlying56 rfl rfl rfl rfl rfl rfl rfl rfl ?_
       have A30 := ((A14.st p15 rfl).st p18 rfl)
       refine ln A30 Try.underlying56 rfl rfl rfl rfl rfl rfl ?_
       refine pu rfl rfl rfl rfl rfl ?_
       refine pu rfl rfl rfl rfl rfl ?_
       exact Kg29 _ (Ag.put ((Ag.put ((Ag.put ((Ag.put ((Ag.put (Ag.base rfl) rfl)) rfl)) rfl)) rfl)) rfl) (by rw [hb29]; rfl)
      ·
       refine sbT hb29 ?_
       refine uw rfl rfl rfl rfl ?_
       refine uw rfl rfl rfl rfl ?_
       refine uw rfl rfl rfl rfl ?_
       refine uw rfl rfl rfl rfl ?_
       refine pu rfl rfl rfl rfl rfl ?_
       exact Kg29 _ (Ag.put ((Ag.put ((Ag.put ((Ag.put ((Ag.put (Ag.base rfl) rfl)) rfl)) rfl)) rfl)) rfl) (by rw [hb29]; rfl)
     refine pu rfl rfl rfl rfl rfl ?_
     exact Kg27 _ (Ag.put ((Ag.put ((Ag.ov ((Ag.put ((Ag.put ((Ag.put (Ag.base rfl) rfl)) rfl)) rfl)) rfl)) rfl)) rfl) (by rw [hb27]; rfl)
   refine pu rfl rfl rfl rfl rfl ?_
   refine jy [58, 59, 60, 61, 62, 63] [] 63 (.bool ((((((!r17) || (decide ((at_ a0 x3).Begun < (1 : Int)))) || (((at_ a0 x3).Ended != (0 : Int)) && (decide ((at_ a0 x3).Ended ≤ (at_ a0 x3).Begun)))) || (decide ((((at_ a0 x3).Reads).length : Int) > (6 : Int)))) || ((at_ a0 x3).All && (decide ((((at_ a0 x3).Reads).length : Int) > (0 : Int))))) || (decide ((((at_ a0 x3).Writes).length : Int) > (200 : Int))))) rfl (fun Kg31 => ?_) (fun j31 => ?_)
   ·
    rcases Bool.eq_false_or_eq_true (((((!r17) || (decide ((at_ a0 x3).Begun < (1 : Int)))) || (((at_ a0 x3).Ended != (0 : Int)) && (decide ((at_ a0 x3).Ended ≤ (at_ a0 x3).Begun)))) || (decide ((((at_ a0 x3).Reads).length : Int) > (6 : Int)))) || ((at_ a0 x3).All && (decide ((((at_ a0 x3).Reads).length : Int) > (0 : Int))))) with hb31 | hb31
    ·
     refine sbT hb31 ?_
     refine uw rfl rfl rfl rfl ?_
     refine uw rfl rfl rfl rfl ?_
     refine uw rfl rfl rfl rfl ?_
     refine uw rfl rfl rfl rfl ?_
     refine pu rfl rfl rfl rfl rfl ?_
     exact Kg31 _ (Ag.put ((Ag.put ((Ag.put ((Ag.put ((Ag.put (Ag.base rfl) rfl)) rfl)) rfl)) rfl)) rfl) (by rw [hb31]; rfl)
    ·
     refine sbT hb31 ?_
     refine fa fa59_5 rfl rfl rfl rfl rfl rfl ?_
     have A32 := (BlF.st B15 p18 rfl)
     refine ld A32 Try.underlying57 rfl rfl rfl rfl rfl rfl rfl rfl ?_
     have A33 := ((A13.st p15 rfl).st p18 rfl)
     refine ln A33 Try.underlying57 rfl rfl rfl rfl rfl rfl ?_
     refine pu rfl rfl rfl rfl rfl ?_
     refine pu rfl rfl rfl rfl rfl ?_
     exact Kg31 _ (Ag.put ((Ag.put ((Ag.put ((Ag.put ((Ag.put (Ag.base rfl) rfl)) rfl)) rfl)) rfl)) rfl) (by rw [hb31]; rfl)
   refine dn ?_
   refine cd rfl (fun h34 => ?_) (fun h34 => ?_)
   ·
    refine sr ?_
    refine pu rfl rfl rfl rfl rfl ?_
    refine dn ?_
    refine sgi ?_
    have K35 := (((Kx3.st p11 rfl).st p15 rfl).st p18 rfl)
    exact re rfl Try.func96 rfl (r_t rfl r_nil) rfl ⟨_, rfl, rfl, z.ky K35⟩
   ·
    refine sk ?_
    refine sq ?_
    refine sr ?_
    refine pu rfl rfl rfl rfl rfl ?_
    refine dn ?_
    refine bl ?_
    have A37 := (BlF.st B15 p18 rfl)
    have A38 := ((A14.st p15 rfl).st p18 rfl)
    have A39 := ((A13.st p15 rfl).st p18 rfl)
    have K40 := (((Kx3.st p11 rfl).st p15 rfl).st p18 rfl)
    refine lpI (fun (x36 : Int) (e : Env) (w : World) => ∃ (s : St) (e0 : Env), w = s.w ∧ e = upd (upd (upd (upd e0 0 w0_0) 3 (.int .i64 x3)) 4 (.pointer (some ⟨b11, 0, none⟩))) 5 (.int .i64 x36) ∧ Kp s0 s ∧ BlF s b11 59 [(.int .i64 ((at_ a0 x3).Xid)), (.int .i64 ((at_ a0 x3).Begun)), (.int .i64 ((at_ a0 x3).Ended)), (.bool ((at_ a0 x3).All)), v7_0, v7_1, (.bool ((at_ a0 x3).In)), (.bool ((at_ a0 x3).Out))] 40 ∧ RdF (Kd.sl 80 kd80) s [v7_0] ((at_ a0 x3).Reads) [0] ∧ RdF (Kd.sl 48 kd48) s [v7_1] ((at_ a0 x3).Writes) [0]) ⟨s18, _, rfl, (ue (ue (ue (ue rfl rfl) rfl) rfl) rfl), K40, A37, A38, A39⟩ (fun g36 ih36 => ?_)
    rintro x36 _ _ ⟨s41, _, rfl, rfl, Kx36, Bx36_b11, Cx36_8, Cx36_9⟩
    unfold spec_TracksOk.b1
    refine sq ?_
    refine sr ?_
    refine pu rfl rfl rfl rfl rfl ?_
    refine fa fa59_4 rfl rfl rfl rfl rfl rfl ?_
    refine ld Bx36_b11 Try.underlying56 rfl rfl rfl rfl rfl rfl rfl rfl ?_
    refine ln Cx36_8 Try.underlying56 rfl rfl rfl rfl rfl rfl ?_
    refine pu rfl rfl rfl rfl rfl ?_
    refine dn ?_
    refine cd rfl (fun h43 => ?_) (fun h43 => ?_)
    ·
     refine sk ?_
     refine sq ?_
     refine bl ?_
     refine sr ?_
     refine fa fa59_4 rfl rfl rfl rfl rfl rfl ?_
     refine ld Bx36_b11 Try.underlying56 rfl rfl rfl rfl rfl rfl rfl rfl ?_
     refine pu rfl rfl rfl rfl rfl ?_
     refine ix Cx36_8 Try.underlying56 z80 rfl rfl rfl rfl rfl rfl rfl rfl (fun ad44 es44 h0_44 h1_44 he44 ce44 ia44 => ?_)
     obtain ⟨v44_0, v44_1, v44_2, v44_3, rfl, A44_0, A44_1, A44_2, A44_3⟩ := op80 he44
     refine lca ce44 Try.underlying80 z80 rfl rfl rfl rfl rfl rfl rfl ?_
     refine cl rfl rfl rfl rfl rfl Try.func107 rfl rfl rfl (fun r48 m48 => spec_SpanOk.calls (Span.mk ((at_ ((at_ a0 x3).Reads) x36).From) ((at_ ((at_ a0 x3).Reads) x36).To)) s41.w (fun b => memb [0] (s41.g b) = true) v44_0 v44_1 v44_2 v44_3 ((fl_rdf (s := s41) A44_0).sub (D := [0]) rfl) A44_1 ((fl_rdf (s := s41) A44_2).sub (D := [0]) rfl) A44_3 r48 m48) ?_
     rintro r48 _ w48 m48 ⟨rfl, ky48⟩
     obtain ⟨s49, rfl, p49, n49⟩ := nwx s41 w48 42 ky48
     refine pu rfl rfl rfl rfl rfl ?_
     refine dn ?_
     refine cd rfl (fun h50 => ?_) (fun h50 => ?_)
     ·
      refine sr ?_
      refine pu rfl rfl rfl rfl rfl ?_
      refine dn ?_
      refine sgi ?_
      refine sgi ?_
      have K51 := (Kx36.st p49 rfl)
      exact re rfl Try.func96 rfl (r_t rfl r_nil) rfl ⟨_, rfl, rfl, z.ky K51⟩
     ·
      refine sk ?_
      refine ib ?_
      refine rg ?_
      refine pu rfl rfl rfl rfl rfl ?_
      refine pu rfl rfl rfl rfl rfl ?_
      refine pu rfl rfl rfl rfl rfl ?_
      refine dn ?_
      have A52 := (BlF.st Bx36_b11 p49 rfl)
      have A53 := (Cx36_8.st p49 rfl)
      have A54 := (Cx36_9.st p49 rfl)
      have K55 := (Kx36.st p49 rfl)
      exact lb ih36 ⟨s49, _, rfl, (ue (ue (ue (ue rfl rfl) rfl) rfl) rfl), K55, A52, A53, A54⟩
    ·
     refine xt rfl ?_
     refine sgb ?_
     refine sq ?_
     refine sr ?_
     refine pu rfl rfl rfl rfl rfl ?_
     refine dn ?_
     refine bl ?_
     refine lpI (fun (x56 : Int) (e : Env) (w : World) => ∃ (s : St) (e0 : Env), w = s.w ∧ e = upd (upd (upd (upd e0 0 w0_0) 3 (.int .i64 x3)) 4 (.pointer (some ⟨b11, 0, none⟩))) 6 (.int .i64 x56) ∧ Kp s0 s ∧ BlF s b11 59 [(.int .i64 ((at_ a0 x3).Xid)), (.int .i64 ((at_ a0 x3).Begun)), (.int .i64 ((at_ a0 x3).Ended)), (.bool ((at_ a0 x3).All)), v7_0, v7_1, (.bool ((at_ a0 x3).In)), (.bool ((at_ a0 x3).Out))] 40 ∧ RdF (Kd.sl 80 kd80) s [v7_0] ((at_ a0 x3).Reads) [0] ∧ RdF (Kd.sl 48 kd48) s [v7_1] ((at_ a0 x3).Writes) [0]) ⟨s41, _, rfl, (ue (ue (ue (ue rfl rfl) rfl) rfl) rfl), Kx36, Bx36_b11, Cx36_8, Cx36_9⟩ (fun g56 ih56 => ?_)
     rintro x56 _ _ ⟨s57, _, rfl, rfl, Kx56, Bx56_b11, Cx56_8, Cx56_9⟩
     unfold spec_TracksOk.b2
     refine sq ?_
     refine sr ?_
     refine pu rfl rfl rfl rfl rfl ?_
     refine fa fa59_5 rfl rfl rfl rfl rfl rfl ?_
     refine ld Bx56_b11 Try.underlying57 rfl rfl rfl rfl rfl rfl rfl rfl ?_
     refine ln Cx56_9 Try.underlying57 rfl rfl rfl rfl rfl rfl ?_
     refine pu rfl rfl rfl rfl rfl ?_
     refine dn ?_
     refine cd rfl (fun h59 => ?_) (fun h59 => ?_)
     ·
      refine sk ?_
      refine sq ?_
      refine bl ?_
      refine sr ?_
      refine fa fa59_5 rfl rfl rfl rfl rfl rfl ?_
      refine ld Bx56_b11 Try.underlying57 rfl rfl rfl rfl rfl rfl rfl rfl ?_
      refine pu rfl rfl rfl rfl rfl ?_
      refine ix Cx56_9 Try.underlying57 z48 rfl rfl rfl rfl rfl rfl rfl rfl (fun ad60 es60 h0_60 h1_60 he60 ce60 ia60 => ?_)
      obtain ⟨v60_0, v60_1, rfl, A60_0, A60_1⟩ := op48 he60
      refine lca ce60 Try.underlying48 z48 rfl rfl rfl rfl rfl rfl rfl ?_
      refine cl rfl rfl rfl rfl rfl Try.func120 rfl rfl rfl (fun r63 m63 => spec_KeyOk.calls (at_ ((at_ a0 x3).Writes) x56) s57.w (fun b => memb [0] (s57.g b) = true) v60_0 v60_1 ((fl_rdf (s := s57) A60_0).sub (D := [0]) rfl) A60_1 r63 m63) ?_
      rintro r63 _ w63 m63 ⟨rfl, ky63⟩
      obtain ⟨s64, rfl, p64, n64⟩ := nwx s57 w63 43 ky63
      refine pu rfl rfl rfl rfl rfl ?_
      refine dn ?_
      refine cd rfl (fun h65 => ?_) (fun h65 => ?_)
      ·
       refine sr ?_
       refine pu rfl rfl rfl rfl rfl ?_
       refine dn ?_
       refine sgi ?_
       refine sgi ?_
       have K66 := (Kx56.st p64 rfl)
       exact re rfl Try.func96 rfl (r_t rfl r_nil) rfl ⟨_, rfl, rfl, z.ky K66⟩
      ·
       refine sk ?_
       refine ib ?_
       refine rg ?_
       refine pu rfl rfl rfl rfl rfl ?_
       refine pu rfl rfl rfl rfl rfl ?_
       refine pu rfl rfl rfl rfl rfl ?_
       refine dn ?_
       have A67 := (BlF.st Bx56_b11 p64 rfl)
       have A68 := (Cx56_8.st p64 rfl)
       have A69 := (Cx56_9.st p64 rfl)
       have K70 := (Kx56.st p64 rfl)
       exact lb ih56 ⟨s64, _, rfl, (ue (ue (ue (ue rfl rfl) rfl) rfl) rfl), K70, A67, A68, A69⟩
     ·
      refine xt rfl ?_
      refine sgb ?_
      refine sr ?_
      refine pu rfl rfl rfl rfl rfl ?_
      refine dn ?_
      refine bl ?_
      refine lpI (fun (x71 : Int) (e : Env) (w : World) => ∃ (s : St) (e0 : Env), w = s.w ∧ e = upd (upd (upd (upd e0 0 w0_0) 3 (.int .i64 x3)) 4 (.pointer (some ⟨b11, 0, none⟩))) 7 (.int .i64 x71) ∧ Kp s0 s ∧ BlF s b11 59 [(.int .i64 ((at_ a0 x3).Xid)), (.int .i64 ((at_ a0 x3).Begun)), (.int .i64 ((at_ a0 x3).Ended)), (.bool ((at_ a0 x3).All)), v7_0, v7_1, (.bool ((at_ a0 x3).In)), (.bool ((at_ a0 x3).Out))] 40 ∧ RdF (Kd.sl 80 kd80) s [v7_0] ((at_ a0 x3).Reads) [0] ∧ RdF (Kd.sl 48 kd48) s [v7_1] ((at_ a0 x3).Writes) [0]) ⟨s57, _, rfl, (ue (ue (ue (ue rfl rfl) rfl) rfl) rfl), Kx56, Bx56_b11, Cx56_8, Cx56_9⟩ (fun g71 ih71 => ?_)
      rintro x71 _ _ ⟨s72, _, rfl, rfl, Kx71, Bx71_b11, Cx71_8, Cx71_9⟩
      unfold spec_TracksOk.b3
      refine sq ?_
      refine sr ?_
      refine pu rfl rfl rfl rfl rfl ?_
      refine pu rfl rfl rfl rfl rfl ?_
      refine pu rfl rfl rfl rfl rfl ?_
      refine dn ?_
      refine cd rfl (fun h74 => ?_) (fun h74 => ?_)
      ·
       refine sk ?_
       refine sq ?_
       refine bl ?_
       refine sq ?_
       refine zdraw [[], [], [0, 1], [2], [3], [], [5], [4, 6]] [some 97, some 98, some 99, some 100, some 101, some 102, some 103, some 104] [[0], [7], [97, 98], [99], [100], [4], [102], [101, 103]] [0, 1, 2, 3, 4, 5, 6, 7] ⟨by kernel_rfl, by kernel_rfl, by kernel_rfl⟩ (by kernel_rfl) (fun s75 p75 l75 tb75 zd75 => ?_)
       have zd76 := zd75.add 0 97 w0_0 rfl
       have zd77 := zd76.add 1 98 (.int .i64 x71) rfl
       have K78 := (Kx71.st p75 rfl)
       have A79 := (A0_0.kp K78)
       refine mg fun hg80 => ?_
       obtain ⟨ad80, es80, he80, ce80, ia80⟩ := ix_e A79 rfl hg80.1 hg80.2
       have h0_80 := hg80.1
       have h1_80 := hg80.2
       obtain ⟨v80_0, v80_1, rfl, A80_0, A80_1⟩ := op59 he80
       have zd84 := zd77.add 2 99 (.pointer (some ad80)) rfl
       have zd85 := zd84.add 3 100 (.pointer (some ad80)) rfl
       have zd86 := zd85.add 4 101 (.int .i64 ((at_ a0 x71).Xid)) rfl
       have zd87 := zd86.add 5 102 (.pointer (some ⟨b11, 0, none⟩)) rfl
       have A88 := (BlF.st Bx71_b11 p75 rfl)
       have zd89 := zd87.add 6 103 (.int .i64 ((at_ a0 x3).Xid)) rfl
       have A90 := (BlF.st Bx71_b11 p75 rfl)
       refine zfin [7] tb75 zd89 (pq_cons (ld_q A90 Try.underlying3 rfl rfl rfl rfl rfl rfl rfl rfl) rfl (pq_cons (fa_q fa59_0 rfl rfl rfl rfl rfl rfl) rfl (pq_cons (lc0_q ce80 Try.underlying3 rfl rfl rfl rfl rfl rfl rfl rfl) rfl (pq_cons (fa_q fa59_0 rfl rfl rfl rfl rfl rfl) rfl (pq_cons (ix_q A79 Try.underlying62 z59 hg80.1 hg80.2 ia80 rfl rfl rfl rfl rfl rfl rfl) rfl (pq_cons (pu_q rfl rfl rfl rfl rfl rfl) rfl (pq_cons (mv_q w0_0 rfl rfl rfl rfl rfl rfl) rfl pq_nil))))))) (by kernel_rfl) (by decide) ?_
       refine pu rfl rfl rfl rfl rfl ?_
       refine dn ?_
       refine cd rfl (fun h91 => ?_) (fun h91 => ?_)
       ·
        refine sr ?_
        refine pu rfl rfl rfl rfl rfl ?_
        refine dn ?_
        refine sgi ?_
        refine sgi ?_
        exact re rfl Try.func96 rfl (r_t rfl r_nil) rfl ⟨_, rfl, rfl, z.ky K78⟩
       ·
        refine sk ?_
        refine ib ?_
        refine rg ?_
        refine pu rfl rfl rfl rfl rfl ?_
        refine pu rfl rfl rfl rfl rfl ?_
        refine pu rfl rfl rfl rfl rfl ?_
        refine dn ?_
        have A92 := (BlF.st Bx71_b11 p75 rfl)
        have A93 := (Cx71_8.st p75 rfl)
        have A94 := (Cx71_9.st p75 rfl)
        exact lb ih71 ⟨s75, _, rfl, (ue (ue (ue (ue rfl rfl) rfl) rfl) rfl), K78, A92, A93, A94⟩
      ·
       refine xt rfl ?_
       refine sgb ?_
       refine ib ?_
       refine rg ?_
       refine pu rfl rfl rfl rfl rfl ?_
       refine pu rfl rfl rfl rfl rfl ?_
       refine pu rfl rfl rfl rfl rfl ?_
       refine dn ?_
       exact lb ih3 ⟨s72, _, rfl, (ue (ue rfl rfl) rfl), Kx71⟩
  ·
   refine xt rfl ?_
   refine sgb ?_
   refine sr ?_
   refine pu rfl rfl rfl rfl rfl ?_
   refine dn ?_
   exact re rfl Try.func96 rfl (r_t rfl r_nil) rfl ⟨_, rfl, rfl, z.ky Kx3⟩
noncomputable def spec_l13at.b0 (a0 : (List Track)) (a1 : Int) (x2 : Int) : Option (Int ⊕ Int) :=
 (if (decide (x2 < (a0.length : Int))) = true then (if 0 ≤ x2 ∧ x2 < (a0.length : Int) then ((if ((at_ a0 x2).Xid == a1) = true then (if 0 ≤ x2 ∧ x2 < (a0.length : Int) then (some ((at_ a0 x2).Ended == (0 : Int))) else none) else (some false)).bind fun y10 => (if y10 = true then (some (Sum.inr x2)) else (some (Sum.inl (IntKind.wrap .i64 (x2 + (1 : Int))))))) else none) else ((some (-1 : Int)).bind fun o => some (Sum.inr o)))
noncomputable def spec_l13at.f (a0 : (List Track)) (a1 : Int) : Option (Int) :=
 (iter (spec_l13at.b0 a0 a1) (0 : Int))
def spec_l13at.Q (w : World) (F : Nat → Prop) (r : Int) (v : Value) (w' : World) : Prop :=
 v = (.int .i64 r) ∧ Ky [] w w'
set_option maxHeartbeats 4000000 in
set_option maxRecDepth 100000 in
theorem spec_l13at.calls (a0 : (List Track)) (a1 : Int) (w : World) (F : Nat → Prop) (w0_0 : Value) (h0_0 : (Kd.sl 59 kd59).rd w [w0_0] a0 F) (r : Int) (m : spec_l13at.f a0 a1 = some r) :
  Calls Try.prog 95 #[w0_0, (.int .i64 a1)] w fun en w' => ∃ v, en = .returned v ∧ spec_l13at.Q w F r v w' := by
 obtain ⟨s0, rfl, kp0, z⟩ := start0 w F
 have A0_0 := z.rd h0_0
 refine calls_of_TM (args := [w0_0, (.int .i64 a1)]) (R := fun r en w' => ∃ v, en = .returned v ∧ spec_l13at.Q s0.w F r v w') Try.func95 Try.ntmps95 rfl rfl m ?_
 unfold spec_l13at.f
 refine sr ?_
 refine pu rfl rfl rfl rfl rfl ?_
 refine dn ?_
 refine sq ?_
 refine sr ?_
 refine pu rfl rfl rfl rfl rfl ?_
 refine dn ?_
 refine bl ?_
 refine lpI (fun (x2 : Int) (e : Env) (w : World) => ∃ (s : St) (e0 : Env), w = s.w ∧ e = upd (upd (upd e0 0 w0_0) 1 (.int .i64 a1)) 5 (.int .i64 x2) ∧ Kp s0 s) ⟨s0, _, rfl, (ue (ue (ue rfl rfl) rfl) rfl), kp0⟩ (fun g2 ih2 => ?_)
 rintro x2 _ _ ⟨s3, _, rfl, rfl, Kx2⟩
 unfold spec_l13at.b0
 refine sq ?_
 refine sr ?_
 refine pu rfl rfl rfl rfl rfl ?_
 refine mv w0_0 rfl rfl rfl rfl rfl rfl ?_
 have A4 := (A0_0.kp Kx2)
 refine ln A4 Try.underlying62 rfl rfl rfl rfl rfl rfl ?_
 refine pu rfl rfl rfl rfl rfl ?_
 refine dn ?_
 refine cd rfl (fun h5 => ?_) (fun h5 => ?_)
 ·
  refine sk ?_
  refine sq ?_
  refine bl ?_
  refine sr ?_
  refine mv w0_0 rfl rfl rfl rfl rfl rfl ?_
  refine pu rfl rfl rfl rfl rfl ?_
  refine ix A4 Try.underlying62 z59 rfl rfl rfl rfl rfl rfl rfl rfl (fun ad6 es6 h0_6 h1_6 he6 ce6 ia6 => ?_)
  obtain ⟨v6_0, v6_1, rfl, A6_0, A6_1⟩ := op59 he6
  refine fa fa59_0 rfl rfl rfl rfl rfl rfl ?_
  refine lc0 ce6 Try.underlying3 rfl rfl rfl rfl rfl rfl rfl rfl ?_
  refine pu rfl rfl rfl rfl rfl ?_
  refine pu rfl rfl rfl rfl rfl ?_
  refine pu rfl rfl rfl rfl rfl ?_
  refine ji [] (fun (y10 : Bool) (e : Env) (w : World) => ∃ (s : St) (e0 : Env), w = s.w ∧ e = upd (upd (upd (upd e0 0 w0_0) 1 (.int .i64 a1)) 5 (.int .i64 x2)) 26 (.bool y10) ∧ Kp s0 s) (fun Gj10 Kj10 => ?_) ?_
  ·
   rcases Bool.eq_false_or_eq_true ((at_ a0 x2).Xid == a1) with hb10 | hb10
   ·
    refine sbT hb10 ?_
    rw [if_pos hb10]
    refine mv w0_0 rfl rfl rfl rfl rfl rfl ?_
    refine pu rfl rfl rfl rfl rfl ?_
    refine ix A4 Try.underlying62 z59 rfl rfl rfl rfl rfl rfl rfl rfl (fun ad11 es11 h0_11 h1_11 he11 ce11 ia11 => ?_)
    obtain ⟨v11_0, v11_1, rfl, A11_0, A11_1⟩ := op59 he11
    refine fa fa59_2 rfl rfl rfl rfl rfl rfl ?_
    refine lc ce11 Try.underlying3 rfl rfl rfl rfl rfl rfl rfl rfl ?_
    refine pu rfl rfl rfl rfl rfl ?_
    refine pu rfl rfl rfl rfl rfl ?_
    exact Kj10 _ _ _ ⟨s3, _, rfl, (ue (ue (ue (ue rfl rfl) rfl) rfl) rfl), Kx2⟩
   ·
    refine sbT hb10 ?_
    rw [if_neg (by rw [hb10]; decide)]
    refine uw rfl rfl rfl rfl ?_
    refine uw rfl rfl rfl rfl ?_
    refine uw rfl rfl rfl rfl ?_
    refine uw rfl rfl rfl rfl ?_
    refine uw rfl rfl rfl rfl ?_
    refine uw rfl rfl rfl rfl ?_
    refine pu rfl rfl rfl rfl rfl ?_
    exact Kj10 _ _ _ ⟨s3, _, rfl, (ue (ue (ue (ue rfl rfl) rfl) rfl) rfl), Kx2⟩
  rintro y10 _ _ ⟨s15, _, rfl, rfl, Ky10⟩
  refine dn ?_
  refine cd rfl (fun h16 => ?_) (fun h16 => ?_)
  ·
   refine sr ?_
   refine pu rfl rfl rfl rfl rfl ?_
   refine pu rfl rfl rfl rfl rfl ?_
   refine dn ?_
   refine sgi ?_
   exact re rfl Try.func95 rfl (r_t rfl r_nil) rfl ⟨_, rfl, rfl, z.ky Ky10⟩
  ·
   refine sk ?_
   refine ib ?_
   refine rg ?_
   refine pu rfl rfl rfl rfl rfl ?_
   refine pu rfl rfl rfl rfl rfl ?_
   refine pu rfl rfl rfl rfl rfl ?_
   refine dn ?_
   exact lb ih2 ⟨s15, _, rfl, (ue (ue (ue rfl rfl) rfl) rfl), Ky10⟩
 ·
  refine xt rfl ?_
  refine sgb ?_
  refine sr ?_
  refine pu rfl rfl rfl rfl rfl ?_
  refine dn ?_
  exact re rfl Try.func95 rfl (r_t rfl r_nil) rfl ⟨_, rfl, rfl, z.ky Kx2⟩
noncomputable def spec_Concurrent.f (a0 : Track) (a1 : Track) : Option (Bool) :=
 (some (((a0.Ended == (0 : Int)) || (decide (a0.Ended > a1.Begun))) && ((a1.Ended == (0 : Int)) || (decide (a1.Ended > a0.Begun)))))
def spec_Concurrent.Q (w : World) (F : Nat → Prop) (r : Bool) (v : Value) (w' : World) : Prop :=
 v = (.bool r) ∧ Ky [] w w'
set_option maxHeartbeats 4000000 in
set_option maxRecDepth 100000 in
theorem spec_Concurrent.calls (a0 : Track) (a1 : Track) (w : World) (F : Nat → Prop) (w0_0 : Value) (w0_1 : Value) (w1_0 : Value) (w1_1 : Value) (h0_0 : (Kd.sl 80 kd80).rd w [w0_0] a0.Reads F) (h0_1 : (Kd.sl 48 kd48).rd w [w0_1] a0.Writes F) (h1_0 : (Kd.sl 80 kd80).rd w [w1_0] a1.Reads F) (h1_1 : (Kd.sl 48 kd48).rd w [w1_1] a1.Writes F) (r : Bool) (m : spec_Concurrent.f a0 a1 = some r) :
  Calls Try.prog 110 #[(.agg #[(.int .i64 a0.Xid), (.int .i64 a0.Begun), (.int .i64 a0.Ended), (.bool a0.All), w0_0, w0_1, (.bool a0.In), (.bool a0.Out)]), (.agg #[(.int .i64 a1.Xid), (.int .i64 a1.Begun), (.int .i64 a1.Ended), (.bool a1.All), w1_0, w1_1, (.bool a1.In), (.bool a1.Out)])] w fun en w' => ∃ v, en = .returned v ∧ spec_Concurrent.Q w F r v w' := by
 obtain ⟨s0, rfl, kp0, z⟩ := start0 w F
 have A0_0 := z.rd h0_0
 have A0_1 := z.rd h0_1
 have A1_0 := z.rd h1_0
 have A1_1 := z.rd h1_1
 refine calls_of_TM (args := [(.agg #[(.int .i64 a0.Xid), (.int .i64 a0.Begun), (.int .i64 a0.Ended), (.bool a0.All), w0_0, w0_1, (.bool a0.In), (.bool a0.Out)]), (.agg #[(.int .i64 a1.Xid), (.int .i64 a1.Begun), (.int .i64 a1.Ended), (.bool a1.All), w1_0, w1_1, (.bool a1.In), (.bool a1.Out)])]) (R := fun r en w' => ∃ v, en = .returned v ∧ spec_Concurrent.Q s0.w F r v w') Try.func110 Try.ntmps110 rfl rfl m ?_
 unfold spec_Concurrent.f
 refine sr ?_
 refine bx (cs := [(.int .i64 a0.Xid), (.int .i64 a0.Begun), (.int .i64 a0.Ended), (.bool a0.All), w0_0, w0_1, (.bool a0.In), (.bool a0.Out)]) 40 rfl rfl rfl rfl rfl rfl (fun b5 s5 p5 B5 => ?_)
 refine bx (cs := [(.int .i64 a1.Xid), (.int .i64 a1.Begun), (.int .i64 a1.Ended), (.bool a1.All), w1_0, w1_1, (.bool a1.In), (.bool a1.Out)]) 41 rfl rfl rfl rfl rfl rfl (fun b7 s7 p7 B7 => ?_)
 refine pu rfl rfl rfl rfl rfl ?_
 refine dn ?_
 refine sr ?_
 refine fa fa59_2 rfl rfl rfl rfl rfl rfl ?_
 have A9 := (BlF.st B5 p7 rfl)
 refine ld A9 Try.underlying3 rfl rfl rfl rfl rfl rfl rfl rfl ?_
 refine pu rfl rfl rfl rfl rfl ?_
 refine pu rfl rfl rfl rfl rfl ?_
 refine jy [8, 9, 10, 11, 12, 13, 14] [10, 11, 12, 13, 14, 15, 16, 17, 18, 19, 20, 21, 22] 14 (.bool ((a0.Ended == (0 : Int)) || (decide (a0.Ended > a1.Begun)))) rfl (fun Kg10 => ?_) (fun j10 => ?_)
 ·
  rcases Bool.eq_false_or_eq_true (a0.Ended == (0 : Int)) with hb10 | hb10
  ·
   refine sbT hb10 ?_
   refine uw rfl rfl rfl rfl ?_
   refine uw rfl rfl rfl rfl ?_
   refine uw rfl rfl rfl rfl ?_
   refine uw rfl rfl rfl rfl ?_
   refine uw rfl rfl rfl rfl ?_
   refine pu rfl rfl rfl rfl rfl ?_
   exact Kg10 _ (Ag.put ((Ag.put ((Ag.put ((Ag.put ((Ag.put ((Ag.put (Ag.base rfl) rfl)) rfl)) rfl)) rfl)) rfl)) rfl) (by rw [hb10]; rfl)
  ·
   refine sbT hb10 ?_
   refine fa fa59_2 rfl rfl rfl rfl rfl rfl ?_
   refine ld A9 Try.underlying3 rfl rfl rfl rfl rfl rfl rfl rfl ?_
   refine fa fa59_1 rfl rfl rfl rfl rfl rfl ?_
   refine ld B7 Try.underlying3 rfl rfl rfl rfl rfl rfl rfl rfl ?_
   refine pu rfl rfl rfl rfl rfl ?_
   refine pu rfl rfl rfl rfl rfl ?_
   exact Kg10 _ (Ag.put ((Ag.put ((Ag.put ((Ag.put ((Ag.put ((Ag.put (Ag.base rfl) rfl)) rfl)) rfl)) rfl)) rfl)) rfl) (by rw [hb10]; rfl)
 refine pu rfl rfl rfl rfl rfl ?_
 refine jy [15, 16, 17, 18, 19, 20, 21, 22, 23, 24, 25, 26] [22] 26 (.bool (((a0.Ended == (0 : Int)) || (decide (a0.Ended > a1.Begun))) && ((a1.Ended == (0 : Int)) || (decide (a1.Ended > a0.Begun))))) rfl (fun Kg11 => ?_) (fun j11 => ?_)
 ·
  rcases Bool.eq_false_or_eq_true ((a0.Ended == (0 : Int)) || (decide (a0.Ended > a1.Begun))) with hb11 | hb11
  ·
   refine sbT hb11 ?_
   refine fa fa59_2 rfl rfl rfl rfl rfl rfl ?_
   refine ld B7 Try.underlying3 rfl rfl rfl rfl rfl rfl rfl rfl ?_
   refine pu rfl rfl rfl rfl rfl ?_
   refine pu rfl rfl rfl rfl rfl ?_
   refine jy [19, 20, 21, 22, 23, 24, 25] [21, 22] 25 (.bool ((a1.Ended == (0 : Int)) || (decide (a1.Ended > a0.Begun)))) rfl (fun Kg12 => ?_) (fun j12 => ?_)
   ·
    rcases Bool.eq_false_or_eq_true (a1.Ended == (0 : Int)) with hb12 | hb12
    ·
     refine sbT hb12 ?_
     refine uw rfl rfl rfl rfl ?_
     refine uw rfl rfl rfl rfl ?_
     refine uw rfl rfl rfl rfl ?_
     refine uw rfl rfl rfl rfl ?_
     refine uw rfl rfl rfl rfl ?_
     refine pu rfl rfl rfl rfl rfl ?_
     exact Kg12 _ (Ag.put ((Ag.put ((Ag.put ((Ag.put ((Ag.put ((Ag.put (Ag.base rfl) rfl)) rfl)) rfl)) rfl)) rfl)) rfl) (by rw [hb12]; rfl)
    ·
     refine sbT hb12 ?_
     refine fa fa59_2 rfl rfl rfl rfl rfl rfl ?_
     refine ld B7 Try.underlying3 rfl rfl rfl rfl rfl rfl rfl rfl ?_
     refine fa fa59_1 rfl rfl rfl rfl rfl rfl ?_
     refine ld A9 Try.underlying3 rfl rfl rfl rfl rfl rfl rfl rfl ?_
     refine pu rfl rfl rfl rfl rfl ?_
     refine pu rfl rfl rfl rfl rfl ?_
     exact Kg12 _ (Ag.put ((Ag.put ((Ag.put ((Ag.put ((Ag.put ((Ag.put (Ag.base rfl) rfl)) rfl)) rfl)) rfl)) rfl)) rfl) (by rw [hb12]; rfl)
   refine pu rfl rfl rfl rfl rfl ?_
   exact Kg11 _ (Ag.put ((Ag.put ((Ag.ov ((Ag.put ((Ag.put ((Ag.put ((Ag.put (Ag.base rfl) rfl)) rfl)) rfl)) rfl)) rfl)) rfl)) rfl) (by rw [hb11]; rfl)
  ·
   refine sbT hb11 ?_
   refine uw rfl rfl rfl rfl ?_
   refine uw rfl rfl rfl rfl ?_
   refine uw rfl rfl rfl rfl ?_
   refine uw rfl rfl rfl rfl ?_
   refine uw rfl rfl rfl rfl ?_
   refine uw rfl rfl rfl rfl ?_
   refine uw rfl rfl rfl rfl ?_
   refine uw rfl rfl rfl rfl ?_
   refine uw rfl rfl rfl rfl ?_
   refine uw rfl rfl rfl rfl ?_
   refine pu rfl rfl rfl rfl rfl ?_
   exact Kg11 _ (Ag.put ((Ag.put ((Ag.put ((Ag.put ((Ag.put ((Ag.put ((Ag.put ((Ag.put ((Ag.put ((Ag.put ((Ag.put (Ag.base rfl) rfl)) rfl)) rfl)) rfl)) rfl)) rfl)) rfl)) rfl)) rfl)) rfl)) rfl) (by rw [hb11]; rfl)
 refine pu rfl rfl rfl rfl rfl ?_
 refine dn ?_
 have K13 := ((kp0.st p5 rfl).st p7 rfl)
 exact re rfl Try.func110 rfl (r_t rfl r_nil) rfl ⟨_, rfl, rfl, z.ky K13⟩
noncomputable def spec_EdgeRead.b1 (a0 : (List Track)) (a2 : Span) (r8 : Int) (x116 : (List Track) × Int × Int × Bool) (x133 : Bool × Int) : Option ((Bool × Int) ⊕ ((List Track) × Int × Bool)) :=
 (if (decide (x133.2 < (((at_ x116.1 x116.2.2.1).Writes).length : Int))) = true then ((if x133.1 = true then (some true) else (if 0 ≤ x133.2 ∧ x133.2 < (((at_ x116.1 x116.2.2.1).Writes).length : Int) then ((spec_InSpan.f a2.From a2.To (at_ ((at_ x116.1 x116.2.2.1).Writes) x133.2)).bind fun r191 => (some r191)) else none)).bind fun y150 => (some (Sum.inl (y150, (IntKind.wrap .i64 (x133.2 + (1 : Int))))))) else (((if (x116.2.2.1 == r8) = true then (some true) else ((if (!x133.1) = true then (some (true, true)) else (if 0 ≤ r8 ∧ r8 < (a0.length : Int) then ((spec_Concurrent.f (at_ a0 r8) (at_ x116.1 x116.2.2.1)).bind fun r264 => (some (false, (!r264)))) else none)).bind fun y234 => (some y234.2))).bind fun y211 => (if y211 = true then (some (x116.1, x116.2.1, x116.2.2.2)) else (if 0 ≤ x116.2.2.1 ∧ x116.2.2.1 < (x116.1.length : Int) then ((some (x116.1.set (x116.2.2.1).toNat (Track.mk ((at_ x116.1 x116.2.2.1).Xid) ((at_ x116.1 x116.2.2.1).Begun) ((at_ x116.1 x116.2.2.1).Ended) ((at_ x116.1 x116.2.2.1).All) ((at_ x116.1 x116.2.2.1).Reads) ((at_ x116.1 x116.2.2.1).Writes) true ((at_ x116.1 x116.2.2.1).Out)))).bind fun y299 => ((if ((decide ((at_ x116.1 x116.2.2.1).Ended > (0 : Int))) && (at_ x116.1 x116.2.2.1).Out) = true then (some (2 : Int)) else (some x116.2.1)).bind fun y302 => (some (y299, y302, true)))) else none))).bind fun o => some (Sum.inr o)))
noncomputable def spec_EdgeRead.b0 (a0 : (List Track)) (a2 : Span) (r8 : Int) (r30 : (List Track)) (y43 : (List Track) × Bool × (List Span) × (List Item)) (x116 : (List Track) × Int × Int × Bool) : Option (((List Track) × Int × Int × Bool) ⊕ ((List Track) × Int)) :=
 (if (decide (x116.2.2.1 < (x116.1.length : Int))) = true then ((if 0 ≤ x116.2.2.1 ∧ x116.2.2.1 < (x116.1.length : Int) then (iter (spec_EdgeRead.b1 a0 a2 r8 x116) (false, (0 : Int))) else none).bind fun y122 => (some (Sum.inl (y122.1, y122.2.1, (IntKind.wrap .i64 (x116.2.2.1 + (1 : Int))), y122.2.2)))) else ((if 0 ≤ r8 ∧ r8 < (x116.1.length : Int) then ((some (x116.1.set (r8).toNat (Track.mk ((at_ r30 r8).Xid) ((at_ r30 r8).Begun) ((at_ r30 r8).Ended) y43.2.1 y43.2.2.1 y43.2.2.2 ((at_ r30 r8).In) x116.2.2.2))).bind fun y327 => ((if ((at_ r30 r8).In && x116.2.2.2) = true then (some (2 : Int)) else (some x116.2.1)).bind fun y330 => (some (y327, y330)))) else none).bind fun o => some (Sum.inr o)))
noncomputable def spec_EdgeRead.f (a0 : (List Track)) (a1 : Int) (a2 : Span) : Option ((List Track) × Int) :=
 ((spec_l13at.f a0 a1).bind fun r8 => ((spec_TracksOk.f a0).bind fun r12 => ((if ((!r12) || (decide (r8 < (0 : Int)))) = true then (some true) else ((spec_SpanOk.f a2).bind fun r22 => (some (!r22)))).bind fun y15 => (if y15 = true then (some (([] : (List Track)), (1 : Int))) else ((spec_l13copy.f a0).bind fun r30 => (if 0 ≤ r8 ∧ r8 < (r30.length : Int) then ((if (!((at_ r30 r8).All)) = true then ((spec_l13spans.f ([a2])).bind fun r62 => (if ((at_ r30 r8).Reads).length + r62.length ≤ Lim then ((if (decide ((((at_ r30 r8).Reads ++ r62).length : Int) > (6 : Int))) = true then (some (true, ([] : (List Span)))) else (some ((at_ r30 r8).All, ((at_ r30 r8).Reads ++ r62)))).bind fun y79 => (some (r30, y79.1, y79.2, (at_ r30 r8).Writes))) else none)) else (some (r30, (at_ r30 r8).All, (at_ r30 r8).Reads, (at_ r30 r8).Writes))).bind fun y43 => (iter (spec_EdgeRead.b0 a0 a2 r8 r30 y43) (y43.1, (0 : Int), (0 : Int), (at_ r30 r8).Out))) else none))))))
def spec_EdgeRead.Q (w : World) (F : Nat → Prop) (r : (List Track) × Int) (v : Value) (w' : World) : Prop :=
 ∃ (v0 : Value), v = .tuple #[v0, (.int .i64 r.2)] ∧ FR (Kd.sl 59 kd59) F w w' [v0] r.1 ∧ Ky [] w w'
set_option maxHeartbeats 4000000 in
set_option maxRecDepth 100000 in
theorem spec_EdgeRead.calls (a0 : (List Track)) (a1 : Int) (a2 : Span) (w : World) (F : Nat → Prop) (w0_0 : Value) (w2_0 : Value) (w2_1 : Value) (w2_2 : Value) (w2_3 : Value) (h0_0 : (Kd.sl 59 kd59).rd w [w0_0] a0 F) (h2_0 : Kd.flt.rd w [w2_0] a2.From.F F) (h2_1 : (Kd.sl 5 (Kd.int .u8)).rd w [w2_1] a2.From.T F) (h2_2 : Kd.flt.rd w [w2_2] a2.To.F F) (h2_3 : (Kd.sl 5 (Kd.int .u8)).rd w [w2_3] a2.To.T F) (r : (List Track) × Int) (m : spec_EdgeRead.f a0 a1 a2 = some r) :
  Calls Try.prog 41 #[w0_0, (.int .i64 a1), (.agg #[(.int .i64 a2.From.Kind), (.int .i64 a2.From.N), w2_0, w2_1, (.int .i64 a2.To.Kind), (.int .i64 a2.To.N), w2_2, w2_3])] w fun en w' => ∃ v, en = .returned v ∧ spec_EdgeRead.Q w F r v w' := by
 obtain ⟨s0, rfl, kp0, z⟩ := start0 w F
 have A0_0 := z.rd h0_0
 have A2_0 := fl_of h2_0
 have A2_1 := z.rd h2_1
 have A2_2 := fl_of h2_2
 have A2_3 := z.rd h2_3
 refine calls_of_TM (args := [w0_0, (.int .i64 a1), (.agg #[(.int .i64 a2.From.Kind), (.int .i64 a2.From.N), w2_0, w2_1, (.int .i64 a2.To.Kind), (.int .i64 a2.To.N), w2_2, w2_3])]) (R := fun r en w' => ∃ v, en = .returned v ∧ spec_EdgeRead.Q s0.w F r v w') Try.func41 Try.ntmps41 rfl rfl m ?_
 unfold spec_EdgeRead.f
 refine sr ?_
 refine bx (cs := [(.int .i64 a2.From.Kind), (.int .i64 a2.From.N), w2_0, w2_1, (.int .i64 a2.To.Kind), (.int .i64 a2.To.N), w2_2, w2_3]) 40 rfl rfl rfl rfl rfl rfl (fun b4 s4 p4 B4 => ?_)
 refine pu rfl rfl rfl rfl rfl ?_
 refine pu rfl rfl rfl rfl rfl ?_
 refine dn ?_
 refine sr ?_
 refine mv w0_0 rfl rfl rfl rfl rfl rfl ?_
 refine pu rfl rfl rfl rfl rfl ?_
 have K6 := (kp0.st p4 rfl)
 have A7 := (A0_0.kp K6)
 refine cl rfl rfl rfl rfl rfl Try.func95 rfl rfl rfl (fun r8 m8 => spec_l13at.calls a0 a1 s4.w (fun b => memb [0] (s4.g b) = true) w0_0 A7 r8 m8) ?_
 rintro r8 _ w8 m8 ⟨rfl, ky8⟩
 obtain ⟨s9, rfl, p9, n9⟩ := nwx s4 w8 41 ky8
 refine pu rfl rfl rfl rfl rfl ?_
 refine dn ?_
 refine sq ?_
 refine sr ?_
 refine mv w0_0 rfl rfl rfl rfl rfl rfl ?_
 have K10 := (K6.st p9 rfl)
 have A11 := (A0_0.kp K10)
 refine cl rfl rfl rfl rfl rfl Try.func96 rfl rfl rfl (fun r12 m12 => spec_TracksOk.calls a0 s9.w (fun b => memb [0] (s9.g b) = true) w0_0 A11 r12 m12) ?_
 rintro r12 _ w12 m12 ⟨rfl, ky12⟩
 obtain ⟨s13, rfl, p13, n13⟩ := nwx s9 w12 42 ky12
 refine pu rfl rfl rfl rfl rfl ?_
 refine pu rfl rfl rfl rfl rfl ?_
 refine jy [22, 23, 24, 25] [7, 8, 9, 10, 11] 25 (.bool ((!r12) || (decide (r8 < (0 : Int))))) rfl (fun Kg14 => ?_) (fun j14 => ?_)
 ·
  rcases Bool.eq_false_or_eq_true (!r12) with hb14 | hb14
  ·
   refine sbT hb14 ?_
   refine uw rfl rfl rfl rfl ?_
   refine uw rfl rfl rfl rfl ?_
   refine pu rfl rfl rfl rfl rfl ?_
   exact Kg14 _ (Ag.put ((Ag.put ((Ag.put (Ag.base rfl) rfl)) rfl)) rfl) (by rw [hb14]; rfl)
  ·
   refine sbT hb14 ?_
   refine pu rfl rfl rfl rfl rfl ?_
   refine pu rfl rfl rfl rfl rfl ?_
   refine pu rfl rfl rfl rfl rfl ?_
   exact Kg14 _ (Ag.put ((Ag.put ((Ag.put (Ag.base rfl) rfl)) rfl)) rfl) (by rw [hb14]; rfl)
 refine pu rfl rfl rfl rfl rfl ?_
 refine ji [] (fun (y15 : Bool) (e : Env) (w : World) => ∃ (s : St) (e0 : Env), w = s.w ∧ e = upd (upd (upd (upd e0 0 w0_0) 5 (.pointer (some ⟨b4, 0, none⟩))) 8 (.int .i64 r8)) 30 (.bool y15) ∧ Kp s0 s ∧ BlF s b4 80 [(.int .i64 a2.From.Kind), (.int .i64 a2.From.N), w2_0, w2_1, (.int .i64 a2.To.Kind), (.int .i64 a2.To.N), w2_2, w2_3] 40) (fun Gj15 Kj15 => ?_) ?_
 ·
  rcases Bool.eq_false_or_eq_true ((!r12) || (decide (r8 < (0 : Int)))) with hb15 | hb15
  ·
   refine sbT hb15 ?_
   rw [if_pos hb15]
   refine uw rfl rfl rfl rfl ?_
   refine uw rfl rfl rfl rfl ?_
   refine uw rfl rfl rfl rfl ?_
   refine pu rfl rfl rfl rfl rfl ?_
   have A16 := (BlF.st (BlF.st B4 p9 rfl) p13 rfl)
   have K17 := (K10.st p13 rfl)
   exact Kj15 _ _ _ ⟨s13, _, rfl, (ue (ue (ue (ue rfl rfl) rfl) rfl) rfl), K17, A16⟩
  ·
   refine sbT hb15 ?_
   rw [if_neg (by rw [hb15]; decide)]
   have A18 := (BlF.st (BlF.st B4 p9 rfl) p13 rfl)
   refine lda (es := [(.int .i64 a2.From.Kind), (.int .i64 a2.From.N), w2_0, w2_1, (.int .i64 a2.To.Kind), (.int .i64 a2.To.N), w2_2, w2_3]) A18 Try.underlying80 z80 rfl rfl rfl rfl rfl rfl rfl rfl ?_
   have K19 := (K10.st p13 rfl)
   have A20 := (A2_1.kp K19)
   have A21 := (A2_3.kp K19)
   refine cl rfl rfl rfl rfl rfl Try.func107 rfl rfl rfl (fun r22 m22 => spec_SpanOk.calls a2 s13.w (fun b => memb [0] (s13.g b) = true) w2_0 w2_1 w2_2 w2_3 ((fl_rdf (s := s13) A2_0).sub (D := [0]) rfl) A20 ((fl_rdf (s := s13) A2_2).sub (D := [0]) rfl) A21 r22 m22) ?_
   rintro r22 _ w22 m22 ⟨rfl, ky22⟩
   obtain ⟨s23, rfl, p23, n23⟩ := nwx s13 w22 43 ky22
   refine pu rfl rfl rfl rfl rfl ?_
   refine pu rfl rfl rfl rfl rfl ?_
   have A24 := (BlF.st A18 p23 rfl)
   have K25 := (K19.st p23 rfl)
   exact Kj15 _ _ _ ⟨s23, _, rfl, (ue (ue (ue (ue rfl rfl) rfl) rfl) rfl), K25, A24⟩
 rintro y15 _ _ ⟨s26, _, rfl, rfl, Ky15, By15_b4⟩
 refine dn ?_
 refine cd rfl (fun h28 => ?_) (fun h28 => ?_)
 ·
  refine sr ?_
  refine pu rfl rfl rfl rfl rfl ?_
  refine pu rfl rfl rfl rfl rfl ?_
  refine dn ?_
  exact re rfl Try.func41 rfl (r_t rfl (r_t rfl r_nil)) rfl ⟨_, rfl, (.slice none 0 0), rfl, z.fr Ky15 (rd_nil 59 kd59 s26 []) rfl, z.ky Ky15⟩
 ·
  refine sk ?_
  refine sr ?_
  refine mv w0_0 rfl rfl rfl rfl rfl rfl ?_
  have A29 := (A0_0.kp Ky15)
  refine cl rfl rfl rfl rfl rfl Try.func97 rfl rfl rfl (fun r30 m30 => spec_l13copy.calls a0 s26.w (fun b => memb [0] (s26.g b) = true) w0_0 A29 r30 m30) ?_
  rintro r30 v30_0 w30 m30 ⟨f30_0, ky30⟩
  obtain ⟨s31, rfl, p31, n31⟩ := nwx s26 w30 44 ky30
  have A30_0 := f30_0.c n31
  refine asg v30_0 rfl rfl rfl rfl rfl rfl ?_
  refine dn ?_
  refine sr ?_
  refine mv v30_0 rfl rfl rfl rfl rfl rfl ?_
  refine pu rfl rfl rfl rfl rfl ?_
  refine ix A30_0.rd Try.underlying62 z59 rfl rfl rfl rfl rfl rfl rfl rfl (fun ad33 es33 h0_33 h1_33 he33 ce33 ia33 => ?_)
  obtain ⟨v33_0, v33_1, rfl, A33_0, A33_1⟩ := op59 he33
  refine lca ce33 Try.underlying59 z59 rfl rfl rfl rfl rfl rfl rfl ?_
  refine al (cs := [(.int .i64 (0 : Int)), (.int .i64 (0 : Int)), (.int .i64 (0 : Int)), (.bool false), (.slice none 0 0), (.slice none 0 0), (.bool false), (.bool false)]) 45 rfl rfl rfl rfl rfl o59 rfl (fun b37 s37 p37 B37 => ?_)
  have A39 := (A33_1.st p37 rfl)
  have A40 := (A33_0.st p37 rfl)
  refine sva (vs := [(.int .i64 ((at_ r30 r8).Xid)), (.int .i64 ((at_ r30 r8).Begun)), (.int .i64 ((at_ r30 r8).Ended)), (.bool ((at_ r30 r8).All)), v33_0, v33_1, (.bool ((at_ r30 r8).In)), (.bool ((at_ r30 r8).Out))]) B37 z59 rfl rfl rfl rfl rfl rfl (on_cons rfl (on_cons rfl (on_cons rfl (on_cons rfl (on_cons A40.one (on_cons A39.one (on_cons rfl (on_cons rfl on_nil)))))))) rfl (fun s41 p41 B41 => ?_)
  refine dn ?_
  refine sq ?_
  refine sr ?_
  refine fa fa59_3 rfl rfl rfl rfl rfl rfl ?_
  refine ld B41 Try.underlying4 rfl rfl rfl rfl rfl rfl rfl rfl ?_
  refine pu rfl rfl rfl rfl rfl ?_
  refine dn ?_
  refine jc (fun (y43 : (List Track) × Bool × (List Span) × (List Item)) (e : Env) (w : World) => ∃ (s : St) (e0 : Env) (vy43_1 : Value), w = s.w ∧ e = upd (upd (upd (upd (upd e0 0 w0_0) 5 (.pointer (some ⟨b4, 0, none⟩))) 8 (.int .i64 r8)) 9 v30_0) 10 (.pointer (some ⟨b37, 0, none⟩)) ∧ Kp s0 s ∧ RwF 59 kd59 s v30_0 y43.1 44 [49, 48, 50] ∧ RdF (Kd.sl 80 kd80) s [vy43_1] y43.2.2.1 [48, 50] ∧ RdF (Kd.sl 48 kd48) s [v33_1] y43.2.2.2 [49, 48, 50] ∧ BlF s b37 59 [(.int .i64 ((at_ r30 r8).Xid)), (.int .i64 ((at_ r30 r8).Begun)), (.int .i64 ((at_ r30 r8).Ended)), (.bool y43.2.1), vy43_1, v33_1, (.bool ((at_ r30 r8).In)), (.bool ((at_ r30 r8).Out))] 45 ∧ BlF s b4 80 [(.int .i64 a2.From.Kind), (.int .i64 a2.From.N), w2_0, w2_1, (.int .i64 a2.To.Kind), (.int .i64 a2.To.N), w2_2, w2_3] 40) (fun Gj43 Kj43 => ?_) ?_
  ·
   refine cd rfl (fun h44 => ?_) (fun h44 => ?_)
   ·
    refine sq ?_
    refine zdraw [[], [0], [], [2], [3], [1, 4, 4], [0, 1, 2, 3, 4, 5], [6, 5, 5, 0, 1, 2, 3, 4, 5]] [some 40, some 41, some 42, some 43, some 44, some 45, some 46, none] [[10], [40], [5], [42], [43], [41, 44], [10], [46, 45]] [0, 1, 2, 3, 4, 5, 6, 7] ⟨by kernel_rfl, by kernel_rfl, by kernel_rfl⟩ (by kernel_rfl) (fun s45 p45 l45 tb45 zd45 => ?_)
    have zd46 := zd45.add 0 40 (.pointer (some ⟨b37, 4, none⟩)) rfl
    have A47 := (BlF.st B41 p45 rfl)
    have zd48 := zd46.add 1 41 v33_0 rfl
    have A49 := (BlF.st (BlF.st (BlF.st (BlF.st By15_b4 p31 rfl) p37 rfl) p41 rfl) p45 rfl)
    have zd50 := zd48.add 2 42 (.agg #[(.int .i64 a2.From.Kind), (.int .i64 a2.From.N), w2_0, w2_1, (.int .i64 a2.To.Kind), (.int .i64 a2.To.N), w2_2, w2_3]) rfl
    have A52 := (BlF.st B41 p45 rfl)
    have A53 := (BlF.st (BlF.st (BlF.st (BlF.st By15_b4 p31 rfl) p37 rfl) p41 rfl) p45 rfl)
    refine zstep 3 [some 41, some 40] tb45 zd50 (pq_cons (lda_q (es := [(.int .i64 a2.From.Kind), (.int .i64 a2.From.N), w2_0, w2_1, (.int .i64 a2.To.Kind), (.int .i64 a2.To.N), w2_2, w2_3]) A53 Try.underlying80 z80 rfl rfl rfl rfl rfl rfl rfl rfl) rfl (pq_cons (ld_q A52 Try.underlying56 rfl rfl rfl rfl rfl rfl rfl rfl) rfl (pq_cons (fa_q fa59_4 rfl rfl rfl rfl rfl rfl) rfl pq_nil))) (by kernel_rfl) rfl (fun l51 e51 zd51 => ?_)
    have K54 := ((((Ky15.st p31 rfl).st p37 rfl).st p41 rfl).st p45 rfl)
    have A55 := (A2_1.kp K54)
    have A56 := (A2_3.kp K54)
    refine ltR (K := kd80) (cells := [(.int .i64 a2.From.Kind), (.int .i64 a2.From.N), w2_0, w2_1, (.int .i64 a2.To.Kind), (.int .i64 a2.To.N), w2_2, w2_3]) [a2] 46 [0] rfl Try.underlying56 z80 o80 (el_cons (mk80 (x := a2) A2_0 A55 A2_2 A56) el_nil) rfl rfl rfl rfl rfl rfl rfl rfl rfl rfl (fun v57 s57 p57 A57 => ?_)
    refine zdone (L' := [1, 0]) (D' := [2, 3]) zd51 rfl rfl rfl (fun zd59 => ?_)
    have A61 := (BlF.st (BlF.st B41 p45 rfl) p57 rfl)
    refine zstep 4 [some 41, some 40] tb45 zd59 (pq_cons (ld_q A61 Try.underlying56 rfl rfl rfl rfl rfl rfl rfl rfl) rfl (pq_cons (fa_q fa59_4 rfl rfl rfl rfl rfl rfl) rfl pq_nil)) (by kernel_rfl) rfl (fun l60 e60 zd60 => ?_)
    refine cl rfl rfl rfl rfl rfl Try.func108 rfl rfl rfl (fun r62 m62 => spec_l13spans.calls ([a2]) s57.w (fun b => memb [46, 0] (s57.g b) = true) v57 A57.rd r62 m62) ?_
    rintro r62 v62_0 w62 m62 ⟨f62_0, ky62⟩
    obtain ⟨s63, rfl, p63, n63⟩ := nwx s57 w62 47 ky62
    have A62_0 := f62_0.c n63
    refine zdone (L' := [1, 0]) (D' := [4, 2, 3]) zd60 rfl rfl rfl (fun zd65 => ?_)
    have A66 := (BlF.st (BlF.st (BlF.st B41 p45 rfl) p57 rfl) p63 rfl)
    refine zfin [5, 6, 7] tb45 zd65 (pq_cons (ld_q A66 Try.underlying56 rfl rfl rfl rfl rfl rfl rfl rfl) rfl (pq_cons (fa_q fa59_4 rfl rfl rfl rfl rfl rfl) rfl pq_nil)) (by kernel_rfl) (by decide) ?_
    have ce67 := (((((ce33.st p37 rfl rfl).st p41 rfl rfl).st p45 rfl rfl).st p57 rfl rfl).st p63 rfl rfl)
    have A68 := (((((A30_0.st p37 rfl).st p41 rfl).st p45 rfl).st p57 rfl).st p63 rfl)
    refine apK 48 49 (lg_iso (fun x : Track => (x.Xid, x.Begun, x.Ended, x.All, x.Reads, x.Writes, x.In, x.Out)) (fun x => x.Reads) (fun x y => (Track.mk x.Xid x.Begun x.Ended x.All y x.Writes x.In x.Out)) (lg_right (lg_right (lg_right (lg_right (lg_left lg_id))))) (fun _ => rfl) (fun _ _ => rfl)) (fun _ => rfl) A68 h0_33 h1_33 ia33 ce67 rfl rfl rfl rfl sl56 A62_0 rfl rfl rfl rfl rfl rfl rfl rfl rfl (fun v69 s69 p69 A69 R69 E69 => ?_)
    obtain ⟨q71_0, q71_1, e71, hq71_0, hq71_1⟩ := op59 E69
    have y71_0 : q71_0 = v33_0 := congrArg (fun l => (List.drop 4 l).headD undef) e71.symm
    have B71_0 : RdF (Kd.sl 80 kd80) s69 [v33_0] ((at_ r30 r8).Reads) [49, 48] := by rw [← y71_0]; exact hq71_0
    have y71_1 : q71_1 = v33_1 := congrArg (fun l => (List.drop 5 l).headD undef) e71.symm
    have B71_1 : RdF (Kd.sl 48 kd48) s69 [v33_1] ((at_ r30 r8).Writes) [49, 48] := by rw [← y71_1]; exact hq71_1
    refine fa fa59_4 rfl rfl rfl rfl rfl rfl ?_
    have A75 := (BlF.st (BlF.st (BlF.st (BlF.st B41 p45 rfl) p57 rfl) p63 rfl) p69 rfl)
    refine sv A75 z56 rfl rfl rfl rfl rfl rfl A69.rd.one rfl (fun s76 p76 B76 => ?_)
    refine dn ?_
    refine sr ?_
    refine fa fa59_4 rfl rfl rfl rfl rfl rfl ?_
    refine ld B76 Try.underlying56 rfl rfl rfl rfl rfl rfl rfl rfl ?_
    have A78 := (A69.st p76 rfl)
    refine ln A78.rd Try.underlying56 rfl rfl rfl rfl rfl rfl ?_
    refine pu rfl rfl rfl rfl rfl ?_
    refine dn ?_
    refine jc (fun (y79 : Bool × (List Span)) (e : Env) (w : World) => ∃ (s : St) (e0 : Env) (vy79_0 : Value), w = s.w ∧ e = upd (upd (upd (upd (upd e0 0 w0_0) 5 (.pointer (some ⟨b4, 0, none⟩))) 8 (.int .i64 r8)) 9 v30_0) 10 (.pointer (some ⟨b37, 0, none⟩)) ∧ Kp s0 s ∧ OwF (Kd.sl 80 kd80) s [vy79_0] y79.2 48 ∧ BlF s b37 59 [(.int .i64 ((at_ r30 r8).Xid)), (.int .i64 ((at_ r30 r8).Begun)), (.int .i64 ((at_ r30 r8).Ended)), (.bool y79.1), vy79_0, v33_1, (.bool ((at_ r30 r8).In)), (.bool ((at_ r30 r8).Out))] 45 ∧ BlF s b4 80 [(.int .i64 a2.From.Kind), (.int .i64 a2.From.N), w2_0, w2_1, (.int .i64 a2.To.Kind), (.int .i64 a2.To.N), w2_2, w2_3] 40 ∧ RwF 59 kd59 s v30_0 r30 44 [49, 48] ∧ RdF (Kd.sl 48 kd48) s [v33_1] ((at_ r30 r8).Writes) [49, 48]) (fun Gj79 Kj79 => ?_) ?_
    ·
     refine cd rfl (fun h80 => ?_) (fun h80 => ?_)
     ·
      refine sr ?_
      refine fa fa59_3 rfl rfl rfl rfl rfl rfl ?_
      refine sv B76 z4 rfl rfl rfl rfl rfl rfl rfl rfl (fun s81 p81 B81 => ?_)
      refine dn ?_
      refine rg ?_
      refine fa fa59_4 rfl rfl rfl rfl rfl rfl ?_
      refine sv B81 z56 rfl rfl rfl rfl rfl rfl rfl rfl (fun s83 p83 B83 => ?_)
      refine dn ?_
      have A85 := (BlF.st (BlF.st (BlF.st (BlF.st (BlF.st (BlF.st (BlF.st (BlF.st (BlF.st (BlF.st By15_b4 p31 rfl) p37 rfl) p41 rfl) p45 rfl) p57 rfl) p63 rfl) p69 rfl) p76 rfl) p81 rfl) p83 rfl)
      have A86 := (((R69.st p76 rfl rfl).st p81 rfl rfl).st p83 rfl rfl)
      have A87 := (((B71_1.st p76 rfl).st p81 rfl).st p83 rfl)
      have K88 := ((((((K54.st p57 rfl).st p63 rfl).st p69 rfl).st p76 rfl).st p81 rfl).st p83 rfl)
      exact Kj79 _ _ _ ⟨s83, _, (.slice none 0 0), rfl, (ue (ue (ue (ue (ue rfl rfl) rfl) rfl) rfl) rfl), K88, (ow_nil 80 kd80 _ 48), B83, A85, A86, A87⟩
     ·
      refine sk ?_
      have A89 := (BlF.st (BlF.st (BlF.st (BlF.st (BlF.st (BlF.st (BlF.st (BlF.st By15_b4 p31 rfl) p37 rfl) p41 rfl) p45 rfl) p57 rfl) p63 rfl) p69 rfl) p76 rfl)
      have A90 := (R69.st p76 rfl rfl)
      have A91 := (B71_1.st p76 rfl)
      have K92 := ((((K54.st p57 rfl).st p63 rfl).st p69 rfl).st p76 rfl)
      exact Kj79 _ _ _ ⟨s76, _, v69, rfl, (ue (ue (ue (ue (ue rfl rfl) rfl) rfl) rfl) rfl), K92, A78, B76, A89, A90, A91⟩
    rintro y79 _ _ ⟨s93, _, vy79_0, rfl, rfl, Ky79, Ay79_0, By79_b37, By79_b4, Cy79_70, Cy79_73⟩
    exact Kj43 _ _ _ ⟨s93, _, vy79_0, rfl, (ue (ue (ue (ue (ue rfl rfl) rfl) rfl) rfl) rfl), Ky79, (Cy79_70.sub rfl), (Ay79_0.rd.sub rfl), (Cy79_73.sub rfl), By79_b37, By79_b4⟩
   ·
    have ce97 := ((ce33.st p37 rfl rfl).st p41 rfl rfl)
    have A98 := (A40.st p41 rfl)
    have A99 := (A39.st p41 rfl)
    have ce100 := ce97
    have rr100 := (mk59 (x := (at_ r30 r8)) A98 A99)
    have A101 := ((A30_0.st p37 rfl).st p41 rfl)
    obtain ⟨s102, hw102, p102, A102, L102⟩ := lsn 50 A101 rfl
    rw [hw102]
    have rr100 := L102 _ _ _ _ _ h0_33 h1_33 ia33 ce100 rr100
    obtain ⟨q104_0, q104_1, e104, hq104_0, hq104_1⟩ := op59 rr100
    have y104_0 : q104_0 = v33_0 := congrArg (fun l => (List.drop 4 l).headD undef) e104.symm
    have B104_0 : RdF (Kd.sl 80 kd80) s102 [v33_0] ((at_ r30 r8).Reads) [50] := by rw [← y104_0]; exact hq104_0
    have y104_1 : q104_1 = v33_1 := congrArg (fun l => (List.drop 5 l).headD undef) e104.symm
    have B104_1 : RdF (Kd.sl 48 kd48) s102 [v33_1] ((at_ r30 r8).Writes) [50] := by rw [← y104_1]; exact hq104_1
    refine sk ?_
    have A107 := (BlF.st B41 p102 rfl)
    have A108 := (BlF.st (BlF.st (BlF.st (BlF.st By15_b4 p31 rfl) p37 rfl) p41 rfl) p102 rfl)
    have K109 := ((((Ky15.st p31 rfl).st p37 rfl).st p41 rfl).st p102 rfl)
    exact Kj43 _ _ _ ⟨s102, _, v33_0, rfl, (ue (ue (ue (ue (ue rfl rfl) rfl) rfl) rfl) rfl), K109, (A102.sub rfl), (B104_0.sub rfl), (B104_1.sub rfl), A107, A108⟩
  rintro y43 _ _ ⟨s110, _, vy43_1, rfl, rfl, Ky43, Ay43_0, Ay43_1, Ay43_2, By43_b37, By43_b4⟩
  refine sr ?_
  refine pu rfl rfl rfl rfl rfl ?_
  refine dn ?_
  refine sq ?_
  refine sr ?_
  refine pu rfl rfl rfl rfl rfl ?_
  refine dn ?_
  refine bl ?_
  refine lpI (fun (x116 : (List Track) × Int × Int × Bool) (e : Env) (w : World) => ∃ (s : St) (e0 : Env), w = s.w ∧ e = upd (upd (upd (upd (upd (upd (upd e0 0 w0_0) 5 (.pointer (some ⟨b4, 0, none⟩))) 8 (.int .i64 r8)) 9 v30_0) 10 (.pointer (some ⟨b37, 0, none⟩))) 11 (.int .i64 x116.2.1)) 12 (.int .i64 x116.2.2.1) ∧ Kp s0 s ∧ RwF 59 kd59 s v30_0 x116.1 44 [49, 48, 50] ∧ BlF s b37 59 [(.int .i64 ((at_ r30 r8).Xid)), (.int .i64 ((at_ r30 r8).Begun)), (.int .i64 ((at_ r30 r8).Ended)), (.bool y43.2.1), vy43_1, v33_1, (.bool ((at_ r30 r8).In)), (.bool x116.2.2.2)] 45 ∧ BlF s b4 80 [(.int .i64 a2.From.Kind), (.int .i64 a2.From.N), w2_0, w2_1, (.int .i64 a2.To.Kind), (.int .i64 a2.To.N), w2_2, w2_3] 40 ∧ RdF (Kd.sl 80 kd80) s [vy43_1] y43.2.2.1 [48, 50] ∧ RdF (Kd.sl 48 kd48) s [v33_1] y43.2.2.2 [49, 48, 50]) ⟨s110, _, rfl, (ue (ue (ue (ue (ue (ue (ue rfl rfl) rfl) rfl) rfl) rfl) rfl) rfl), Ky43, Ay43_0, By43_b37, By43_b4, Ay43_1, Ay43_2⟩ (fun g116 ih116 => ?_)
  rintro x116 _ _ ⟨s117, _, rfl, rfl, Kx116, Ax116_0, Bx116_b37, Bx116_b4, Cx116_112, Cx116_113⟩
  unfold spec_EdgeRead.b0
  refine sq ?_
  refine sr ?_
  refine pu rfl rfl rfl rfl rfl ?_
  refine mv v30_0 rfl rfl rfl rfl rfl rfl ?_
  refine ln Ax116_0.rd Try.underlying62 rfl rfl rfl rfl rfl rfl ?_
  refine pu rfl rfl rfl rfl rfl ?_
  refine dn ?_
  refine cd rfl (fun h121 => ?_) (fun h121 => ?_)
  ·
   refine sk ?_
   refine sq ?_
   refine jc (fun (y122 : (List Track) × Int × Bool) (e : Env) (w : World) => ∃ (s : St) (e0 : Env), w = s.w ∧ e = upd (upd (upd (upd (upd (upd (upd e0 0 w0_0) 5 (.pointer (some ⟨b4, 0, none⟩))) 8 (.int .i64 r8)) 9 v30_0) 10 (.pointer (some ⟨b37, 0, none⟩))) 11 (.int .i64 y122.2.1)) 12 (.int .i64 x116.2.2.1) ∧ Kp s0 s ∧ RwF 59 kd59 s v30_0 y122.1 44 [49, 48, 50] ∧ BlF s b37 59 [(.int .i64 ((at_ r30 r8).Xid)), (.int .i64 ((at_ r30 r8).Begun)), (.int .i64 ((at_ r30 r8).Ended)), (.bool y43.2.1), vy43_1, v33_1, (.bool ((at_ r30 r8).In)), (.bool y122.2.2)] 45 ∧ BlF s b4 80 [(.int .i64 a2.From.Kind), (.int .i64 a2.From.N), w2_0, w2_1, (.int .i64 a2.To.Kind), (.int .i64 a2.To.N), w2_2, w2_3] 40 ∧ RdF (Kd.sl 80 kd80) s [vy43_1] y43.2.2.1 [48, 50] ∧ RdF (Kd.sl 48 kd48) s [v33_1] y43.2.2.2 [49, 48, 50]) (fun Gj122 Kj122 => ?_) ?_
   ·
    refine bl ?_
    refine sr ?_
    refine mv v30_0 rfl rfl rfl rfl rfl rfl ?_
    refine pu rfl rfl rfl rfl rfl ?_
    refine ix Ax116_0.rd Try.underlying62 z59 rfl rfl rfl rfl rfl rfl rfl rfl (fun ad123 es123 h0_123 h1_123 he123 ce123 ia123 => ?_)
    replace he123 := rw_sharp Ax116_0 h0_123 h1_123 ia123 ce123 he123
    obtain ⟨v123_0, v123_1, rfl, A123_0, A123_1⟩ := op59 he123
    refine lca ce123 Try.underlying59 z59 rfl rfl rfl rfl rfl rfl rfl ?_
    refine al (cs := [(.int .i64 (0 : Int)), (.int .i64 (0 : Int)), (.int .i64 (0 : Int)), (.bool false), (.slice none 0 0), (.slice none 0 0), (.bool false), (.bool false)]) 51 rfl rfl rfl rfl rfl o59 rfl (fun b127 s127 p127 B127 => ?_)
    have A129 := (A123_1.st p127 rfl)
    have A130 := (A123_0.st p127 rfl)
    refine sva (vs := [(.int .i64 ((at_ x116.1 x116.2.2.1).Xid)), (.int .i64 ((at_ x116.1 x116.2.2.1).Begun)), (.int .i64 ((at_ x116.1 x116.2.2.1).Ended)), (.bool ((at_ x116.1 x116.2.2.1).All)), v123_0, v123_1, (.bool ((at_ x116.1 x116.2.2.1).In)), (.bool ((at_ x116.1 x116.2.2.1).Out))]) B127 z59 rfl rfl rfl rfl rfl rfl (on_cons rfl (on_cons rfl (on_cons rfl (on_cons rfl (on_cons A130.one (on_cons A129.one (on_cons rfl (on_cons rfl on_nil)))))))) rfl (fun s131 p131 B131 => ?_)
    refine dn ?_
    refine sr ?_
    refine pu rfl rfl rfl rfl rfl ?_
    refine dn ?_
    refine sq ?_
    refine sr ?_
    refine pu rfl rfl rfl rfl rfl ?_
    refine dn ?_
    refine bl ?_
    have A134 := (BlF.st (BlF.st Bx116_b37 p127 rfl) p131 rfl)
    have A135 := (BlF.st (BlF.st Bx116_b4 p127 rfl) p131 rfl)
    have A136 := ((Ax116_0.st p127 rfl rfl).st p131 rfl rfl)
    have A137 := (A130.st p131 rfl)
    have A138 := (A129.st p131 rfl)
    have A139 := ((Cx116_112.st p127 rfl).st p131 rfl)
    have A140 := ((Cx116_113.st p127 rfl).st p131 rfl)
    have K141 := ((Kx116.st p127 rfl).st p131 rfl)
    refine lpI (fun (x133 : Bool × Int) (e : Env) (w : World) => ∃ (s : St) (e0 : Env), w = s.w ∧ e = upd (upd (upd (upd (upd (upd (upd (upd (upd (upd e0 0 w0_0) 5 (.pointer (some ⟨b4, 0, none⟩))) 8 (.int .i64 r8)) 9 v30_0) 10 (.pointer (some ⟨b37, 0, none⟩))) 11 (.int .i64 x116.2.1)) 12 (.int .i64 x116.2.2.1)) 13 (.pointer (some ⟨b127, 0, none⟩))) 14 (.bool x133.1)) 15 (.int .i64 x133.2) ∧ Kp s0 s ∧ BlF s b127 59 [(.int .i64 ((at_ x116.1 x116.2.2.1).Xid)), (.int .i64 ((at_ x116.1 x116.2.2.1).Begun)), (.int .i64 ((at_ x116.1 x116.2.2.1).Ended)), (.bool ((at_ x116.1 x116.2.2.1).All)), v123_0, v123_1, (.bool ((at_ x116.1 x116.2.2.1).In)), (.bool ((at_ x116.1 x116.2.2.1).Out))] 51 ∧ BlF s b37 59 [(.int .i64 ((at_ r30 r8).Xid)), (.int .i64 ((at_ r30 r8).Begun)), (.int .i64 ((at_ r30 r8).Ended)), (.bool y43.2.1), vy43_1, v33_1, (.bool ((at_ r30 r8).In)), (.bool x116.2.2.2)] 45 ∧ BlF s b4 80 [(.int .i64 a2.From.Kind), (.int .i64 a2.From.N), w2_0, w2_1, (.int .i64 a2.To.Kind), (.int .i64 a2.To.N), w2_2, w2_3] 40 ∧ RwF 59 kd59 s v30_0 x116.1 44 [49, 48, 50] ∧ RdF (Kd.sl 80 kd80) s [v123_0] ((at_ x116.1 x116.2.2.1).Reads) [49, 48, 50] ∧ RdF (Kd.sl 48 kd48) s [v123_1] ((at_ x116.1 x116.2.2.1).Writes) [49, 48, 50] ∧ RdF (Kd.sl 80 kd80) s [vy43_1] y43.2.2.1 [48, 50] ∧ RdF (Kd.sl 48 kd48) s [v33_1] y43.2.2.2 [49, 48, 50]) ⟨s131, _, rfl, (ue (ue (ue (ue (ue (ue (ue (ue (ue (ue rfl rfl) rfl) rfl) rfl) rfl) rfl) rfl) rfl) rfl) rfl), K141, B131, A134, A135, A136, A137, A138, A139, A140⟩ (fun g133 ih133 => ?_)
    rintro x133 _ _ ⟨s142, _, rfl, rfl, Kx133, Bx133_b127, Bx133_b37, Bx133_b4, Cx133_118, Cx133_124, Cx133_125, Cx133_112, Cx133_113⟩
    unfold spec_EdgeRead.b1
    refine sq ?_
    refine sr ?_
    refine pu rfl rfl rfl rfl rfl ?_
    refine fa fa59_5 rfl rfl rfl rfl rfl rfl ?_
    refine ld Bx133_b127 Try.underlying57 rfl rfl rfl rfl rfl rfl rfl rfl ?_
    refine ln Cx133_125 Try.underlying57 rfl rfl rfl rfl rfl rfl ?_
    refine pu rfl rfl rfl rfl rfl ?_
    refine dn ?_
    refine cd rfl (fun h146 => ?_) (fun h146 => ?_)
    ·
     refine sk ?_
     refine sq ?_
     refine bl ?_
     refine zdraw [[], [0], [1], [2, 1], [1], [4, 1], [1], [6, 1], [1], [7, 8, 1], [9, 1], [3, 5, 10, 1, 1], [1, 11], [12, 11, 0, 1, 2, 3, 4, 5, 6, 7, 8, 9, 10, 11, 12]] [some 70, some 71, some 72, some 73, some 74, some 75, some 76, some 77, some 78, some 79, some 80, some 81, some 82, some 14] [[14], [70], [5, 71], [72, 71], [5, 71], [74, 71], [13, 71], [76, 71], [15, 71], [77, 78, 71], [79, 71], [73, 75, 80, 71], [71, 81], [82]] [0, 1, 2, 3, 4, 5, 6, 7, 8, 9, 10, 11, 12, 13] ⟨by kernel_rfl, by kernel_rfl, by kernel_rfl⟩ (by kernel_rfl) (fun s147 p147 l147 tb147 zd147 => ?_)
     have zd148 := zd147.add 0 70 (.bool x133.1) rfl
     have zd149 := zd148.add 1 71 (.bool x133.1) rfl
     refine ji [13] (fun (y150 : Bool) (e : Env) (w : World) => ∃ (s : St) (e0 : Env), w = s.w ∧ e = upd (upd (upd (upd (upd (upd (upd (upd (upd (upd e0 0 w0_0) 5 (.pointer (some ⟨b4, 0, none⟩))) 8 (.int .i64 r8)) 9 v30_0) 10 (.pointer (some ⟨b37, 0, none⟩))) 11 (.int .i64 x116.2.1)) 12 (.int .i64 x116.2.2.1)) 13 (.pointer (some ⟨b127, 0, none⟩))) 15 (.int .i64 x133.2)) 82 (.bool y150) ∧ Kp s0 s ∧ BlF s b127 59 [(.int .i64 ((at_ x116.1 x116.2.2.1).Xid)), (.int .i64 ((at_ x116.1 x116.2.2.1).Begun)), (.int .i64 ((at_ x116.1 x116.2.2.1).Ended)), (.bool ((at_ x116.1 x116.2.2.1).All)), v123_0, v123_1, (.bool ((at_ x116.1 x116.2.2.1).In)), (.bool ((at_ x116.1 x116.2.2.1).Out))] 51 ∧ BlF s b37 59 [(.int .i64 ((at_ r30 r8).Xid)), (.int .i64 ((at_ r30 r8).Begun)), (.int .i64 ((at_ r30 r8).Ended)), (.bool y43.2.1), vy43_1, v33_1, (.bool ((at_ r30 r8).In)), (.bool x116.2.2.2)] 45 ∧ BlF s b4 80 [(.int .i64 a2.From.Kind), (.int .i64 a2.From.N), w2_0, w2_1, (.int .i64 a2.To.Kind), (.int .i64 a2.To.N), w2_2, w2_3] 40 ∧ RwF 59 kd59 s v30_0 x116.1 44 [49, 48, 50] ∧ RdF (Kd.sl 80 kd80) s [v123_0] ((at_ x116.1 x116.2.2.1).Reads) [49, 48, 50] ∧ RdF (Kd.sl 48 kd48) s [v123_1] ((at_ x116.1 x116.2.2.1).Writes) [49, 48, 50] ∧ RdF (Kd.sl 80 kd80) s [vy43_1] y43.2.2.1 [48, 50] ∧ RdF (Kd.sl 48 kd48) s [v33_1] y43.2.2.2 [49, 48, 50]) (fun Gj150 Kj150 => ?_) ?_
     ·
      rcases Bool.eq_false_or_eq_true x133.1 with hb150 | hb150
      ·
       rw [if_pos hb150]
       rw [hb150] at zd149
       try rw [hb150]
       have zd151 := zd149.add 2 72 undef rfl
       have zd152 := zd151.add 3 73 undef rfl
       have zd153 := zd152.add 4 74 undef rfl
       have zd154 := zd153.add 5 75 undef rfl
       have zd155 := zd154.add 6 76 undef rfl
       have zd156 := zd155.add 7 77 undef rfl
       have zd157 := zd156.add 8 78 undef rfl
       have zd158 := zd157.add 9 79 undef rfl
       have zd159 := zd158.add 10 80 undef rfl
       refine zfin [11, 12, 13] tb147 zd159 (pq_cons (uw_q rfl rfl rfl rfl rfl) rfl (pq_cons (uw_q rfl rfl rfl rfl rfl) rfl (pq_cons (uw_q rfl rfl rfl rfl rfl) rfl (pq_cons (uw_q rfl rfl rfl rfl rfl) rfl (pq_cons (uw_q rfl rfl rfl rfl rfl) rfl (pq_cons (uw_q rfl rfl rfl rfl rfl) rfl (pq_cons (uw_q rfl rfl rfl rfl rfl) rfl (pq_cons (uw_q rfl rfl rfl rfl rfl) rfl (pq_cons (uw_q rfl rfl rfl rfl rfl) rfl (pq_cons (pu_q rfl rfl rfl rfl rfl rfl) rfl (pq_cons (pu_q rfl rfl rfl rfl rfl rfl) rfl pq_nil))))))))))) (by kernel_rfl) (by decide) ?_
       refine uw rfl rfl rfl rfl ?_
       refine pu rfl rfl rfl rfl rfl ?_
       have A160 := (BlF.st Bx133_b127 p147 rfl)
       have A161 := (BlF.st Bx133_b37 p147 rfl)
       have A162 := (BlF.st Bx133_b4 p147 rfl)
       have A163 := (Cx133_118.st p147 rfl rfl)
       have A164 := (Cx133_124.st p147 rfl)
       have A165 := (Cx133_125.st p147 rfl)
       have A166 := (Cx133_112.st p147 rfl)
       have A167 := (Cx133_113.st p147 rfl)
       have K168 := (Kx133.st p147 rfl)
       exact Kj150 _ _ _ ⟨s147, _, rfl, (ue (ue (ue (ue (ue (ue (ue (ue (ue (ue rfl rfl) rfl) rfl) rfl) rfl) rfl) rfl) rfl) rfl) rfl), K168, A160, A161, A162, A163, A164, A165, A166, A167⟩
      ·
       rw [if_neg (by rw [hb150]; decide)]
       rw [hb150] at zd149
       try rw [hb150]
       have zd169 := zd149.add 2 72 (.pointer (some ⟨b4, 0, none⟩)) rfl
       have A170 := (BlF.st Bx133_b4 p147 rfl)
       have zd171 := zd169.add 3 73 (.agg #[(.int .i64 a2.From.Kind), (.int .i64 a2.From.N), w2_0, w2_1]) rfl
       have zd172 := zd171.add 4 74 (.pointer (some ⟨b4, 4, none⟩)) rfl
       have A173 := (BlF.st Bx133_b4 p147 rfl)
       have zd174 := zd172.add 5 75 (.agg #[(.int .i64 a2.To.Kind), (.int .i64 a2.To.N), w2_2, w2_3]) rfl
       have zd175 := zd174.add 6 76 (.pointer (some ⟨b127, 5, none⟩)) rfl
       have A176 := (BlF.st Bx133_b127 p147 rfl)
       have zd177 := zd175.add 7 77 v123_1 rfl
       have zd178 := zd177.add 8 78 (.int .i64 x133.2) rfl
       have A179 := (Cx133_125.st p147 rfl)
       refine mg fun hg180 => ?_
       obtain ⟨ad180, es180, he180, ce180, ia180⟩ := ix_e A179 rfl hg180.1 hg180.2
       have h0_180 := hg180.1
       have h1_180 := hg180.2
       obtain ⟨v180_0, v180_1, rfl, A180_0, A180_1⟩ := op48 he180
       have zd183 := zd178.add 9 79 (.pointer (some ad180)) rfl
       have zd184 := zd183.add 10 80 (.agg #[(.int .i64 ((at_ ((at_ x116.1 x116.2.2.1).Writes) x133.2).Kind)), (.int .i64 ((at_ ((at_ x116.1 x116.2.2.1).Writes) x133.2).N)), v180_0, v180_1]) rfl
       have A185 := (BlF.st Bx133_b4 p147 rfl)
       have A186 := (BlF.st Bx133_b4 p147 rfl)
       have A187 := (BlF.st Bx133_b127 p147 rfl)
       refine zfin [11, 12, 13] tb147 zd184 (pq_cons (lca_q ce180 Try.underlying48 z48 rfl rfl rfl rfl rfl rfl rfl) rfl (pq_cons (ix_q A179 Try.underlying57 z48 hg180.1 hg180.2 ia180 rfl rfl rfl rfl rfl rfl rfl) rfl (pq_cons (pu_q rfl rfl rfl rfl rfl rfl) rfl (pq_cons (ld_q A187 Try.underlying57 rfl rfl rfl rfl rfl rfl rfl rfl) rfl (pq_cons (fa_q fa59_5 rfl rfl rfl rfl rfl rfl) rfl (pq_cons (lda_q (es := [(.int .i64 a2.To.Kind), (.int .i64 a2.To.N), w2_2, w2_3]) A186 Try.underlying48 z48 rfl rfl rfl rfl rfl rfl rfl rfl) rfl (pq_cons (fa_q fa80_1 rfl rfl rfl rfl rfl rfl) rfl (pq_cons (lda_q (es := [(.int .i64 a2.From.Kind), (.int .i64 a2.From.N), w2_0, w2_1]) A185 Try.underlying48 z48 rfl rfl rfl rfl rfl rfl rfl rfl) rfl (pq_cons (fa_q fa80_0 rfl rfl rfl rfl rfl rfl) rfl (pq_cons (pu_q rfl rfl rfl rfl rfl rfl) rfl (pq_cons (pu_q rfl rfl rfl rfl rfl rfl) rfl pq_nil))))))))))) (by kernel_rfl) (by decide) ?_
       have K188 := (Kx133.st p147 rfl)
       have A189 := (A2_1.kp K188)
       have A190 := (A2_3.kp K188)
       refine cl rfl rfl rfl rfl rfl Try.func109 rfl rfl rfl (fun r191 m191 => spec_InSpan.calls a2.From a2.To (at_ ((at_ x116.1 x116.2.2.1).Writes) x133.2) s147.w (fun b => memb [0, 49, 48, 50] (s147.g b) = true) w2_0 w2_1 w2_2 w2_3 v180_0 v180_1 ((fl_rdf (s := s147) A2_0).sub (D := [0, 49, 48, 50]) rfl) (A189.sub (D := [0, 49, 48, 50]) rfl) ((fl_rdf (s := s147) A2_2).sub (D := [0, 49, 48, 50]) rfl) (A190.sub (D := [0, 49, 48, 50]) rfl) ((fl_rdf (s := s147) A180_0).sub (D := [0, 49, 48, 50]) rfl) (A180_1.sub (D := [0, 49, 48, 50]) rfl) r191 m191) ?_
       rintro r191 _ w191 m191 ⟨rfl, ky191⟩
       obtain ⟨s192, rfl, p192, n192⟩ := nwx s147 w191 52 ky191
       refine pu rfl rfl rfl rfl rfl ?_
       have A193 := (BlF.st (BlF.st Bx133_b127 p147 rfl) p192 rfl)
       have A194 := (BlF.st (BlF.st Bx133_b37 p147 rfl) p192 rfl)
       have A195 := (BlF.st (BlF.st Bx133_b4 p147 rfl) p192 rfl)
       have A196 := ((Cx133_118.st p147 rfl rfl).st p192 rfl rfl)
       have A197 := ((Cx133_124.st p147 rfl).st p192 rfl)
       have A198 := (A179.st p192 rfl)
       have A199 := ((Cx133_112.st p147 rfl).st p192 rfl)
       have A200 := ((Cx133_113.st p147 rfl).st p192 rfl)
       have K201 := (K188.st p192 rfl)
       exact Kj150 _ _ _ ⟨s192, _, rfl, (ue (ue (ue (ue (ue (ue (ue (ue (ue (ue rfl rfl) rfl) rfl) rfl) rfl) rfl) rfl) rfl) rfl) rfl), K201, A193, A194, A195, A196, A197, A198, A199, A200⟩
     rintro y150 _ _ ⟨s202, _, rfl, rfl, Ky150, By150_b127, By150_b37, By150_b4, Cy150_118, Cy150_124, Cy150_125, Cy150_112, Cy150_113⟩
     refine pu rfl rfl rfl rfl rfl ?_
     refine dn ?_
     refine ib ?_
     refine rg ?_
     refine pu rfl rfl rfl rfl rfl ?_
     refine pu rfl rfl rfl rfl rfl ?_
     refine pu rfl rfl rfl rfl rfl ?_
     refine dn ?_
     exact lb ih133 ⟨s202, _, rfl, (ue (ue (ue (ue (ue (ue (ue (ue (ue (ue rfl rfl) rfl) rfl) rfl) rfl) rfl) rfl) rfl) rfl) rfl), Ky150, By150_b127, By150_b37, By150_b4, Cy150_118, Cy150_124, Cy150_125, Cy150_112, Cy150_113⟩
    ·
     refine xt rfl ?_
     refine sgb ?_
     refine sq ?_
     refine sq ?_
     refine zdraw [[], [], [0, 1], [2], [3], [4, 3], [3, 5], [6, 3], [7], [7], [8, 9, 7], [10, 7], [7], [11, 12, 7, 7], [13, 7], [7, 14]] [some 83, some 84, some 85, some 86, some 87, some 88, some 89, some 90, some 91, some 92, some 93, some 94, some 95, some 96, some 97, some 98] [[12], [8], [83, 84], [85], [14, 86], [87, 86], [86, 88], [89], [0, 90], [8, 90], [91, 92, 90], [93, 90], [13, 90], [94, 95, 90], [96, 90], [90, 97]] [0, 1, 2, 3, 4, 5, 6, 7, 8, 9, 10, 11, 12, 13, 14, 15] ⟨by kernel_rfl, by kernel_rfl, by kernel_rfl⟩ (by kernel_rfl) (fun s206 p206 l206 tb206 zd206 => ?_)
     have zd207 := zd206.add 0 83 (.int .i64 x116.2.2.1) rfl
     have zd208 := zd207.add 1 84 (.int .i64 r8) rfl
     have zd209 := zd208.add 2 85 (.bool (x116.2.2.1 == r8)) rfl
     have zd210 := zd209.add 3 86 (.bool (x116.2.2.1 == r8)) rfl
     refine ji [] (fun (y211 : Bool) (e : Env) (w : World) => ∃ (s : St) (e0 : Env), w = s.w ∧ e = upd (upd (upd (upd (upd (upd (upd (upd (upd e0 0 w0_0) 5 (.pointer (some ⟨b4, 0, none⟩))) 8 (.int .i64 r8)) 9 v30_0) 10 (.pointer (some ⟨b37, 0, none⟩))) 11 (.int .i64 x116.2.1)) 12 (.int .i64 x116.2.2.1)) 13 (.pointer (some ⟨b127, 0, none⟩))) 98 (.bool y211) ∧ Kp s0 s ∧ BlF s b127 59 [(.int .i64 ((at_ x116.1 x116.2.2.1).Xid)), (.int .i64 ((at_ x116.1 x116.2.2.1).Begun)), (.int .i64 ((at_ x116.1 x116.2.2.1).Ended)), (.bool ((at_ x116.1 x116.2.2.1).All)), v123_0, v123_1, (.bool ((at_ x116.1 x116.2.2.1).In)), (.bool ((at_ x116.1 x116.2.2.1).Out))] 51 ∧ BlF s b37 59 [(.int .i64 ((at_ r30 r8).Xid)), (.int .i64 ((at_ r30 r8).Begun)), (.int .i64 ((at_ r30 r8).Ended)), (.bool y43.2.1), vy43_1, v33_1, (.bool ((at_ r30 r8).In)), (.bool x116.2.2.2)] 45 ∧ BlF s b4 80 [(.int .i64 a2.From.Kind), (.int .i64 a2.From.N), w2_0, w2_1, (.int .i64 a2.To.Kind), (.int .i64 a2.To.N), w2_2, w2_3] 40 ∧ RwF 59 kd59 s v30_0 x116.1 44 [49, 48, 50] ∧ RdF (Kd.sl 80 kd80) s [v123_0] ((at_ x116.1 x116.2.2.1).Reads) [49, 48, 50] ∧ RdF (Kd.sl 48 kd48) s [v123_1] ((at_ x116.1 x116.2.2.1).Writes) [49, 48, 50] ∧ RdF (Kd.sl 80 kd80) s [vy43_1] y43.2.2.1 [48, 50] ∧ RdF (Kd.sl 48 kd48) s [v33_1] y43.2.2.2 [49, 48, 50]) (fun Gj211 Kj211 => ?_) ?_
     ·
      rcases Bool.eq_false_or_eq_true (x116.2.2.1 == r8) with hb211 | hb211
      ·
       rw [if_pos hb211]
       rw [hb211] at zd210
       try rw [hb211]
       have zd212 := zd210.add 4 87 undef rfl
       have zd213 := zd212.add 5 88 undef rfl
       have zd214 := zd213.add 6 89 (.bool true) rfl
       have zd215 := zd214.add 7 90 (.bool true) rfl
       have zd216 := zd215.add 8 91 undef rfl
       have zd217 := zd216.add 9 92 undef rfl
       have zd218 := zd217.add 10 93 undef rfl
       have zd219 := zd218.add 11 94 undef rfl
       have zd220 := zd219.add 12 95 undef rfl
       refine zfin [13, 14, 15] tb206 zd220 (pq_cons (uw_q rfl rfl rfl rfl rfl) rfl (pq_cons (uw_q rfl rfl rfl rfl rfl) rfl (pq_cons (uw_q rfl rfl rfl rfl rfl) rfl (pq_cons (uw_q rfl rfl rfl rfl rfl) rfl (pq_cons (uw_q rfl rfl rfl rfl rfl) rfl (pq_cons (pu_q rfl rfl rfl rfl rfl rfl) rfl (pq_cons (pu_q rfl rfl rfl rfl rfl rfl) rfl (pq_cons (uw_q rfl rfl rfl rfl rfl) rfl (pq_cons (uw_q rfl rfl rfl rfl rfl) rfl (pq_cons (pu_q rfl rfl rfl rfl rfl rfl) rfl (pq_cons (qv_b (pu_q rfl rfl rfl rfl rfl rfl) hb211) rfl (pq_cons (pu_q rfl rfl rfl rfl rfl rfl) rfl (pq_cons (pu_q rfl rfl rfl rfl rfl rfl) rfl pq_nil))))))))))))) (by kernel_rfl) (by decide) ?_
       refine uw rfl rfl rfl rfl ?_
       refine uw rfl rfl rfl rfl ?_
       refine pu rfl rfl rfl rfl rfl ?_
       have A221 := (BlF.st Bx133_b127 p206 rfl)
       have A222 := (BlF.st Bx133_b37 p206 rfl)
       have A223 := (BlF.st Bx133_b4 p206 rfl)
       have A224 := (Cx133_118.st p206 rfl rfl)
       have A225 := (Cx133_124.st p206 rfl)
       have A226 := (Cx133_125.st p206 rfl)
       have A227 := (Cx133_112.st p206 rfl)
       have A228 := (Cx133_113.st p206 rfl)
       have K229 := (Kx133.st p206 rfl)
       exact Kj211 _ _ _ ⟨s206, _, rfl, (ue (ue (ue (ue (ue (ue (ue (ue (ue rfl rfl) rfl) rfl) rfl) rfl) rfl) rfl) rfl) rfl), K229, A221, A222, A223, A224, A225, A226, A227, A228⟩
      ·
       rw [if_neg (by rw [hb211]; decide)]
       rw [hb211] at zd210
       try rw [hb211]
       have zd230 := zd210.add 4 87 (.bool x133.1) rfl
       have zd231 := zd230.add 5 88 (.bool (!x133.1)) rfl
       have zd232 := zd231.add 6 89 (.bool (!x133.1)) rfl
       have zd233 := zd232.add 7 90 (.bool (!x133.1)) rfl
       refine ji [] (fun (y234 : Bool × Bool) (e : Env) (w : World) => ∃ (s : St) (e0 : Env), w = s.w ∧ e = upd (upd (upd (upd (upd (upd (upd (upd (upd (upd (upd e0 0 w0_0) 5 (.pointer (some ⟨b4, 0, none⟩))) 8 (.int .i64 r8)) 9 v30_0) 10 (.pointer (some ⟨b37, 0, none⟩))) 11 (.int .i64 x116.2.1)) 12 (.int .i64 x116.2.2.1)) 13 (.pointer (some ⟨b127, 0, none⟩))) 87 (.bool x133.1)) 88 (.bool y234.1)) 98 (.bool y234.2) ∧ Kp s0 s ∧ BlF s b127 59 [(.int .i64 ((at_ x116.1 x116.2.2.1).Xid)), (.int .i64 ((at_ x116.1 x116.2.2.1).Begun)), (.int .i64 ((at_ x116.1 x116.2.2.1).Ended)), (.bool ((at_ x116.1 x116.2.2.1).All)), v123_0, v123_1, (.bool ((at_ x116.1 x116.2.2.1).In)), (.bool ((at_ x116.1 x116.2.2.1).Out))] 51 ∧ BlF s b37 59 [(.int .i64 ((at_ r30 r8).Xid)), (.int .i64 ((at_ r30 r8).Begun)), (.int .i64 ((at_ r30 r8).Ended)), (.bool y43.2.1), vy43_1, v33_1, (.bool ((at_ r30 r8).In)), (.bool x116.2.2.2)] 45 ∧ BlF s b4 80 [(.int .i64 a2.From.Kind), (.int .i64 a2.From.N), w2_0, w2_1, (.int .i64 a2.To.Kind), (.int .i64 a2.To.N), w2_2, w2_3] 40 ∧ RwF 59 kd59 s v30_0 x116.1 44 [49, 48, 50] ∧ RdF (Kd.sl 80 kd80) s [v123_0] ((at_ x116.1 x116.2.2.1).Reads) [49, 48, 50] ∧ RdF (Kd.sl 48 kd48) s [v123_1] ((at_ x116.1 x116.2.2.1).Writes) [49, 48, 50] ∧ RdF (Kd.sl 80 kd80) s [vy43_1] y43.2.2.1 [48, 50] ∧ RdF (Kd.sl 48 kd48) s [v33_1] y43.2.2.2 [49, 48, 50]) (fun Gj234 Kj234 => ?_) ?_
       ·
        rcases Bool.eq_false_or_eq_true (!x133.1) with hb234 | hb234
        ·
         rw [if_pos hb234]
         rw [hb234] at zd233
         try rw [hb234]
         have zd235 := zd233.add 8 91 undef rfl
         have zd236 := zd235.add 9 92 undef rfl
         have zd237 := zd236.add 10 93 undef rfl
         have zd238 := zd237.add 11 94 undef rfl
         have zd239 := zd238.add 12 95 undef rfl
         refine zfin [13, 14, 15] tb206 zd239 (pq_cons (uw_q rfl rfl rfl rfl rfl) rfl (pq_cons (uw_q rfl rfl rfl rfl rfl) rfl (pq_cons (uw_q rfl rfl rfl rfl rfl) rfl (pq_cons (uw_q rfl rfl rfl rfl rfl) rfl (pq_cons (uw_q rfl rfl rfl rfl rfl) rfl (pq_cons (pu_q rfl rfl rfl rfl rfl rfl) rfl (pq_cons (pu_q rfl rfl rfl rfl rfl rfl) rfl (pq_cons (qv_b (pu_q rfl rfl rfl rfl rfl rfl) hb234) rfl (pq_cons (pu_q rfl rfl rfl rfl rfl rfl) rfl (pq_cons (pu_q rfl rfl rfl rfl rfl rfl) rfl (pq_cons (qv_b (pu_q rfl rfl rfl rfl rfl rfl) hb211) rfl (pq_cons (pu_q rfl rfl rfl rfl rfl rfl) rfl (pq_cons (pu_q rfl rfl rfl rfl rfl rfl) rfl pq_nil))))))))))))) (by kernel_rfl) (by decide) ?_
         refine uw rfl rfl rfl rfl ?_
         refine uw rfl rfl rfl rfl ?_
         refine pu rfl rfl rfl rfl rfl ?_
         have A240 := (BlF.st Bx133_b127 p206 rfl)
         have A241 := (BlF.st Bx133_b37 p206 rfl)
         have A242 := (BlF.st Bx133_b4 p206 rfl)
         have A243 := (Cx133_118.st p206 rfl rfl)
         have A244 := (Cx133_124.st p206 rfl)
         have A245 := (Cx133_125.st p206 rfl)
         have A246 := (Cx133_112.st p206 rfl)
         have A247 := (Cx133_113.st p206 rfl)
         have K248 := (Kx133.st p206 rfl)
         exact Kj234 _ _ _ ⟨s206, _, rfl, (ue (ue (ue (ue (ue (ue (ue (ue (ue (ue (ue rfl rfl) rfl) rfl) rfl) rfl) rfl) rfl) rfl) rfl) rfl) rfl), K248, A240, A241, A242, A243, A244, A245, A246, A247⟩
        ·
         rw [if_neg (by rw [hb234]; decide)]
         rw [hb234] at zd233
         try rw [hb234]
         have zd249 := zd233.add 8 91 w0_0 rfl
         have zd250 := zd249.add 9 92 (.int .i64 r8) rfl
         have K251 := (Kx133.st p206 rfl)
         have A252 := (A0_0.kp K251)
         refine mg fun hg253 => ?_
         obtain ⟨ad253, es253, he253, ce253, ia253⟩ := ix_e A252 rfl hg253.1 hg253.2
         have h0_253 := hg253.1
         have h1_253 := hg253.2
         obtain ⟨v253_0, v253_1, rfl, A253_0, A253_1⟩ := op59 he253
         have zd257 := zd250.add 10 93 (.pointer (some ad253)) rfl
         have zd258 := zd257.add 11 94 (.agg #[(.int .i64 ((at_ a0 r8).Xid)), (.int .i64 ((at_ a0 r8).Begun)), (.int .i64 ((at_ a0 r8).Ended)), (.bool ((at_ a0 r8).All)), v253_0, v253_1, (.bool ((at_ a0 r8).In)), (.bool ((at_ a0 r8).Out))]) rfl
         have A259 := (BlF.st Bx133_b127 p206 rfl)
         have zd260 := zd258.add 12 95 (.agg #[(.int .i64 ((at_ x116.1 x116.2.2.1).Xid)), (.int .i64 ((at_ x116.1 x116.2.2.1).Begun)), (.int .i64 ((at_ x116.1 x116.2.2.1).Ended)), (.bool ((at_ x116.1 x116.2.2.1).All)), v123_0, v123_1, (.bool ((at_ x116.1 x116.2.2.1).In)), (.bool ((at_ x116.1 x116.2.2.1).Out))]) rfl
         have A261 := (BlF.st Bx133_b127 p206 rfl)
         refine zfin [13, 14, 15] tb206 zd260 (pq_cons (lda_q (es := [(.int .i64 ((at_ x116.1 x116.2.2.1).Xid)), (.int .i64 ((at_ x116.1 x116.2.2.1).Begun)), (.int .i64 ((at_ x116.1 x116.2.2.1).Ended)), (.bool ((at_ x116.1 x116.2.2.1).All)), v123_0, v123_1, (.bool ((at_ x116.1 x116.2.2.1).In)), (.bool ((at_ x116.1 x116.2.2.1).Out))]) A261 Try.underlying59 z59 rfl rfl rfl rfl rfl rfl rfl rfl) rfl (pq_cons (lca_q ce253 Try.underlying59 z59 rfl rfl rfl rfl rfl rfl rfl) rfl (pq_cons (ix_q A252 Try.underlying62 z59 hg253.1 hg253.2 ia253 rfl rfl rfl rfl rfl rfl rfl) rfl (pq_cons (pu_q rfl rfl rfl rfl rfl rfl) rfl (pq_cons (mv_q w0_0 rfl rfl rfl rfl rfl rfl) rfl (pq_cons (pu_q rfl rfl rfl rfl rfl rfl) rfl (pq_cons (pu_q rfl rfl rfl rfl rfl rfl) rfl (pq_cons (qv_b (pu_q rfl rfl rfl rfl rfl rfl) hb234) rfl (pq_cons (pu_q rfl rfl rfl rfl rfl rfl) rfl (pq_cons (pu_q rfl rfl rfl rfl rfl rfl) rfl (pq_cons (qv_b (pu_q rfl rfl rfl rfl rfl rfl) hb211) rfl (pq_cons (pu_q rfl rfl rfl rfl rfl rfl) rfl (pq_cons (pu_q rfl rfl rfl rfl rfl rfl) rfl pq_nil))))))))))))) (by kernel_rfl) (by decide) ?_
         have A262 := (Cx133_124.st p206 rfl)
         have A263 := (Cx133_125.st p206 rfl)
         refine cl rfl rfl rfl rfl rfl Try.func110 rfl rfl rfl (fun r264 m264 => spec_Concurrent.calls (at_ a0 r8) (at_ x116.1 x116.2.2.1) s206.w (fun b => memb [0, 49, 48, 50] (s206.g b) = true) v253_0 v253_1 v123_0 v123_1 (A253_0.sub (D := [0, 49, 48, 50]) rfl) (A253_1.sub (D := [0, 49, 48, 50]) rfl) (A262.sub (D := [0, 49, 48, 50]) rfl) (A263.sub (D := [0, 49, 48, 50]) rfl) r264 m264) ?_
         rintro r264 _ w264 m264 ⟨rfl, ky264⟩
         obtain ⟨s265, rfl, p265, n265⟩ := nwx s206 w264 53 ky264
         refine pu rfl rfl rfl rfl rfl ?_
         refine pu rfl rfl rfl rfl rfl ?_
         have A266 := (BlF.st (BlF.st Bx133_b127 p206 rfl) p265 rfl)
         have A267 := (BlF.st (BlF.st Bx133_b37 p206 rfl) p265 rfl)
         have A268 := (BlF.st (BlF.st Bx133_b4 p206 rfl) p265 rfl)
         have A269 := ((Cx133_118.st p206 rfl rfl).st p265 rfl rfl)
         have A270 := (A262.st p265 rfl)
         have A271 := (A263.st p265 rfl)
         have A272 := ((Cx133_112.st p206 rfl).st p265 rfl)
         have A273 := ((Cx133_113.st p206 rfl).st p265 rfl)
         have K274 := (K251.st p265 rfl)
         exact Kj234 _ _ _ ⟨s265, _, rfl, (ue (ue (ue (ue (ue (ue (ue (ue (ue (ue (ue rfl rfl) rfl) rfl) rfl) rfl) rfl) rfl) rfl) rfl) rfl) rfl), K274, A266, A267, A268, A269, A270, A271, A272, A273⟩
       rintro y234 _ _ ⟨s275, _, rfl, rfl, Ky234, By234_b127, By234_b37, By234_b4, Cy234_118, Cy234_124, Cy234_125, Cy234_112, Cy234_113⟩
       exact Kj211 _ _ _ ⟨s275, _, rfl, (ue (ue (ue (ue (ue (ue (ue (ue (ue rfl rfl) rfl) rfl) rfl) rfl) rfl) rfl) rfl) rfl), Ky234, By234_b127, By234_b37, By234_b4, Cy234_118, Cy234_124, Cy234_125, Cy234_112, Cy234_113⟩
     rintro y211 _ _ ⟨s279, _, rfl, rfl, Ky211, By211_b127, By211_b37, By211_b4, Cy211_118, Cy211_124, Cy211_125, Cy211_112, Cy211_113⟩
     refine dn ?_
     refine cd rfl (fun h283 => ?_) (fun h283 => ?_)
     ·
      refine xt rfl ?_
      exact Kj122 _ _ _ ⟨s279, _, rfl, (ue (ue (ue (ue (ue (ue (ue rfl rfl) rfl) rfl) rfl) rfl) rfl) rfl), Ky211, Cy211_118, By211_b37, By211_b4, Cy211_112, Cy211_113⟩
     ·
      refine sk ?_
      refine sr ?_
      refine fa fa59_6 rfl rfl rfl rfl rfl rfl ?_
      refine sv By211_b127 z4 rfl rfl rfl rfl rfl rfl rfl rfl (fun s284 p284 B284 => ?_)
      refine dn ?_
      refine sr ?_
      refine fa fa59_7 rfl rfl rfl rfl rfl rfl ?_
      have A286 := (BlF.st By211_b37 p284 rfl)
      refine sv A286 z4 rfl rfl rfl rfl rfl rfl rfl rfl (fun s287 p287 B287 => ?_)
      refine dn ?_
      refine sr ?_
      refine mv v30_0 rfl rfl rfl rfl rfl rfl ?_
      refine pu rfl rfl rfl rfl rfl ?_
      have A289 := (BlF.st B284 p287 rfl)
      refine lda (es := [(.int .i64 ((at_ x116.1 x116.2.2.1).Xid)), (.int .i64 ((at_ x116.1 x116.2.2.1).Begun)), (.int .i64 ((at_ x116.1 x116.2.2.1).Ended)), (.bool ((at_ x116.1 x116.2.2.1).All)), v123_0, v123_1, (.bool true), (.bool ((at_ x116.1 x116.2.2.1).Out))]) A289 Try.underlying59 z59 rfl rfl rfl rfl rfl rfl rfl rfl ?_
      have A290 := ((Cy211_118.st p284 rfl rfl).st p287 rfl rfl)
      refine ix A290.rd Try.underlying62 z59 rfl rfl rfl rfl rfl rfl rfl rfl (fun ad291 es291 h0_291 h1_291 he291 ce291 ia291 => ?_)
      replace he291 := rw_sharp A290 h0_291 h1_291 ia291 ce291 he291
      obtain ⟨v291_0, v291_1, rfl, A291_0, A291_1⟩ := op59 he291
      have A295 := ((Cy211_124.st p284 rfl).st p287 rfl)
      have A296 := ((Cy211_125.st p284 rfl).st p287 rfl)
      refine sor (x' := (Track.mk ((at_ x116.1 x116.2.2.1).Xid) ((at_ x116.1 x116.2.2.1).Begun) ((at_ x116.1 x116.2.2.1).Ended) ((at_ x116.1 x116.2.2.1).All) ((at_ x116.1 x116.2.2.1).Reads) ((at_ x116.1 x116.2.2.1).Writes) true ((at_ x116.1 x116.2.2.1).Out))) A290 ia291 h0_291 h1_291 (mk59 (x := (Track.mk ((at_ x116.1 x116.2.2.1).Xid) ((at_ x116.1 x116.2.2.1).Begun) ((at_ x116.1 x116.2.2.1).Ended) ((at_ x116.1 x116.2.2.1).All) ((at_ x116.1 x116.2.2.1).Reads) ((at_ x116.1 x116.2.2.1).Writes) true ((at_ x116.1 x116.2.2.1).Out))) A295 A296) rfl z59 rfl rfl rfl rfl rfl rfl (fun s297 p297 A297 => ?_)
      have A297_ := A297.sub (D := [49, 48, 50]) rfl
      refine nb (fun y299 h299 => ?_)
      have A299 : RwF 59 kd59 s297 v30_0 y299 44 [49, 48, 50] := by rw [h299]; exact A297_
      refine dn ?_
      refine sr ?_
      refine fa fa59_2 rfl rfl rfl rfl rfl rfl ?_
      have A300 := (BlF.st A289 p297 rfl)
      refine ld A300 Try.underlying3 rfl rfl rfl rfl rfl rfl rfl rfl ?_
      refine pu rfl rfl rfl rfl rfl ?_
      refine pu rfl rfl rfl rfl rfl ?_
      refine jy [108, 109, 110, 111] [] 111 (.bool ((decide ((at_ x116.1 x116.2.2.1).Ended > (0 : Int))) && (at_ x116.1 x116.2.2.1).Out)) rfl (fun Kg301 => ?_) (fun j301 => ?_)
      ·
       rcases Bool.eq_false_or_eq_true (decide ((at_ x116.1 x116.2.2.1).Ended > (0 : Int))) with hb301 | hb301
       ·
        refine sbT hb301 ?_
        refine fa fa59_7 rfl rfl rfl rfl rfl rfl ?_
        refine ld A300 Try.underlying4 rfl rfl rfl rfl rfl rfl rfl rfl ?_
        refine pu rfl rfl rfl rfl rfl ?_
        exact Kg301 _ (Ag.put ((Ag.put ((Ag.put (Ag.base rfl) rfl)) rfl)) rfl) (by rw [hb301]; rfl)
       ·
        refine sbT hb301 ?_
        refine uw rfl rfl rfl rfl ?_
        refine uw rfl rfl rfl rfl ?_
        refine pu rfl rfl rfl rfl rfl ?_
        exact Kg301 _ (Ag.put ((Ag.put ((Ag.put (Ag.base rfl) rfl)) rfl)) rfl) (by rw [hb301]; rfl)
      refine dn ?_
      refine jc (fun (y302 : Int) (e : Env) (w : World) => ∃ (s : St) (e0 : Env), w = s.w ∧ e = upd (upd (upd (upd (upd (upd (upd e0 0 w0_0) 5 (.pointer (some ⟨b4, 0, none⟩))) 8 (.int .i64 r8)) 9 v30_0) 10 (.pointer (some ⟨b37, 0, none⟩))) 11 (.int .i64 y302)) 12 (.int .i64 x116.2.2.1) ∧ Kp s0 s ∧ BlF s b37 59 [(.int .i64 ((at_ r30 r8).Xid)), (.int .i64 ((at_ r30 r8).Begun)), (.int .i64 ((at_ r30 r8).Ended)), (.bool y43.2.1), vy43_1, v33_1, (.bool ((at_ r30 r8).In)), (.bool true)] 45 ∧ BlF s b4 80 [(.int .i64 a2.From.Kind), (.int .i64 a2.From.N), w2_0, w2_1, (.int .i64 a2.To.Kind), (.int .i64 a2.To.N), w2_2, w2_3] 40 ∧ RwF 59 kd59 s v30_0 y299 44 [49, 48, 50] ∧ RdF (Kd.sl 80 kd80) s [vy43_1] y43.2.2.1 [48, 50] ∧ RdF (Kd.sl 48 kd48) s [v33_1] y43.2.2.2 [49, 48, 50]) (fun Gj302 Kj302 => ?_) ?_
      ·
       refine cd rfl (fun h303 => ?_) (fun h303 => ?_)
       ·
        refine rg ?_
        refine pu rfl rfl rfl rfl rfl ?_
        refine dn ?_
        have A304 := (BlF.st B287 p297 rfl)
        have A305 := (BlF.st (BlF.st (BlF.st By211_b4 p284 rfl) p287 rfl) p297 rfl)
        have A306 := (((Cy211_112.st p284 rfl).st p287 rfl).st p297 rfl)
        have A307 := (((Cy211_113.st p284 rfl).st p287 rfl).st p297 rfl)
        have K308 := (((Ky211.st p284 rfl).st p287 rfl).st p297 rfl)
        exact Kj302 _ _ _ ⟨s297, _, rfl, (ue (ue (ue (ue (ue (ue (ue rfl rfl) rfl) rfl) rfl) rfl) rfl) rfl), K308, A304, A305, A299, A306, A307⟩
       ·
        refine sk ?_
        have A309 := (BlF.st B287 p297 rfl)
        have A310 := (BlF.st (BlF.st (BlF.st By211_b4 p284 rfl) p287 rfl) p297 rfl)
        have A311 := (((Cy211_112.st p284 rfl).st p287 rfl).st p297 rfl)
        have A312 := (((Cy211_113.st p284 rfl).st p287 rfl).st p297 rfl)
        have K313 := (((Ky211.st p284 rfl).st p287 rfl).st p297 rfl)
        exact Kj302 _ _ _ ⟨s297, _, rfl, (ue (ue (ue (ue (ue (ue (ue rfl rfl) rfl) rfl) rfl) rfl) rfl) rfl), K313, A309, A310, A299, A311, A312⟩
      rintro y302 _ _ ⟨s314, _, rfl, rfl, Ky302, By302_b37, By302_b4, Cy302_298, Cy302_112, Cy302_113⟩
      refine ib ?_
      exact Kj122 _ _ _ ⟨s314, _, rfl, (ue (ue (ue (ue (ue (ue (ue rfl rfl) rfl) rfl) rfl) rfl) rfl) rfl), Ky302, Cy302_298, By302_b37, By302_b4, Cy302_112, Cy302_113⟩
   rintro y122 _ _ ⟨s317, _, rfl, rfl, Ky122, Ay122_0, By122_b37, By122_b4, Cy122_112, Cy122_113⟩
   refine rg ?_
   refine pu rfl rfl rfl rfl rfl ?_
   refine pu rfl rfl rfl rfl rfl ?_
   refine pu rfl rfl rfl rfl rfl ?_
   refine dn ?_
   exact lb ih116 ⟨s317, _, rfl, (ue (ue (ue (ue (ue (ue (ue rfl rfl) rfl) rfl) rfl) rfl) rfl) rfl), Ky122, Ay122_0, By122_b37, By122_b4, Cy122_112, Cy122_113⟩
  ·
   refine xt rfl ?_
   refine sgb ?_
   refine sr ?_
   refine mv v30_0 rfl rfl rfl rfl rfl rfl ?_
   refine pu rfl rfl rfl rfl rfl ?_
   refine lda (es := [(.int .i64 ((at_ r30 r8).Xid)), (.int .i64 ((at_ r30 r8).Begun)), (.int .i64 ((at_ r30 r8).Ended)), (.bool y43.2.1), vy43_1, v33_1, (.bool ((at_ r30 r8).In)), (.bool x116.2.2.2)]) Bx116_b37 Try.underlying59 z59 rfl rfl rfl rfl rfl rfl rfl rfl ?_
   refine ix Ax116_0.rd Try.underlying62 z59 rfl rfl rfl rfl rfl rfl rfl rfl (fun ad321 es321 h0_321 h1_321 he321 ce321 ia321 => ?_)
   replace he321 := rw_sharp Ax116_0 h0_321 h1_321 ia321 ce321 he321
   obtain ⟨v321_0, v321_1, rfl, A321_0, A321_1⟩ := op59 he321
   refine sor (x' := (Track.mk ((at_ r30 r8).Xid) ((at_ r30 r8).Begun) ((at_ r30 r8).Ended) y43.2.1 y43.2.2.1 y43.2.2.2 ((at_ r30 r8).In) x116.2.2.2)) Ax116_0 ia321 h0_321 h1_321 (mk59 (x := (Track.mk ((at_ r30 r8).Xid) ((at_ r30 r8).Begun) ((at_ r30 r8).Ended) y43.2.1 y43.2.2.1 y43.2.2.2 ((at_ r30 r8).In) x116.2.2.2)) (RdF.sub (D := [48, 50, 49]) Cx116_112 rfl) (RdF.sub (D := [48, 50, 49]) Cx116_113 rfl)) rfl z59 rfl rfl rfl rfl rfl rfl (fun s325 p325 A325 => ?_)
   have A325_ := A325.sub (D := [49, 48, 50]) rfl
   refine nb (fun y327 h327 => ?_)
   have A327 : RwF 59 kd59 s325 v30_0 y327 44 [49, 48, 50] := by rw [h327]; exact A325_
   refine dn ?_
   refine sq ?_
   refine sr ?_
   refine fa fa59_6 rfl rfl rfl rfl rfl rfl ?_
   have A328 := (BlF.st Bx116_b37 p325 rfl)
   refine ld A328 Try.underlying4 rfl rfl rfl rfl rfl rfl rfl rfl ?_
   refine pu rfl rfl rfl rfl rfl ?_
   refine jy [118, 119, 120, 121] [] 121 (.bool ((at_ r30 r8).In && x116.2.2.2)) rfl (fun Kg329 => ?_) (fun j329 => ?_)
   ·
    rcases Bool.eq_false_or_eq_true ((at_ r30 r8).In) with hb329 | hb329
    ·
     refine sbT hb329 ?_
     refine fa fa59_7 rfl rfl rfl rfl rfl rfl ?_
     refine ld A328 Try.underlying4 rfl rfl rfl rfl rfl rfl rfl rfl ?_
     refine pu rfl rfl rfl rfl rfl ?_
     exact Kg329 _ (Ag.put ((Ag.put ((Ag.put (Ag.base rfl) rfl)) rfl)) rfl) (by rw [hb329]; rfl)
    ·
     refine sbT hb329 ?_
     refine uw rfl rfl rfl rfl ?_
     refine uw rfl rfl rfl rfl ?_
     refine pu rfl rfl rfl rfl rfl ?_
     exact Kg329 _ (Ag.put ((Ag.put ((Ag.put (Ag.base rfl) rfl)) rfl)) rfl) (by rw [hb329]; rfl)
   refine dn ?_
   refine jc (fun (y330 : Int) (e : Env) (w : World) => ∃ (s : St) (e0 : Env), w = s.w ∧ e = upd (upd e0 9 v30_0) 11 (.int .i64 y330) ∧ Kp s0 s ∧ RwF 59 kd59 s v30_0 y327 44 [49, 48, 50]) (fun Gj330 Kj330 => ?_) ?_
   ·
    refine cd rfl (fun h331 => ?_) (fun h331 => ?_)
    ·
     refine rg ?_
     refine pu rfl rfl rfl rfl rfl ?_
     refine dn ?_
     have K332 := (Kx116.st p325 rfl)
     exact Kj330 _ _ _ ⟨s325, _, rfl, (ue (ue rfl rfl) rfl), K332, A327⟩
    ·
     refine sk ?_
     have K333 := (Kx116.st p325 rfl)
     exact Kj330 _ _ _ ⟨s325, _, rfl, (ue (ue rfl rfl) rfl), K333, A327⟩
   rintro y330 _ _ ⟨s334, _, rfl, rfl, Ky330, Cy330_326⟩
   refine sr ?_
   refine mv v30_0 rfl rfl rfl rfl rfl rfl ?_
   refine pu rfl rfl rfl rfl rfl ?_
   refine asg v30_0 rfl rfl rfl rfl rfl rfl ?_
   refine pu rfl rfl rfl rfl rfl ?_
   refine dn ?_
   exact re rfl Try.func41 rfl (r_t rfl (r_t rfl r_nil)) rfl ⟨_, rfl, v30_0, rfl, z.fr Ky330 Cy330_326.rd rfl, z.ky Ky330⟩
noncomputable def impl_Track_isActive.f (a0 : Track) : Option (Bool) :=
 (some (a0.Ended == (0 : Int)))
def impl_Track_isActive.Q (w : World) (F : Nat → Prop) (r : Bool) (v : Value) (w' : World) : Prop :=
 v = (.bool r) ∧ Ky [] w w'
set_option maxHeartbeats 4000000 in
set_option maxRecDepth 100000 in
theorem impl_Track_isActive.calls (a0 : Track) (w : World) (F : Nat → Prop) (w0_0 : Value) (w0_1 : Value) (h0_0 : (Kd.sl 80 kd80).rd w [w0_0] a0.Reads F) (h0_1 : (Kd.sl 48 kd48).rd w [w0_1] a0.Writes F) (r : Bool) (m : impl_Track_isActive.f a0 = some r) :
  Calls Try.prog 90 #[(.agg #[(.int .i64 a0.Xid), (.int .i64 a0.Begun), (.int .i64 a0.Ended), (.bool a0.All), w0_0, w0_1, (.bool a0.In), (.bool a0.Out)])] w fun en w' => ∃ v, en = .returned v ∧ impl_Track_isActive.Q w F r v w' := by
 obtain ⟨s0, rfl, kp0, z⟩ := start0 w F
 have A0_0 := z.rd h0_0
 have A0_1 := z.rd h0_1
 refine calls_of_TM (args := [(.agg #[(.int .i64 a0.Xid), (.int .i64 a0.Begun), (.int .i64 a0.Ended), (.bool a0.All), w0_0, w0_1, (.bool a0.In), (.bool a0.Out)])]) (R := fun r en w' => ∃ v, en = .returned v ∧ impl_Track_isActive.Q s0.w F r v w') Try.func90 Try.ntmps90 rfl rfl m ?_
 unfold impl_Track_isActive.f
 refine sr ?_
 refine bx (cs := [(.int .i64 a0.Xid), (.int .i64 a0.Begun), (.int .i64 a0.Ended), (.bool a0.All), w0_0, w0_1, (.bool a0.In), (.bool a0.Out)]) 40 rfl rfl rfl rfl rfl rfl (fun b3 s3 p3 B3 => ?_)
 refine pu rfl rfl rfl rfl rfl ?_
 refine dn ?_
 refine sr ?_
 refine fa fa59_2 rfl rfl rfl rfl rfl rfl ?_
 refine ld B3 Try.underlying3 rfl rfl rfl rfl rfl rfl rfl rfl ?_
 refine pu rfl rfl rfl rfl rfl ?_
 refine pu rfl rfl rfl rfl rfl ?_
 refine dn ?_
 have K5 := (kp0.st p3 rfl)
 exact re rfl Try.func90 rfl (r_t rfl r_nil) rfl ⟨_, rfl, rfl, z.ky K5⟩
noncomputable def impl_Concurrent.f (a0 : Track) (a1 : Track) : Option (Bool) :=
 ((impl_Track_isActive.f a0).bind fun r13 => ((if (r13 || (decide (a0.Ended > a1.Begun))) = true then ((impl_Track_isActive.f a1).bind fun r23 => (some (r23 || (decide (a1.Ended > a0.Begun))))) else (some false)).bind fun y18 => (some y18)))
def impl_Concurrent.Q (w : World) (F : Nat → Prop) (r : Bool) (v : Value) (w' : World) : Prop :=
 v = (.bool r) ∧ Ky [] w w'
set_option maxHeartbeats 4000000 in
set_option maxRecDepth 100000 in
theorem impl_Concurrent.calls (a0 : Track) (a1 : Track) (w : World) (F : Nat → Prop) (w0_0 : Value) (w0_1 : Value) (w1_0 : Value) (w1_1 : Value) (h0_0 : (Kd.sl 80 kd80).rd w [w0_0] a0.Reads F) (h0_1 : (Kd.sl 48 kd48).rd w [w0_1] a0.Writes F) (h1_0 : (Kd.sl 80 kd80).rd w [w1_0] a1.Reads F) (h1_1 : (Kd.sl 48 kd48).rd w [w1_1] a1.Writes F) (r : Bool) (m : impl_Concurrent.f a0 a1 = some r) :
  Calls Try.prog 31 #[(.agg #[(.int .i64 a0.Xid), (.int .i64 a0.Begun), (.int .i64 a0.Ended), (.bool a0.All), w0_0, w0_1, (.bool a0.In), (.bool a0.Out)]), (.agg #[(.int .i64 a1.Xid), (.int .i64 a1.Begun), (.int .i64 a1.Ended), (.bool a1.All), w1_0, w1_1, (.bool a1.In), (.bool a1.Out)])] w fun en w' => ∃ v, en = .returned v ∧ impl_Concurrent.Q w F r v w' := by
 obtain ⟨s0, rfl, kp0, z⟩ := start0 w F
 have A0_0 := z.rd h0_0
 have A0_1 := z.rd h0_1
 have A1_0 := z.rd h1_0
 have A1_1 := z.rd h1_1
 refine calls_of_TM (args := [(.agg #[(.int .i64 a0.Xid), (.int .i64 a0.Begun), (.int .i64 a0.Ended), (.bool a0.All), w0_0, w0_1, (.bool a0.In), (.bool a0.Out)]), (.agg #[(.int .i64 a1.Xid), (.int .i64 a1.Begun), (.int .i64 a1.Ended), (.bool a1.All), w1_0, w1_1, (.bool a1.In), (.bool a1.Out)])]) (R := fun r en w' => ∃ v, en = .returned v ∧ impl_Concurrent.Q s0.w F r v w') Try.func31 Try.ntmps31 rfl rfl m ?_
 unfold impl_Concurrent.f
 refine sr ?_
 refine bx (cs := [(.int .i64 a0.Xid), (.int .i64 a0.Begun), (.int .i64 a0.Ended), (.bool a0.All), w0_0, w0_1, (.bool a0.In), (.bool a0.Out)]) 40 rfl rfl rfl rfl rfl rfl (fun b5 s5 p5 B5 => ?_)
 refine bx (cs := [(.int .i64 a1.Xid), (.int .i64 a1.Begun), (.int .i64 a1.Ended), (.bool a1.All), w1_0, w1_1, (.bool a1.In), (.bool a1.Out)]) 41 rfl rfl rfl rfl rfl rfl (fun b7 s7 p7 B7 => ?_)
 refine pu rfl rfl rfl rfl rfl ?_
 refine dn ?_
 refine sr ?_
 have A9 := (BlF.st B5 p7 rfl)
 refine lda (es := [(.int .i64 a0.Xid), (.int .i64 a0.Begun), (.int .i64 a0.Ended), (.bool a0.All), w0_0, w0_1, (.bool a0.In), (.bool a0.Out)]) A9 Try.underlying59 z59 rfl rfl rfl rfl rfl rfl rfl rfl ?_
 have K10 := ((kp0.st p5 rfl).st p7 rfl)
 have A11 := (A0_0.kp K10)
 have A12 := (A0_1.kp K10)
 refine cl rfl rfl rfl rfl rfl Try.func90 rfl rfl rfl (fun r13 m13 => impl_Track_isActive.calls a0 s7.w (fun b => memb [0] (s7.g b) = true) w0_0 w0_1 A11 A12 r13 m13) ?_
 rintro r13 _ w13 m13 ⟨rfl, ky13⟩
 obtain ⟨s14, rfl, p14, n14⟩ := nwx s7 w13 42 ky13
 refine pu rfl rfl rfl rfl rfl ?_
 refine jy [7, 8, 9, 10, 11, 12, 13] [9, 10, 11, 12, 13, 14, 15, 16, 17, 18, 19, 20] 13 (.bool (r13 || (decide (a0.Ended > a1.Begun)))) rfl (fun Kg15 => ?_) (fun j15 => ?_)
 ·
  rcases Bool.eq_false_or_eq_true r13 with hb15 | hb15
  ·
   refine sbT hb15 ?_
   refine uw rfl rfl rfl rfl ?_
   refine uw rfl rfl rfl rfl ?_
   refine uw rfl rfl rfl rfl ?_
   refine uw rfl rfl rfl rfl ?_
   refine uw rfl rfl rfl rfl ?_
   refine pu rfl rfl rfl rfl rfl ?_
   exact Kg15 _ (Ag.put ((Ag.put ((Ag.put ((Ag.put ((Ag.put ((Ag.put (Ag.base rfl) rfl)) rfl)) rfl)) rfl)) rfl)) rfl) (by rw [hb15]; rfl)
  ·
   refine sbT hb15 ?_
   refine fa fa59_2 rfl rfl rfl rfl rfl rfl ?_
   have A16 := (BlF.st A9 p14 rfl)
   refine ld A16 Try.underlying3 rfl rfl rfl rfl rfl rfl rfl rfl ?_
   refine fa fa59_1 rfl rfl rfl rfl rfl rfl ?_
   have A17 := (BlF.st B7 p14 rfl)
   refine ld A17 Try.underlying3 rfl rfl rfl rfl rfl rfl rfl rfl ?_
   refine pu rfl rfl rfl rfl rfl ?_
   refine pu rfl rfl rfl rfl rfl ?_
   exact Kg15 _ (Ag.put ((Ag.put ((Ag.put ((Ag.put ((Ag.put ((Ag.put (Ag.base rfl) rfl)) rfl)) rfl)) rfl)) rfl)) rfl) (by rw [hb15]; rfl)
 refine pu rfl rfl rfl rfl rfl ?_
 refine ji [20] (fun (y18 : Bool) (e : Env) (w : World) => ∃ (s : St) (e0 : Env), w = s.w ∧ e = upd e0 24 (.bool y18) ∧ Kp s0 s) (fun Gj18 Kj18 => ?_) ?_
 ·
  rcases Bool.eq_false_or_eq_true (r13 || (decide (a0.Ended > a1.Begun))) with hb18 | hb18
  ·
   refine sbT hb18 ?_
   rw [if_pos hb18]
   have A19 := (BlF.st B7 p14 rfl)
   refine lda (es := [(.int .i64 a1.Xid), (.int .i64 a1.Begun), (.int .i64 a1.Ended), (.bool a1.All), w1_0, w1_1, (.bool a1.In), (.bool a1.Out)]) A19 Try.underlying59 z59 rfl rfl rfl rfl rfl rfl rfl rfl ?_
   have K20 := (K10.st p14 rfl)
   have A21 := (A1_0.kp K20)
   have A22 := (A1_1.kp K20)
   refine cl rfl rfl rfl rfl rfl Try.func90 rfl rfl rfl (fun r23 m23 => impl_Track_isActive.calls a1 s14.w (fun b => memb [0] (s14.g b) = true) w1_0 w1_1 A21 A22 r23 m23) ?_
   rintro r23 _ w23 m23 ⟨rfl, ky23⟩
   obtain ⟨s24, rfl, p24, n24⟩ := nwx s14 w23 43 ky23
   refine pu rfl rfl rfl rfl rfl ?_
   refine jy [17, 18, 19, 20, 21, 22, 23] [19, 20] 23 (.bool (r23 || (decide (a1.Ended > a0.Begun)))) rfl (fun Kg25 => ?_) (fun j25 => ?_)
   ·
    rcases Bool.eq_false_or_eq_true r23 with hb25 | hb25
    ·
     refine sbT hb25 ?_
     refine uw rfl rfl rfl rfl ?_
     refine uw rfl rfl rfl rfl ?_
     refine uw rfl rfl rfl rfl ?_
     refine uw rfl rfl rfl rfl ?_
     refine uw rfl rfl rfl rfl ?_
     refine pu rfl rfl rfl rfl rfl ?_
     exact Kg25 _ (Ag.put ((Ag.put ((Ag.put ((Ag.put ((Ag.put ((Ag.put (Ag.base rfl) rfl)) rfl)) rfl)) rfl)) rfl)) rfl) (by rw [hb25]; rfl)
    ·
     refine sbT hb25 ?_
     refine fa fa59_2 rfl rfl rfl rfl rfl rfl ?_
     have A26 := (BlF.st A19 p24 rfl)
     refine ld A26 Try.underlying3 rfl rfl rfl rfl rfl rfl rfl rfl ?_
     refine fa fa59_1 rfl rfl rfl rfl rfl rfl ?_
     have A27 := (BlF.st (BlF.st A9 p14 rfl) p24 rfl)
     refine ld A27 Try.underlying3 rfl rfl rfl rfl rfl rfl rfl rfl ?_
     refine pu rfl rfl rfl rfl rfl ?_
     refine pu rfl rfl rfl rfl rfl ?_
     exact Kg25 _ (Ag.put ((Ag.put ((Ag.put ((Ag.put ((Ag.put ((Ag.put (Ag.base rfl) rfl)) rfl)) rfl)) rfl)) rfl)) rfl) (by rw [hb25]; rfl)
   refine pu rfl rfl rfl rfl rfl ?_
   have K28 := (K20.st p24 rfl)
   exact Kj18 _ _ _ ⟨s24, _, rfl, (ue rfl rfl), K28⟩
  ·
   refine sbT hb18 ?_
   rw [if_neg (by rw [hb18]; decide)]
   refine uw rfl rfl rfl rfl ?_
   refine uw rfl rfl rfl rfl ?_
   refine uw rfl rfl rfl rfl ?_
   refine uw rfl rfl rfl rfl ?_
   refine uw rfl rfl rfl rfl ?_
   refine uw rfl rfl rfl rfl ?_
   refine uw rfl rfl rfl rfl ?_
   refine uw rfl rfl rfl rfl ?_
   refine uw rfl rfl rfl rfl ?_
   refine pu rfl rfl rfl rfl rfl ?_
   have K29 := (K10.st p14 rfl)
   exact Kj18 _ _ _ ⟨s14, _, rfl, (ue rfl rfl), K29⟩
 rintro y18 _ _ ⟨s30, _, rfl, rfl, Ky18⟩
 refine pu rfl rfl rfl rfl rfl ?_
 refine dn ?_
 exact re rfl Try.func31 rfl (r_t rfl r_nil) rfl ⟨_, rfl, rfl, z.ky Ky18⟩
noncomputable def impl_active_1.f (a0 : Track) (a1 : Int) : Option (Bool) :=
 ((if (a0.Xid == a1) = true then ((impl_Track_isActive.f a0).bind fun r11 => (some r11)) else (some false)).bind fun y7 => (some y7))
def impl_active_1.Q (w : World) (F : Nat → Prop) (r : Bool) (v : Value) (w' : World) : Prop :=
 v = (.bool r) ∧ Ky [] w w'
set_option maxHeartbeats 4000000 in
set_option maxRecDepth 100000 in
theorem impl_active_1.calls (a0 : Track) (a1 : Int) (w : World) (F : Nat → Prop) (w0_0 : Value) (w0_1 : Value) (c1 : Nat) (h0_0 : (Kd.sl 80 kd80).rd w [w0_0] a0.Reads F) (h0_1 : (Kd.sl 48 kd48).rd w [w0_1] a0.Writes F) (hb1 : BlW w c1 3 [(.int .i64 a1)]) (hp1 : F c1) (r : Bool) (m : impl_active_1.f a0 a1 = some r) :
  Calls Try.prog 156 #[(.agg #[(.int .i64 a0.Xid), (.int .i64 a0.Begun), (.int .i64 a0.Ended), (.bool a0.All), w0_0, w0_1, (.bool a0.In), (.bool a0.Out)]), (.pointer (some ⟨c1, 0, none⟩))] w fun en w' => ∃ v, en = .returned v ∧ impl_active_1.Q w F r v w' := by
 obtain ⟨s0, rfl, kp0, z⟩ := start0 w F
 have A0_0 := z.rd h0_0
 have A0_1 := z.rd h0_1
 have B1 := z.b0 hb1 hp1
 refine calls_of_TM (args := [(.agg #[(.int .i64 a0.Xid), (.int .i64 a0.Begun), (.int .i64 a0.Ended), (.bool a0.All), w0_0, w0_1, (.bool a0.In), (.bool a0.Out)]), (.pointer (some ⟨c1, 0, none⟩))]) (R := fun r en w' => ∃ v, en = .returned v ∧ impl_active_1.Q s0.w F r v w') Try.func156 Try.ntmps156 rfl rfl m ?_
 unfold impl_active_1.f
 refine sr ?_
 refine bx (cs := [(.int .i64 a0.Xid), (.int .i64 a0.Begun), (.int .i64 a0.Ended), (.bool a0.All), w0_0, w0_1, (.bool a0.In), (.bool a0.Out)]) 40 rfl rfl rfl rfl rfl rfl (fun b4 s4 p4 B4 => ?_)
 refine pu rfl rfl rfl rfl rfl ?_
 refine dn ?_
 refine sr ?_
 refine fa fa59_0 rfl rfl rfl rfl rfl rfl ?_
 refine ld B4 Try.underlying3 rfl rfl rfl rfl rfl rfl rfl rfl ?_
 have A6 := (BlF.st B1 p4 rfl)
 refine ld A6 Try.underlying3 rfl rfl rfl rfl rfl rfl rfl rfl ?_
 refine pu rfl rfl rfl rfl rfl ?_
 refine pu rfl rfl rfl rfl rfl ?_
 refine ji [8] (fun (y7 : Bool) (e : Env) (w : World) => ∃ (s : St) (e0 : Env), w = s.w ∧ e = upd e0 11 (.bool y7) ∧ Kp s0 s) (fun Gj7 Kj7 => ?_) ?_
 ·
  rcases Bool.eq_false_or_eq_true (a0.Xid == a1) with hb7 | hb7
  ·
   refine sbT hb7 ?_
   rw [if_pos hb7]
   refine lda (es := [(.int .i64 a0.Xid), (.int .i64 a0.Begun), (.int .i64 a0.Ended), (.bool a0.All), w0_0, w0_1, (.bool a0.In), (.bool a0.Out)]) B4 Try.underlying59 z59 rfl rfl rfl rfl rfl rfl rfl rfl ?_
   have K8 := (kp0.st p4 rfl)
   have A9 := (A0_0.kp K8)
   have A10 := (A0_1.kp K8)
   refine cl rfl rfl rfl rfl rfl Try.func90 rfl rfl rfl (fun r11 m11 => impl_Track_isActive.calls a0 s4.w (fun b => memb [0] (s4.g b) = true) w0_0 w0_1 A9 A10 r11 m11) ?_
   rintro r11 _ w11 m11 ⟨rfl, ky11⟩
   obtain ⟨s12, rfl, p12, n12⟩ := nwx s4 w11 41 ky11
   refine pu rfl rfl rfl rfl rfl ?_
   have K13 := (K8.st p12 rfl)
   exact Kj7 _ _ _ ⟨s12, _, rfl, (ue rfl rfl), K13⟩
  ·
   refine sbT hb7 ?_
   rw [if_neg (by rw [hb7]; decide)]
   refine uw rfl rfl rfl rfl ?_
   refine uw rfl rfl rfl rfl ?_
   refine pu rfl rfl rfl rfl rfl ?_
   have K14 := (kp0.st p4 rfl)
   exact Kj7 _ _ _ ⟨s4, _, rfl, (ue rfl rfl), K14⟩
 rintro y7 _ _ ⟨s15, _, rfl, rfl, Ky7⟩
 refine pu rfl rfl rfl rfl rfl ?_
 refine dn ?_
 exact re rfl Try.func156 rfl (r_t rfl r_nil) rfl ⟨_, rfl, rfl, z.ky Ky7⟩
noncomputable def slices_IndexFunc_impl_Track_impl_Track.b0 (a0 : (List Track)) (a1 : (Track → Option Bool)) (x2 : Int) : Option (Int ⊕ Int) :=
 (if (decide (x2 < (a0.length : Int))) = true then (if 0 ≤ x2 ∧ x2 < (a0.length : Int) then ((a1 (at_ a0 x2)).bind fun r10 => (if r10 = true then (some (Sum.inr x2)) else (some (Sum.inl (IntKind.wrap .i64 (x2 + (1 : Int))))))) else none) else ((some (-1 : Int)).bind fun o => some (Sum.inr o)))
noncomputable def slices_IndexFunc_impl_Track_impl_Track.f (a0 : (List Track)) (a1 : (Track → Option Bool)) : Option (Int) :=
 (iter (slices_IndexFunc_impl_Track_impl_Track.b0 a0 a1) (0 : Int))
def slices_IndexFunc_impl_Track_impl_Track.Q (w : World) (F : Nat → Prop) (r : Int) (v : Value) (w' : World) : Prop :=
 v = (.int .i64 r) ∧ Ky [] w w'
set_option maxHeartbeats 4000000 in
set_option maxRecDepth 100000 in
theorem slices_IndexFunc_impl_Track_impl_Track.calls (a0 : (List Track)) (a1 : (Track → Option Bool)) (w : World) (F : Nat → Prop) (w0_0 : Value) (f1 : Value) (h0_0 : (Kd.sl 59 kd59).rd w [w0_0] a0 F) (hf1 : ∀ (x0 : Track) (u0_0 u0_1 : Value) (w' : World), Ky [] w w' → (Kd.sl 80 kd80).rd w' [u0_0] x0.Reads (fun _ => True) → (Kd.sl 48 kd48).rd w' [u0_1] x0.Writes (fun _ => True) → ∀ r, a1 x0 = some r → CallV Try.prog f1 [(.agg #[(.int .i64 x0.Xid), (.int .i64 x0.Begun), (.int .i64 x0.Ended), (.bool x0.All), u0_0, u0_1, (.bool x0.In), (.bool x0.Out)])] w' fun en w'' => ∃ v, en = .returned v ∧ v = (.bool r) ∧ Ky [] w' w'') (ho1 : f1.cells = #[f1]) (r : Int) (m : slices_IndexFunc_impl_Track_impl_Track.f a0 a1 = some r) :
  Calls Try.prog 155 #[w0_0, f1] w fun en w' => ∃ v, en = .returned v ∧ slices_IndexFunc_impl_Track_impl_Track.Q w F r v w' := by
 obtain ⟨s0, rfl, kp0, z⟩ := start0 w F
 have A0_0 := z.rd h0_0
 refine calls_of_TM (args := [w0_0, f1]) (R := fun r en w' => ∃ v, en = .returned v ∧ slices_IndexFunc_impl_Track_impl_Track.Q s0.w F r v w') Try.func155 Try.ntmps155 rfl rfl m ?_
 unfold slices_IndexFunc_impl_Track_impl_Track.f
 refine sr ?_
 refine pu rfl rfl rfl rfl rfl ?_
 refine dn ?_
 refine sq ?_
 refine sr ?_
 refine mv w0_0 rfl rfl rfl rfl rfl rfl ?_
 refine ln A0_0 Try.underlying62 rfl rfl rfl rfl rfl rfl ?_
 refine pu rfl rfl rfl rfl rfl ?_
 refine dn ?_
 refine bl ?_
 refine lpI (fun (x2 : Int) (e : Env) (w : World) => ∃ (s : St) (e0 : Env), w = s.w ∧ e = upd (upd (upd (upd e0 0 w0_0) 1 f1) 7 (.int .i64 (a0.length : Int))) 8 (.int .i64 x2) ∧ Kp s0 s) ⟨s0, _, rfl, (ue (ue (ue (ue rfl rfl) rfl) rfl) rfl), kp0⟩ (fun g2 ih2 => ?_)
 rintro x2 _ _ ⟨s3, _, rfl, rfl, Kx2⟩
 unfold slices_IndexFunc_impl_Track_impl_Track.b0
 refine sr ?_
 refine pu rfl rfl rfl rfl rfl ?_
 refine dn ?_
 refine sq ?_
 refine cd rfl (fun h4 => ?_) (fun h4 => ?_)
 ·
  refine sk ?_
  refine sq ?_
  refine bl ?_
  refine sr ?_
  refine pu rfl rfl rfl rfl rfl ?_
  refine pu rfl rfl rfl rfl rfl ?_
  refine dn ?_
  refine sr ?_
  refine mv f1 rfl rfl rfl rfl rfl rfl ?_
  refine mv w0_0 rfl rfl rfl rfl rfl rfl ?_
  refine pu rfl rfl rfl rfl rfl ?_
  have A5 := (A0_0.kp Kx2)
  refine ix A5 Try.underlying62 z59 rfl rfl rfl rfl rfl rfl rfl rfl (fun ad6 es6 h0_6 h1_6 he6 ce6 ia6 => ?_)
  obtain ⟨v6_0, v6_1, rfl, A6_0, A6_1⟩ := op59 he6
  refine lca ce6 Try.underlying59 z59 rfl rfl rfl rfl rfl rfl rfl ?_
  refine clv rfl rfl rfl rfl rfl rfl rfl (fun r10 m10 => hf1 (at_ a0 x2) v6_0 v6_1 s3.w (z.ky Kx2) (RdF.top A6_0) (RdF.top A6_1) r10 m10) ?_
  rintro r10 _ w10 m10 ⟨rfl, ky10⟩
  obtain ⟨s11, rfl, p11, n11⟩ := nwx s3 w10 40 ky10
  refine dn ?_
  refine cd rfl (fun h12 => ?_) (fun h12 => ?_)
  ·
   refine sr ?_
   refine pu rfl rfl rfl rfl rfl ?_
   refine pu rfl rfl rfl rfl rfl ?_
   refine dn ?_
   refine sgi ?_
   have K13 := (Kx2.st p11 rfl)
   exact re rfl Try.func155 rfl (r_t rfl r_nil) rfl ⟨_, rfl, rfl, z.ky K13⟩
  ·
   refine sk ?_
   refine ib ?_
   refine rg ?_
   refine pu rfl rfl rfl rfl rfl ?_
   refine pu rfl rfl rfl rfl rfl ?_
   refine dn ?_
   have K14 := (Kx2.st p11 rfl)
   exact lb ih2 ⟨s11, _, rfl, (ue (ue (ue (ue rfl rfl) rfl) rfl) rfl), K14⟩
 ·
  refine xt rfl ?_
  refine sgb ?_
  refine sr ?_
  refine pu rfl rfl rfl rfl rfl ?_
  refine dn ?_
  exact re rfl Try.func155 rfl (r_t rfl r_nil) rfl ⟨_, rfl, rfl, z.ky Kx2⟩
noncomputable def impl_active.f (a0 : (List Track)) (a1 : Int) : Option (Int) :=
 ((slices_IndexFunc_impl_Track_impl_Track.f a0 (fun x0 => impl_active_1.f x0 a1)).bind fun r6 => (some r6))
def impl_active.Q (w : World) (F : Nat → Prop) (r : Int) (v : Value) (w' : World) : Prop :=
 v = (.int .i64 r) ∧ Ky [] w w'
set_option maxHeartbeats 4000000 in
set_option maxRecDepth 100000 in
theorem impl_active.calls (a0 : (List Track)) (a1 : Int) (w : World) (F : Nat → Prop) (w0_0 : Value) (h0_0 : (Kd.sl 59 kd59).rd w [w0_0] a0 F) (r : Int) (m : impl_active.f a0 a1 = some r) :
  Calls Try.prog 91 #[w0_0, (.int .i64 a1)] w fun en w' => ∃ v, en = .returned v ∧ impl_active.Q w F r v w' := by
 obtain ⟨s0, rfl, kp0, z⟩ := start0 w F
 have A0_0 := z.rd h0_0
 refine calls_of_TM (args := [w0_0, (.int .i64 a1)]) (R := fun r en w' => ∃ v, en = .returned v ∧ impl_active.Q s0.w F r v w') Try.func91 Try.ntmps91 rfl rfl m ?_
 unfold impl_active.f
 refine sr ?_
 refine bx (cs := [(.int .i64 a1)]) 40 rfl rfl rfl rfl rfl rfl (fun b2 s2 p2 B2 => ?_)
 refine pu rfl rfl rfl rfl rfl ?_
 refine dn ?_
 refine sr ?_
 refine mv w0_0 rfl rfl rfl rfl rfl rfl ?_
 refine mkf (fs := []) (cs := [(.pointer (some ⟨b2, 0, none⟩))]) rfl rfl rfl rfl rfl rfl rfl ?_
 have K4 := (kp0.st p2 rfl)
 have A5 := (A0_0.kp K4)
 refine cl rfl rfl rfl rfl rfl Try.func155 rfl rfl rfl (fun r6 m6 => slices_IndexFunc_impl_Track_impl_Track.calls a0 (fun x0 => impl_active_1.f x0 a1) s2.w (fun b => memb [0] (s2.g b) = true) w0_0 (.func (.func 156) (List.toArray []) (List.toArray [(.pointer (some ⟨b2, 0, none⟩))])) A5 (fun x0 u0_0 u0_1 w' k h0 h1 r m =>  ⟨156, _, _, [], [(.pointer (some ⟨b2, 0, none⟩))], rfl, Try.func156, rfl, rfl, (impl_active_1.calls x0 a1 w' (fun _ => True) u0_0 u0_1 b2 h0 h1 (BlF.ky B2 k) trivial r m).mono fun en w2 hq => by obtain ⟨v, e, q⟩ := hq; exact ⟨v, e, q⟩⟩) rfl r6 m6) ?_
 rintro r6 _ w6 m6 ⟨rfl, ky6⟩
 obtain ⟨s7, rfl, p7, n7⟩ := nwx s2 w6 41 ky6
 refine pu rfl rfl rfl rfl rfl ?_
 refine dn ?_
 have K8 := (K4.st p7 rfl)
 exact re rfl Try.func91 rfl (r_t rfl r_nil) rfl ⟨_, rfl, rfl, z.ky K8⟩
noncomputable def impl_areAll_impl_Track_1.f (a0 : Track) (a1 : (Track → Option Bool)) : Option (Bool) :=
 ((a1 a0).bind fun r10 => (some (!r10)))
def impl_areAll_impl_Track_1.Q (w : World) (F : Nat → Prop) (r : Bool) (v : Value) (w' : World) : Prop :=
 v = (.bool r) ∧ Ky [] w w'
set_option maxHeartbeats 4000000 in
set_option maxRecDepth 100000 in
theorem impl_areAll_impl_Track_1.calls (a0 : Track) (a1 : (Track → Option Bool)) (w : World) (F : Nat → Prop) (w0_0 : Value) (w0_1 : Value) (c1 : Nat) (f1 : Value) (h0_0 : (Kd.sl 80 kd80).rd w [w0_0] a0.Reads F) (h0_1 : (Kd.sl 48 kd48).rd w [w0_1] a0.Writes F) (hf1 : ∀ (x0 : Track) (u0_0 u0_1 : Value) (w' : World), Ky [] w w' → (Kd.sl 80 kd80).rd w' [u0_0] x0.Reads (fun _ => True) → (Kd.sl 48 kd48).rd w' [u0_1] x0.Writes (fun _ => True) → ∀ r, a1 x0 = some r → CallV Try.prog f1 [(.agg #[(.int .i64 x0.Xid), (.int .i64 x0.Begun), (.int .i64 x0.Ended), (.bool x0.All), u0_0, u0_1, (.bool x0.In), (.bool x0.Out)])] w' fun en w'' => ∃ v, en = .returned v ∧ v = (.bool r) ∧ Ky [] w' w'') (ho1 : f1.cells = #[f1]) (hb1 : BlW w c1 144 [f1]) (hp1 : F c1) (r : Bool) (m : impl_areAll_impl_Track_1.f a0 a1 = some r) :
  Calls Try.prog 165 #[(.agg #[(.int .i64 a0.Xid), (.int .i64 a0.Begun), (.int .i64 a0.Ended), (.bool a0.All), w0_0, w0_1, (.bool a0.In), (.bool a0.Out)]), (.pointer (some ⟨c1, 0, none⟩))] w fun en w' => ∃ v, en = .returned v ∧ impl_areAll_impl_Track_1.Q w F r v w' := by
 obtain ⟨s0, rfl, kp0, z⟩ := start0 w F
 have A0_0 := z.rd h0_0
 have A0_1 := z.rd h0_1
 have B1 := z.b0 hb1 hp1
 refine calls_of_TM (args := [(.agg #[(.int .i64 a0.Xid), (.int .i64 a0.Begun), (.int .i64 a0.Ended), (.bool a0.All), w0_0, w0_1, (.bool a0.In), (.bool a0.Out)]), (.pointer (some ⟨c1, 0, none⟩))]) (R := fun r en w' => ∃ v, en = .returned v ∧ impl_areAll_impl_Track_1.Q s0.w F r v w') Try.func165 Try.ntmps165 rfl rfl m ?_
 unfold impl_areAll_impl_Track_1.f
 refine sr ?_
 refine bx (cs := [(.int .i64 a0.Xid), (.int .i64 a0.Begun), (.int .i64 a0.Ended), (.bool a0.All), w0_0, w0_1, (.bool a0.In), (.bool a0.Out)]) 40 rfl rfl rfl rfl rfl rfl (fun b4 s4 p4 B4 => ?_)
 refine pu rfl rfl rfl rfl rfl ?_
 refine dn ?_
 refine sr ?_
 have A6 := (BlF.st B1 p4 rfl)
 refine ld A6 Try.underlying144 rfl rfl rfl rfl rfl rfl rfl rfl ?_
 refine lda (es := [(.int .i64 a0.Xid), (.int .i64 a0.Begun), (.int .i64 a0.Ended), (.bool a0.All), w0_0, w0_1, (.bool a0.In), (.bool a0.Out)]) B4 Try.underlying59 z59 rfl rfl rfl rfl rfl rfl rfl rfl ?_
 have K7 := (kp0.st p4 rfl)
 have A8 := (A0_0.kp K7)
 have A9 := (A0_1.kp K7)
 refine clv rfl rfl rfl rfl rfl rfl rfl (fun r10 m10 => hf1 a0 w0_0 w0_1 s4.w (z.ky K7) (RdF.top A8) (RdF.top A9) r10 m10) ?_
 rintro r10 _ w10 m10 ⟨rfl, ky10⟩
 obtain ⟨s11, rfl, p11, n11⟩ := nwx s4 w10 41 ky10
 refine pu rfl rfl rfl rfl rfl ?_
 refine pu rfl rfl rfl rfl rfl ?_
 refine dn ?_
 have K12 := (K7.st p11 rfl)
 exact re rfl Try.func165 rfl (r_t rfl r_nil) rfl ⟨_, rfl, rfl, z.ky K12⟩
noncomputable def slices_ContainsFunc_impl_Track_impl_Track.f (a0 : (List Track)) (a1 : (Track → Option Bool)) : Option (Bool) :=
 ((slices_IndexFunc_impl_Track_impl_Track.f a0 a1).bind fun r2 => (some (decide (r2 ≥ (0 : Int)))))
def slices_ContainsFunc_impl_Track_impl_Track.Q (w : World) (F : Nat → Prop) (r : Bool) (v : Value) (w' : World) : Prop :=
 v = (.bool r) ∧ Ky [] w w'
set_option maxHeartbeats 4000000 in
set_option maxRecDepth 100000 in
theorem slices_ContainsFunc_impl_Track_impl_Track.calls (a0 : (List Track)) (a1 : (Track → Option Bool)) (w : World) (F : Nat → Prop) (w0_0 : Value) (f1 : Value) (h0_0 : (Kd.sl 59 kd59).rd w [w0_0] a0 F) (hf1 : ∀ (x0 : Track) (u0_0 u0_1 : Value) (w' : World), Ky [] w w' → (Kd.sl 80 kd80).rd w' [u0_0] x0.Reads (fun _ => True) → (Kd.sl 48 kd48).rd w' [u0_1] x0.Writes (fun _ => True) → ∀ r, a1 x0 = some r → CallV Try.prog f1 [(.agg #[(.int .i64 x0.Xid), (.int .i64 x0.Begun), (.int .i64 x0.Ended), (.bool x0.All), u0_0, u0_1, (.bool x0.In), (.bool x0.Out)])] w' fun en w'' => ∃ v, en = .returned v ∧ v = (.bool r) ∧ Ky [] w' w'') (ho1 : f1.cells = #[f1]) (r : Bool) (m : slices_ContainsFunc_impl_Track_impl_Track.f a0 a1 = some r) :
  Calls Try.prog 164 #[w0_0, f1] w fun en w' => ∃ v, en = .returned v ∧ slices_ContainsFunc_impl_Track_impl_Track.Q w F r v w' := by
 obtain ⟨s0, rfl, kp0, z⟩ := start0 w F
 have A0_0 := z.rd h0_0
 refine calls_of_TM (args := [w0_0, f1]) (R := fun r en w' => ∃ v, en = .returned v ∧ slices_ContainsFunc_impl_Track_impl_Track.Q s0.w F r v w') Try.func164 Try.ntmps164 rfl rfl m ?_
 unfold slices_ContainsFunc_impl_Track_impl_Track.f
 refine sr ?_
 refine pu rfl rfl rfl rfl rfl ?_
 refine dn ?_
 refine sr ?_
 refine mv w0_0 rfl rfl rfl rfl rfl rfl ?_
 refine mv f1 rfl rfl rfl rfl rfl rfl ?_
 refine cl rfl rfl rfl rfl rfl Try.func155 rfl rfl rfl (fun r2 m2 => slices_IndexFunc_impl_Track_impl_Track.calls a0 a1 s0.w (fun b => memb [0] (s0.g b) = true) w0_0 f1 A0_0 (fun x0 u0_0 u0_1 w' k h0 h1 r m =>  hf1 x0 u0_0 u0_1 w' (Ky.trans (z.ky kp0) k) h0 h1 r m) ho1 r2 m2) ?_
 rintro r2 _ w2 m2 ⟨rfl, ky2⟩
 obtain ⟨s3, rfl, p3, n3⟩ := nwx s0 w2 40 ky2
 refine pu rfl rfl rfl rfl rfl ?_
 refine pu rfl rfl rfl rfl rfl ?_
 refine dn ?_
 have K4 := (kp0.st p3 rfl)
 exact re rfl Try.func164 rfl (r_t rfl r_nil) rfl ⟨_, rfl, rfl, z.ky K4⟩
noncomputable def impl_areAll_impl_Track.f (a0 : (List Track)) (a1 : (Track → Option Bool)) : Option (Bool) :=
 ((slices_ContainsFunc_impl_Track_impl_Track.f a0 (fun x0 => impl_areAll_impl_Track_1.f x0 a1)).bind fun r6 => (some (!r6)))
def impl_areAll_impl_Track.Q (w : World) (F : Nat → Prop) (r : Bool) (v : Value) (w' : World) : Prop :=
 v = (.bool r) ∧ Ky [] w w'
set_option maxHeartbeats 4000000 in
set_option maxRecDepth 100000 in
theorem impl_areAll_impl_Track.calls (a0 : (List Track)) (a1 : (Track → Option Bool)) (w : World) (F : Nat → Prop) (w0_0 : Value) (f1 : Value) (h0_0 : (Kd.sl 59 kd59).rd w [w0_0] a0 F) (hf1 : ∀ (x0 : Track) (u0_0 u0_1 : Value) (w' : World), Ky [] w w' → (Kd.sl 80 kd80).rd w' [u0_0] x0.Reads (fun _ => True) → (Kd.sl 48 kd48).rd w' [u0_1] x0.Writes (fun _ => True) → ∀ r, a1 x0 = some r → CallV Try.prog f1 [(.agg #[(.int .i64 x0.Xid), (.int .i64 x0.Begun), (.int .i64 x0.Ended), (.bool x0.All), u0_0, u0_1, (.bool x0.In), (.bool x0.Out)])] w' fun en w'' => ∃ v, en = .returned v ∧ v = (.bool r) ∧ Ky [] w' w'') (ho1 : f1.cells = #[f1]) (r : Bool) (m : impl_areAll_impl_Track.f a0 a1 = some r) :
  Calls Try.prog 98 #[w0_0, f1] w fun en w' => ∃ v, en = .returned v ∧ impl_areAll_impl_Track.Q w F r v w' := by
 obtain ⟨s0, rfl, kp0, z⟩ := start0 w F
 have A0_0 := z.rd h0_0
 refine calls_of_TM (args := [w0_0, f1]) (R := fun r en w' => ∃ v, en = .returned v ∧ impl_areAll_impl_Track.Q s0.w F r v w') Try.func98 Try.ntmps98 rfl rfl m ?_
 unfold impl_areAll_impl_Track.f
 refine sr ?_
 refine bx (cs := [f1]) 40 rfl rfl rfl rfl rfl ho1 (fun b2 s2 p2 B2 => ?_)
 refine pu rfl rfl rfl rfl rfl ?_
 refine dn ?_
 refine sr ?_
 refine mv w0_0 rfl rfl rfl rfl rfl rfl ?_
 refine mkf (fs := []) (cs := [(.pointer (some ⟨b2, 0, none⟩))]) rfl rfl rfl rfl rfl rfl rfl ?_
 have K4 := (kp0.st p2 rfl)
 have A5 := (A0_0.kp K4)
 refine cl rfl rfl rfl rfl rfl Try.func164 rfl rfl rfl (fun r6 m6 => slices_ContainsFunc_impl_Track_impl_Track.calls a0 (fun x0 => impl_areAll_impl_Track_1.f x0 a1) s2.w (fun b => memb [0] (s2.g b) = true) w0_0 (.func (.func 165) (List.toArray []) (List.toArray [(.pointer (some ⟨b2, 0, none⟩))])) A5 (fun x0 u0_0 u0_1 w' k h0 h1 r m =>  ⟨165, _, _, [], [(.pointer (some ⟨b2, 0, none⟩))], rfl, Try.func165, rfl, rfl, (impl_areAll_impl_Track_1.calls x0 a1 w' (fun _ => True) u0_0 u0_1 b2 f1 h0 h1 (fun x0c u0_0c u0_1c w'c kc h0c h1c r m =>  hf1 x0c u0_0c u0_1c w'c (Ky.trans (z.ky K4) (Ky.trans k kc)) h0c h1c r m) ho1 (BlF.ky B2 k) trivial r m).mono fun en w2 hq => by obtain ⟨v, e, q⟩ := hq; exact ⟨v, e, q⟩⟩) rfl r6 m6) ?_
 rintro r6 _ w6 m6 ⟨rfl, ky6⟩
 obtain ⟨s7, rfl, p7, n7⟩ := nwx s2 w6 41 ky6
 refine pu rfl rfl rfl rfl rfl ?_
 refine pu rfl rfl rfl rfl rfl ?_
 refine dn ?_
 have K8 := (K4.st p7 rfl)
 exact re rfl Try.func98 rfl (r_t rfl r_nil) rfl ⟨_, rfl, rfl, z.ky K8⟩
noncomputable def impl_isXid.f (a0 : Int) : Option (Bool) :=
 ((impl_within.f a0 (1 : Int) (400 : Int)).bind fun r1 => (some r1))
def impl_isXid.Q (w : World) (F : Nat → Prop) (r : Bool) (v : Value) (w' : World) : Prop :=
 v = (.bool r) ∧ Ky [] w w'
set_option maxHeartbeats 4000000 in
set_option maxRecDepth 100000 in
theorem impl_isXid.calls (a0 : Int) (w : World) (F : Nat → Prop)   (r : Bool) (m : impl_isXid.f a0 = some r) :
  Calls Try.prog 166 #[(.int .i64 a0)] w fun en w' => ∃ v, en = .returned v ∧ impl_isXid.Q w F r v w' := by
 obtain ⟨s0, rfl, kp0, z⟩ := start0 w F
 refine calls_of_TM (args := [(.int .i64 a0)]) (R := fun r en w' => ∃ v, en = .returned v ∧ impl_isXid.Q s0.w F r v w') Try.func166 Try.ntmps166 rfl rfl m ?_
 unfold impl_isXid.f
 refine sr ?_
 refine pu rfl rfl rfl rfl rfl ?_
 refine dn ?_
 refine sr ?_
 refine pu rfl rfl rfl rfl rfl ?_
 refine cl rfl rfl rfl rfl rfl Try.func139 rfl rfl rfl (fun r1 m1 => impl_within.calls a0 (1 : Int) (400 : Int) s0.w (fun b => memb [] (s0.g b) = true)  r1 m1) ?_
 rintro r1 _ w1 m1 ⟨rfl, ky1⟩
 obtain ⟨s2, rfl, p2, n2⟩ := nwx s0 w1 40 ky1
 refine pu rfl rfl rfl rfl rfl ?_
 refine dn ?_
 have K3 := (kp0.st p2 rfl)
 exact re rfl Try.func166 rfl (r_t rfl r_nil) rfl ⟨_, rfl, rfl, z.ky K3⟩
noncomputable def impl_isTrack.f (a0 : Track) : Option (Bool) :=
 ((impl_isXid.f a0.Xid).bind fun r5 => ((if (((r5 && (decide (a0.Begun ≥ (1 : Int)))) && ((a0.Ended == (0 : Int)) || (decide (a0.Ended > a0.Begun)))) && (decide ((a0.Reads.length : Int) ≤ (6 : Int)))) = true then ((impl_areAll_impl_Span.f a0.Reads impl_SpanOk.f).bind fun r20 => (some r20)) else (some false)).bind fun y16 => ((if ((y16 && (((a0.Reads.length : Int) == (0 : Int)) || (!a0.All))) && (decide ((a0.Writes.length : Int) ≤ (200 : Int)))) = true then ((impl_areAll_impl_Item.f a0.Writes impl_KeyOk.f).bind fun r35 => (some r35)) else (some false)).bind fun y33 => (some y33))))
def impl_isTrack.Q (w : World) (F : Nat → Prop) (r : Bool) (v : Value) (w' : World) : Prop :=
 v = (.bool r) ∧ Ky [] w w'
set_option maxHeartbeats 4000000 in
set_option maxRecDepth 100000 in
theorem impl_isTrack.calls (a0 : Track) (w : World) (F : Nat → Prop) (w0_0 : Value) (w0_1 : Value) (h0_0 : (Kd.sl 80 kd80).rd w [w0_0] a0.Reads F) (h0_1 : (Kd.sl 48 kd48).rd w [w0_1] a0.Writes F) (r : Bool) (m : impl_isTrack.f a0 = some r) :
  Calls Try.prog 99 #[(.agg #[(.int .i64 a0.Xid), (.int .i64 a0.Begun), (.int .i64 a0.Ended), (.bool a0.All), w0_0, w0_1, (.bool a0.In), (.bool a0.Out)])] w fun en w' => ∃ v, en = .returned v ∧ impl_isTrack.Q w F r v w' := by
 obtain ⟨s0, rfl, kp0, z⟩ := start0 w F
 have A0_0 := z.rd h0_0
 have A0_1 := z.rd h0_1
 refine calls_of_TM (args := [(.agg #[(.int .i64 a0.Xid), (.int .i64 a0.Begun), (.int .i64 a0.Ended), (.bool a0.All), w0_0, w0_1, (.bool a0.In), (.bool a0.Out)])]) (R := fun r en w' => ∃ v, en = .returned v ∧ impl_isTrack.Q s0.w F r v w') Try.func99 Try.ntmps99 rfl rfl m ?_
 unfold impl_isTrack.f
 refine sr ?_
 refine bx (cs := [(.int .i64 a0.Xid), (.int .i64 a0.Begun), (.int .i64 a0.Ended), (.bool a0.All), w0_0, w0_1, (.bool a0.In), (.bool a0.Out)]) 40 rfl rfl rfl rfl rfl rfl (fun b3 s3 p3 B3 => ?_)
 refine pu rfl rfl rfl rfl rfl ?_
 refine dn ?_
 refine sr ?_
 refine fa fa59_0 rfl rfl rfl rfl rfl rfl ?_
 refine ld B3 Try.underlying3 rfl rfl rfl rfl rfl rfl rfl rfl ?_
 refine cl rfl rfl rfl rfl rfl Try.func166 rfl rfl rfl (fun r5 m5 => impl_isXid.calls a0.Xid s3.w (fun b => memb [] (s3.g b) = true)  r5 m5) ?_
 rintro r5 _ w5 m5 ⟨rfl, ky5⟩
 obtain ⟨s6, rfl, p6, n6⟩ := nwx s3 w5 41 ky5
 refine pu rfl rfl rfl rfl rfl ?_
 refine jy [6, 7, 8, 9, 10] [8, 9, 10, 11, 12, 13, 14, 15, 16, 17, 18, 19, 20, 21, 22, 23, 24, 25, 26, 27, 28, 29, 30, 31, 32, 33, 34, 35, 36, 37, 38, 39, 40, 41, 42, 43, 44, 45, 46, 47, 48, 49, 50, 51, 52, 53] 10 (.bool (r5 && (decide (a0.Begun ≥ (1 : Int))))) rfl (fun Kg7 => ?_) (fun j7 => ?_)
 ·
  rcases Bool.eq_false_or_eq_true r5 with hb7 | hb7
  ·
   refine sbT hb7 ?_
   refine fa fa59_1 rfl rfl rfl rfl rfl rfl ?_
   have A8 := (BlF.st B3 p6 rfl)
   refine ld A8 Try.underlying3 rfl rfl rfl rfl rfl rfl rfl rfl ?_
   refine pu rfl rfl rfl rfl rfl ?_
   refine pu rfl rfl rfl rfl rfl ?_
   exact Kg7 _ (Ag.put ((Ag.put ((Ag.put ((Ag.put (Ag.base rfl) rfl)) rfl)) rfl)) rfl) (by rw [hb7]; rfl)
  ·
   refine sbT hb7 ?_
   refine uw rfl rfl rfl rfl ?_
   refine uw rfl rfl rfl rfl ?_
   refine uw rfl rfl rfl rfl ?_
   refine pu rfl rfl rfl rfl rfl ?_
   exact Kg7 _ (Ag.put ((Ag.put ((Ag.put ((Ag.put (Ag.base rfl) rfl)) rfl)) rfl)) rfl) (by rw [hb7]; rfl)
 refine pu rfl rfl rfl rfl rfl ?_
 refine jy [11, 12, 13, 14, 15, 16, 17, 18, 19, 20, 21, 22] [20, 21, 22, 23, 24, 25, 26, 27, 28, 29, 30, 31, 32, 33, 34, 35, 36, 37, 38, 39, 40, 41, 42, 43, 44, 45, 46, 47, 48, 49, 50, 51, 52, 53] 22 (.bool ((r5 && (decide (a0.Begun ≥ (1 : Int)))) && ((a0.Ended == (0 : Int)) || (decide (a0.Ended > a0.Begun))))) rfl (fun Kg9 => ?_) (fun j9 => ?_)
 ·
  rcases Bool.eq_false_or_eq_true (r5 && (decide (a0.Begun ≥ (1 : Int)))) with hb9 | hb9
  ·
   refine sbT hb9 ?_
   refine fa fa59_2 rfl rfl rfl rfl rfl rfl ?_
   have A10 := (BlF.st B3 p6 rfl)
   refine ld A10 Try.underlying3 rfl rfl rfl rfl rfl rfl rfl rfl ?_
   refine pu rfl rfl rfl rfl rfl ?_
   refine pu rfl rfl rfl rfl rfl ?_
   refine jy [15, 16, 17, 18, 19, 20, 21] [19, 20, 21, 22, 23, 24, 25, 26, 27, 28, 29, 30, 31, 32, 33, 34, 35, 36, 37, 38, 39, 40, 41, 42, 43, 44, 45, 46, 47, 48, 49, 50, 51, 52, 53] 21 (.bool ((a0.Ended == (0 : Int)) || (decide (a0.Ended > a0.Begun)))) rfl (fun Kg11 => ?_) (fun j11 => ?_)
   ·
    rcases Bool.eq_false_or_eq_true (a0.Ended == (0 : Int)) with hb11 | hb11
    ·
     refine sbT hb11 ?_
     refine uw rfl rfl rfl rfl ?_
     refine uw rfl rfl rfl rfl ?_
     refine uw rfl rfl rfl rfl ?_
     refine uw rfl rfl rfl rfl ?_
     refine uw rfl rfl rfl rfl ?_
     refine pu rfl rfl rfl rfl rfl ?_
     exact Kg11 _ (Ag.put ((Ag.put ((Ag.put ((Ag.put ((Ag.put ((Ag.put (Ag.base rfl) rfl)) rfl)) rfl)) rfl)) rfl)) rfl) (by rw [hb11]; rfl)
    ·
     refine sbT hb11 ?_
     refine fa fa59_2 rfl rfl rfl rfl rfl rfl ?_
     refine ld A10 Try.underlying3 rfl rfl rfl rfl rfl rfl rfl rfl ?_
     refine fa fa59_1 rfl rfl rfl rfl rfl rfl ?_
     refine ld A10 Try.underlying3 rfl rfl rfl rfl rfl rfl rfl rfl ?_
     refine pu rfl rfl rfl rfl rfl ?_
     refine pu rfl rfl rfl rfl rfl ?_
     exact Kg11 _ (Ag.put ((Ag.put ((Ag.put ((Ag.put ((Ag.put ((Ag.put (Ag.base rfl) rfl)) rfl)) rfl)) rfl)) rfl)) rfl) (by rw [hb11]; rfl)
   refine pu rfl rfl rfl rfl rfl ?_
   exact Kg9 _ (Ag.put ((Ag.put ((Ag.ov ((Ag.put ((Ag.put ((Ag.put ((Ag.put (Ag.base rfl) rfl)) rfl)) rfl)) rfl)) rfl)) rfl)) rfl) (by rw [hb9]; rfl)
  ·
   refine sbT hb9 ?_
   refine uw rfl rfl rfl rfl ?_
   refine uw rfl rfl rfl rfl ?_
   refine uw rfl rfl rfl rfl ?_
   refine uw rfl rfl rfl rfl ?_
   refine uw rfl rfl rfl rfl ?_
   refine uw rfl rfl rfl rfl ?_
   refine uw rfl rfl rfl rfl ?_
   refine uw rfl rfl rfl rfl ?_
   refine uw rfl rfl rfl rfl ?_
   refine uw rfl rfl rfl rfl ?_
   refine pu rfl rfl rfl rfl rfl ?_
   exact Kg9 _ (Ag.put ((Ag.put ((Ag.put ((Ag.put ((Ag.put ((Ag.put ((Ag.put ((Ag.put ((Ag.put ((Ag.put ((Ag.put (Ag.base rfl) rfl)) rfl)) rfl)) rfl)) rfl)) rfl)) rfl)) rfl)) rfl)) rfl)) rfl) (by rw [hb9]; rfl)
 refine pu rfl rfl rfl rfl rfl ?_
 refine jy [23, 24, 25, 26, 27, 28] [26, 27, 28, 29, 30, 31, 32, 33, 34, 35, 36, 37, 38, 39, 40, 41, 42, 43, 44, 45, 46, 47, 48, 49, 50, 51, 52, 53] 28 (.bool (((r5 && (decide (a0.Begun ≥ (1 : Int)))) && ((a0.Ended == (0 : Int)) || (decide (a0.Ended > a0.Begun)))) && (decide ((a0.Reads.length : Int) ≤ (6 : Int))))) rfl (fun Kg12 => ?_) (fun j12 => ?_)
 ·
  rcases Bool.eq_false_or_eq_true ((r5 && (decide (a0.Begun ≥ (1 : Int)))) && ((a0.Ended == (0 : Int)) || (decide (a0.Ended > a0.Begun)))) with hb12 | hb12
  ·
   refine sbT hb12 ?_
   refine fa fa59_4 rfl rfl rfl rfl rfl rfl ?_
   have A13 := (BlF.st B3 p6 rfl)
   refine ld A13 Try.underlying56 rfl rfl rfl rfl rfl rfl rfl rfl ?_
   have K14 := ((kp0.st p3 rfl).st p6 rfl)
   have A15 := (A0_0.kp K14)
   refine ln A15 Try.underlying56 rfl rfl rfl rfl rfl rfl ?_
   refine pu rfl rfl rfl rfl rfl ?_
   refine pu rfl rfl rfl rfl rfl ?_
   exact Kg12 _ (Ag.put ((Ag.put ((Ag.put ((Ag.put ((Ag.put (Ag.base rfl) rfl)) rfl)) rfl)) rfl)) rfl) (by rw [hb12]; rfl)
  ·
   refine sbT hb12 ?_
   refine uw rfl rfl rfl rfl ?_
   refine uw rfl rfl rfl rfl ?_
   refine uw rfl rfl rfl rfl ?_
   refine uw rfl rfl rfl rfl ?_
   refine pu rfl rfl rfl rfl rfl ?_
   exact Kg12 _ (Ag.put ((Ag.put ((Ag.put ((Ag.put ((Ag.put (Ag.base rfl) rfl)) rfl)) rfl)) rfl)) rfl) (by rw [hb12]; rfl)
 refine pu rfl rfl rfl rfl rfl ?_
 refine ji [31, 32, 33, 34, 35, 36, 37, 38, 39, 40, 41, 42, 43, 44, 45, 46, 47, 48, 49, 50, 51, 52, 53] (fun (y16 : Bool) (e : Env) (w : World) => ∃ (s : St) (e0 : Env), w = s.w ∧ e = upd (upd e0 1 (.pointer (some ⟨b3, 0, none⟩))) 33 (.bool y16) ∧ Kp s0 s ∧ BlF s b3 59 [(.int .i64 a0.Xid), (.int .i64 a0.Begun), (.int .i64 a0.Ended), (.bool a0.All), w0_0, w0_1, (.bool a0.In), (.bool a0.Out)] 40) (fun Gj16 Kj16 => ?_) ?_
 ·
  rcases Bool.eq_false_or_eq_true (((r5 && (decide (a0.Begun ≥ (1 : Int)))) && ((a0.Ended == (0 : Int)) || (decide (a0.Ended > a0.Begun)))) && (decide ((a0.Reads.length : Int) ≤ (6 : Int)))) with hb16 | hb16
  ·
   refine sbT hb16 ?_
   rw [if_pos hb16]
   refine fa fa59_4 rfl rfl rfl rfl rfl rfl ?_
   have A17 := (BlF.st B3 p6 rfl)
   refine ld A17 Try.underlying56 rfl rfl rfl rfl rfl rfl rfl rfl ?_
   have K18 := ((kp0.st p3 rfl).st p6 rfl)
   have A19 := (A0_0.kp K18)
   refine cl rfl rfl rfl rfl rfl Try.func167 rfl rfl rfl (fun r20 m20 => impl_areAll_impl_Span.calls a0.Reads impl_SpanOk.f s6.w (fun b => memb [0] (s6.g b) = true) w0_0 (.func (.func 111) #[] #[]) A19 (fun x0 u0_0 u0_1 u0_2 u0_3 w' k h0 h1 h2 h3 r m =>  ⟨111, _, _, [], [], rfl, Try.func111, rfl, rfl, (impl_SpanOk.calls x0 w' (fun _ => True) u0_0 u0_1 u0_2 u0_3 h0 h1 h2 h3 r m).mono fun en w2 hq => by obtain ⟨v, e, q⟩ := hq; exact ⟨v, e, q⟩⟩) rfl r20 m20) ?_
   rintro r20 _ w20 m20 ⟨rfl, ky20⟩
   obtain ⟨s21, rfl, p21, n21⟩ := nwx s6 w20 42 ky20
   refine pu rfl rfl rfl rfl rfl ?_
   have A22 := (BlF.st A17 p21 rfl)
   have K23 := (K18.st p21 rfl)
   exact Kj16 _ _ _ ⟨s21, _, rfl, (ue (ue rfl rfl) rfl), K23, A22⟩
  ·
   refine sbT hb16 ?_
   rw [if_neg (by rw [hb16]; decide)]
   refine uw rfl rfl rfl rfl ?_
   refine uw rfl rfl rfl rfl ?_
   refine uw rfl rfl rfl rfl ?_
   refine pu rfl rfl rfl rfl rfl ?_
   have A24 := (BlF.st B3 p6 rfl)
   have K25 := ((kp0.st p3 rfl).st p6 rfl)
   exact Kj16 _ _ _ ⟨s6, _, rfl, (ue (ue rfl rfl) rfl), K25, A24⟩
 rintro y16 _ _ ⟨s26, _, rfl, rfl, Ky16, By16_b3⟩
 refine pu rfl rfl rfl rfl rfl ?_
 refine jy [34, 35, 36, 37, 38, 39, 40, 41, 42, 43, 44] [42, 43, 44, 45, 46, 47, 48, 49, 50, 51, 52, 53] 44 (.bool (y16 && (((a0.Reads.length : Int) == (0 : Int)) || (!a0.All)))) rfl (fun Kg28 => ?_) (fun j28 => ?_)
 ·
  rcases Bool.eq_false_or_eq_true y16 with hb28 | hb28
  ·
   refine sbT hb28 ?_
   refine fa fa59_4 rfl rfl rfl rfl rfl rfl ?_
   refine ld By16_b3 Try.underlying56 rfl rfl rfl rfl rfl rfl rfl rfl ?_
   have A29 := (A0_0.kp Ky16)
   refine ln A29 Try.underlying56 rfl rfl rfl rfl rfl rfl ?_
   refine pu rfl rfl rfl rfl rfl ?_
   refine pu rfl rfl rfl rfl rfl ?_
   refine jy [39, 40, 41, 42, 43] [41, 42, 43, 44, 45, 46, 47, 48, 49, 50, 51, 52, 53] 43 (.bool (((a0.Reads.length : Int) == (0 : Int)) || (!a0.All))) rfl (fun Kg30 => ?_) (fun j30 => ?_)
   ·
    rcases Bool.eq_false_or_eq_true ((a0.Reads.length : Int) == (0 : Int)) with hb30 | hb30
    ·
     refine sbT hb30 ?_
     refine uw rfl rfl rfl rfl ?_
     refine uw rfl rfl rfl rfl ?_
     refine uw rfl rfl rfl rfl ?_
     refine pu rfl rfl rfl rfl rfl ?_
     exact Kg30 _ (Ag.put ((Ag.put ((Ag.put ((Ag.put (Ag.base rfl) rfl)) rfl)) rfl)) rfl) (by rw [hb30]; rfl)
    ·
     refine sbT hb30 ?_
     refine fa fa59_3 rfl rfl rfl rfl rfl rfl ?_
     refine ld By16_b3 Try.underlying4 rfl rfl rfl rfl rfl rfl rfl rfl ?_
     refine pu rfl rfl rfl rfl rfl ?_
     refine pu rfl rfl rfl rfl rfl ?_
     exact Kg30 _ (Ag.put ((Ag.put ((Ag.put ((Ag.put (Ag.base rfl) rfl)) rfl)) rfl)) rfl) (by rw [hb30]; rfl)
   refine pu rfl rfl rfl rfl rfl ?_
   exact Kg28 _ (Ag.put ((Ag.put ((Ag.ov ((Ag.put ((Ag.put ((Ag.put ((Ag.put ((Ag.put (Ag.base rfl) rfl)) rfl)) rfl)) rfl)) rfl)) rfl)) rfl)) rfl) (by rw [hb28]; rfl)
  ·
   refine sbT hb28 ?_
   refine uw rfl rfl rfl rfl ?_
   refine uw rfl rfl rfl rfl ?_
   refine uw rfl rfl rfl rfl ?_
   refine uw rfl rfl rfl rfl ?_
   refine uw rfl rfl rfl rfl ?_
   refine uw rfl rfl rfl rfl ?_
   refine uw rfl rfl rfl rfl ?_
   refine uw rfl rfl rfl rfl ?_
   refine uw rfl rfl rfl rfl ?_
   refine pu rfl rfl rfl rfl rfl ?_
   exact Kg28 _ (Ag.put ((Ag.put ((Ag.put ((Ag.put ((Ag.put ((Ag.put ((Ag.put ((Ag.put ((Ag.put ((Ag.put (Ag.base rfl) rfl)) rfl)) rfl)) rfl)) rfl)) rfl)) rfl)) rfl)) rfl)) rfl) (by rw [hb28]; rfl)
 refine pu rfl rfl rfl rfl rfl ?_
 refine jy [45, 46, 47, 48, 49, 50] [48, 49, 50, 51, 52, 53] 50 (.bool ((y16 && (((a0.Reads.length : Int) == (0 : Int)) || (!a0.All))) && (decide ((a0.Writes.length : Int) ≤ (200 : Int))))) rfl (fun Kg31 => ?_) (fun j31 => ?_)
 ·
  rcases Bool.eq_false_or_eq_true (y16 && (((a0.Reads.length : Int) == (0 : Int)) || (!a0.All))) with hb31 | hb31
  ·
   refine sbT hb31 ?_
   refine fa fa59_5 rfl rfl rfl rfl rfl rfl ?_
   refine ld By16_b3 Try.underlying57 rfl rfl rfl rfl rfl rfl rfl rfl ?_
   have A32 := (A0_1.kp Ky16)
   refine ln A32 Try.underlying57 rfl rfl rfl rfl rfl rfl ?_
   refine pu rfl rfl rfl rfl rfl ?_
   refine pu rfl rfl rfl rfl rfl ?_
   exact Kg31 _ (Ag.put ((Ag.put ((Ag.put ((Ag.put ((Ag.put (Ag.base rfl) rfl)) rfl)) rfl)) rfl)) rfl) (by rw [hb31]; rfl)
  ·
   refine sbT hb31 ?_
   refine uw rfl rfl rfl rfl ?_
   refine uw rfl rfl rfl rfl ?_
   refine uw rfl rfl rfl rfl ?_
   refine uw rfl rfl rfl rfl ?_
   refine pu rfl rfl rfl rfl rfl ?_
   exact Kg31 _ (Ag.put ((Ag.put ((Ag.put ((Ag.put ((Ag.put (Ag.base rfl) rfl)) rfl)) rfl)) rfl)) rfl) (by rw [hb31]; rfl)
 refine pu rfl rfl rfl rfl rfl ?_
 refine ji [53] (fun (y33 : Bool) (e : Env) (w : World) => ∃ (s : St) (e0 : Env), w = s.w ∧ e = upd e0 55 (.bool y33) ∧ Kp s0 s) (fun Gj33 Kj33 => ?_) ?_
 ·
  rcases Bool.eq_false_or_eq_true ((y16 && (((a0.Reads.length : Int) == (0 : Int)) || (!a0.All))) && (decide ((a0.Writes.length : Int) ≤ (200 : Int)))) with hb33 | hb33
  ·
   refine sbT hb33 ?_
   rw [if_pos hb33]
   refine fa fa59_5 rfl rfl rfl rfl rfl rfl ?_
   refine ld By16_b3 Try.underlying57 rfl rfl rfl rfl rfl rfl rfl rfl ?_
   have A34 := (A0_1.kp Ky16)
   refine cl rfl rfl rfl rfl rfl Try.func168 rfl rfl rfl (fun r35 m35 => impl_areAll_impl_Item.calls a0.Writes impl_KeyOk.f s26.w (fun b => memb [0] (s26.g b) = true) w0_1 (.func (.func 141) #[] #[]) A34 (fun x0 u0_0 u0_1 w' k h0 h1 r m =>  ⟨141, _, _, [], [], rfl, Try.func141, rfl, rfl, (impl_KeyOk.calls x0 w' (fun _ => True) u0_0 u0_1 h0 h1 r m).mono fun en w2 hq => by obtain ⟨v, e, q⟩ := hq; exact ⟨v, e, q⟩⟩) rfl r35 m35) ?_
   rintro r35 _ w35 m35 ⟨rfl, ky35⟩
   obtain ⟨s36, rfl, p36, n36⟩ := nwx s26 w35 43 ky35
   refine pu rfl rfl rfl rfl rfl ?_
   have K37 := (Ky16.st p36 rfl)
   exact Kj33 _ _ _ ⟨s36, _, rfl, (ue rfl rfl), K37⟩
  ·
   refine sbT hb33 ?_
   rw [if_neg (by rw [hb33]; decide)]
   refine uw rfl rfl rfl rfl ?_
   refine uw rfl rfl rfl rfl ?_
   refine uw rfl rfl rfl rfl ?_
   refine pu rfl rfl rfl rfl rfl ?_
   exact Kj33 _ _ _ ⟨s26, _, rfl, (ue rfl rfl), Ky16⟩
 rintro y33 _ _ ⟨s38, _, rfl, rfl, Ky33⟩
 refine pu rfl rfl rfl rfl rfl ?_
 refine dn ?_
 exact re rfl Try.func99 rfl (r_t rfl r_nil) rfl ⟨_, rfl, rfl, z.ky Ky33⟩
noncomputable def impl_areDifferent_impl_Track.b0 (a0 : (List Track)) (a1 : (Track → Option Int)) (x6 : Int × MD) : Option ((Int × MD) ⊕ Bool) :=
 (if (decide (x6.1 < (a0.length : Int))) = true then (if 0 ≤ x6.1 ∧ x6.1 < (a0.length : Int) then ((a1 (at_ a0 x6.1)).bind fun r24 => (if (mget x6.2 r24) = true then (some (Sum.inr false)) else ((a1 (at_ a0 x6.1)).bind fun r33 => (some (Sum.inl ((IntKind.wrap .i64 (x6.1 + (1 : Int))), (mset x6.2 r33 true))))))) else none) else ((some true).bind fun o => some (Sum.inr o)))
noncomputable def impl_areDifferent_impl_Track.f (a0 : (List Track)) (a1 : (Track → Option Int)) : Option (Bool) :=
 (iter (impl_areDifferent_impl_Track.b0 a0 a1) ((0 : Int), ([] : MD)))
def impl_areDifferent_impl_Track.Q (w : World) (F : Nat → Prop) (r : Bool) (v : Value) (w' : World) : Prop :=
 v = (.bool r) ∧ Ky [] w w'
set_option maxHeartbeats 4000000 in
set_option maxRecDepth 100000 in
theorem impl_areDifferent_impl_Track.calls (a0 : (List Track)) (a1 : (Track → Option Int)) (w : World) (F : Nat → Prop) (w0_0 : Value) (f1 : Value) (h0_0 : (Kd.sl 59 kd59).rd w [w0_0] a0 F) (hf1 : ∀ (x0 : Track) (u0_0 u0_1 : Value) (w' : World), Ky [] w w' → (Kd.sl 80 kd80).rd w' [u0_0] x0.Reads (fun _ => True) → (Kd.sl 48 kd48).rd w' [u0_1] x0.Writes (fun _ => True) → ∀ r, a1 x0 = some r → CallV Try.prog f1 [(.agg #[(.int .i64 x0.Xid), (.int .i64 x0.Begun), (.int .i64 x0.Ended), (.bool x0.All), u0_0, u0_1, (.bool x0.In), (.bool x0.Out)])] w' fun en w'' => ∃ v, en = .returned v ∧ v = (.int .i64 r) ∧ Ky [] w' w'') (ho1 : f1.cells = #[f1]) (r : Bool) (m : impl_areDifferent_impl_Track.f a0 a1 = some r) :
  Calls Try.prog 100 #[w0_0, f1] w fun en w' => ∃ v, en = .returned v ∧ impl_areDifferent_impl_Track.Q w F r v w' := by
 obtain ⟨s0, rfl, kp0, z⟩ := start0 w F
 have A0_0 := z.rd h0_0
 refine calls_of_TM (args := [w0_0, f1]) (R := fun r en w' => ∃ v, en = .returned v ∧ impl_areDifferent_impl_Track.Q s0.w F r v w') Try.func100 Try.ntmps100 rfl rfl m ?_
 unfold impl_areDifferent_impl_Track.f
 refine sr ?_
 refine pu rfl rfl rfl rfl rfl ?_
 refine dn ?_
 refine sr ?_
 refine mkm 40 rfl rfl rfl rfl rfl (fun b2 s2 p2 B2 => ?_)
 refine pu rfl rfl rfl rfl rfl ?_
 refine dn ?_
 refine sq ?_
 refine sr ?_
 refine mv w0_0 rfl rfl rfl rfl rfl rfl ?_
 have K4 := (kp0.st p2 rfl)
 have A5 := (A0_0.kp K4)
 refine ln A5 Try.underlying62 rfl rfl rfl rfl rfl rfl ?_
 refine pu rfl rfl rfl rfl rfl ?_
 refine dn ?_
 refine bl ?_
 refine lpI (fun (x6 : Int × MD) (e : Env) (w : World) => ∃ (s : St) (e0 : Env), w = s.w ∧ e = upd (upd (upd (upd (upd e0 1 f1) 5 (.map (some b2))) 9 w0_0) 10 (.int .i64 (a0.length : Int))) 11 (.int .i64 x6.1) ∧ Kp s0 s ∧ MpF s b2 x6.2 40) ⟨s2, _, rfl, (ue (ue (ue (ue (ue rfl rfl) rfl) rfl) rfl) rfl), K4, B2⟩ (fun g6 ih6 => ?_)
 rintro x6 _ _ ⟨s7, _, rfl, rfl, Kx6, Bx6_b2⟩
 unfold impl_areDifferent_impl_Track.b0
 refine sr ?_
 refine pu rfl rfl rfl rfl rfl ?_
 refine dn ?_
 refine sq ?_
 refine cd rfl (fun h9 => ?_) (fun h9 => ?_)
 ·
  refine sk ?_
  refine sq ?_
  refine bl ?_
  refine sr ?_
  have A10 := (A0_0.kp Kx6)
  refine ix A10 Try.underlying62 z59 rfl rfl rfl rfl rfl rfl rfl rfl (fun ad11 es11 h0_11 h1_11 he11 ce11 ia11 => ?_)
  obtain ⟨v11_0, v11_1, rfl, A11_0, A11_1⟩ := op59 he11
  refine lca ce11 Try.underlying59 z59 rfl rfl rfl rfl rfl rfl rfl ?_
  refine al (cs := [(.int .i64 (0 : Int)), (.int .i64 (0 : Int)), (.int .i64 (0 : Int)), (.bool false), (.slice none 0 0), (.slice none 0 0), (.bool false), (.bool false)]) 41 rfl rfl rfl rfl rfl o59 rfl (fun b15 s15 p15 B15 => ?_)
  have A17 := (A11_1.st p15 rfl)
  have A18 := (A11_0.st p15 rfl)
  refine sva (vs := [(.int .i64 ((at_ a0 x6.1).Xid)), (.int .i64 ((at_ a0 x6.1).Begun)), (.int .i64 ((at_ a0 x6.1).Ended)), (.bool ((at_ a0 x6.1).All)), v11_0, v11_1, (.bool ((at_ a0 x6.1).In)), (.bool ((at_ a0 x6.1).Out))]) B15 z59 rfl rfl rfl rfl rfl rfl (on_cons rfl (on_cons rfl (on_cons rfl (on_cons rfl (on_cons A18.one (on_cons A17.one (on_cons rfl (on_cons rfl on_nil)))))))) rfl (fun s19 p19 B19 => ?_)
  refine dn ?_
  refine sq ?_
  refine sr ?_
  refine pu rfl rfl rfl rfl rfl ?_
  refine mv f1 rfl rfl rfl rfl rfl rfl ?_
  refine lda (es := [(.int .i64 ((at_ a0 x6.1).Xid)), (.int .i64 ((at_ a0 x6.1).Begun)), (.int .i64 ((at_ a0 x6.1).Ended)), (.bool ((at_ a0 x6.1).All)), v11_0, v11_1, (.bool ((at_ a0 x6.1).In)), (.bool ((at_ a0 x6.1).Out))]) B19 Try.underlying59 z59 rfl rfl rfl rfl rfl rfl rfl rfl ?_
  have A21 := (A18.st p19 rfl)
  have A22 := (A17.st p19 rfl)
  have K23 := ((Kx6.st p15 rfl).st p19 rfl)
  refine clv rfl rfl rfl rfl rfl rfl rfl (fun r24 m24 => hf1 (at_ a0 x6.1) v11_0 v11_1 s19.w (z.ky K23) (RdF.top A21) (RdF.top A22) r24 m24) ?_
  rintro r24 _ w24 m24 ⟨rfl, ky24⟩
  obtain ⟨s25, rfl, p25, n25⟩ := nwx s19 w24 42 ky24
  have A26 := (MpF.st (MpF.st (MpF.st Bx6_b2 p15 rfl) p19 rfl) p25 rfl)
  refine lkm A26 Try.underlying187 Try.underlying3 o4 rfl rfl rfl rfl rfl rfl rfl ?_
  refine dn ?_
  refine cd rfl (fun h27 => ?_) (fun h27 => ?_)
  ·
   refine sr ?_
   refine pu rfl rfl rfl rfl rfl ?_
   refine dn ?_
   refine sgi ?_
   have K28 := (K23.st p25 rfl)
   exact re rfl Try.func100 rfl (r_t rfl r_nil) rfl ⟨_, rfl, rfl, z.ky K28⟩
  ·
   refine sk ?_
   refine rg ?_
   refine pu rfl rfl rfl rfl rfl ?_
   refine mv f1 rfl rfl rfl rfl rfl rfl ?_
   have A29 := (BlF.st B19 p25 rfl)
   refine lda (es := [(.int .i64 ((at_ a0 x6.1).Xid)), (.int .i64 ((at_ a0 x6.1).Begun)), (.int .i64 ((at_ a0 x6.1).Ended)), (.bool ((at_ a0 x6.1).All)), v11_0, v11_1, (.bool ((at_ a0 x6.1).In)), (.bool ((at_ a0 x6.1).Out))]) A29 Try.underlying59 z59 rfl rfl rfl rfl rfl rfl rfl rfl ?_
   have A30 := (A21.st p25 rfl)
   have A31 := (A22.st p25 rfl)
   have K32 := (K23.st p25 rfl)
   refine clv rfl rfl rfl rfl rfl rfl rfl (fun r33 m33 => hf1 (at_ a0 x6.1) v11_0 v11_1 s25.w (z.ky K32) (RdF.top A30) (RdF.top A31) r33 m33) ?_
   rintro r33 _ w33 m33 ⟨rfl, ky33⟩
   obtain ⟨s34, rfl, p34, n34⟩ := nwx s25 w33 43 ky33
   have A35 := (MpF.st A26 p34 rfl)
   refine upm A35 Try.underlying187 Try.underlying3 rfl rfl rfl rfl rfl rfl rfl (fun s36 p36 B36 => ?_)
   refine dn ?_
   refine ib ?_
   refine rg ?_
   refine pu rfl rfl rfl rfl rfl ?_
   refine pu rfl rfl rfl rfl rfl ?_
   refine dn ?_
   have K38 := ((K32.st p34 rfl).st p36 rfl)
   exact lb ih6 ⟨s36, _, rfl, (ue (ue (ue (ue (ue rfl rfl) rfl) rfl) rfl) rfl), K38, B36⟩
 ·
  refine xt rfl ?_
  refine sgb ?_
  refine sr ?_
  refine pu rfl rfl rfl rfl rfl ?_
  refine dn ?_
  exact re rfl Try.func100 rfl (r_t rfl r_nil) rfl ⟨_, rfl, rfl, z.ky Kx6⟩
noncomputable def impl_TracksOk_1.f (a0 : Track) : Option (Int) :=
 (some a0.Xid)
def impl_TracksOk_1.Q (w : World) (F : Nat → Prop) (r : Int) (v : Value) (w' : World) : Prop :=
 v = (.int .i64 r) ∧ Ky [] w w'
set_option maxHeartbeats 4000000 in
set_option maxRecDepth 100000 in
theorem impl_TracksOk_1.calls (a0 : Track) (w : World) (F : Nat → Prop) (w0_0 : Value) (w0_1 : Value) (h0_0 : (Kd.sl 80 kd80).rd w [w0_0] a0.Reads F) (h0_1 : (Kd.sl 48 kd48).rd w [w0_1] a0.Writes F) (r : Int) (m : impl_TracksOk_1.f a0 = some r) :
  Calls Try.prog 101 #[(.agg #[(.int .i64 a0.Xid), (.int .i64 a0.Begun), (.int .i64 a0.Ended), (.bool a0.All), w0_0, w0_1, (.bool a0.In), (.bool a0.Out)])] w fun en w' => ∃ v, en = .returned v ∧ impl_TracksOk_1.Q w F r v w' := by
 obtain ⟨s0, rfl, kp0, z⟩ := start0 w F
 have A0_0 := z.rd h0_0
 have A0_1 := z.rd h0_1
 refine calls_of_TM (args := [(.agg #[(.int .i64 a0.Xid), (.int .i64 a0.Begun), (.int .i64 a0.Ended), (.bool a0.All), w0_0, w0_1, (.bool a0.In), (.bool a0.Out)])]) (R := fun r en w' => ∃ v, en = .returned v ∧ impl_TracksOk_1.Q s0.w F r v w') Try.func101 Try.ntmps101 rfl rfl m ?_
 unfold impl_TracksOk_1.f
 refine sr ?_
 refine bx (cs := [(.int .i64 a0.Xid), (.int .i64 a0.Begun), (.int .i64 a0.Ended), (.bool a0.All), w0_0, w0_1, (.bool a0.In), (.bool a0.Out)]) 40 rfl rfl rfl rfl rfl rfl (fun b3 s3 p3 B3 => ?_)
 refine pu rfl rfl rfl rfl rfl ?_
 refine dn ?_
 refine sr ?_
 refine fa fa59_0 rfl rfl rfl rfl rfl rfl ?_
 refine ld B3 Try.underlying3 rfl rfl rfl rfl rfl rfl rfl rfl ?_
 refine pu rfl rfl rfl rfl rfl ?_
 refine dn ?_
 have K5 := (kp0.st p3 rfl)
 exact re rfl Try.func101 rfl (r_t rfl r_nil) rfl ⟨_, rfl, rfl, z.ky K5⟩
noncomputable def impl_TracksOk.f (a0 : (List Track)) : Option (Bool) :=
 ((if (decide ((a0.length : Int) ≤ (64 : Int))) = true then ((impl_areAll_impl_Track.f a0 impl_isTrack.f).bind fun r3 => (some r3)) else (some false)).bind fun y2 => ((if y2 = true then ((impl_areDifferent_impl_Track.f a0 impl_TracksOk_1.f).bind fun r9 => (some r9)) else (some false)).bind fun y7 => (some y7)))
def impl_TracksOk.Q (w : World) (F : Nat → Prop) (r : Bool) (v : Value) (w' : World) : Prop :=
 v = (.bool r) ∧ Ky [] w w'
set_option maxHeartbeats 4000000 in
set_option maxRecDepth 100000 in
theorem impl_TracksOk.calls (a0 : (List Track)) (w : World) (F : Nat → Prop) (w0_0 : Value) (h0_0 : (Kd.sl 59 kd59).rd w [w0_0] a0 F) (r : Bool) (m : impl_TracksOk.f a0 = some r) :
  Calls Try.prog 34 #[w0_0] w fun en w' => ∃ v, en = .returned v ∧ impl_TracksOk.Q w F r v w' := by
 obtain ⟨s0, rfl, kp0, z⟩ := start0 w F
 have A0_0 := z.rd h0_0
 refine calls_of_TM (args := [w0_0]) (R := fun r en w' => ∃ v, en = .returned v ∧ impl_TracksOk.Q s0.w F r v w') Try.func34 Try.ntmps34 rfl rfl m ?_
 unfold impl_TracksOk.f
 refine sr ?_
 refine pu rfl rfl rfl rfl rfl ?_
 refine dn ?_
 refine sr ?_
 refine mv w0_0 rfl rfl rfl rfl rfl rfl ?_
 refine ln A0_0 Try.underlying62 rfl rfl rfl rfl rfl rfl ?_
 refine pu rfl rfl rfl rfl rfl ?_
 refine pu rfl rfl rfl rfl rfl ?_
 refine ji [7, 8, 9, 10, 11] (fun (y2 : Bool) (e : Env) (w : World) => ∃ (s : St) (e0 : Env), w = s.w ∧ e = upd (upd e0 0 w0_0) 9 (.bool y2) ∧ Kp s0 s) (fun Gj2 Kj2 => ?_) ?_
 ·
  rcases Bool.eq_false_or_eq_true (decide ((a0.length : Int) ≤ (64 : Int))) with hb2 | hb2
  ·
   refine sbT hb2 ?_
   rw [if_pos hb2]
   refine mv w0_0 rfl rfl rfl rfl rfl rfl ?_
   refine cl rfl rfl rfl rfl rfl Try.func98 rfl rfl rfl (fun r3 m3 => impl_areAll_impl_Track.calls a0 impl_isTrack.f s0.w (fun b => memb [0] (s0.g b) = true) w0_0 (.func (.func 99) #[] #[]) A0_0 (fun x0 u0_0 u0_1 w' k h0 h1 r m =>  ⟨99, _, _, [], [], rfl, Try.func99, rfl, rfl, (impl_isTrack.calls x0 w' (fun _ => True) u0_0 u0_1 h0 h1 r m).mono fun en w2 hq => by obtain ⟨v, e, q⟩ := hq; exact ⟨v, e, q⟩⟩) rfl r3 m3) ?_
   rintro r3 _ w3 m3 ⟨rfl, ky3⟩
   obtain ⟨s4, rfl, p4, n4⟩ := nwx s0 w3 40 ky3
   refine pu rfl rfl rfl rfl rfl ?_
   have K5 := (kp0.st p4 rfl)
   exact Kj2 _ _ _ ⟨s4, _, rfl, (ue (ue rfl rfl) rfl), K5⟩
  ·
   refine sbT hb2 ?_
   rw [if_neg (by rw [hb2]; decide)]
   refine uw rfl rfl rfl rfl ?_
   refine uw rfl rfl rfl rfl ?_
   refine pu rfl rfl rfl rfl rfl ?_
   exact Kj2 _ _ _ ⟨s0, _, rfl, (ue (ue rfl rfl) rfl), kp0⟩
 rintro y2 _ _ ⟨s6, _, rfl, rfl, Ky2⟩
 refine pu rfl rfl rfl rfl rfl ?_
 refine ji [11] (fun (y7 : Bool) (e : Env) (w : World) => ∃ (s : St) (e0 : Env), w = s.w ∧ e = upd e0 13 (.bool y7) ∧ Kp s0 s) (fun Gj7 Kj7 => ?_) ?_
 ·
  rcases Bool.eq_false_or_eq_true y2 with hb7 | hb7
  ·
   refine sbT hb7 ?_
   rw [if_pos hb7]
   refine mv w0_0 rfl rfl rfl rfl rfl rfl ?_
   have A8 := (A0_0.kp Ky2)
   refine cl rfl rfl rfl rfl rfl Try.func100 rfl rfl rfl (fun r9 m9 => impl_areDifferent_impl_Track.calls a0 impl_TracksOk_1.f s6.w (fun b => memb [0] (s6.g b) = true) w0_0 (.func (.func 101) #[] #[]) A8 (fun x0 u0_0 u0_1 w' k h0 h1 r m =>  ⟨101, _, _, [], [], rfl, Try.func101, rfl, rfl, (impl_TracksOk_1.calls x0 w' (fun _ => True) u0_0 u0_1 h0 h1 r m).mono fun en w2 hq => by obtain ⟨v, e, q⟩ := hq; exact ⟨v, e, q⟩⟩) rfl r9 m9) ?_
   rintro r9 _ w9 m9 ⟨rfl, ky9⟩
   obtain ⟨s10, rfl, p10, n10⟩ := nwx s6 w9 41 ky9
   refine pu rfl rfl rfl rfl rfl ?_
   have K11 := (Ky2.st p10 rfl)
   exact Kj7 _ _ _ ⟨s10, _, rfl, (ue rfl rfl), K11⟩
  ·
   refine sbT hb7 ?_
   rw [if_neg (by rw [hb7]; decide)]
   refine uw rfl rfl rfl rfl ?_
   refine uw rfl rfl rfl rfl ?_
   refine pu rfl rfl rfl rfl rfl ?_
   exact Kj7 _ _ _ ⟨s6, _, rfl, (ue rfl rfl), Ky2⟩
 rintro y7 _ _ ⟨s12, _, rfl, rfl, Ky7⟩
 refine pu rfl rfl rfl rfl rfl ?_
 refine dn ?_
 exact re rfl Try.func34 rfl (r_t rfl r_nil) rfl ⟨_, rfl, rfl, z.ky Ky7⟩
noncomputable def impl_ownSpans.b0 (a0 : (List Span)) (x2 : (List Span) × Int) : Option (((List Span) × Int) ⊕ (List Span)) :=
 (if (decide (x2.2 < (a0.length : Int))) = true then (if 0 ≤ x2.2 ∧ x2.2 < (a0.length : Int) then ((impl_Item_own.f ((at_ a0 x2.2).From)).bind fun r29 => ((impl_Item_own.f ((at_ a0 x2.2).To)).bind fun r36 => (if x2.1.length + ([(Span.mk r29 r36)]).length ≤ Lim then (some (Sum.inl ((x2.1 ++ [(Span.mk r29 r36)]), (IntKind.wrap .i64 (x2.2 + (1 : Int)))))) else none))) else none) else ((some x2.1).bind fun o => some (Sum.inr o)))
noncomputable def impl_ownSpans.f (a0 : (List Span)) : Option ((List Span)) :=
 (iter (impl_ownSpans.b0 a0) (([] : (List Span)), (0 : Int)))
def impl_ownSpans.Q (w : World) (F : Nat → Prop) (r : (List Span)) (v : Value) (w' : World) : Prop :=
 FO (Kd.sl 80 kd80) w w' [v] r ∧ Ky [] w w'
set_option maxHeartbeats 4000000 in
set_option maxRecDepth 100000 in
theorem impl_ownSpans.calls (a0 : (List Span)) (w : World) (F : Nat → Prop) (w0_0 : Value) (h0_0 : (Kd.sl 80 kd80).rd w [w0_0] a0 F) (r : (List Span)) (m : impl_ownSpans.f a0 = some r) :
  Calls Try.prog 157 #[w0_0] w fun en w' => ∃ v, en = .returned v ∧ impl_ownSpans.Q w F r v w' := by
 obtain ⟨s0, rfl, kp0, z⟩ := start0 w F
 have A0_0 := z.rd h0_0
 refine calls_of_TM (args := [w0_0]) (R := fun r en w' => ∃ v, en = .returned v ∧ impl_ownSpans.Q s0.w F r v w') Try.func157 Try.ntmps157 rfl rfl m ?_
 unfold impl_ownSpans.f
 refine sr ?_
 refine pu rfl rfl rfl rfl rfl ?_
 refine dn ?_
 refine sr ?_
 refine pu rfl rfl rfl rfl rfl ?_
 refine dn ?_
 refine sq ?_
 refine sr ?_
 refine mv w0_0 rfl rfl rfl rfl rfl rfl ?_
 refine ln A0_0 Try.underlying56 rfl rfl rfl rfl rfl rfl ?_
 refine pu rfl rfl rfl rfl rfl ?_
 refine dn ?_
 refine bl ?_
 refine lpI (fun (x2 : (List Span) × Int) (e : Env) (w : World) => ∃ (s : St) (e0 : Env) (vx2_0 : Value), w = s.w ∧ e = upd (upd (upd (upd e0 3 vx2_0) 6 w0_0) 7 (.int .i64 (a0.length : Int))) 8 (.int .i64 x2.2) ∧ Kp s0 s ∧ OwF (Kd.sl 80 kd80) s [vx2_0] x2.1 41) ⟨s0, _, (.slice none 0 0), rfl, (ue (ue (ue (ue rfl rfl) rfl) rfl) rfl), kp0, (ow_nil 80 kd80 _ 41)⟩ (fun g2 ih2 => ?_)
 rintro x2 _ _ ⟨s3, _, vx2_0, rfl, rfl, Kx2, Ax2_0⟩
 unfold impl_ownSpans.b0
 refine sr ?_
 refine pu rfl rfl rfl rfl rfl ?_
 refine dn ?_
 refine sq ?_
 refine cd rfl (fun h5 => ?_) (fun h5 => ?_)
 ·
  refine sk ?_
  refine sq ?_
  refine bl ?_
  refine sr ?_
  have A6 := (A0_0.kp Kx2)
  refine ix A6 Try.underlying56 z80 rfl rfl rfl rfl rfl rfl rfl rfl (fun ad7 es7 h0_7 h1_7 he7 ce7 ia7 => ?_)
  obtain ⟨v7_0, v7_1, v7_2, v7_3, rfl, A7_0, A7_1, A7_2, A7_3⟩ := op80 he7
  refine lca ce7 Try.underlying80 z80 rfl rfl rfl rfl rfl rfl rfl ?_
  refine al (cs := [(.int .i64 (0 : Int)), (.int .i64 (0 : Int)), (.float .f64 0), (.slice none 0 0), (.int .i64 (0 : Int)), (.int .i64 (0 : Int)), (.float .f64 0), (.slice none 0 0)]) 42 rfl rfl rfl rfl rfl o80 rfl (fun b11 s11 p11 B11 => ?_)
  have A13 := (A7_3.st p11 rfl)
  have A14 := (A7_1.st p11 rfl)
  refine sva (vs := [(.int .i64 (((at_ a0 x2.2).From).Kind)), (.int .i64 (((at_ a0 x2.2).From).N)), v7_0, v7_1, (.int .i64 (((at_ a0 x2.2).To).Kind)), (.int .i64 (((at_ a0 x2.2).To).N)), v7_2, v7_3]) B11 z80 rfl rfl rfl rfl rfl rfl (on_cons rfl (on_cons rfl (on_cons (FL.one A7_0) (on_cons A14.one (on_cons rfl (on_cons rfl (on_cons (FL.one A7_2) (on_cons A13.one on_nil)))))))) rfl (fun s15 p15 B15 => ?_)
  refine dn ?_
  refine zdraw [[], [], [1], [2], [], [4], [5, 3], [3, 6], [7], [0, 8, 6], [9, 9, 0, 1, 2, 3, 4, 5, 6, 7, 8, 9]] [some 12, some 13, some 14, some 15, some 16, some 17, some 18, some 19, some 20, some 21, some 3] [[3], [5], [13], [14], [5], [16], [17], [15, 18], [19], [12, 20], [21]] [0, 1, 2, 3, 4, 5, 6, 7, 8, 9, 10] ⟨by kernel_rfl, by kernel_rfl, by kernel_rfl⟩ (by kernel_rfl) (fun s17 p17 l17 tb17 zd17 => ?_)
  have zd18 := zd17.add 0 12 vx2_0 rfl
  have zd19 := zd18.add 1 13 (.pointer (some ⟨b11, 0, none⟩)) rfl
  have A20 := (BlF.st B15 p17 rfl)
  have zd21 := zd19.add 2 14 (.agg #[(.int .i64 (((at_ a0 x2.2).From).Kind)), (.int .i64 (((at_ a0 x2.2).From).N)), v7_0, v7_1]) rfl
  have zd22 := zd21.add 4 16 (.pointer (some ⟨b11, 4, none⟩)) rfl
  have A23 := (BlF.st B15 p17 rfl)
  have zd24 := zd22.add 5 17 (.agg #[(.int .i64 (((at_ a0 x2.2).To).Kind)), (.int .i64 (((at_ a0 x2.2).To).N)), v7_2, v7_3]) rfl
  have A26 := (BlF.st B15 p17 rfl)
  have A27 := (BlF.st B15 p17 rfl)
  refine zstep 3 [some 17, some 16, some 12] tb17 zd24 (pq_cons (lda_q (es := [(.int .i64 (((at_ a0 x2.2).To).Kind)), (.int .i64 (((at_ a0 x2.2).To).N)), v7_2, v7_3]) A27 Try.underlying48 z48 rfl rfl rfl rfl rfl rfl rfl rfl) rfl (pq_cons (fa_q fa80_1 rfl rfl rfl rfl rfl rfl) rfl (pq_cons (lda_q (es := [(.int .i64 (((at_ a0 x2.2).From).Kind)), (.int .i64 (((at_ a0 x2.2).From).N)), v7_0, v7_1]) A26 Try.underlying48 z48 rfl rfl rfl rfl rfl rfl rfl rfl) rfl (pq_cons (fa_q fa80_0 rfl rfl rfl rfl rfl rfl) rfl (pq_cons (mv_q vx2_0 rfl rfl rfl rfl rfl rfl) rfl pq_nil))))) (by kernel_rfl) rfl (fun l25 e25 zd25 => ?_)
  have A28 := ((A14.st p15 rfl).st p17 rfl)
  refine cl rfl rfl rfl rfl rfl Try.func171 rfl rfl rfl (fun r29 m29 => impl_Item_own.calls ((at_ a0 x2.2).From) s17.w (fun b => memb [0] (s17.g b) = true) v7_0 v7_1 ((fl_rdf (s := s17) A7_0).sub (D := [0]) rfl) A28 r29 m29) ?_
  rintro r29 _ w29 m29 ⟨v29_0, v29_1, rfl, f29_0, ky29⟩
  obtain ⟨s30, rfl, p30, n30⟩ := nwx s17 w29 43 ky29
  have A29_0 := f29_0.c n30
  obtain ⟨os29_0, ho29_0, hn29_0, hc29_0⟩ := A29_0
  obtain ⟨u29_0_0, u29_0_1, qu29_0_1, e29_0, eo29_0, hu29_0_0, hu29_0_1⟩ := po48 ho29_0
  have yu29_0_0 : v29_0 = u29_0_0 := congrArg (fun l => (List.drop 2 l).headD undef) e29_0
  have yu29_0_1 : v29_1 = u29_0_1 := congrArg (fun l => (List.drop 3 l).headD undef) e29_0
  subst yu29_0_0
  subst yu29_0_1
  subst eo29_0
  have Au29_0_1 : OwF (Kd.sl 5 (Kd.int .u8)) s30 [v29_1] r29.T 43 := sp1 hu29_0_1 hn29_0 hc29_0
  refine zdone (L' := [5, 4, 0]) (D' := [1, 2, 3]) zd25 rfl rfl rfl (fun zd32 => ?_)
  have A34 := (BlF.st (BlF.st B15 p17 rfl) p30 rfl)
  refine zstep 6 [some 12] tb17 zd32 (pq_cons (lda_q (es := [(.int .i64 (((at_ a0 x2.2).To).Kind)), (.int .i64 (((at_ a0 x2.2).To).N)), v7_2, v7_3]) A34 Try.underlying48 z48 rfl rfl rfl rfl rfl rfl rfl rfl) rfl (pq_cons (fa_q fa80_1 rfl rfl rfl rfl rfl rfl) rfl (pq_cons (mv_q vx2_0 rfl rfl rfl rfl rfl rfl) rfl pq_nil))) (by kernel_rfl) rfl (fun l33 e33 zd33 => ?_)
  have A35 := (((A13.st p15 rfl).st p17 rfl).st p30 rfl)
  refine cl rfl rfl rfl rfl rfl Try.func171 rfl rfl rfl (fun r36 m36 => impl_Item_own.calls ((at_ a0 x2.2).To) s30.w (fun b => memb [0] (s30.g b) = true) v7_2 v7_3 ((fl_rdf (s := s30) A7_2).sub (D := [0]) rfl) A35 r36 m36) ?_
  rintro r36 _ w36 m36 ⟨v36_0, v36_1, rfl, f36_0, ky36⟩
  obtain ⟨s37, rfl, p37, n37⟩ := nwx s30 w36 44 ky36
  have A36_0 := f36_0.c n37
  obtain ⟨os36_0, ho36_0, hn36_0, hc36_0⟩ := A36_0
  obtain ⟨u36_0_0, u36_0_1, qu36_0_1, e36_0, eo36_0, hu36_0_0, hu36_0_1⟩ := po48 ho36_0
  have yu36_0_0 : v36_0 = u36_0_0 := congrArg (fun l => (List.drop 2 l).headD undef) e36_0
  have yu36_0_1 : v36_1 = u36_0_1 := congrArg (fun l => (List.drop 3 l).headD undef) e36_0
  subst yu36_0_0
  subst yu36_0_1
  subst eo36_0
  have Au36_0_1 : OwF (Kd.sl 5 (Kd.int .u8)) s37 [v36_1] r36.T 44 := sp1 hu36_0_1 hn36_0 hc36_0
  refine zdone (L' := [0]) (D' := [4, 5, 6, 1, 2, 3]) zd33 rfl rfl rfl (fun zd39 => ?_)
  have zd40 := zd39.add 7 19 (.agg #[(.int .i64 r29.Kind), (.int .i64 r29.N), v29_0, v29_1, (.int .i64 r36.Kind), (.int .i64 r36.N), v36_0, v36_1]) rfl
  refine zstep 8 [some 12] tb17 zd40 (pq_cons (bd_q (cells := [(.int .i64 r29.Kind), (.int .i64 r29.N), v29_0, v29_1, (.int .i64 r36.Kind), (.int .i64 r36.N), v36_0, v36_1]) pl80 o80 rfl rfl rfl rfl rfl rfl) rfl (pq_cons (mv_q vx2_0 rfl rfl rfl rfl rfl rfl) rfl pq_nil)) (by kernel_rfl) rfl (fun l41 e41 zd41 => ?_)
  have A42 := (Au29_0_1.st p37 rfl)
  obtain ⟨s43, hw43, p43, A43⟩ := ow_2 (ow_isoz (fun x : Item => (x.Kind, x.N, x.F, x.T)) r29 (ow_l (fz_int .i64 r29.Kind) (ow_l (fz_int .i64 r29.N) (ow_l (fz_flt hu29_0_0) A42)))) (ow_isoz (fun x : Item => (x.Kind, x.N, x.F, x.T)) r36 (ow_l (fz_int .i64 r36.Kind) (ow_l (fz_int .i64 r36.N) (ow_l (fz_flt hu36_0_0) Au36_0_1)))) rfl rfl
  rw [hw43]
  have A45 : OwF kd80 s43 [(.int .i64 r29.Kind), (.int .i64 r29.N), v29_0, v29_1, (.int .i64 r36.Kind), (.int .i64 r36.N), v36_0, v36_1] (Span.mk r29 r36) 43 := (ow_isoz (fun x : Span => (x.From, x.To)) (Span.mk r29 r36) A43)
  have L47 := lo_one A45
  refine ltO (K := kd80) (cells := [(.int .i64 r29.Kind), (.int .i64 r29.N), v29_0, v29_1, (.int .i64 r36.Kind), (.int .i64 r36.N), v36_0, v36_1]) [(Span.mk r29 r36)] 43 Try.underlying56 z80 o80 L47 rfl rfl rfl rfl rfl rfl rfl rfl rfl rfl (fun v48 s48 p48 A48 => ?_)
  refine zdone (L' := [0]) (D' := [7, 8, 4, 5, 6, 1, 2, 3]) zd41 rfl rfl rfl (fun zd50 => ?_)
  refine zfin [9, 10] tb17 zd50 (pq_cons (mv_q vx2_0 rfl rfl rfl rfl rfl rfl) rfl pq_nil) (by kernel_rfl) (by decide) ?_
  have A51 := (((((((Ax2_0.st p11 rfl).st p15 rfl).st p17 rfl).st p30 rfl).st p37 rfl).st p43 rfl).st p48 rfl)
  refine apO sl56 A51 A48 rfl rfl rfl rfl rfl rfl rfl rfl rfl (fun v52 s52 p52 A52 => ?_)
  refine asg v52 rfl rfl rfl rfl rfl rfl ?_
  refine dn ?_
  refine ib ?_
  refine rg ?_
  refine pu rfl rfl rfl rfl rfl ?_
  refine pu rfl rfl rfl rfl rfl ?_
  refine dn ?_
  have K54 := ((((((((Kx2.st p11 rfl).st p15 rfl).st p17 rfl).st p30 rfl).st p37 rfl).st p43 rfl).st p48 rfl).st p52 rfl)
  exact lb ih2 ⟨s52, _, v52, rfl, (ue (ue (ue (ue rfl rfl) rfl) rfl) rfl), K54, A52⟩
 ·
  refine xt rfl ?_
  refine sgb ?_
  refine sr ?_
  refine mv vx2_0 rfl rfl rfl rfl rfl rfl ?_
  refine asg vx2_0 rfl rfl rfl rfl rfl rfl ?_
  refine dn ?_
  exact re rfl Try.func157 rfl (r_t rfl r_nil) rfl ⟨_, rfl, Ax2_0.fo Kx2 rfl z.l, z.ky Kx2⟩
noncomputable def impl_ownItems.b0 (a0 : (List Item)) (x2 : (List Item) × Int) : Option (((List Item) × Int) ⊕ (List Item)) :=
 (if (decide (x2.2 < (a0.length : Int))) = true then (if 0 ≤ x2.2 ∧ x2.2 < (a0.length : Int) then ((impl_Item_own.f (at_ a0 x2.2)).bind fun r16 => (if x2.1.length + ([r16]).length ≤ Lim then (some (Sum.inl ((x2.1 ++ [r16]), (IntKind.wrap .i64 (x2.2 + (1 : Int)))))) else none)) else none) else ((some x2.1).bind fun o => some (Sum.inr o)))
noncomputable def impl_ownItems.f (a0 : (List Item)) : Option ((List Item)) :=
 (iter (impl_ownItems.b0 a0) (([] : (List Item)), (0 : Int)))
def impl_ownItems.Q (w : World) (F : Nat → Prop) (r : (List Item)) (v : Value) (w' : World) : Prop :=
 FO (Kd.sl 48 kd48) w w' [v] r ∧ Ky [] w w'
set_option maxHeartbeats 4000000 in
set_option maxRecDepth 100000 in
theorem impl_ownItems.calls (a0 : (List Item)) (w : World) (F : Nat → Prop) (w0_0 : Value) (h0_0 : (Kd.sl 48 kd48).rd w [w0_0] a0 F) (r : (List Item)) (m : impl_ownItems.f a0 = some r) :
  Calls Try.prog 158 #[w0_0] w fun en w' => ∃ v, en = .returned v ∧ impl_ownItems.Q w F r v w' := by
 obtain ⟨s0, rfl, kp0, z⟩ := start0 w F
 have A0_0 := z.rd h0_0
 refine calls_of_TM (args := [w0_0]) (R := fun r en w' => ∃ v, en = .returned v ∧ impl_ownItems.Q s0.w F r v w') Try.func158 Try.ntmps158 rfl rfl m ?_
 unfold impl_ownItems.f
 refine sr ?_
 refine pu rfl rfl rfl rfl rfl ?_
 refine dn ?_
 refine sr ?_
 refine pu rfl rfl rfl rfl rfl ?_
 refine dn ?_
 refine sq ?_
 refine sr ?_
 refine mv w0_0 rfl rfl rfl rfl rfl rfl ?_
 refine ln A0_0 Try.underlying57 rfl rfl rfl rfl rfl rfl ?_
 refine pu rfl rfl rfl rfl rfl ?_
 refine dn ?_
 refine bl ?_
 refine lpI (fun (x2 : (List Item) × Int) (e : Env) (w : World) => ∃ (s : St) (e0 : Env) (vx2_0 : Value), w = s.w ∧ e = upd (upd (upd (upd e0 3 vx2_0) 6 w0_0) 7 (.int .i64 (a0.length : Int))) 8 (.int .i64 x2.2) ∧ Kp s0 s ∧ OwF (Kd.sl 48 kd48) s [vx2_0] x2.1 41) ⟨s0, _, (.slice none 0 0), rfl, (ue (ue (ue (ue rfl rfl) rfl) rfl) rfl), kp0, (ow_nil 48 kd48 _ 41)⟩ (fun g2 ih2 => ?_)
 rintro x2 _ _ ⟨s3, _, vx2_0, rfl, rfl, Kx2, Ax2_0⟩
 unfold impl_ownItems.b0
 refine sr ?_
 refine pu rfl rfl rfl rfl rfl ?_
 refine dn ?_
 refine sq ?_
 refine cd rfl (fun h5 => ?_) (fun h5 => ?_)
 ·
  refine sk ?_
  refine sq ?_
  refine bl ?_
  refine sr ?_
  have A6 := (A0_0.kp Kx2)
  refine ix A6 Try.underlying57 z48 rfl rfl rfl rfl rfl rfl rfl rfl (fun ad7 es7 h0_7 h1_7 he7 ce7 ia7 => ?_)
  obtain ⟨v7_0, v7_1, rfl, A7_0, A7_1⟩ := op48 he7
  refine lca ce7 Try.underlying48 z48 rfl rfl rfl rfl rfl rfl rfl ?_
  refine al (cs := [(.int .i64 (0 : Int)), (.int .i64 (0 : Int)), (.float .f64 0), (.slice none 0 0)]) 42 rfl rfl rfl rfl rfl o48 rfl (fun b10 s10 p10 B10 => ?_)
  have A12 := (A7_1.st p10 rfl)
  refine sva (vs := [(.int .i64 ((at_ a0 x2.2).Kind)), (.int .i64 ((at_ a0 x2.2).N)), v7_0, v7_1]) B10 z48 rfl rfl rfl rfl rfl rfl (on_cons rfl (on_cons rfl (on_cons (FL.one A7_0) (on_cons A12.one on_nil)))) rfl (fun s13 p13 B13 => ?_)
  refine dn ?_
  refine rg ?_
  refine mv vx2_0 rfl rfl rfl rfl rfl rfl ?_
  refine lda (es := [(.int .i64 ((at_ a0 x2.2).Kind)), (.int .i64 ((at_ a0 x2.2).N)), v7_0, v7_1]) B13 Try.underlying48 z48 rfl rfl rfl rfl rfl rfl rfl rfl ?_
  have A15 := (A12.st p13 rfl)
  refine cl rfl rfl rfl rfl rfl Try.func171 rfl rfl rfl (fun r16 m16 => impl_Item_own.calls (at_ a0 x2.2) s13.w (fun b => memb [0] (s13.g b) = true) v7_0 v7_1 ((fl_rdf (s := s13) A7_0).sub (D := [0]) rfl) A15 r16 m16) ?_
  rintro r16 _ w16 m16 ⟨v16_0, v16_1, rfl, f16_0, ky16⟩
  obtain ⟨s17, rfl, p17, n17⟩ := nwx s13 w16 43 ky16
  have A16_0 := f16_0.c n17
  obtain ⟨os16_0, ho16_0, hn16_0, hc16_0⟩ := A16_0
  obtain ⟨u16_0_0, u16_0_1, qu16_0_1, e16_0, eo16_0, hu16_0_0, hu16_0_1⟩ := po48 ho16_0
  have yu16_0_0 : v16_0 = u16_0_0 := congrArg (fun l => (List.drop 2 l).headD undef) e16_0
  have yu16_0_1 : v16_1 = u16_0_1 := congrArg (fun l => (List.drop 3 l).headD undef) e16_0
  subst yu16_0_0
  subst yu16_0_1
  subst eo16_0
  have Au16_0_1 : OwF (Kd.sl 5 (Kd.int .u8)) s17 [v16_1] r16.T 43 := sp1 hu16_0_1 hn16_0 hc16_0
  have A19 : OwF kd48 s17 [(.int .i64 r16.Kind), (.int .i64 r16.N), v16_0, v16_1] r16 43 := (ow_isoz (fun x : Item => (x.Kind, x.N, x.F, x.T)) r16 (ow_l (fz_int .i64 r16.Kind) (ow_l (fz_int .i64 r16.N) (ow_l (fz_flt hu16_0_0) Au16_0_1))))
  have L21 := lo_one A19
  refine ltO (K := kd48) (cells := [(.int .i64 r16.Kind), (.int .i64 r16.N), v16_0, v16_1]) [r16] 43 Try.underlying57 z48 o48 L21 rfl rfl rfl rfl rfl rfl rfl rfl rfl rfl (fun v22 s22 p22 A22 => ?_)
  have A24 := ((((Ax2_0.st p10 rfl).st p13 rfl).st p17 rfl).st p22 rfl)
  refine apO sl57 A24 A22 rfl rfl rfl rfl rfl rfl rfl rfl rfl (fun v25 s25 p25 A25 => ?_)
  refine asg v25 rfl rfl rfl rfl rfl rfl ?_
  refine dn ?_
  refine ib ?_
  refine rg ?_
  refine pu rfl rfl rfl rfl rfl ?_
  refine pu rfl rfl rfl rfl rfl ?_
  refine dn ?_
  have K27 := (((((Kx2.st p10 rfl).st p13 rfl).st p17 rfl).st p22 rfl).st p25 rfl)
  exact lb ih2 ⟨s25, _, v25, rfl, (ue (ue (ue (ue rfl rfl) rfl) rfl) rfl), K27, A25⟩
 ·
  refine xt rfl ?_
  refine sgb ?_
  refine sr ?_
  refine mv vx2_0 rfl rfl rfl rfl rfl rfl ?_
  refine asg vx2_0 rfl rfl rfl rfl rfl rfl ?_
  refine dn ?_
  exact re rfl Try.func158 rfl (r_t rfl r_nil) rfl ⟨_, rfl, Ax2_0.fo Kx2 rfl z.l, z.ky Kx2⟩
noncomputable def impl_ownTracks.b0 (a0 : (List Track)) (x2 : (List Track) × Int) : Option (((List Track) × Int) ⊕ (List Track)) :=
 (if (decide (x2.2 < (a0.length : Int))) = true then (if 0 ≤ x2.2 ∧ x2.2 < (a0.length : Int) then ((impl_ownSpans.f ((at_ a0 x2.2).Reads)).bind fun r28 => ((impl_ownItems.f ((at_ a0 x2.2).Writes)).bind fun r36 => (if x2.1.length + ([(Track.mk ((at_ a0 x2.2).Xid) ((at_ a0 x2.2).Begun) ((at_ a0 x2.2).Ended) ((at_ a0 x2.2).All) r28 r36 ((at_ a0 x2.2).In) ((at_ a0 x2.2).Out))]).length ≤ Lim then (some (Sum.inl ((x2.1 ++ [(Track.mk ((at_ a0 x2.2).Xid) ((at_ a0 x2.2).Begun) ((at_ a0 x2.2).Ended) ((at_ a0 x2.2).All) r28 r36 ((at_ a0 x2.2).In) ((at_ a0 x2.2).Out))]), (IntKind.wrap .i64 (x2.2 + (1 : Int)))))) else none))) else none) else ((some x2.1).bind fun o => some (Sum.inr o)))
noncomputable def impl_ownTracks.f (a0 : (List Track)) : Option ((List Track)) :=
 (iter (impl_ownTracks.b0 a0) (([] : (List Track)), (0 : Int)))
def impl_ownTracks.Q (w : World) (F : Nat → Prop) (r : (List Track)) (v : Value) (w' : World) : Prop :=
 FO (Kd.sl 59 kd59) w w' [v] r ∧ Ky [] w w'
set_option maxHeartbeats 4000000 in
set_option maxRecDepth 100000 in
theorem impl_ownTracks.calls (a0 : (List Track)) (w : World) (F : Nat → Prop) (w0_0 : Value) (h0_0 : (Kd.sl 59 kd59).rd w [w0_0] a0 F) (r : (List Track)) (m : impl_ownTracks.f a0 = some r) :
  Calls Try.prog 92 #[w0_0] w fun en w' => ∃ v, en = .returned v ∧ impl_ownTracks.Q w F r v w' := by
 obtain ⟨s0, rfl, kp0, z⟩ := start0 w F
 have A0_0 := z.rd h0_0
 refine calls_of_TM (args := [w0_0]) (R := fun r en w' => ∃ v, en = .returned v ∧ impl_ownTracks.Q s0.w F r v w') Try.func92 Try.ntmps92 rfl rfl m ?_
 unfold impl_ownTracks.f
 refine sr ?_
 refine pu rfl rfl rfl rfl rfl ?_
 refine dn ?_
 refine sr ?_
 refine pu rfl rfl rfl rfl rfl ?_
 refine dn ?_
 refine sq ?_
 refine sr ?_
 refine mv w0_0 rfl rfl rfl rfl rfl rfl ?_
 refine ln A0_0 Try.underlying62 rfl rfl rfl rfl rfl rfl ?_
 refine pu rfl rfl rfl rfl rfl ?_
 refine dn ?_
 refine bl ?_
 refine lpI (fun (x2 : (List Track) × Int) (e : Env) (w : World) => ∃ (s : St) (e0 : Env) (vx2_0 : Value), w = s.w ∧ e = upd (upd (upd (upd e0 3 vx2_0) 6 w0_0) 7 (.int .i64 (a0.length : Int))) 8 (.int .i64 x2.2) ∧ Kp s0 s ∧ OwF (Kd.sl 59 kd59) s [vx2_0] x2.1 41) ⟨s0, _, (.slice none 0 0), rfl, (ue (ue (ue (ue rfl rfl) rfl) rfl) rfl), kp0, (ow_nil 59 kd59 _ 41)⟩ (fun g2 ih2 => ?_)
 rintro x2 _ _ ⟨s3, _, vx2_0, rfl, rfl, Kx2, Ax2_0⟩
 unfold impl_ownTracks.b0
 refine sr ?_
 refine pu rfl rfl rfl rfl rfl ?_
 refine dn ?_
 refine sq ?_
 refine cd rfl (fun h5 => ?_) (fun h5 => ?_)
 ·
  refine sk ?_
  refine sq ?_
  refine bl ?_
  refine sr ?_
  have A6 := (A0_0.kp Kx2)
  refine ix A6 Try.underlying62 z59 rfl rfl rfl rfl rfl rfl rfl rfl (fun ad7 es7 h0_7 h1_7 he7 ce7 ia7 => ?_)
  obtain ⟨v7_0, v7_1, rfl, A7_0, A7_1⟩ := op59 he7
  refine lca ce7 Try.underlying59 z59 rfl rfl rfl rfl rfl rfl rfl ?_
  refine al (cs := [(.int .i64 (0 : Int)), (.int .i64 (0 : Int)), (.int .i64 (0 : Int)), (.bool false), (.slice none 0 0), (.slice none 0 0), (.bool false), (.bool false)]) 42 rfl rfl rfl rfl rfl o59 rfl (fun b11 s11 p11 B11 => ?_)
  have A13 := (A7_1.st p11 rfl)
  have A14 := (A7_0.st p11 rfl)
  refine sva (vs := [(.int .i64 ((at_ a0 x2.2).Xid)), (.int .i64 ((at_ a0 x2.2).Begun)), (.int .i64 ((at_ a0 x2.2).Ended)), (.bool ((at_ a0 x2.2).All)), v7_0, v7_1, (.bool ((at_ a0 x2.2).In)), (.bool ((at_ a0 x2.2).Out))]) B11 z59 rfl rfl rfl rfl rfl rfl (on_cons rfl (on_cons rfl (on_cons rfl (on_cons rfl (on_cons A14.one (on_cons A13.one (on_cons rfl (on_cons rfl on_nil)))))))) rfl (fun s15 p15 B15 => ?_)
  refine dn ?_
  refine sq ?_
  refine zdraw [[], [0], [1], [], [3], [4, 2], [0, 1, 2, 3, 4], [6, 2, 5, 0, 1, 2, 3, 4], [0, 1, 2, 3, 4, 5, 6, 7], [8, 5, 7, 0, 1, 2, 3, 4, 5, 6, 7]] [some 12, some 13, some 14, some 15, some 16, some 17, some 18, none, some 19, none] [[5], [12], [13], [5], [15], [16], [5], [18, 14], [5], [19, 17]] [0, 1, 2, 3, 4, 5, 6, 7, 8, 9] ⟨by kernel_rfl, by kernel_rfl, by kernel_rfl⟩ (by kernel_rfl) (fun s17 p17 l17 tb17 zd17 => ?_)
  have zd18 := zd17.add 0 12 (.pointer (some ⟨b11, 4, none⟩)) rfl
  have A19 := (BlF.st B15 p17 rfl)
  have zd20 := zd18.add 1 13 v7_0 rfl
  have zd21 := zd20.add 3 15 (.pointer (some ⟨b11, 5, none⟩)) rfl
  have A22 := (BlF.st B15 p17 rfl)
  have zd23 := zd21.add 4 16 v7_1 rfl
  have A25 := (BlF.st B15 p17 rfl)
  have A26 := (BlF.st B15 p17 rfl)
  refine zstep 2 [some 16, some 15] tb17 zd23 (pq_cons (ld_q A26 Try.underlying57 rfl rfl rfl rfl rfl rfl rfl rfl) rfl (pq_cons (fa_q fa59_5 rfl rfl rfl rfl rfl rfl) rfl (pq_cons (ld_q A25 Try.underlying56 rfl rfl rfl rfl rfl rfl rfl rfl) rfl (pq_cons (fa_q fa59_4 rfl rfl rfl rfl rfl rfl) rfl pq_nil)))) (by kernel_rfl) rfl (fun l24 e24 zd24 => ?_)
  have A27 := ((A14.st p15 rfl).st p17 rfl)
  refine cl rfl rfl rfl rfl rfl Try.func157 rfl rfl rfl (fun r28 m28 => impl_ownSpans.calls ((at_ a0 x2.2).Reads) s17.w (fun b => memb [0] (s17.g b) = true) v7_0 A27 r28 m28) ?_
  rintro r28 v28_0 w28 m28 ⟨f28_0, ky28⟩
  obtain ⟨s29, rfl, p29, n29⟩ := nwx s17 w28 43 ky28
  have A28_0 := f28_0.c n29
  refine zdone (L' := [4, 3]) (D' := [0, 1, 2]) zd24 rfl rfl rfl (fun zd31 => ?_)
  have zd32 := zd31.add 6 18 (.pointer (some ⟨b11, 4, none⟩)) rfl
  have A34 := (BlF.st (BlF.st B15 p17 rfl) p29 rfl)
  refine zstep 5 [some 18] tb17 zd32 (pq_cons (fa_q fa59_4 rfl rfl rfl rfl rfl rfl) rfl (pq_cons (ld_q A34 Try.underlying57 rfl rfl rfl rfl rfl rfl rfl rfl) rfl (pq_cons (fa_q fa59_5 rfl rfl rfl rfl rfl rfl) rfl pq_nil))) (by kernel_rfl) rfl (fun l33 e33 zd33 => ?_)
  have A35 := (((A13.st p15 rfl).st p17 rfl).st p29 rfl)
  refine cl rfl rfl rfl rfl rfl Try.func158 rfl rfl rfl (fun r36 m36 => impl_ownItems.calls ((at_ a0 x2.2).Writes) s29.w (fun b => memb [0] (s29.g b) = true) v7_1 A35 r36 m36) ?_
  rintro r36 v36_0 w36 m36 ⟨f36_0, ky36⟩
  obtain ⟨s37, rfl, p37, n37⟩ := nwx s29 w36 44 ky36
  have A36_0 := f36_0.c n37
  refine zdone (L' := [6]) (D' := [3, 4, 5, 0, 1, 2]) zd33 rfl rfl rfl (fun zd39 => ?_)
  refine zfin [7, 8, 9] tb17 zd39 (pq_cons (fa_q fa59_4 rfl rfl rfl rfl rfl rfl) rfl pq_nil) (by kernel_rfl) (by decide) ?_
  have A40 := (BlF.st (BlF.st (BlF.st B15 p17 rfl) p29 rfl) p37 rfl)
  have A41 := (A28_0.st p37 rfl)
  refine sv A40 z56 rfl rfl rfl rfl rfl rfl A41.rd.one rfl (fun s42 p42 B42 => ?_)
  refine fa fa59_5 rfl rfl rfl rfl rfl rfl ?_
  have A44 := (A36_0.st p42 rfl)
  refine sv B42 z57 rfl rfl rfl rfl rfl rfl A44.rd.one rfl (fun s45 p45 B45 => ?_)
  refine dn ?_
  refine rg ?_
  refine mv vx2_0 rfl rfl rfl rfl rfl rfl ?_
  refine lda (es := [(.int .i64 ((at_ a0 x2.2).Xid)), (.int .i64 ((at_ a0 x2.2).Begun)), (.int .i64 ((at_ a0 x2.2).Ended)), (.bool ((at_ a0 x2.2).All)), v28_0, v36_0, (.bool ((at_ a0 x2.2).In)), (.bool ((at_ a0 x2.2).Out))]) B45 Try.underlying59 z59 rfl rfl rfl rfl rfl rfl rfl rfl ?_
  have A47 := ((A41.st p42 rfl).st p45 rfl)
  have A48 := (A44.st p45 rfl)
  obtain ⟨s49, hw49, p49, A49⟩ := ow_2 A47 (ow_r A48 (fz_pair (fz_bool ((at_ a0 x2.2).In)) (fz_bool ((at_ a0 x2.2).Out)))) rfl rfl
  rw [hw49]
  have A51 : OwF kd59 s49 [(.int .i64 ((at_ a0 x2.2).Xid)), (.int .i64 ((at_ a0 x2.2).Begun)), (.int .i64 ((at_ a0 x2.2).Ended)), (.bool ((at_ a0 x2.2).All)), v28_0, v36_0, (.bool ((at_ a0 x2.2).In)), (.bool ((at_ a0 x2.2).Out))] (Track.mk ((at_ a0 x2.2).Xid) ((at_ a0 x2.2).Begun) ((at_ a0 x2.2).Ended) ((at_ a0 x2.2).All) r28 r36 ((at_ a0 x2.2).In) ((at_ a0 x2.2).Out)) 43 := (ow_isoz (fun x : Track => (x.Xid, x.Begun, x.Ended, x.All, x.Reads, x.Writes, x.In, x.Out)) (Track.mk ((at_ a0 x2.2).Xid) ((at_ a0 x2.2).Begun) ((at_ a0 x2.2).Ended) ((at_ a0 x2.2).All) r28 r36 ((at_ a0 x2.2).In) ((at_ a0 x2.2).Out)) (ow_l (fz_int .i64 ((at_ a0 x2.2).Xid)) (ow_l (fz_int .i64 ((at_ a0 x2.2).Begun)) (ow_l (fz_int .i64 ((at_ a0 x2.2).Ended)) (ow_l (fz_bool ((at_ a0 x2.2).All)) A49)))))
  have L53 := lo_one A51
  refine ltO (K := kd59) (cells := [(.int .i64 ((at_ a0 x2.2).Xid)), (.int .i64 ((at_ a0 x2.2).Begun)), (.int .i64 ((at_ a0 x2.2).Ended)), (.bool ((at_ a0 x2.2).All)), v28_0, v36_0, (.bool ((at_ a0 x2.2).In)), (.bool ((at_ a0 x2.2).Out))]) [(Track.mk ((at_ a0 x2.2).Xid) ((at_ a0 x2.2).Begun) ((at_ a0 x2.2).Ended) ((at_ a0 x2.2).All) r28 r36 ((at_ a0 x2.2).In) ((at_ a0 x2.2).Out))] 43 Try.underlying62 z59 o59 L53 rfl rfl rfl rfl rfl rfl rfl rfl rfl rfl (fun v54 s54 p54 A54 => ?_)
  have A56 := (((((((((Ax2_0.st p11 rfl).st p15 rfl).st p17 rfl).st p29 rfl).st p37 rfl).st p42 rfl).st p45 rfl).st p49 rfl).st p54 rfl)
  refine apO sl62 A56 A54 rfl rfl rfl rfl rfl rfl rfl rfl rfl (fun v57 s57 p57 A57 => ?_)
  refine asg v57 rfl rfl rfl rfl rfl rfl ?_
  refine dn ?_
  refine ib ?_
  refine rg ?_
  refine pu rfl rfl rfl rfl rfl ?_
  refine pu rfl rfl rfl rfl rfl ?_
  refine dn ?_
  have K59 := ((((((((((Kx2.st p11 rfl).st p15 rfl).st p17 rfl).st p29 rfl).st p37 rfl).st p42 rfl).st p45 rfl).st p49 rfl).st p54 rfl).st p57 rfl)
  exact lb ih2 ⟨s57, _, v57, rfl, (ue (ue (ue (ue rfl rfl) rfl) rfl) rfl), K59, A57⟩
 ·
  refine xt rfl ?_
  refine sgb ?_
  refine sr ?_
  refine mv vx2_0 rfl rfl rfl rfl rfl rfl ?_
  refine asg vx2_0 rfl rfl rfl rfl rfl rfl ?_
  refine dn ?_
  exact re rfl Try.func92 rfl (r_t rfl r_nil) rfl ⟨_, rfl, Ax2_0.fo Kx2 rfl z.l, z.ky Kx2⟩
noncomputable def laws_szTrack.f (a0 : Track) (a1 : Int) : Option (Int) :=
 ((laws_szSpanS.f a0.Reads a1).bind fun r7 => (if (decide (r7 < (0 : Int))) = true then (some (-1 : Int)) else ((laws_szItemS.f a0.Writes r7).bind fun r14 => (if (decide (r14 < (0 : Int))) = true then (some (-1 : Int)) else (some r14)))))
def laws_szTrack.Q (w : World) (F : Nat → Prop) (r : Int) (v : Value) (w' : World) : Prop :=
 v = (.int .i64 r) ∧ Ky [] w w'
set_option maxHeartbeats 4000000 in
set_option maxRecDepth 100000 in
theorem laws_szTrack.calls (a0 : Track) (a1 : Int) (w : World) (F : Nat → Prop) (w0_0 : Value) (w0_1 : Value) (h0_0 : (Kd.sl 76 kd76).rd w [w0_0] a0.Reads F) (h0_1 : (Kd.sl 39 kd39).rd w [w0_1] a0.Writes F) (r : Int) (m : laws_szTrack.f a0 a1 = some r) :
  Calls Try.prog 102 #[(.agg #[(.int .i64 a0.Xid), (.int .i64 a0.Begun), (.int .i64 a0.Ended), (.bool a0.All), w0_0, w0_1, (.bool a0.In), (.bool a0.Out)]), (.int .i64 a1)] w fun en w' => ∃ v, en = .returned v ∧ laws_szTrack.Q w F r v w' := by
 obtain ⟨s0, rfl, kp0, z⟩ := start0 w F
 have A0_0 := z.rd h0_0
 have A0_1 := z.rd h0_1
 refine calls_of_TM (args := [(.agg #[(.int .i64 a0.Xid), (.int .i64 a0.Begun), (.int .i64 a0.Ended), (.bool a0.All), w0_0, w0_1, (.bool a0.In), (.bool a0.Out)]), (.int .i64 a1)]) (R := fun r en w' => ∃ v, en = .returned v ∧ laws_szTrack.Q s0.w F r v w') Try.func102 Try.ntmps102 rfl rfl m ?_
 unfold laws_szTrack.f
 refine sr ?_
 refine bx (cs := [(.int .i64 a0.Xid), (.int .i64 a0.Begun), (.int .i64 a0.Ended), (.bool a0.All), w0_0, w0_1, (.bool a0.In), (.bool a0.Out)]) 40 rfl rfl rfl rfl rfl rfl (fun b3 s3 p3 B3 => ?_)
 refine pu rfl rfl rfl rfl rfl ?_
 refine dn ?_
 refine sr ?_
 refine fa fa149_4 rfl rfl rfl rfl rfl rfl ?_
 refine ld B3 Try.underlying86 rfl rfl rfl rfl rfl rfl rfl rfl ?_
 refine pu rfl rfl rfl rfl rfl ?_
 have K5 := (kp0.st p3 rfl)
 have A6 := (A0_0.kp K5)
 refine cl rfl rfl rfl rfl rfl Try.func118 rfl rfl rfl (fun r7 m7 => laws_szSpanS.calls a0.Reads a1 s3.w (fun b => memb [0] (s3.g b) = true) w0_0 A6 r7 m7) ?_
 rintro r7 _ w7 m7 ⟨rfl, ky7⟩
 obtain ⟨s8, rfl, p8, n8⟩ := nwx s3 w7 41 ky7
 refine pu rfl rfl rfl rfl rfl ?_
 refine dn ?_
 refine sq ?_
 refine sr ?_
 refine pu rfl rfl rfl rfl rfl ?_
 refine pu rfl rfl rfl rfl rfl ?_
 refine dn ?_
 refine cd rfl (fun h9 => ?_) (fun h9 => ?_)
 ·
  refine sr ?_
  refine pu rfl rfl rfl rfl rfl ?_
  refine dn ?_
  have K10 := (K5.st p8 rfl)
  exact re rfl Try.func102 rfl (r_t rfl r_nil) rfl ⟨_, rfl, rfl, z.ky K10⟩
 ·
  refine sk ?_
  refine sr ?_
  refine fa fa149_5 rfl rfl rfl rfl rfl rfl ?_
  have A11 := (BlF.st B3 p8 rfl)
  refine ld A11 Try.underlying87 rfl rfl rfl rfl rfl rfl rfl rfl ?_
  refine pu rfl rfl rfl rfl rfl ?_
  have K12 := (K5.st p8 rfl)
  have A13 := (A0_1.kp K12)
  refine cl rfl rfl rfl rfl rfl Try.func119 rfl rfl rfl (fun r14 m14 => laws_szItemS.calls a0.Writes r7 s8.w (fun b => memb [0] (s8.g b) = true) w0_1 A13 r14 m14) ?_
  rintro r14 _ w14 m14 ⟨rfl, ky14⟩
  obtain ⟨s15, rfl, p15, n15⟩ := nwx s8 w14 42 ky14
  refine pu rfl rfl rfl rfl rfl ?_
  refine dn ?_
  refine sq ?_
  refine sr ?_
  refine pu rfl rfl rfl rfl rfl ?_
  refine pu rfl rfl rfl rfl rfl ?_
  refine dn ?_
  refine cd rfl (fun h16 => ?_) (fun h16 => ?_)
  ·
   refine sr ?_
   refine pu rfl rfl rfl rfl rfl ?_
   refine dn ?_
   have K17 := (K12.st p15 rfl)
   exact re rfl Try.func102 rfl (r_t rfl r_nil) rfl ⟨_, rfl, rfl, z.ky K17⟩
  ·
   refine sk ?_
   refine sr ?_
   refine pu rfl rfl rfl rfl rfl ?_
   refine pu rfl rfl rfl rfl rfl ?_
   refine dn ?_
   have K18 := (K12.st p15 rfl)
   exact re rfl Try.func102 rfl (r_t rfl r_nil) rfl ⟨_, rfl, rfl, z.ky K18⟩
noncomputable def laws_szTrackS.b0 (a0 : (List Track)) (x3 : Int × Int) : Option ((Int × Int) ⊕ Int) :=
 (if (decide (x3.2 < (a0.length : Int))) = true then (if 0 ≤ x3.2 ∧ x3.2 < (a0.length : Int) then ((laws_szTrack.f (at_ a0 x3.2) x3.1).bind fun r11 => (if (decide (r11 < (0 : Int))) = true then (some (Sum.inr (-1 : Int))) else (some (Sum.inl (r11, (IntKind.wrap .i64 (x3.2 + (1 : Int)))))))) else none) else ((some x3.1).bind fun o => some (Sum.inr o)))
noncomputable def laws_szTrackS.f (a0 : (List Track)) (a1 : Int) : Option (Int) :=
 (if (decide ((IntKind.wrap .i64 (a1 - (a0.length : Int))) < (0 : Int))) = true then (some (-1 : Int)) else (iter (laws_szTrackS.b0 a0) ((IntKind.wrap .i64 (a1 - (a0.length : Int))), (0 : Int))))
def laws_szTrackS.Q (w : World) (F : Nat → Prop) (r : Int) (v : Value) (w' : World) : Prop :=
 v = (.int .i64 r) ∧ Ky [] w w'
set_option maxHeartbeats 4000000 in
set_option maxRecDepth 100000 in
theorem laws_szTrackS.calls (a0 : (List Track)) (a1 : Int) (w : World) (F : Nat → Prop) (w0_0 : Value) (h0_0 : (Kd.sl 149 kd149).rd w [w0_0] a0 F) (r : Int) (m : laws_szTrackS.f a0 a1 = some r) :
  Calls Try.prog 35 #[w0_0, (.int .i64 a1)] w fun en w' => ∃ v, en = .returned v ∧ laws_szTrackS.Q w F r v w' := by
 obtain ⟨s0, rfl, kp0, z⟩ := start0 w F
 have A0_0 := z.rd h0_0
 refine calls_of_TM (args := [w0_0, (.int .i64 a1)]) (R := fun r en w' => ∃ v, en = .returned v ∧ laws_szTrackS.Q s0.w F r v w') Try.func35 Try.ntmps35 rfl rfl m ?_
 unfold laws_szTrackS.f
 refine sr ?_
 refine pu rfl rfl rfl rfl rfl ?_
 refine dn ?_
 refine sr ?_
 refine pu rfl rfl rfl rfl rfl ?_
 refine mv w0_0 rfl rfl rfl rfl rfl rfl ?_
 refine ln A0_0 Try.underlying69 rfl rfl rfl rfl rfl rfl ?_
 refine pu rfl rfl rfl rfl rfl ?_
 refine pu rfl rfl rfl rfl rfl ?_
 refine dn ?_
 refine sq ?_
 refine sr ?_
 refine pu rfl rfl rfl rfl rfl ?_
 refine pu rfl rfl rfl rfl rfl ?_
 refine dn ?_
 refine cd rfl (fun h2 => ?_) (fun h2 => ?_)
 ·
  refine sr ?_
  refine pu rfl rfl rfl rfl rfl ?_
  refine dn ?_
  exact re rfl Try.func35 rfl (r_t rfl r_nil) rfl ⟨_, rfl, rfl, z.ky kp0⟩
 ·
  refine sk ?_
  refine sq ?_
  refine sr ?_
  refine pu rfl rfl rfl rfl rfl ?_
  refine dn ?_
  refine bl ?_
  refine lpI (fun (x3 : Int × Int) (e : Env) (w : World) => ∃ (s : St) (e0 : Env), w = s.w ∧ e = upd (upd (upd e0 0 w0_0) 1 (.int .i64 x3.1)) 5 (.int .i64 x3.2) ∧ Kp s0 s) ⟨s0, _, rfl, (ue (ue (ue rfl rfl) rfl) rfl), kp0⟩ (fun g3 ih3 => ?_)
  rintro x3 _ _ ⟨s4, _, rfl, rfl, Kx3⟩
  unfold laws_szTrackS.b0
  refine sq ?_
  refine sr ?_
  refine pu rfl rfl rfl rfl rfl ?_
  refine mv w0_0 rfl rfl rfl rfl rfl rfl ?_
  have A5 := (A0_0.kp Kx3)
  refine ln A5 Try.underlying69 rfl rfl rfl rfl rfl rfl ?_
  refine pu rfl rfl rfl rfl rfl ?_
  refine dn ?_
  refine cd rfl (fun h6 => ?_) (fun h6 => ?_)
  ·
   refine sk ?_
   refine sq ?_
   refine bl ?_
   refine sr ?_
   refine mv w0_0 rfl rfl rfl rfl rfl rfl ?_
   refine pu rfl rfl rfl rfl rfl ?_
   refine ix A5 Try.underlying69 z149 rfl rfl rfl rfl rfl rfl rfl rfl (fun ad7 es7 h0_7 h1_7 he7 ce7 ia7 => ?_)
   obtain ⟨v7_0, v7_1, rfl, A7_0, A7_1⟩ := op149 he7
   refine lca ce7 Try.underlying149 z149 rfl rfl rfl rfl rfl rfl rfl ?_
   refine pu rfl rfl rfl rfl rfl ?_
   refine cl rfl rfl rfl rfl rfl Try.func102 rfl rfl rfl (fun r11 m11 => laws_szTrack.calls (at_ a0 x3.2) x3.1 s4.w (fun b => memb [0] (s4.g b) = true) v7_0 v7_1 A7_0 A7_1 r11 m11) ?_
   rintro r11 _ w11 m11 ⟨rfl, ky11⟩
   obtain ⟨s12, rfl, p12, n12⟩ := nwx s4 w11 40 ky11
   refine pu rfl rfl rfl rfl rfl ?_
   refine dn ?_
   refine sr ?_
   refine pu rfl rfl rfl rfl rfl ?_
   refine pu rfl rfl rfl rfl rfl ?_
   refine dn ?_
   refine cd rfl (fun h13 => ?_) (fun h13 => ?_)
   ·
    refine sr ?_
    refine pu rfl rfl rfl rfl rfl ?_
    refine dn ?_
    refine sgi ?_
    have K14 := (Kx3.st p12 rfl)
    exact re rfl Try.func35 rfl (r_t rfl r_nil) rfl ⟨_, rfl, rfl, z.ky K14⟩
   ·
    refine sk ?_
    refine ib ?_
    refine rg ?_
    refine pu rfl rfl rfl rfl rfl ?_
    refine pu rfl rfl rfl rfl rfl ?_
    refine pu rfl rfl rfl rfl rfl ?_
    refine dn ?_
    have K15 := (Kx3.st p12 rfl)
    exact lb ih3 ⟨s12, _, rfl, (ue (ue (ue rfl rfl) rfl) rfl), K15⟩
  ·
   refine xt rfl ?_
   refine sgb ?_
   refine sr ?_
   refine pu rfl rfl rfl rfl rfl ?_
   refine pu rfl rfl rfl rfl rfl ?_
   refine dn ?_
   exact re rfl Try.func35 rfl (r_t rfl r_nil) rfl ⟨_, rfl, rfl, z.ky Kx3⟩
noncomputable def laws_toTrack.f (a0 : Track) : Option (Track) :=
 ((laws_toSpanS.f a0.Reads).bind fun r24 => ((laws_toItemS.f a0.Writes).bind fun r33 => (some (Track.mk a0.Xid a0.Begun a0.Ended a0.All r24 r33 a0.In a0.Out))))
def laws_toTrack.Q (w : World) (F : Nat → Prop) (r : Track) (v : Value) (w' : World) : Prop :=
 ∃ (v0 : Value) (v1 : Value), v = (.agg #[(.int .i64 r.Xid), (.int .i64 r.Begun), (.int .i64 r.Ended), (.bool r.All), v0, v1, (.bool r.In), (.bool r.Out)]) ∧ FO kd59 w w' [(.int .i64 r.Xid), (.int .i64 r.Begun), (.int .i64 r.Ended), (.bool r.All), v0, v1, (.bool r.In), (.bool r.Out)] r ∧ Ky [] w w'
set_option maxHeartbeats 4000000 in
set_option maxRecDepth 100000 in
theorem laws_toTrack.calls (a0 : Track) (w : World) (F : Nat → Prop) (w0_0 : Value) (w0_1 : Value) (h0_0 : (Kd.sl 76 kd76).rd w [w0_0] a0.Reads F) (h0_1 : (Kd.sl 39 kd39).rd w [w0_1] a0.Writes F) (r : Track) (m : laws_toTrack.f a0 = some r) :
  Calls Try.prog 103 #[(.agg #[(.int .i64 a0.Xid), (.int .i64 a0.Begun), (.int .i64 a0.Ended), (.bool a0.All), w0_0, w0_1, (.bool a0.In), (.bool a0.Out)])] w fun en w' => ∃ v, en = .returned v ∧ laws_toTrack.Q w F r v w' := by
 obtain ⟨s0, rfl, kp0, z⟩ := start0 w F
 have A0_0 := z.rd h0_0
 have A0_1 := z.rd h0_1
 refine calls_of_TM (args := [(.agg #[(.int .i64 a0.Xid), (.int .i64 a0.Begun), (.int .i64 a0.Ended), (.bool a0.All), w0_0, w0_1, (.bool a0.In), (.bool a0.Out)])]) (R := fun r en w' => ∃ v, en = .returned v ∧ laws_toTrack.Q s0.w F r v w') Try.func103 Try.ntmps103 rfl rfl m ?_
 unfold laws_toTrack.f
 refine sr ?_
 refine bx (cs := [(.int .i64 a0.Xid), (.int .i64 a0.Begun), (.int .i64 a0.Ended), (.bool a0.All), w0_0, w0_1, (.bool a0.In), (.bool a0.Out)]) 40 rfl rfl rfl rfl rfl rfl (fun b3 s3 p3 B3 => ?_)
 refine al (cs := [(.int .i64 (0 : Int)), (.int .i64 (0 : Int)), (.int .i64 (0 : Int)), (.bool false), (.slice none 0 0), (.slice none 0 0), (.bool false), (.bool false)]) 41 rfl rfl rfl rfl rfl o59 rfl (fun b5 s5 p5 B5 => ?_)
 refine dn ?_
 refine sr ?_
 refine al (cs := [(.int .i64 (0 : Int)), (.int .i64 (0 : Int)), (.int .i64 (0 : Int)), (.bool false), (.slice none 0 0), (.slice none 0 0), (.bool false), (.bool false)]) 42 rfl rfl rfl rfl rfl o59 rfl (fun b7 s7 p7 B7 => ?_)
 refine dn ?_
 refine sr ?_
 refine fa fa149_0 rfl rfl rfl rfl rfl rfl ?_
 have A9 := (BlF.st (BlF.st B3 p5 rfl) p7 rfl)
 refine ld A9 Try.underlying3 rfl rfl rfl rfl rfl rfl rfl rfl ?_
 refine fa fa59_0 rfl rfl rfl rfl rfl rfl ?_
 refine sv B7 z3 rfl rfl rfl rfl rfl rfl rfl rfl (fun s10 p10 B10 => ?_)
 refine dn ?_
 refine sr ?_
 refine fa fa149_1 rfl rfl rfl rfl rfl rfl ?_
 have A12 := (BlF.st A9 p10 rfl)
 refine ld A12 Try.underlying3 rfl rfl rfl rfl rfl rfl rfl rfl ?_
 refine fa fa59_1 rfl rfl rfl rfl rfl rfl ?_
 refine sv B10 z3 rfl rfl rfl rfl rfl rfl rfl rfl (fun s13 p13 B13 => ?_)
 refine dn ?_
 refine sr ?_
 refine fa fa149_2 rfl rfl rfl rfl rfl rfl ?_
 have A15 := (BlF.st A12 p13 rfl)
 refine ld A15 Try.underlying3 rfl rfl rfl rfl rfl rfl rfl rfl ?_
 refine fa fa59_2 rfl rfl rfl rfl rfl rfl ?_
 refine sv B13 z3 rfl rfl rfl rfl rfl rfl rfl rfl (fun s16 p16 B16 => ?_)
 refine dn ?_
 refine sr ?_
 refine fa fa149_3 rfl rfl rfl rfl rfl rfl ?_
 have A18 := (BlF.st A15 p16 rfl)
 refine ld A18 Try.underlying4 rfl rfl rfl rfl rfl rfl rfl rfl ?_
 refine fa fa59_3 rfl rfl rfl rfl rfl rfl ?_
 refine sv B16 z4 rfl rfl rfl rfl rfl rfl rfl rfl (fun s19 p19 B19 => ?_)
 refine dn ?_
 refine sr ?_
 refine fa fa149_4 rfl rfl rfl rfl rfl rfl ?_
 have A21 := (BlF.st A18 p19 rfl)
 refine ld A21 Try.underlying86 rfl rfl rfl rfl rfl rfl rfl rfl ?_
 have K22 := (((((((kp0.st p3 rfl).st p5 rfl).st p7 rfl).st p10 rfl).st p13 rfl).st p16 rfl).st p19 rfl)
 have A23 := (A0_0.kp K22)
 refine cl rfl rfl rfl rfl rfl Try.func122 rfl rfl rfl (fun r24 m24 => laws_toSpanS.calls a0.Reads s19.w (fun b => memb [0] (s19.g b) = true) w0_0 A23 r24 m24) ?_
 rintro r24 v24_0 w24 m24 ⟨f24_0, ky24⟩
 obtain ⟨s25, rfl, p25, n25⟩ := nwx s19 w24 43 ky24
 have A24_0 := f24_0.c n25
 refine fa fa59_4 rfl rfl rfl rfl rfl rfl ?_
 have A27 := (BlF.st B19 p25 rfl)
 refine sv A27 z56 rfl rfl rfl rfl rfl rfl A24_0.rd.one rfl (fun s28 p28 B28 => ?_)
 refine dn ?_
 refine sr ?_
 refine fa fa149_5 rfl rfl rfl rfl rfl rfl ?_
 have A30 := (BlF.st (BlF.st A21 p25 rfl) p28 rfl)
 refine ld A30 Try.underlying87 rfl rfl rfl rfl rfl rfl rfl rfl ?_
 have K31 := ((K22.st p25 rfl).st p28 rfl)
 have A32 := (A0_1.kp K31)
 refine cl rfl rfl rfl rfl rfl Try.func123 rfl rfl rfl (fun r33 m33 => laws_toItemS.calls a0.Writes s28.w (fun b => memb [0] (s28.g b) = true) w0_1 A32 r33 m33) ?_
 rintro r33 v33_0 w33 m33 ⟨f33_0, ky33⟩
 obtain ⟨s34, rfl, p34, n34⟩ := nwx s28 w33 44 ky33
 have A33_0 := f33_0.c n34
 refine fa fa59_5 rfl rfl rfl rfl rfl rfl ?_
 have A36 := (BlF.st B28 p34 rfl)
 refine sv A36 z57 rfl rfl rfl rfl rfl rfl A33_0.rd.one rfl (fun s37 p37 B37 => ?_)
 refine dn ?_
 refine sr ?_
 refine fa fa149_6 rfl rfl rfl rfl rfl rfl ?_
 have A39 := (BlF.st (BlF.st A30 p34 rfl) p37 rfl)
 refine ld A39 Try.underlying4 rfl rfl rfl rfl rfl rfl rfl rfl ?_
 refine fa fa59_6 rfl rfl rfl rfl rfl rfl ?_
 refine sv B37 z4 rfl rfl rfl rfl rfl rfl rfl rfl (fun s40 p40 B40 => ?_)
 refine dn ?_
 refine sr ?_
 refine fa fa149_7 rfl rfl rfl rfl rfl rfl ?_
 have A42 := (BlF.st A39 p40 rfl)
 refine ld A42 Try.underlying4 rfl rfl rfl rfl rfl rfl rfl rfl ?_
 refine fa fa59_7 rfl rfl rfl rfl rfl rfl ?_
 refine sv B40 z4 rfl rfl rfl rfl rfl rfl rfl rfl (fun s43 p43 B43 => ?_)
 refine dn ?_
 refine sr ?_
 refine lda (es := [(.int .i64 a0.Xid), (.int .i64 a0.Begun), (.int .i64 a0.Ended), (.bool a0.All), v24_0, v33_0, (.bool a0.In), (.bool a0.Out)]) B43 Try.underlying59 z59 rfl rfl rfl rfl rfl rfl rfl rfl ?_
 have A45 := (BlF.st (BlF.st (BlF.st (BlF.st (BlF.st (BlF.st (BlF.st (BlF.st (BlF.st (BlF.st (BlF.st B5 p7 rfl) p10 rfl) p13 rfl) p16 rfl) p19 rfl) p25 rfl) p28 rfl) p34 rfl) p37 rfl) p40 rfl) p43 rfl)
 have A46 := (((A33_0.st p37 rfl).st p40 rfl).st p43 rfl)
 have A47 := (((((A24_0.st p28 rfl).st p34 rfl).st p37 rfl).st p40 rfl).st p43 rfl)
 refine sva (vs := [(.int .i64 a0.Xid), (.int .i64 a0.Begun), (.int .i64 a0.Ended), (.bool a0.All), v24_0, v33_0, (.bool a0.In), (.bool a0.Out)]) A45 z59 rfl rfl rfl rfl rfl rfl (on_cons rfl (on_cons rfl (on_cons rfl (on_cons rfl (on_cons A47.rd.one (on_cons A46.rd.one (on_cons rfl (on_cons rfl on_nil)))))))) rfl (fun s48 p48 B48 => ?_)
 refine dn ?_
 have A50 := (A47.st p48 rfl)
 have A51 := (A46.st p48 rfl)
 obtain ⟨s52, hw52, p52, A52⟩ := ow_2 A50 (ow_r A51 (fz_pair (fz_bool a0.In) (fz_bool a0.Out))) rfl rfl
 rw [hw52]
 have A54 : OwF kd59 s52 [(.int .i64 a0.Xid), (.int .i64 a0.Begun), (.int .i64 a0.Ended), (.bool a0.All), v24_0, v33_0, (.bool a0.In), (.bool a0.Out)] (Track.mk a0.Xid a0.Begun a0.Ended a0.All r24 r33 a0.In a0.Out) 43 := (ow_isoz (fun x : Track => (x.Xid, x.Begun, x.Ended, x.All, x.Reads, x.Writes, x.In, x.Out)) (Track.mk a0.Xid a0.Begun a0.Ended a0.All r24 r33 a0.In a0.Out) (ow_l (fz_int .i64 a0.Xid) (ow_l (fz_int .i64 a0.Begun) (ow_l (fz_int .i64 a0.Ended) (ow_l (fz_bool a0.All) A52)))))
 have A56 := (BlF.st B48 p52 rfl)
 have K57 := ((((((K31.st p34 rfl).st p37 rfl).st p40 rfl).st p43 rfl).st p48 rfl).st p52 rfl)
 exact re rfl Try.func103 rfl (r_b A56 Try.underlying59 rfl z59 rfl r_nil) rfl ⟨_, rfl, v24_0, v33_0, rfl, A54.fo K57 rfl z.l, z.ky K57⟩
noncomputable def laws_toTrackS.b0 (a0 : (List Track)) (x4 : (List Track) × Int) : Option (((List Track) × Int) ⊕ (List Track)) :=
 (if (decide (x4.2 < (a0.length : Int))) = true then (if 0 ≤ x4.2 ∧ x4.2 < (a0.length : Int) then ((laws_toTrack.f (at_ a0 x4.2)).bind fun r14 => (if 0 ≤ x4.2 ∧ x4.2 < (x4.1.length : Int) then (some (Sum.inl ((x4.1.set (x4.2).toNat r14), (IntKind.wrap .i64 (x4.2 + (1 : Int)))))) else none)) else none) else ((some x4.1).bind fun o => some (Sum.inr o)))
noncomputable def laws_toTrackS.f (a0 : (List Track)) : Option ((List Track)) :=
 (if 0 ≤ (a0.length : Int) ∧ (a0.length : Int) ≤ (Lim : Int) then (iter (laws_toTrackS.b0 a0) ((List.replicate ((a0.length : Int)).toNat (Track.mk (0 : Int) (0 : Int) (0 : Int) false ([] : (List Span)) ([] : (List Item)) false false)), (0 : Int))) else none)
def laws_toTrackS.Q (w : World) (F : Nat → Prop) (r : (List Track)) (v : Value) (w' : World) : Prop :=
 FO (Kd.sl 59 kd59) w w' [v] r ∧ Ky [] w w'
set_option maxHeartbeats 4000000 in
set_option maxRecDepth 100000 in
theorem laws_toTrackS.calls (a0 : (List Track)) (w : World) (F : Nat → Prop) (w0_0 : Value) (h0_0 : (Kd.sl 149 kd149).rd w [w0_0] a0 F) (r : (List Track)) (m : laws_toTrackS.f a0 = some r) :
  Calls Try.prog 36 #[w0_0] w fun en w' => ∃ v, en = .returned v ∧ laws_toTrackS.Q w F r v w' := by
 obtain ⟨s0, rfl, kp0, z⟩ := start0 w F
 have A0_0 := z.rd h0_0
 refine calls_of_TM (args := [w0_0]) (R := fun r en w' => ∃ v, en = .returned v ∧ laws_toTrackS.Q s0.w F r v w') Try.func36 Try.ntmps36 rfl rfl m ?_
 unfold laws_toTrackS.f
 refine sr ?_
 refine pu rfl rfl rfl rfl rfl ?_
 refine dn ?_
 refine sr ?_
 refine mv w0_0 rfl rfl rfl rfl rfl rfl ?_
 refine ln A0_0 Try.underlying69 rfl rfl rfl rfl rfl rfl ?_
 refine mk (x0 := (Track.mk (0 : Int) (0 : Int) (0 : Int) false ([] : (List Span)) ([] : (List Item)) false false)) (K := kd59) 40 sl62 o59 (fun _ => ⟨_, _, [], [], rfl, rfl, ⟨rfl, rfl⟩, ⟨_, _, [], [], rfl, rfl, ⟨rfl, rfl⟩, ⟨_, _, [], [], rfl, rfl, ⟨rfl, rfl⟩, ⟨_, _, [], [], rfl, rfl, ⟨rfl, rfl⟩, ⟨_, _, [], [], rfl, rfl, ⟨_, rfl, [], [], [], rfl, ⟨by simp, .inl ⟨rfl, rfl, rfl⟩⟩, ⟨rfl, rfl⟩⟩, ⟨_, _, [], [], rfl, rfl, ⟨_, rfl, [], [], [], rfl, ⟨by simp, .inl ⟨rfl, rfl, rfl⟩⟩, ⟨rfl, rfl⟩⟩, ⟨_, _, [], [], rfl, rfl, ⟨rfl, rfl⟩, ⟨rfl, rfl⟩⟩⟩⟩⟩⟩⟩⟩) rfl rfl rfl rfl rfl rfl rfl (fun v2 s2 p2 A2 => ?_)
 refine asg v2 rfl rfl rfl rfl rfl rfl ?_
 refine dn ?_
 refine sq ?_
 refine sr ?_
 refine pu rfl rfl rfl rfl rfl ?_
 refine dn ?_
 refine bl ?_
 have K5 := (kp0.st p2 rfl)
 refine lpI (fun (x4 : (List Track) × Int) (e : Env) (w : World) => ∃ (s : St) (e0 : Env), w = s.w ∧ e = upd (upd (upd e0 0 w0_0) 3 v2) 4 (.int .i64 x4.2) ∧ Kp s0 s ∧ OwF (Kd.sl 59 kd59) s [v2] x4.1 40) ⟨s2, _, rfl, (ue (ue (ue rfl rfl) rfl) rfl), K5, A2⟩ (fun g4 ih4 => ?_)
 rintro x4 _ _ ⟨s6, _, rfl, rfl, Kx4, Ax4_0⟩
 unfold laws_toTrackS.b0
 refine sq ?_
 refine sr ?_
 refine pu rfl rfl rfl rfl rfl ?_
 refine mv w0_0 rfl rfl rfl rfl rfl rfl ?_
 have A8 := (A0_0.kp Kx4)
 refine ln A8 Try.underlying69 rfl rfl rfl rfl rfl rfl ?_
 refine pu rfl rfl rfl rfl rfl ?_
 refine dn ?_
 refine cd rfl (fun h9 => ?_) (fun h9 => ?_)
 ·
  refine sk ?_
  refine sq ?_
  refine bl ?_
  refine rg ?_
  refine mv v2 rfl rfl rfl rfl rfl rfl ?_
  refine pu rfl rfl rfl rfl rfl ?_
  refine mv w0_0 rfl rfl rfl rfl rfl rfl ?_
  refine pu rfl rfl rfl rfl rfl ?_
  refine ix A8 Try.underlying69 z149 rfl rfl rfl rfl rfl rfl rfl rfl (fun ad10 es10 h0_10 h1_10 he10 ce10 ia10 => ?_)
  obtain ⟨v10_0, v10_1, rfl, A10_0, A10_1⟩ := op149 he10
  refine lca ce10 Try.underlying149 z149 rfl rfl rfl rfl rfl rfl rfl ?_
  refine cl rfl rfl rfl rfl rfl Try.func103 rfl rfl rfl (fun r14 m14 => laws_toTrack.calls (at_ a0 x4.2) s6.w (fun b => memb [0] (s6.g b) = true) v10_0 v10_1 A10_0 A10_1 r14 m14) ?_
  rintro r14 _ w14 m14 ⟨v14_0, v14_1, rfl, f14_0, ky14⟩
  obtain ⟨s15, rfl, p15, n15⟩ := nwx s6 w14 41 ky14
  have A14_0 := f14_0.c n15
  obtain ⟨os14_0, ho14_0, hn14_0, hc14_0⟩ := A14_0
  obtain ⟨u14_0_0, u14_0_1, qu14_0_0, qu14_0_1, e14_0, eo14_0, hu14_0_0, hu14_0_1⟩ := po59 ho14_0
  have yu14_0_0 : v14_0 = u14_0_0 := congrArg (fun l => (List.drop 4 l).headD undef) e14_0
  have yu14_0_1 : v14_1 = u14_0_1 := congrArg (fun l => (List.drop 5 l).headD undef) e14_0
  subst yu14_0_0
  subst yu14_0_1
  subst eo14_0
  obtain ⟨s16, hw16, p16, Au14_0_0, hn16, hc16⟩ := sp2 42 hu14_0_0 hn14_0 hc14_0 rfl
  rw [hw16]
  have Au14_0_1 : OwF (Kd.sl 48 kd48) s16 [v14_1] r14.Writes 42 := sp1 (hw16 ▸ hu14_0_1) hn16 hc16
  have A19 := ((Ax4_0.st p15 rfl).st p16 rfl)
  refine ix A19.rd Try.underlying62 z59 rfl rfl rfl rfl rfl rfl rfl rfl (fun ad20 es20 h0_20 h1_20 he20 ce20 ia20 => ?_)
  obtain ⟨v20_0, v20_1, rfl, A20_0, A20_1⟩ := op59 he20
  obtain ⟨s24, hw24, p24, A24⟩ := ow_2 Au14_0_0 (ow_r Au14_0_1 (fz_pair (fz_bool r14.In) (fz_bool r14.Out))) rfl rfl
  rw [hw24]
  have A26 : OwF kd59 s24 [(.int .i64 r14.Xid), (.int .i64 r14.Begun), (.int .i64 r14.Ended), (.bool r14.All), v14_0, v14_1, (.bool r14.In), (.bool r14.Out)] r14 41 := (ow_isoz (fun x : Track => (x.Xid, x.Begun, x.Ended, x.All, x.Reads, x.Writes, x.In, x.Out)) r14 (ow_l (fz_int .i64 r14.Xid) (ow_l (fz_int .i64 r14.Begun) (ow_l (fz_int .i64 r14.Ended) (ow_l (fz_bool r14.All) A24)))))
  have A28 := (A19.st p24 rfl)
  refine som (x' := r14) A28 ia20 h0_20 h1_20 A26 rfl rfl z59 rfl rfl rfl rfl rfl rfl (fun s29 p29 A29 => ?_)
  refine dn ?_
  refine ib ?_
  refine rg ?_
  refine pu rfl rfl rfl rfl rfl ?_
  refine pu rfl rfl rfl rfl rfl ?_
  refine pu rfl rfl rfl rfl rfl ?_
  refine dn ?_
  have K31 := ((((Kx4.st p15 rfl).st p16 rfl).st p24 rfl).st p29 rfl)
  exact lb ih4 ⟨s29, _, rfl, (ue (ue (ue rfl rfl) rfl) rfl), K31, A29⟩
 ·
  refine xt rfl ?_
  refine sgb ?_
  refine sr ?_
  refine mv v2 rfl rfl rfl rfl rfl rfl ?_
  refine asg v2 rfl rfl rfl rfl rfl rfl ?_
  refine dn ?_
  exact re rfl Try.func36 rfl (r_t rfl r_nil) rfl ⟨_, rfl, Ax4_0.fo Kx4 rfl z.l, z.ky Kx4⟩
noncomputable def laws_eqTrack.f (a0 : Track) (a1 : Track) : Option (Bool) :=
 (if (a0.Xid != a1.Xid) = true then (some false) else (if (a0.Begun != a1.Begun) = true then (some false) else (if (a0.Ended != a1.Ended) = true then (some false) else (if (!(a0.All == a1.All)) = true then (some false) else ((laws_eqSpanS.f a0.Reads a1.Reads).bind fun r21 => (if (!r21) = true then (some false) else ((laws_eqItemS.f a0.Writes a1.Writes).bind fun r30 => (if (!r30) = true then (some false) else (if (!(a0.In == a1.In)) = true then (some false) else (if (!(a0.Out == a1.Out)) = true then (some false) else (some true)))))))))))
def laws_eqTrack.Q (w : World) (F : Nat → Prop) (r : Bool) (v : Value) (w' : World) : Prop :=
 v = (.bool r) ∧ Ky [] w w'
set_option maxHeartbeats 4000000 in
set_option maxRecDepth 100000 in
theorem laws_eqTrack.calls (a0 : Track) (a1 : Track) (w : World) (F : Nat → Prop) (w0_0 : Value) (w0_1 : Value) (w1_0 : Value) (w1_1 : Value) (h0_0 : (Kd.sl 80 kd80).rd w [w0_0] a0.Reads F) (h0_1 : (Kd.sl 48 kd48).rd w [w0_1] a0.Writes F) (h1_0 : (Kd.sl 80 kd80).rd w [w1_0] a1.Reads F) (h1_1 : (Kd.sl 48 kd48).rd w [w1_1] a1.Writes F) (r : Bool) (m : laws_eqTrack.f a0 a1 = some r) :
  Calls Try.prog 104 #[(.agg #[(.int .i64 a0.Xid), (.int .i64 a0.Begun), (.int .i64 a0.Ended), (.bool a0.All), w0_0, w0_1, (.bool a0.In), (.bool a0.Out)]), (.agg #[(.int .i64 a1.Xid), (.int .i64 a1.Begun), (.int .i64 a1.Ended), (.bool a1.All), w1_0, w1_1, (.bool a1.In), (.bool a1.Out)])] w fun en w' => ∃ v, en = .returned v ∧ laws_eqTrack.Q w F r v w' := by
 obtain ⟨s0, rfl, kp0, z⟩ := start0 w F
 have A0_0 := z.rd h0_0
 have A0_1 := z.rd h0_1
 have A1_0 := z.rd h1_0
 have A1_1 := z.rd h1_1
 refine calls_of_TM (args := [(.agg #[(.int .i64 a0.Xid), (.int .i64 a0.Begun), (.int .i64 a0.Ended), (.bool a0.All), w0_0, w0_1, (.bool a0.In), (.bool a0.Out)]), (.agg #[(.int .i64 a1.Xid), (.int .i64 a1.Begun), (.int .i64 a1.Ended), (.bool a1.All), w1_0, w1_1, (.bool a1.In), (.bool a1.Out)])]) (R := fun r en w' => ∃ v, en = .returned v ∧ laws_eqTrack.Q s0.w F r v w') Try.func104 Try.ntmps104 rfl rfl m ?_
 unfold laws_eqTrack.f
 refine sr ?_
 refine bx (cs := [(.int .i64 a0.Xid), (.int .i64 a0.Begun), (.int .i64 a0.Ended), (.bool a0.All), w0_0, w0_1, (.bool a0.In), (.bool a0.Out)]) 40 rfl rfl rfl rfl rfl rfl (fun b5 s5 p5 B5 => ?_)
 refine bx (cs := [(.int .i64 a1.Xid), (.int .i64 a1.Begun), (.int .i64 a1.Ended), (.bool a1.All), w1_0, w1_1, (.bool a1.In), (.bool a1.Out)]) 41 rfl rfl rfl rfl rfl rfl (fun b7 s7 p7 B7 => ?_)
 refine pu rfl rfl rfl rfl rfl ?_
 refine dn ?_
 refine sq ?_
 refine sr ?_
 refine fa fa59_0 rfl rfl rfl rfl rfl rfl ?_
 have A9 := (BlF.st B5 p7 rfl)
 refine ld A9 Try.underlying3 rfl rfl rfl rfl rfl rfl rfl rfl ?_
 refine fa fa59_0 rfl rfl rfl rfl rfl rfl ?_
 refine ld B7 Try.underlying3 rfl rfl rfl rfl rfl rfl rfl rfl ?_
 refine pu rfl rfl rfl rfl rfl ?_
 refine dn ?_
 refine cd rfl (fun h10 => ?_) (fun h10 => ?_)
 ·
  refine sr ?_
  refine pu rfl rfl rfl rfl rfl ?_
  refine dn ?_
  have K11 := ((kp0.st p5 rfl).st p7 rfl)
  exact re rfl Try.func104 rfl (r_t rfl r_nil) rfl ⟨_, rfl, rfl, z.ky K11⟩
 ·
  refine sk ?_
  refine sq ?_
  refine sr ?_
  refine fa fa59_1 rfl rfl rfl rfl rfl rfl ?_
  refine ld A9 Try.underlying3 rfl rfl rfl rfl rfl rfl rfl rfl ?_
  refine fa fa59_1 rfl rfl rfl rfl rfl rfl ?_
  refine ld B7 Try.underlying3 rfl rfl rfl rfl rfl rfl rfl rfl ?_
  refine pu rfl rfl rfl rfl rfl ?_
  refine dn ?_
  refine cd rfl (fun h12 => ?_) (fun h12 => ?_)
  ·
   refine sr ?_
   refine pu rfl rfl rfl rfl rfl ?_
   refine dn ?_
   have K13 := ((kp0.st p5 rfl).st p7 rfl)
   exact re rfl Try.func104 rfl (r_t rfl r_nil) rfl ⟨_, rfl, rfl, z.ky K13⟩
  ·
   refine sk ?_
   refine sq ?_
   refine sr ?_
   refine fa fa59_2 rfl rfl rfl rfl rfl rfl ?_
   refine ld A9 Try.underlying3 rfl rfl rfl rfl rfl rfl rfl rfl ?_
   refine fa fa59_2 rfl rfl rfl rfl rfl rfl ?_
   refine ld B7 Try.underlying3 rfl rfl rfl rfl rfl rfl rfl rfl ?_
   refine pu rfl rfl rfl rfl rfl ?_
   refine dn ?_
   refine cd rfl (fun h14 => ?_) (fun h14 => ?_)
   ·
    refine sr ?_
    refine pu rfl rfl rfl rfl rfl ?_
    refine dn ?_
    have K15 := ((kp0.st p5 rfl).st p7 rfl)
    exact re rfl Try.func104 rfl (r_t rfl r_nil) rfl ⟨_, rfl, rfl, z.ky K15⟩
   ·
    refine sk ?_
    refine sq ?_
    refine sr ?_
    refine fa fa59_3 rfl rfl rfl rfl rfl rfl ?_
    refine ld A9 Try.underlying4 rfl rfl rfl rfl rfl rfl rfl rfl ?_
    refine fa fa59_3 rfl rfl rfl rfl rfl rfl ?_
    refine ld B7 Try.underlying4 rfl rfl rfl rfl rfl rfl rfl rfl ?_
    refine bne_ Try.underlying4 rfl rfl rfl rfl rfl rfl rfl ?_
    refine dn ?_
    refine cd rfl (fun h16 => ?_) (fun h16 => ?_)
    ·
     refine sr ?_
     refine pu rfl rfl rfl rfl rfl ?_
     refine dn ?_
     have K17 := ((kp0.st p5 rfl).st p7 rfl)
     exact re rfl Try.func104 rfl (r_t rfl r_nil) rfl ⟨_, rfl, rfl, z.ky K17⟩
    ·
     refine sk ?_
     refine sq ?_
     refine sr ?_
     refine fa fa59_4 rfl rfl rfl rfl rfl rfl ?_
     refine ld A9 Try.underlying56 rfl rfl rfl rfl rfl rfl rfl rfl ?_
     refine fa fa59_4 rfl rfl rfl rfl rfl rfl ?_
     refine ld B7 Try.underlying56 rfl rfl rfl rfl rfl rfl rfl rfl ?_
     have K18 := ((kp0.st p5 rfl).st p7 rfl)
     have A19 := (A0_0.kp K18)
     have A20 := (A1_0.kp K18)
     refine cl rfl rfl rfl rfl rfl Try.func131 rfl rfl rfl (fun r21 m21 => laws_eqSpanS.calls a0.Reads a1.Reads s7.w (fun b => memb [0] (s7.g b) = true) w0_0 w1_0 A19 A20 r21 m21) ?_
     rintro r21 _ w21 m21 ⟨rfl, ky21⟩
     obtain ⟨s22, rfl, p22, n22⟩ := nwx s7 w21 42 ky21
     refine pu rfl rfl rfl rfl rfl ?_
     refine dn ?_
     refine cd rfl (fun h23 => ?_) (fun h23 => ?_)
     ·
      refine sr ?_
      refine pu rfl rfl rfl rfl rfl ?_
      refine dn ?_
      have K24 := (K18.st p22 rfl)
      exact re rfl Try.func104 rfl (r_t rfl r_nil) rfl ⟨_, rfl, rfl, z.ky K24⟩
     ·
      refine sk ?_
      refine sq ?_
      refine sr ?_
      refine fa fa59_5 rfl rfl rfl rfl rfl rfl ?_
      have A25 := (BlF.st A9 p22 rfl)
      refine ld A25 Try.underlying57 rfl rfl rfl rfl rfl rfl rfl rfl ?_
      refine fa fa59_5 rfl rfl rfl rfl rfl rfl ?_
      have A26 := (BlF.st B7 p22 rfl)
      refine ld A26 Try.underlying57 rfl rfl rfl rfl rfl rfl rfl rfl ?_
      have K27 := (K18.st p22 rfl)
      have A28 := (A0_1.kp K27)
      have A29 := (A1_1.kp K27)
      refine cl rfl rfl rfl rfl rfl Try.func132 rfl rfl rfl (fun r30 m30 => laws_eqItemS.calls a0.Writes a1.Writes s22.w (fun b => memb [0] (s22.g b) = true) w0_1 w1_1 A28 A29 r30 m30) ?_
      rintro r30 _ w30 m30 ⟨rfl, ky30⟩
      obtain ⟨s31, rfl, p31, n31⟩ := nwx s22 w30 43 ky30
      refine pu rfl rfl rfl rfl rfl ?_
      refine dn ?_
      refine cd rfl (fun h32 => ?_) (fun h32 => ?_)
      ·
       refine sr ?_
       refine pu rfl rfl rfl rfl rfl ?_
       refine dn ?_
       have K33 := (K27.st p31 rfl)
       exact re rfl Try.func104 rfl (r_t rfl r_nil) rfl ⟨_, rfl, rfl, z.ky K33⟩
      ·
       refine sk ?_
       refine sq ?_
       refine sr ?_
       refine fa fa59_6 rfl rfl rfl rfl rfl rfl ?_
       have A34 := (BlF.st A25 p31 rfl)
       refine ld A34 Try.underlying4 rfl rfl rfl rfl rfl rfl rfl rfl ?_
       refine fa fa59_6 rfl rfl rfl rfl rfl rfl ?_
       have A35 := (BlF.st A26 p31 rfl)
       refine ld A35 Try.underlying4 rfl rfl rfl rfl rfl rfl rfl rfl ?_
       refine bne_ Try.underlying4 rfl rfl rfl rfl rfl rfl rfl ?_
       refine dn ?_
       refine cd rfl (fun h36 => ?_) (fun h36 => ?_)
       ·
        refine sr ?_
        refine pu rfl rfl rfl rfl rfl ?_
        refine dn ?_
        have K37 := (K27.st p31 rfl)
        exact re rfl Try.func104 rfl (r_t rfl r_nil) rfl ⟨_, rfl, rfl, z.ky K37⟩
       ·
        refine sk ?_
        refine sq ?_
        refine sr ?_
        refine fa fa59_7 rfl rfl rfl rfl rfl rfl ?_
        refine ld A34 Try.underlying4 rfl rfl rfl rfl rfl rfl rfl rfl ?_
        refine fa fa59_7 rfl rfl rfl rfl rfl rfl ?_
        refine ld A35 Try.underlying4 rfl rfl rfl rfl rfl rfl rfl rfl ?_
        refine bne_ Try.underlying4 rfl rfl rfl rfl rfl rfl rfl ?_
        refine dn ?_
        refine cd rfl (fun h38 => ?_) (fun h38 => ?_)
        ·
         refine sr ?_
         refine pu rfl rfl rfl rfl rfl ?_
         refine dn ?_
         have K39 := (K27.st p31 rfl)
         exact re rfl Try.func104 rfl (r_t rfl r_nil) rfl ⟨_, rfl, rfl, z.ky K39⟩
        ·
         refine sk ?_
         refine sr ?_
         refine pu rfl rfl rfl rfl rfl ?_
         refine dn ?_
         have K40 := (K27.st p31 rfl)
         exact re rfl Try.func104 rfl (r_t rfl r_nil) rfl ⟨_, rfl, rfl, z.ky K40⟩
noncomputable def laws_eqTrackS.b0 (a0 : (List Track)) (a1 : (List Track)) (x4 : Int) : Option (Int ⊕ Bool) :=
 (if (decide (x4 < (a0.length : Int))) = true then (if 0 ≤ x4 ∧ x4 < (a0.length : Int) then (if 0 ≤ x4 ∧ x4 < (a1.length : Int) then ((laws_eqTrack.f (at_ a0 x4) (at_ a1 x4)).bind fun r28 => (if (!r28) = true then (some (Sum.inr false)) else (some (Sum.inl (IntKind.wrap .i64 (x4 + (1 : Int))))))) else none) else none) else ((some true).bind fun o => some (Sum.inr o)))
noncomputable def laws_eqTrackS.f (a0 : (List Track)) (a1 : (List Track)) : Option (Bool) :=
 (if ((a0.length : Int) != (a1.length : Int)) = true then (some false) else (iter (laws_eqTrackS.b0 a0 a1) (0 : Int)))
def laws_eqTrackS.Q (w : World) (F : Nat → Prop) (r : Bool) (v : Value) (w' : World) : Prop :=
 v = (.bool r) ∧ Ky [] w w'
set_option maxHeartbeats 4000000 in
set_option maxRecDepth 100000 in
theorem laws_eqTrackS.calls (a0 : (List Track)) (a1 : (List Track)) (w : World) (F : Nat → Prop) (w0_0 : Value) (w1_0 : Value) (h0_0 : (Kd.sl 59 kd59).rd w [w0_0] a0 F) (h1_0 : (Kd.sl 59 kd59).rd w [w1_0] a1 F) (r : Bool) (m : laws_eqTrackS.f a0 a1 = some r) :
  Calls Try.prog 37 #[w0_0, w1_0] w fun en w' => ∃ v, en = .returned v ∧ laws_eqTrackS.Q w F r v w' := by
 obtain ⟨s0, rfl, kp0, z⟩ := start0 w F
 have A0_0 := z.rd h0_0
 have A1_0 := z.rd h1_0
 refine calls_of_TM (args := [w0_0, w1_0]) (R := fun r en w' => ∃ v, en = .returned v ∧ laws_eqTrackS.Q s0.w F r v w') Try.func37 Try.ntmps37 rfl rfl m ?_
 unfold laws_eqTrackS.f
 refine sr ?_
 refine pu rfl rfl rfl rfl rfl ?_
 refine dn ?_
 refine sq ?_
 refine sr ?_
 refine mv w0_0 rfl rfl rfl rfl rfl rfl ?_
 refine ln A0_0 Try.underlying62 rfl rfl rfl rfl rfl rfl ?_
 refine mv w1_0 rfl rfl rfl rfl rfl rfl ?_
 refine ln A1_0 Try.underlying62 rfl rfl rfl rfl rfl rfl ?_
 refine pu rfl rfl rfl rfl rfl ?_
 refine dn ?_
 refine cd rfl (fun h3 => ?_) (fun h3 => ?_)
 ·
  refine sr ?_
  refine pu rfl rfl rfl rfl rfl ?_
  refine dn ?_
  exact re rfl Try.func37 rfl (r_t rfl r_nil) rfl ⟨_, rfl, rfl, z.ky kp0⟩
 ·
  refine sk ?_
  refine sq ?_
  refine sr ?_
  refine pu rfl rfl rfl rfl rfl ?_
  refine dn ?_
  refine bl ?_
  refine lpI (fun (x4 : Int) (e : Env) (w : World) => ∃ (s : St) (e0 : Env), w = s.w ∧ e = upd (upd (upd e0 0 w0_0) 1 w1_0) 5 (.int .i64 x4) ∧ Kp s0 s) ⟨s0, _, rfl, (ue (ue (ue rfl rfl) rfl) rfl), kp0⟩ (fun g4 ih4 => ?_)
  rintro x4 _ _ ⟨s5, _, rfl, rfl, Kx4⟩
  unfold laws_eqTrackS.b0
  refine sq ?_
  refine sr ?_
  refine pu rfl rfl rfl rfl rfl ?_
  refine mv w0_0 rfl rfl rfl rfl rfl rfl ?_
  have A6 := (A0_0.kp Kx4)
  refine ln A6 Try.underlying62 rfl rfl rfl rfl rfl rfl ?_
  refine pu rfl rfl rfl rfl rfl ?_
  refine dn ?_
  refine cd rfl (fun h7 => ?_) (fun h7 => ?_)
  ·
   refine sk ?_
   refine sq ?_
   refine bl ?_
   refine sq ?_
   refine zdraw [[], [], [0, 1], [2], [], [], [4, 5], [6], [3, 7], [8]] [some 17, some 18, some 19, some 20, some 21, some 22, some 23, some 24, some 25, some 26] [[0], [5], [17, 18], [19], [1], [5], [21, 22], [23], [20, 24], [25]] [0, 1, 2, 3, 4, 5, 6, 7, 8, 9] ⟨by kernel_rfl, by kernel_rfl, by kernel_rfl⟩ (by kernel_rfl) (fun s8 p8 l8 tb8 zd8 => ?_)
   have zd9 := zd8.add 0 17 w0_0 rfl
   have zd10 := zd9.add 1 18 (.int .i64 x4) rfl
   have K11 := (Kx4.st p8 rfl)
   have A12 := (A0_0.kp K11)
   refine mg fun hg13 => ?_
   obtain ⟨ad13, es13, he13, ce13, ia13⟩ := ix_e A12 rfl hg13.1 hg13.2
   have h0_13 := hg13.1
   have h1_13 := hg13.2
   obtain ⟨v13_0, v13_1, rfl, A13_0, A13_1⟩ := op59 he13
   have zd17 := zd10.add 2 19 (.pointer (some ad13)) rfl
   have zd18 := zd17.add 3 20 (.agg #[(.int .i64 ((at_ a0 x4).Xid)), (.int .i64 ((at_ a0 x4).Begun)), (.int .i64 ((at_ a0 x4).Ended)), (.bool ((at_ a0 x4).All)), v13_0, v13_1, (.bool ((at_ a0 x4).In)), (.bool ((at_ a0 x4).Out))]) rfl
   have zd19 := zd18.add 4 21 w1_0 rfl
   have zd20 := zd19.add 5 22 (.int .i64 x4) rfl
   have A21 := (A1_0.kp K11)
   refine mg fun hg22 => ?_
   obtain ⟨ad22, es22, he22, ce22, ia22⟩ := ix_e A21 rfl hg22.1 hg22.2
   have h0_22 := hg22.1
   have h1_22 := hg22.2
   obtain ⟨v22_0, v22_1, rfl, A22_0, A22_1⟩ := op59 he22
   have zd26 := zd20.add 6 23 (.pointer (some ad22)) rfl
   have zd27 := zd26.add 7 24 (.agg #[(.int .i64 ((at_ a1 x4).Xid)), (.int .i64 ((at_ a1 x4).Begun)), (.int .i64 ((at_ a1 x4).Ended)), (.bool ((at_ a1 x4).All)), v22_0, v22_1, (.bool ((at_ a1 x4).In)), (.bool ((at_ a1 x4).Out))]) rfl
   refine zfin [8, 9] tb8 zd27 (pq_cons (lca_q ce22 Try.underlying59 z59 rfl rfl rfl rfl rfl rfl rfl) rfl (pq_cons (ix_q A21 Try.underlying62 z59 hg22.1 hg22.2 ia22 rfl rfl rfl rfl rfl rfl rfl) rfl (pq_cons (pu_q rfl rfl rfl rfl rfl rfl) rfl (pq_cons (mv_q w1_0 rfl rfl rfl rfl rfl rfl) rfl (pq_cons (lca_q ce13 Try.underlying59 z59 rfl rfl rfl rfl rfl rfl rfl) rfl (pq_cons (ix_q A12 Try.underlying62 z59 hg13.1 hg13.2 ia13 rfl rfl rfl rfl rfl rfl rfl) rfl (pq_cons (pu_q rfl rfl rfl rfl rfl rfl) rfl (pq_cons (mv_q w0_0 rfl rfl rfl rfl rfl rfl) rfl pq_nil)))))))) (by kernel_rfl) (by decide) ?_
   refine cl rfl rfl rfl rfl rfl Try.func104 rfl rfl rfl (fun r28 m28 => laws_eqTrack.calls (at_ a0 x4) (at_ a1 x4) s8.w (fun b => memb [0] (s8.g b) = true) v13_0 v13_1 v22_0 v22_1 A13_0 A13_1 A22_0 A22_1 r28 m28) ?_
   rintro r28 _ w28 m28 ⟨rfl, ky28⟩
   obtain ⟨s29, rfl, p29, n29⟩ := nwx s8 w28 40 ky28
   refine pu rfl rfl rfl rfl rfl ?_
   refine dn ?_
   refine cd rfl (fun h30 => ?_) (fun h30 => ?_)
   ·
    refine sr ?_
    refine pu rfl rfl rfl rfl rfl ?_
    refine dn ?_
    refine sgi ?_
    have K31 := (K11.st p29 rfl)
    exact re rfl Try.func37 rfl (r_t rfl r_nil) rfl ⟨_, rfl, rfl, z.ky K31⟩
   ·
    refine sk ?_
    refine ib ?_
    refine rg ?_
    refine pu rfl rfl rfl rfl rfl ?_
    refine pu rfl rfl rfl rfl rfl ?_
    refine pu rfl rfl rfl rfl rfl ?_
    refine dn ?_
    have K32 := (K11.st p29 rfl)
    exact lb ih4 ⟨s29, _, rfl, (ue (ue (ue rfl rfl) rfl) rfl), K32⟩
  ·
   refine xt rfl ?_
   refine sgb ?_
   refine sr ?_
   refine pu rfl rfl rfl rfl rfl ?_
   refine dn ?_
   exact re rfl Try.func37 rfl (r_t rfl r_nil) rfl ⟨_, rfl, rfl, z.ky Kx4⟩
end Go.Proofs.Ytcagjdngannneaa
