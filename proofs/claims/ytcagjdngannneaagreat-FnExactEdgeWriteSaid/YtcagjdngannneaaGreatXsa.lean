/- The functions as models, and that the calls come to what the models tell. -/
import Derived.Test.YtcagjdngannneaaGreatXt
set_option linter.unusedVariables false
set_option linter.unusedSimpArgs false
namespace Go.Proofs.YtcagjdngannneaaGreat
open Go V
noncomputable def laws_szByteS.f (a0 : (List Int)) (a1 : Int) : Option (Int) :=
 (if (decide ((IntKind.wrap .i64 (a1 - (a0.length : Int))) < (0 : Int))) = true then (some (-1 : Int)) else (some (IntKind.wrap .i64 (a1 - (a0.length : Int)))))
def laws_szByteS.Q (w : World) (F : Nat → Prop) (r : Int) (v : Value) (w' : World) : Prop :=
 v = (.int .i64 r) ∧ Ky [] w w'
set_option maxHeartbeats 4000000 in
set_option maxRecDepth 100000 in
theorem laws_szByteS.calls (a0 : (List Int)) (a1 : Int) (w : World) (F : Nat → Prop) (w0_0 : Value) (h0_0 : (Kd.sl 5 (Kd.int .u8)).rd w [w0_0] a0 F) (r : Int) (m : laws_szByteS.f a0 a1 = some r) :
  Calls Tryz.prog 63 #[w0_0, (.int .i64 a1)] w fun en w' => ∃ v, en = .returned v ∧ laws_szByteS.Q w F r v w' := by
 obtain ⟨s0, rfl, kp0, z⟩ := start0 w F
 have A0_0 := z.rd h0_0
 refine calls_of_TM (args := [w0_0, (.int .i64 a1)]) (R := fun r en w' => ∃ v, en = .returned v ∧ laws_szByteS.Q s0.w F r v w') Tryz.func63 Tryz.ntmps63 rfl rfl m ?_
 unfold laws_szByteS.f
 refine sr ?_
 refine pu rfl rfl rfl rfl rfl ?_
 refine dn ?_
 refine sr ?_
 refine pu rfl rfl rfl rfl rfl ?_
 refine mv w0_0 rfl rfl rfl rfl rfl rfl ?_
 refine ln A0_0 Tryz.underlying24 rfl rfl rfl rfl rfl rfl ?_
 refine pu rfl rfl rfl rfl rfl ?_
 refine pu rfl rfl rfl rfl rfl ?_
 refine dn ?_
 refine sq ?_
 refine sr ?_
 refine pu rfl rfl rfl rfl rfl ?_
 refine pu rfl rfl rfl rfl rfl ?_
 refine dn ?_
 refine cd rfl (fun h2 => ?_) (fun h2 => ?_)
 ·
  refine sr ?_
  refine pu rfl rfl rfl rfl rfl ?_
  refine dn ?_
  exact re rfl Tryz.func63 rfl (r_t rfl r_nil) rfl ⟨_, rfl, rfl, z.ky kp0⟩
 ·
  refine sk ?_
  refine sr ?_
  refine pu rfl rfl rfl rfl rfl ?_
  refine pu rfl rfl rfl rfl rfl ?_
  refine dn ?_
  exact re rfl Tryz.func63 rfl (r_t rfl r_nil) rfl ⟨_, rfl, rfl, z.ky kp0⟩
noncomputable def laws_szItem.f (a0 : Item) (a1 : Int) : Option (Int) :=
 ((laws_szByteS.f a0.T a1).bind fun r6 => (if (decide (r6 < (0 : Int))) = true then (some (-1 : Int)) else (some r6)))
def laws_szItem.Q (w : World) (F : Nat → Prop) (r : Int) (v : Value) (w' : World) : Prop :=
 v = (.int .i64 r) ∧ Ky [] w w'
set_option maxHeartbeats 4000000 in
set_option maxRecDepth 100000 in
theorem laws_szItem.calls (a0 : Item) (a1 : Int) (w : World) (F : Nat → Prop) (w0_0 : Value) (w0_1 : Value) (h0_0 : Kd.flt.rd w [w0_0] a0.F F) (h0_1 : (Kd.sl 5 (Kd.int .u8)).rd w [w0_1] a0.T F) (r : Int) (m : laws_szItem.f a0 a1 = some r) :
  Calls Tryz.prog 11 #[(.agg #[(.int .i64 a0.Kind), (.int .i64 a0.N), w0_0, w0_1]), (.int .i64 a1)] w fun en w' => ∃ v, en = .returned v ∧ laws_szItem.Q w F r v w' := by
 obtain ⟨s0, rfl, kp0, z⟩ := start0 w F
 have A0_0 := fl_of h0_0
 have A0_1 := z.rd h0_1
 refine calls_of_TM (args := [(.agg #[(.int .i64 a0.Kind), (.int .i64 a0.N), w0_0, w0_1]), (.int .i64 a1)]) (R := fun r en w' => ∃ v, en = .returned v ∧ laws_szItem.Q s0.w F r v w') Tryz.func11 Tryz.ntmps11 rfl rfl m ?_
 unfold laws_szItem.f
 refine sr ?_
 refine bx (cs := [(.int .i64 a0.Kind), (.int .i64 a0.N), w0_0, w0_1]) 40 rfl rfl rfl rfl rfl rfl (fun b2 s2 p2 B2 => ?_)
 refine pu rfl rfl rfl rfl rfl ?_
 refine dn ?_
 refine sr ?_
 refine fa fa26_3 rfl rfl rfl rfl rfl rfl ?_
 refine ld B2 Tryz.underlying24 rfl rfl rfl rfl rfl rfl rfl rfl ?_
 refine pu rfl rfl rfl rfl rfl ?_
 have K4 := (kp0.st p2 rfl)
 have A5 := (A0_1.kp K4)
 refine cl rfl rfl rfl rfl rfl Tryz.func63 rfl rfl rfl (fun r6 m6 => laws_szByteS.calls a0.T a1 s2.w (fun b => memb [0] (s2.g b) = true) w0_1 A5 r6 m6) ?_
 rintro r6 _ w6 m6 ⟨rfl, ky6⟩
 obtain ⟨s7, rfl, p7, n7⟩ := nwx s2 w6 41 ky6
 refine pu rfl rfl rfl rfl rfl ?_
 refine dn ?_
 refine sq ?_
 refine sr ?_
 refine pu rfl rfl rfl rfl rfl ?_
 refine pu rfl rfl rfl rfl rfl ?_
 refine dn ?_
 refine cd rfl (fun h8 => ?_) (fun h8 => ?_)
 ·
  refine sr ?_
  refine pu rfl rfl rfl rfl rfl ?_
  refine dn ?_
  have K9 := (K4.st p7 rfl)
  exact re rfl Tryz.func11 rfl (r_t rfl r_nil) rfl ⟨_, rfl, rfl, z.ky K9⟩
 ·
  refine sk ?_
  refine sr ?_
  refine pu rfl rfl rfl rfl rfl ?_
  refine pu rfl rfl rfl rfl rfl ?_
  refine dn ?_
  have K10 := (K4.st p7 rfl)
  exact re rfl Tryz.func11 rfl (r_t rfl r_nil) rfl ⟨_, rfl, rfl, z.ky K10⟩
noncomputable def laws_szSpan.f (a0 : Span) (a1 : Int) : Option (Int) :=
 ((laws_szItem.f a0.From a1).bind fun r7 => (if (decide (r7 < (0 : Int))) = true then (some (-1 : Int)) else ((laws_szItem.f a0.To r7).bind fun r14 => (if (decide (r14 < (0 : Int))) = true then (some (-1 : Int)) else (some r14)))))
def laws_szSpan.Q (w : World) (F : Nat → Prop) (r : Int) (v : Value) (w' : World) : Prop :=
 v = (.int .i64 r) ∧ Ky [] w w'
set_option maxHeartbeats 4000000 in
set_option maxRecDepth 100000 in
theorem laws_szSpan.calls (a0 : Span) (a1 : Int) (w : World) (F : Nat → Prop) (w0_0 : Value) (w0_1 : Value) (w0_2 : Value) (w0_3 : Value) (h0_0 : Kd.flt.rd w [w0_0] a0.From.F F) (h0_1 : (Kd.sl 5 (Kd.int .u8)).rd w [w0_1] a0.From.T F) (h0_2 : Kd.flt.rd w [w0_2] a0.To.F F) (h0_3 : (Kd.sl 5 (Kd.int .u8)).rd w [w0_3] a0.To.T F) (r : Int) (m : laws_szSpan.f a0 a1 = some r) :
  Calls Tryz.prog 241 #[(.agg #[(.int .i64 a0.From.Kind), (.int .i64 a0.From.N), w0_0, w0_1, (.int .i64 a0.To.Kind), (.int .i64 a0.To.N), w0_2, w0_3]), (.int .i64 a1)] w fun en w' => ∃ v, en = .returned v ∧ laws_szSpan.Q w F r v w' := by
 obtain ⟨s0, rfl, kp0, z⟩ := start0 w F
 have A0_0 := fl_of h0_0
 have A0_1 := z.rd h0_1
 have A0_2 := fl_of h0_2
 have A0_3 := z.rd h0_3
 refine calls_of_TM (args := [(.agg #[(.int .i64 a0.From.Kind), (.int .i64 a0.From.N), w0_0, w0_1, (.int .i64 a0.To.Kind), (.int .i64 a0.To.N), w0_2, w0_3]), (.int .i64 a1)]) (R := fun r en w' => ∃ v, en = .returned v ∧ laws_szSpan.Q s0.w F r v w') Tryz.func241 Tryz.ntmps241 rfl rfl m ?_
 unfold laws_szSpan.f
 refine sr ?_
 refine bx (cs := [(.int .i64 a0.From.Kind), (.int .i64 a0.From.N), w0_0, w0_1, (.int .i64 a0.To.Kind), (.int .i64 a0.To.N), w0_2, w0_3]) 40 rfl rfl rfl rfl rfl rfl (fun b3 s3 p3 B3 => ?_)
 refine pu rfl rfl rfl rfl rfl ?_
 refine dn ?_
 refine sr ?_
 refine fa fa282_0 rfl rfl rfl rfl rfl rfl ?_
 refine lda (es := [(.int .i64 a0.From.Kind), (.int .i64 a0.From.N), w0_0, w0_1]) B3 Tryz.underlying26 z26 rfl rfl rfl rfl rfl rfl rfl rfl ?_
 refine pu rfl rfl rfl rfl rfl ?_
 have K5 := (kp0.st p3 rfl)
 have A6 := (A0_1.kp K5)
 refine cl rfl rfl rfl rfl rfl Tryz.func11 rfl rfl rfl (fun r7 m7 => laws_szItem.calls a0.From a1 s3.w (fun b => memb [0] (s3.g b) = true) w0_0 w0_1 ((fl_rdf (s := s3) A0_0).sub (D := [0]) rfl) A6 r7 m7) ?_
 rintro r7 _ w7 m7 ⟨rfl, ky7⟩
 obtain ⟨s8, rfl, p8, n8⟩ := nwx s3 w7 41 ky7
 refine pu rfl rfl rfl rfl rfl ?_
 refine dn ?_
 refine sq ?_
 refine sr ?_
 refine pu rfl rfl rfl rfl rfl ?_
 refine pu rfl rfl rfl rfl rfl ?_
 refine dn ?_
 refine cd rfl (fun h9 => ?_) (fun h9 => ?_)
 ·
  refine sr ?_
  refine pu rfl rfl rfl rfl rfl ?_
  refine dn ?_
  have K10 := (K5.st p8 rfl)
  exact re rfl Tryz.func241 rfl (r_t rfl r_nil) rfl ⟨_, rfl, rfl, z.ky K10⟩
 ·
  refine sk ?_
  refine sr ?_
  refine fa fa282_1 rfl rfl rfl rfl rfl rfl ?_
  have A11 := (BlF.st B3 p8 rfl)
  refine lda (es := [(.int .i64 a0.To.Kind), (.int .i64 a0.To.N), w0_2, w0_3]) A11 Tryz.underlying26 z26 rfl rfl rfl rfl rfl rfl rfl rfl ?_
  refine pu rfl rfl rfl rfl rfl ?_
  have K12 := (K5.st p8 rfl)
  have A13 := (A0_3.kp K12)
  refine cl rfl rfl rfl rfl rfl Tryz.func11 rfl rfl rfl (fun r14 m14 => laws_szItem.calls a0.To r7 s8.w (fun b => memb [0] (s8.g b) = true) w0_2 w0_3 ((fl_rdf (s := s8) A0_2).sub (D := [0]) rfl) A13 r14 m14) ?_
  rintro r14 _ w14 m14 ⟨rfl, ky14⟩
  obtain ⟨s15, rfl, p15, n15⟩ := nwx s8 w14 42 ky14
  refine pu rfl rfl rfl rfl rfl ?_
  refine dn ?_
  refine sq ?_
  refine sr ?_
  refine pu rfl rfl rfl rfl rfl ?_
  refine pu rfl rfl rfl rfl rfl ?_
  refine dn ?_
  refine cd rfl (fun h16 => ?_) (fun h16 => ?_)
  ·
   refine sr ?_
   refine pu rfl rfl rfl rfl rfl ?_
   refine dn ?_
   have K17 := (K12.st p15 rfl)
   exact re rfl Tryz.func241 rfl (r_t rfl r_nil) rfl ⟨_, rfl, rfl, z.ky K17⟩
  ·
   refine sk ?_
   refine sr ?_
   refine pu rfl rfl rfl rfl rfl ?_
   refine pu rfl rfl rfl rfl rfl ?_
   refine dn ?_
   have K18 := (K12.st p15 rfl)
   exact re rfl Tryz.func241 rfl (r_t rfl r_nil) rfl ⟨_, rfl, rfl, z.ky K18⟩
noncomputable def laws_szSpanS.b0 (a0 : (List Span)) (x3 : Int × Int) : Option ((Int × Int) ⊕ Int) :=
 (if (decide (x3.2 < (a0.length : Int))) = true then (if 0 ≤ x3.2 ∧ x3.2 < (a0.length : Int) then ((laws_szSpan.f (Span.mk ((at_ a0 x3.2).From) ((at_ a0 x3.2).To)) x3.1).bind fun r11 => (if (decide (r11 < (0 : Int))) = true then (some (Sum.inr (-1 : Int))) else (some (Sum.inl (r11, (IntKind.wrap .i64 (x3.2 + (1 : Int)))))))) else none) else ((some x3.1).bind fun o => some (Sum.inr o)))
noncomputable def laws_szSpanS.f (a0 : (List Span)) (a1 : Int) : Option (Int) :=
 (if (decide ((IntKind.wrap .i64 (a1 - (a0.length : Int))) < (0 : Int))) = true then (some (-1 : Int)) else (iter (laws_szSpanS.b0 a0) ((IntKind.wrap .i64 (a1 - (a0.length : Int))), (0 : Int))))
def laws_szSpanS.Q (w : World) (F : Nat → Prop) (r : Int) (v : Value) (w' : World) : Prop :=
 v = (.int .i64 r) ∧ Ky [] w w'
set_option maxHeartbeats 4000000 in
set_option maxRecDepth 100000 in
theorem laws_szSpanS.calls (a0 : (List Span)) (a1 : Int) (w : World) (F : Nat → Prop) (w0_0 : Value) (h0_0 : (Kd.sl 282 kd282).rd w [w0_0] a0 F) (r : Int) (m : laws_szSpanS.f a0 a1 = some r) :
  Calls Tryz.prog 147 #[w0_0, (.int .i64 a1)] w fun en w' => ∃ v, en = .returned v ∧ laws_szSpanS.Q w F r v w' := by
 obtain ⟨s0, rfl, kp0, z⟩ := start0 w F
 have A0_0 := z.rd h0_0
 refine calls_of_TM (args := [w0_0, (.int .i64 a1)]) (R := fun r en w' => ∃ v, en = .returned v ∧ laws_szSpanS.Q s0.w F r v w') Tryz.func147 Tryz.ntmps147 rfl rfl m ?_
 unfold laws_szSpanS.f
 refine sr ?_
 refine pu rfl rfl rfl rfl rfl ?_
 refine dn ?_
 refine sr ?_
 refine pu rfl rfl rfl rfl rfl ?_
 refine mv w0_0 rfl rfl rfl rfl rfl rfl ?_
 refine ln A0_0 Tryz.underlying106 rfl rfl rfl rfl rfl rfl ?_
 refine pu rfl rfl rfl rfl rfl ?_
 refine pu rfl rfl rfl rfl rfl ?_
 refine dn ?_
 refine sq ?_
 refine sr ?_
 refine pu rfl rfl rfl rfl rfl ?_
 refine pu rfl rfl rfl rfl rfl ?_
 refine dn ?_
 refine cd rfl (fun h2 => ?_) (fun h2 => ?_)
 ·
  refine sr ?_
  refine pu rfl rfl rfl rfl rfl ?_
  refine dn ?_
  exact re rfl Tryz.func147 rfl (r_t rfl r_nil) rfl ⟨_, rfl, rfl, z.ky kp0⟩
 ·
  refine sk ?_
  refine sq ?_
  refine sr ?_
  refine pu rfl rfl rfl rfl rfl ?_
  refine dn ?_
  refine bl ?_
  refine lpI (fun (x3 : Int × Int) (e : Env) (w : World) => ∃ (s : St) (e0 : Env), w = s.w ∧ e = upd (upd (upd e0 0 w0_0) 1 (.int .i64 x3.1)) 5 (.int .i64 x3.2) ∧ Kp s0 s) ⟨s0, _, rfl, (ue (ue (ue rfl rfl) rfl) rfl), kp0⟩ (fun g3 ih3 => ?_)
  rintro x3 _ _ ⟨s4, _, rfl, rfl, Kx3⟩
  unfold laws_szSpanS.b0
  refine sq ?_
  refine sr ?_
  refine pu rfl rfl rfl rfl rfl ?_
  refine mv w0_0 rfl rfl rfl rfl rfl rfl ?_
  have A5 := (A0_0.kp Kx3)
  refine ln A5 Tryz.underlying106 rfl rfl rfl rfl rfl rfl ?_
  refine pu rfl rfl rfl rfl rfl ?_
  refine dn ?_
  refine cd rfl (fun h6 => ?_) (fun h6 => ?_)
  ·
   refine sk ?_
   refine sq ?_
   refine bl ?_
   refine sr ?_
   refine mv w0_0 rfl rfl rfl rfl rfl rfl ?_
   refine pu rfl rfl rfl rfl rfl ?_
   refine ix A5 Tryz.underlying106 z282 rfl rfl rfl rfl rfl rfl rfl rfl (fun ad7 es7 h0_7 h1_7 he7 ce7 ia7 => ?_)
   obtain ⟨v7_0, v7_1, v7_2, v7_3, rfl, A7_0, A7_1, A7_2, A7_3⟩ := op282 he7
   refine lca ce7 Tryz.underlying282 z282 rfl rfl rfl rfl rfl rfl rfl ?_
   refine pu rfl rfl rfl rfl rfl ?_
   refine cl rfl rfl rfl rfl rfl Tryz.func241 rfl rfl rfl (fun r11 m11 => laws_szSpan.calls (Span.mk ((at_ a0 x3.2).From) ((at_ a0 x3.2).To)) x3.1 s4.w (fun b => memb [0] (s4.g b) = true) v7_0 v7_1 v7_2 v7_3 ((fl_rdf (s := s4) A7_0).sub (D := [0]) rfl) A7_1 ((fl_rdf (s := s4) A7_2).sub (D := [0]) rfl) A7_3 r11 m11) ?_
   rintro r11 _ w11 m11 ⟨rfl, ky11⟩
   obtain ⟨s12, rfl, p12, n12⟩ := nwx s4 w11 40 ky11
   refine pu rfl rfl rfl rfl rfl ?_
   refine dn ?_
   refine sr ?_
   refine pu rfl rfl rfl rfl rfl ?_
   refine pu rfl rfl rfl rfl rfl ?_
   refine dn ?_
   refine cd rfl (fun h13 => ?_) (fun h13 => ?_)
   ·
    refine sr ?_
    refine pu rfl rfl rfl rfl rfl ?_
    refine dn ?_
    refine sgi ?_
    have K14 := (Kx3.st p12 rfl)
    exact re rfl Tryz.func147 rfl (r_t rfl r_nil) rfl ⟨_, rfl, rfl, z.ky K14⟩
   ·
    refine sk ?_
    refine ib ?_
    refine rg ?_
    refine pu rfl rfl rfl rfl rfl ?_
    refine pu rfl rfl rfl rfl rfl ?_
    refine pu rfl rfl rfl rfl rfl ?_
    refine dn ?_
    have K15 := (Kx3.st p12 rfl)
    exact lb ih3 ⟨s12, _, rfl, (ue (ue (ue rfl rfl) rfl) rfl), K15⟩
  ·
   refine xt rfl ?_
   refine sgb ?_
   refine sr ?_
   refine pu rfl rfl rfl rfl rfl ?_
   refine pu rfl rfl rfl rfl rfl ?_
   refine dn ?_
   exact re rfl Tryz.func147 rfl (r_t rfl r_nil) rfl ⟨_, rfl, rfl, z.ky Kx3⟩
noncomputable def laws_szItemS.b0 (a0 : (List Item)) (x3 : Int × Int) : Option ((Int × Int) ⊕ Int) :=
 (if (decide (x3.2 < (a0.length : Int))) = true then (if 0 ≤ x3.2 ∧ x3.2 < (a0.length : Int) then ((laws_szItem.f (at_ a0 x3.2) x3.1).bind fun r10 => (if (decide (r10 < (0 : Int))) = true then (some (Sum.inr (-1 : Int))) else (some (Sum.inl (r10, (IntKind.wrap .i64 (x3.2 + (1 : Int)))))))) else none) else ((some x3.1).bind fun o => some (Sum.inr o)))
noncomputable def laws_szItemS.f (a0 : (List Item)) (a1 : Int) : Option (Int) :=
 (if (decide ((IntKind.wrap .i64 (a1 - (a0.length : Int))) < (0 : Int))) = true then (some (-1 : Int)) else (iter (laws_szItemS.b0 a0) ((IntKind.wrap .i64 (a1 - (a0.length : Int))), (0 : Int))))
def laws_szItemS.Q (w : World) (F : Nat → Prop) (r : Int) (v : Value) (w' : World) : Prop :=
 v = (.int .i64 r) ∧ Ky [] w w'
set_option maxHeartbeats 4000000 in
set_option maxRecDepth 100000 in
theorem laws_szItemS.calls (a0 : (List Item)) (a1 : Int) (w : World) (F : Nat → Prop) (w0_0 : Value) (h0_0 : (Kd.sl 26 kd26).rd w [w0_0] a0 F) (r : Int) (m : laws_szItemS.f a0 a1 = some r) :
  Calls Tryz.prog 148 #[w0_0, (.int .i64 a1)] w fun en w' => ∃ v, en = .returned v ∧ laws_szItemS.Q w F r v w' := by
 obtain ⟨s0, rfl, kp0, z⟩ := start0 w F
 have A0_0 := z.rd h0_0
 refine calls_of_TM (args := [w0_0, (.int .i64 a1)]) (R := fun r en w' => ∃ v, en = .returned v ∧ laws_szItemS.Q s0.w F r v w') Tryz.func148 Tryz.ntmps148 rfl rfl m ?_
 unfold laws_szItemS.f
 refine sr ?_
 refine pu rfl rfl rfl rfl rfl ?_
 refine dn ?_
 refine sr ?_
 refine pu rfl rfl rfl rfl rfl ?_
 refine mv w0_0 rfl rfl rfl rfl rfl rfl ?_
 refine ln A0_0 Tryz.underlying107 rfl rfl rfl rfl rfl rfl ?_
 refine pu rfl rfl rfl rfl rfl ?_
 refine pu rfl rfl rfl rfl rfl ?_
 refine dn ?_
 refine sq ?_
 refine sr ?_
 refine pu rfl rfl rfl rfl rfl ?_
 refine pu rfl rfl rfl rfl rfl ?_
 refine dn ?_
 refine cd rfl (fun h2 => ?_) (fun h2 => ?_)
 ·
  refine sr ?_
  refine pu rfl rfl rfl rfl rfl ?_
  refine dn ?_
  exact re rfl Tryz.func148 rfl (r_t rfl r_nil) rfl ⟨_, rfl, rfl, z.ky kp0⟩
 ·
  refine sk ?_
  refine sq ?_
  refine sr ?_
  refine pu rfl rfl rfl rfl rfl ?_
  refine dn ?_
  refine bl ?_
  refine lpI (fun (x3 : Int × Int) (e : Env) (w : World) => ∃ (s : St) (e0 : Env), w = s.w ∧ e = upd (upd (upd e0 0 w0_0) 1 (.int .i64 x3.1)) 5 (.int .i64 x3.2) ∧ Kp s0 s) ⟨s0, _, rfl, (ue (ue (ue rfl rfl) rfl) rfl), kp0⟩ (fun g3 ih3 => ?_)
  rintro x3 _ _ ⟨s4, _, rfl, rfl, Kx3⟩
  unfold laws_szItemS.b0
  refine sq ?_
  refine sr ?_
  refine pu rfl rfl rfl rfl rfl ?_
  refine mv w0_0 rfl rfl rfl rfl rfl rfl ?_
  have A5 := (A0_0.kp Kx3)
  refine ln A5 Tryz.underlying107 rfl rfl rfl rfl rfl rfl ?_
  refine pu rfl rfl rfl rfl rfl ?_
  refine dn ?_
  refine cd rfl (fun h6 => ?_) (fun h6 => ?_)
  ·
   refine sk ?_
   refine sq ?_
   refine bl ?_
   refine sr ?_
   refine mv w0_0 rfl rfl rfl rfl rfl rfl ?_
   refine pu rfl rfl rfl rfl rfl ?_
   refine ix A5 Tryz.underlying107 z26 rfl rfl rfl rfl rfl rfl rfl rfl (fun ad7 es7 h0_7 h1_7 he7 ce7 ia7 => ?_)
   obtain ⟨v7_0, v7_1, rfl, A7_0, A7_1⟩ := op26 he7
   refine lca ce7 Tryz.underlying26 z26 rfl rfl rfl rfl rfl rfl rfl ?_
   refine pu rfl rfl rfl rfl rfl ?_
   refine cl rfl rfl rfl rfl rfl Tryz.func11 rfl rfl rfl (fun r10 m10 => laws_szItem.calls (at_ a0 x3.2) x3.1 s4.w (fun b => memb [0] (s4.g b) = true) v7_0 v7_1 ((fl_rdf (s := s4) A7_0).sub (D := [0]) rfl) A7_1 r10 m10) ?_
   rintro r10 _ w10 m10 ⟨rfl, ky10⟩
   obtain ⟨s11, rfl, p11, n11⟩ := nwx s4 w10 40 ky10
   refine pu rfl rfl rfl rfl rfl ?_
   refine dn ?_
   refine sr ?_
   refine pu rfl rfl rfl rfl rfl ?_
   refine pu rfl rfl rfl rfl rfl ?_
   refine dn ?_
   refine cd rfl (fun h12 => ?_) (fun h12 => ?_)
   ·
    refine sr ?_
    refine pu rfl rfl rfl rfl rfl ?_
    refine dn ?_
    refine sgi ?_
    have K13 := (Kx3.st p11 rfl)
    exact re rfl Tryz.func148 rfl (r_t rfl r_nil) rfl ⟨_, rfl, rfl, z.ky K13⟩
   ·
    refine sk ?_
    refine ib ?_
    refine rg ?_
    refine pu rfl rfl rfl rfl rfl ?_
    refine pu rfl rfl rfl rfl rfl ?_
    refine pu rfl rfl rfl rfl rfl ?_
    refine dn ?_
    have K14 := (Kx3.st p11 rfl)
    exact lb ih3 ⟨s11, _, rfl, (ue (ue (ue rfl rfl) rfl) rfl), K14⟩
  ·
   refine xt rfl ?_
   refine sgb ?_
   refine sr ?_
   refine pu rfl rfl rfl rfl rfl ?_
   refine pu rfl rfl rfl rfl rfl ?_
   refine dn ?_
   exact re rfl Tryz.func148 rfl (r_t rfl r_nil) rfl ⟨_, rfl, rfl, z.ky Kx3⟩
noncomputable def laws_szTrack.f (a0 : Track) (a1 : Int) : Option (Int) :=
 ((laws_szSpanS.f a0.Reads a1).bind fun r7 => (if (decide (r7 < (0 : Int))) = true then (some (-1 : Int)) else ((laws_szItemS.f a0.Writes r7).bind fun r14 => (if (decide (r14 < (0 : Int))) = true then (some (-1 : Int)) else (some r14)))))
def laws_szTrack.Q (w : World) (F : Nat → Prop) (r : Int) (v : Value) (w' : World) : Prop :=
 v = (.int .i64 r) ∧ Ky [] w w'
set_option maxHeartbeats 4000000 in
set_option maxRecDepth 100000 in
theorem laws_szTrack.calls (a0 : Track) (a1 : Int) (w : World) (F : Nat → Prop) (w0_0 : Value) (w0_1 : Value) (h0_0 : (Kd.sl 282 kd282).rd w [w0_0] a0.Reads F) (h0_1 : (Kd.sl 26 kd26).rd w [w0_1] a0.Writes F) (r : Int) (m : laws_szTrack.f a0 a1 = some r) :
  Calls Tryz.prog 62 #[(.agg #[(.int .i64 a0.Xid), (.int .i64 a0.Begun), (.int .i64 a0.Ended), (.bool a0.All), w0_0, w0_1, (.bool a0.In), (.bool a0.Out)]), (.int .i64 a1)] w fun en w' => ∃ v, en = .returned v ∧ laws_szTrack.Q w F r v w' := by
 obtain ⟨s0, rfl, kp0, z⟩ := start0 w F
 have A0_0 := z.rd h0_0
 have A0_1 := z.rd h0_1
 refine calls_of_TM (args := [(.agg #[(.int .i64 a0.Xid), (.int .i64 a0.Begun), (.int .i64 a0.Ended), (.bool a0.All), w0_0, w0_1, (.bool a0.In), (.bool a0.Out)]), (.int .i64 a1)]) (R := fun r en w' => ∃ v, en = .returned v ∧ laws_szTrack.Q s0.w F r v w') Tryz.func62 Tryz.ntmps62 rfl rfl m ?_
 unfold laws_szTrack.f
 refine sr ?_
 refine bx (cs := [(.int .i64 a0.Xid), (.int .i64 a0.Begun), (.int .i64 a0.Ended), (.bool a0.All), w0_0, w0_1, (.bool a0.In), (.bool a0.Out)]) 40 rfl rfl rfl rfl rfl rfl (fun b3 s3 p3 B3 => ?_)
 refine pu rfl rfl rfl rfl rfl ?_
 refine dn ?_
 refine sr ?_
 refine fa fa109_4 rfl rfl rfl rfl rfl rfl ?_
 refine ld B3 Tryz.underlying106 rfl rfl rfl rfl rfl rfl rfl rfl ?_
 refine pu rfl rfl rfl rfl rfl ?_
 have K5 := (kp0.st p3 rfl)
 have A6 := (A0_0.kp K5)
 refine cl rfl rfl rfl rfl rfl Tryz.func147 rfl rfl rfl (fun r7 m7 => laws_szSpanS.calls a0.Reads a1 s3.w (fun b => memb [0] (s3.g b) = true) w0_0 A6 r7 m7) ?_
 rintro r7 _ w7 m7 ⟨rfl, ky7⟩
 obtain ⟨s8, rfl, p8, n8⟩ := nwx s3 w7 41 ky7
 refine pu rfl rfl rfl rfl rfl ?_
 refine dn ?_
 refine sq ?_
 refine sr ?_
 refine pu rfl rfl rfl rfl rfl ?_
 refine pu rfl rfl rfl rfl rfl ?_
 refine dn ?_
 refine cd rfl (fun h9 => ?_) (fun h9 => ?_)
 ·
  refine sr ?_
  refine pu rfl rfl rfl rfl rfl ?_
  refine dn ?_
  have K10 := (K5.st p8 rfl)
  exact re rfl Tryz.func62 rfl (r_t rfl r_nil) rfl ⟨_, rfl, rfl, z.ky K10⟩
 ·
  refine sk ?_
  refine sr ?_
  refine fa fa109_5 rfl rfl rfl rfl rfl rfl ?_
  have A11 := (BlF.st B3 p8 rfl)
  refine ld A11 Tryz.underlying107 rfl rfl rfl rfl rfl rfl rfl rfl ?_
  refine pu rfl rfl rfl rfl rfl ?_
  have K12 := (K5.st p8 rfl)
  have A13 := (A0_1.kp K12)
  refine cl rfl rfl rfl rfl rfl Tryz.func148 rfl rfl rfl (fun r14 m14 => laws_szItemS.calls a0.Writes r7 s8.w (fun b => memb [0] (s8.g b) = true) w0_1 A13 r14 m14) ?_
  rintro r14 _ w14 m14 ⟨rfl, ky14⟩
  obtain ⟨s15, rfl, p15, n15⟩ := nwx s8 w14 42 ky14
  refine pu rfl rfl rfl rfl rfl ?_
  refine dn ?_
  refine sq ?_
  refine sr ?_
  refine pu rfl rfl rfl rfl rfl ?_
  refine pu rfl rfl rfl rfl rfl ?_
  refine dn ?_
  refine cd rfl (fun h16 => ?_) (fun h16 => ?_)
  ·
   refine sr ?_
   refine pu rfl rfl rfl rfl rfl ?_
   refine dn ?_
   have K17 := (K12.st p15 rfl)
   exact re rfl Tryz.func62 rfl (r_t rfl r_nil) rfl ⟨_, rfl, rfl, z.ky K17⟩
  ·
   refine sk ?_
   refine sr ?_
   refine pu rfl rfl rfl rfl rfl ?_
   refine pu rfl rfl rfl rfl rfl ?_
   refine dn ?_
   have K18 := (K12.st p15 rfl)
   exact re rfl Tryz.func62 rfl (r_t rfl r_nil) rfl ⟨_, rfl, rfl, z.ky K18⟩
noncomputable def laws_szTrackS.b0 (a0 : (List Track)) (x3 : Int × Int) : Option ((Int × Int) ⊕ Int) :=
 (if (decide (x3.2 < (a0.length : Int))) = true then (if 0 ≤ x3.2 ∧ x3.2 < (a0.length : Int) then ((laws_szTrack.f (at_ a0 x3.2) x3.1).bind fun r11 => (if (decide (r11 < (0 : Int))) = true then (some (Sum.inr (-1 : Int))) else (some (Sum.inl (r11, (IntKind.wrap .i64 (x3.2 + (1 : Int)))))))) else none) else ((some x3.1).bind fun o => some (Sum.inr o)))
noncomputable def laws_szTrackS.f (a0 : (List Track)) (a1 : Int) : Option (Int) :=
 (if (decide ((IntKind.wrap .i64 (a1 - (a0.length : Int))) < (0 : Int))) = true then (some (-1 : Int)) else (iter (laws_szTrackS.b0 a0) ((IntKind.wrap .i64 (a1 - (a0.length : Int))), (0 : Int))))
def laws_szTrackS.Q (w : World) (F : Nat → Prop) (r : Int) (v : Value) (w' : World) : Prop :=
 v = (.int .i64 r) ∧ Ky [] w w'
set_option maxHeartbeats 4000000 in
set_option maxRecDepth 100000 in
theorem laws_szTrackS.calls (a0 : (List Track)) (a1 : Int) (w : World) (F : Nat → Prop) (w0_0 : Value) (h0_0 : (Kd.sl 109 kd109).rd w [w0_0] a0 F) (r : Int) (m : laws_szTrackS.f a0 a1 = some r) :
  Calls Tryz.prog 10 #[w0_0, (.int .i64 a1)] w fun en w' => ∃ v, en = .returned v ∧ laws_szTrackS.Q w F r v w' := by
 obtain ⟨s0, rfl, kp0, z⟩ := start0 w F
 have A0_0 := z.rd h0_0
 refine calls_of_TM (args := [w0_0, (.int .i64 a1)]) (R := fun r en w' => ∃ v, en = .returned v ∧ laws_szTrackS.Q s0.w F r v w') Tryz.func10 Tryz.ntmps10 rfl rfl m ?_
 unfold laws_szTrackS.f
 refine sr ?_
 refine pu rfl rfl rfl rfl rfl ?_
 refine dn ?_
 refine sr ?_
 refine pu rfl rfl rfl rfl rfl ?_
 refine mv w0_0 rfl rfl rfl rfl rfl rfl ?_
 refine ln A0_0 Tryz.underlying22 rfl rfl rfl rfl rfl rfl ?_
 refine pu rfl rfl rfl rfl rfl ?_
 refine pu rfl rfl rfl rfl rfl ?_
 refine dn ?_
 refine sq ?_
 refine sr ?_
 refine pu rfl rfl rfl rfl rfl ?_
 refine pu rfl rfl rfl rfl rfl ?_
 refine dn ?_
 refine cd rfl (fun h2 => ?_) (fun h2 => ?_)
 ·
  refine sr ?_
  refine pu rfl rfl rfl rfl rfl ?_
  refine dn ?_
  exact re rfl Tryz.func10 rfl (r_t rfl r_nil) rfl ⟨_, rfl, rfl, z.ky kp0⟩
 ·
  refine sk ?_
  refine sq ?_
  refine sr ?_
  refine pu rfl rfl rfl rfl rfl ?_
  refine dn ?_
  refine bl ?_
  refine lpI (fun (x3 : Int × Int) (e : Env) (w : World) => ∃ (s : St) (e0 : Env), w = s.w ∧ e = upd (upd (upd e0 0 w0_0) 1 (.int .i64 x3.1)) 5 (.int .i64 x3.2) ∧ Kp s0 s) ⟨s0, _, rfl, (ue (ue (ue rfl rfl) rfl) rfl), kp0⟩ (fun g3 ih3 => ?_)
  rintro x3 _ _ ⟨s4, _, rfl, rfl, Kx3⟩
  unfold laws_szTrackS.b0
  refine sq ?_
  refine sr ?_
  refine pu rfl rfl rfl rfl rfl ?_
  refine mv w0_0 rfl rfl rfl rfl rfl rfl ?_
  have A5 := (A0_0.kp Kx3)
  refine ln A5 Tryz.underlying22 rfl rfl rfl rfl rfl rfl ?_
  refine pu rfl rfl rfl rfl rfl ?_
  refine dn ?_
  refine cd rfl (fun h6 => ?_) (fun h6 => ?_)
  ·
   refine sk ?_
   refine sq ?_
   refine bl ?_
   refine sr ?_
   refine mv w0_0 rfl rfl rfl rfl rfl rfl ?_
   refine pu rfl rfl rfl rfl rfl ?_
   refine ix A5 Tryz.underlying22 z109 rfl rfl rfl rfl rfl rfl rfl rfl (fun ad7 es7 h0_7 h1_7 he7 ce7 ia7 => ?_)
   obtain ⟨v7_0, v7_1, rfl, A7_0, A7_1⟩ := op109 he7
   refine lca ce7 Tryz.underlying109 z109 rfl rfl rfl rfl rfl rfl rfl ?_
   refine pu rfl rfl rfl rfl rfl ?_
   refine cl rfl rfl rfl rfl rfl Tryz.func62 rfl rfl rfl (fun r11 m11 => laws_szTrack.calls (at_ a0 x3.2) x3.1 s4.w (fun b => memb [0] (s4.g b) = true) v7_0 v7_1 A7_0 A7_1 r11 m11) ?_
   rintro r11 _ w11 m11 ⟨rfl, ky11⟩
   obtain ⟨s12, rfl, p12, n12⟩ := nwx s4 w11 40 ky11
   refine pu rfl rfl rfl rfl rfl ?_
   refine dn ?_
   refine sr ?_
   refine pu rfl rfl rfl rfl rfl ?_
   refine pu rfl rfl rfl rfl rfl ?_
   refine dn ?_
   refine cd rfl (fun h13 => ?_) (fun h13 => ?_)
   ·
    refine sr ?_
    refine pu rfl rfl rfl rfl rfl ?_
    refine dn ?_
    refine sgi ?_
    have K14 := (Kx3.st p12 rfl)
    exact re rfl Tryz.func10 rfl (r_t rfl r_nil) rfl ⟨_, rfl, rfl, z.ky K14⟩
   ·
    refine sk ?_
    refine ib ?_
    refine rg ?_
    refine pu rfl rfl rfl rfl rfl ?_
    refine pu rfl rfl rfl rfl rfl ?_
    refine pu rfl rfl rfl rfl rfl ?_
    refine dn ?_
    have K15 := (Kx3.st p12 rfl)
    exact lb ih3 ⟨s12, _, rfl, (ue (ue (ue rfl rfl) rfl) rfl), K15⟩
  ·
   refine xt rfl ?_
   refine sgb ?_
   refine sr ?_
   refine pu rfl rfl rfl rfl rfl ?_
   refine pu rfl rfl rfl rfl rfl ?_
   refine dn ?_
   exact re rfl Tryz.func10 rfl (r_t rfl r_nil) rfl ⟨_, rfl, rfl, z.ky Kx3⟩
noncomputable def laws_toByteS.b0 (a0 : (List Int)) (x4 : (List Int) × Int) : Option (((List Int) × Int) ⊕ (List Int)) :=
 (if (decide (x4.2 < (a0.length : Int))) = true then (if 0 ≤ x4.2 ∧ x4.2 < (a0.length : Int) then (if 0 ≤ x4.2 ∧ x4.2 < (x4.1.length : Int) then (some (Sum.inl ((x4.1.set (x4.2).toNat (at_ a0 x4.2)), (IntKind.wrap .i64 (x4.2 + (1 : Int)))))) else none) else none) else ((some x4.1).bind fun o => some (Sum.inr o)))
noncomputable def laws_toByteS.f (a0 : (List Int)) : Option ((List Int)) :=
 (if 0 ≤ (a0.length : Int) ∧ (a0.length : Int) ≤ (Lim : Int) then (iter (laws_toByteS.b0 a0) ((List.replicate ((a0.length : Int)).toNat (0 : Int)), (0 : Int))) else none)
def laws_toByteS.Q (w : World) (F : Nat → Prop) (r : (List Int)) (v : Value) (w' : World) : Prop :=
 FO (Kd.sl 5 (Kd.int .u8)) w w' [v] r ∧ Ky [] w w'
set_option maxHeartbeats 4000000 in
set_option maxRecDepth 100000 in
theorem laws_toByteS.calls (a0 : (List Int)) (w : World) (F : Nat → Prop) (w0_0 : Value) (h0_0 : (Kd.sl 5 (Kd.int .u8)).rd w [w0_0] a0 F) (r : (List Int)) (m : laws_toByteS.f a0 = some r) :
  Calls Tryz.prog 73 #[w0_0] w fun en w' => ∃ v, en = .returned v ∧ laws_toByteS.Q w F r v w' := by
 obtain ⟨s0, rfl, kp0, z⟩ := start0 w F
 have A0_0 := z.rd h0_0
 refine calls_of_TM (args := [w0_0]) (R := fun r en w' => ∃ v, en = .returned v ∧ laws_toByteS.Q s0.w F r v w') Tryz.func73 Tryz.ntmps73 rfl rfl m ?_
 unfold laws_toByteS.f
 refine sr ?_
 refine pu rfl rfl rfl rfl rfl ?_
 refine dn ?_
 refine sr ?_
 refine mv w0_0 rfl rfl rfl rfl rfl rfl ?_
 refine ln A0_0 Tryz.underlying24 rfl rfl rfl rfl rfl rfl ?_
 refine mk (x0 := (0 : Int)) (K := (Kd.int .u8)) 40 sl24 o5 (fun _ => ⟨rfl, rfl⟩) rfl rfl rfl rfl rfl rfl rfl (fun v2 s2 p2 A2 => ?_)
 refine asg v2 rfl rfl rfl rfl rfl rfl ?_
 refine dn ?_
 refine sq ?_
 refine sr ?_
 refine pu rfl rfl rfl rfl rfl ?_
 refine dn ?_
 refine bl ?_
 have K5 := (kp0.st p2 rfl)
 refine lpI (fun (x4 : (List Int) × Int) (e : Env) (w : World) => ∃ (s : St) (e0 : Env), w = s.w ∧ e = upd (upd (upd e0 0 w0_0) 3 v2) 4 (.int .i64 x4.2) ∧ Kp s0 s ∧ OwF (Kd.sl 5 (Kd.int .u8)) s [v2] x4.1 40) ⟨s2, _, rfl, (ue (ue (ue rfl rfl) rfl) rfl), K5, A2⟩ (fun g4 ih4 => ?_)
 rintro x4 _ _ ⟨s6, _, rfl, rfl, Kx4, Ax4_0⟩
 unfold laws_toByteS.b0
 refine sq ?_
 refine sr ?_
 refine pu rfl rfl rfl rfl rfl ?_
 refine mv w0_0 rfl rfl rfl rfl rfl rfl ?_
 have A8 := (A0_0.kp Kx4)
 refine ln A8 Tryz.underlying24 rfl rfl rfl rfl rfl rfl ?_
 refine pu rfl rfl rfl rfl rfl ?_
 refine dn ?_
 refine cd rfl (fun h9 => ?_) (fun h9 => ?_)
 ·
  refine sk ?_
  refine sq ?_
  refine bl ?_
  refine rg ?_
  refine mv v2 rfl rfl rfl rfl rfl rfl ?_
  refine pu rfl rfl rfl rfl rfl ?_
  refine mv w0_0 rfl rfl rfl rfl rfl rfl ?_
  refine pu rfl rfl rfl rfl rfl ?_
  refine ix A8 Tryz.underlying24 z5 rfl rfl rfl rfl rfl rfl rfl rfl (fun ad10 es10 h0_10 h1_10 he10 ce10 ia10 => ?_)
  obtain rfl := he10
  refine lc0 ce10 Tryz.underlying5 rfl rfl rfl rfl rfl rfl rfl rfl ?_
  refine ix Ax4_0.rd Tryz.underlying24 z5 rfl rfl rfl rfl rfl rfl rfl rfl (fun ad12 es12 h0_12 h1_12 he12 ce12 ia12 => ?_)
  obtain rfl := he12
  refine so (x' := (at_ a0 x4.2)) Ax4_0 ia12 h0_12 h1_12 cs_flat z5 rfl rfl rfl rfl rfl rfl (fun s14 p14 A14 => ?_)
  refine dn ?_
  refine ib ?_
  refine rg ?_
  refine pu rfl rfl rfl rfl rfl ?_
  refine pu rfl rfl rfl rfl rfl ?_
  refine pu rfl rfl rfl rfl rfl ?_
  refine dn ?_
  have K16 := (Kx4.st p14 rfl)
  exact lb ih4 ⟨s14, _, rfl, (ue (ue (ue rfl rfl) rfl) rfl), K16, A14⟩
 ·
  refine xt rfl ?_
  refine sgb ?_
  refine sr ?_
  refine mv v2 rfl rfl rfl rfl rfl rfl ?_
  refine asg v2 rfl rfl rfl rfl rfl rfl ?_
  refine dn ?_
  exact re rfl Tryz.func73 rfl (r_t rfl r_nil) rfl ⟨_, rfl, Ax4_0.fo Kx4 rfl z.l, z.ky Kx4⟩
noncomputable def laws_toItem.f (a0 : Item) : Option (Item) :=
 ((laws_toByteS.f a0.T).bind fun r20 => (some (Item.mk a0.Kind a0.N a0.F r20)))
def laws_toItem.Q (w : World) (F : Nat → Prop) (r : Item) (v : Value) (w' : World) : Prop :=
 ∃ (v0 : Value) (v1 : Value), v = (.agg #[(.int .i64 r.Kind), (.int .i64 r.N), v0, v1]) ∧ FO kd33 w w' [(.int .i64 r.Kind), (.int .i64 r.N), v0, v1] r ∧ Ky [] w w'
set_option maxHeartbeats 4000000 in
set_option maxRecDepth 100000 in
theorem laws_toItem.calls (a0 : Item) (w : World) (F : Nat → Prop) (w0_0 : Value) (w0_1 : Value) (h0_0 : Kd.flt.rd w [w0_0] a0.F F) (h0_1 : (Kd.sl 5 (Kd.int .u8)).rd w [w0_1] a0.T F) (r : Item) (m : laws_toItem.f a0 = some r) :
  Calls Tryz.prog 14 #[(.agg #[(.int .i64 a0.Kind), (.int .i64 a0.N), w0_0, w0_1])] w fun en w' => ∃ v, en = .returned v ∧ laws_toItem.Q w F r v w' := by
 obtain ⟨s0, rfl, kp0, z⟩ := start0 w F
 have A0_0 := fl_of h0_0
 have A0_1 := z.rd h0_1
 refine calls_of_TM (args := [(.agg #[(.int .i64 a0.Kind), (.int .i64 a0.N), w0_0, w0_1])]) (R := fun r en w' => ∃ v, en = .returned v ∧ laws_toItem.Q s0.w F r v w') Tryz.func14 Tryz.ntmps14 rfl rfl m ?_
 unfold laws_toItem.f
 refine sr ?_
 refine bx (cs := [(.int .i64 a0.Kind), (.int .i64 a0.N), w0_0, w0_1]) 40 rfl rfl rfl rfl rfl rfl (fun b2 s2 p2 B2 => ?_)
 refine al (cs := [(.int .i64 (0 : Int)), (.int .i64 (0 : Int)), (.float .f64 0), (.slice none 0 0)]) 41 rfl rfl rfl rfl rfl o33 rfl (fun b4 s4 p4 B4 => ?_)
 refine dn ?_
 refine sr ?_
 refine al (cs := [(.int .i64 (0 : Int)), (.int .i64 (0 : Int)), (.float .f64 0), (.slice none 0 0)]) 42 rfl rfl rfl rfl rfl o33 rfl (fun b6 s6 p6 B6 => ?_)
 refine dn ?_
 refine sr ?_
 refine fa fa26_0 rfl rfl rfl rfl rfl rfl ?_
 have A8 := (BlF.st (BlF.st B2 p4 rfl) p6 rfl)
 refine ld A8 Tryz.underlying3 rfl rfl rfl rfl rfl rfl rfl rfl ?_
 refine fa fa33_0 rfl rfl rfl rfl rfl rfl ?_
 refine sv B6 z3 rfl rfl rfl rfl rfl rfl rfl rfl (fun s9 p9 B9 => ?_)
 refine dn ?_
 refine sr ?_
 refine fa fa26_1 rfl rfl rfl rfl rfl rfl ?_
 have A11 := (BlF.st A8 p9 rfl)
 refine ld A11 Tryz.underlying3 rfl rfl rfl rfl rfl rfl rfl rfl ?_
 refine fa fa33_1 rfl rfl rfl rfl rfl rfl ?_
 refine sv B9 z3 rfl rfl rfl rfl rfl rfl rfl rfl (fun s12 p12 B12 => ?_)
 refine dn ?_
 refine sr ?_
 refine fa fa26_2 rfl rfl rfl rfl rfl rfl ?_
 have A14 := (BlF.st A11 p12 rfl)
 refine ld A14 Tryz.underlying23 rfl rfl rfl rfl rfl rfl rfl rfl ?_
 refine fa fa33_2 rfl rfl rfl rfl rfl rfl ?_
 refine sv B12 z23 rfl rfl rfl rfl rfl rfl (FL.one A0_0) rfl (fun s15 p15 B15 => ?_)
 refine dn ?_
 refine sr ?_
 refine fa fa26_3 rfl rfl rfl rfl rfl rfl ?_
 have A17 := (BlF.st A14 p15 rfl)
 refine ld A17 Tryz.underlying24 rfl rfl rfl rfl rfl rfl rfl rfl ?_
 have K18 := ((((((kp0.st p2 rfl).st p4 rfl).st p6 rfl).st p9 rfl).st p12 rfl).st p15 rfl)
 have A19 := (A0_1.kp K18)
 refine cl rfl rfl rfl rfl rfl Tryz.func73 rfl rfl rfl (fun r20 m20 => laws_toByteS.calls a0.T s15.w (fun b => memb [0] (s15.g b) = true) w0_1 A19 r20 m20) ?_
 rintro r20 v20_0 w20 m20 ⟨f20_0, ky20⟩
 obtain ⟨s21, rfl, p21, n21⟩ := nwx s15 w20 43 ky20
 have A20_0 := f20_0.c n21
 refine fa fa33_3 rfl rfl rfl rfl rfl rfl ?_
 have A23 := (BlF.st B15 p21 rfl)
 refine sv A23 z24 rfl rfl rfl rfl rfl rfl A20_0.rd.one rfl (fun s24 p24 B24 => ?_)
 refine dn ?_
 refine sr ?_
 refine lda (es := [(.int .i64 a0.Kind), (.int .i64 a0.N), w0_0, v20_0]) B24 Tryz.underlying33 z33 rfl rfl rfl rfl rfl rfl rfl rfl ?_
 have A26 := (BlF.st (BlF.st (BlF.st (BlF.st (BlF.st (BlF.st B4 p6 rfl) p9 rfl) p12 rfl) p15 rfl) p21 rfl) p24 rfl)
 have A27 := (A20_0.st p24 rfl)
 refine sva (vs := [(.int .i64 a0.Kind), (.int .i64 a0.N), w0_0, v20_0]) A26 z33 rfl rfl rfl rfl rfl rfl (on_cons rfl (on_cons rfl (on_cons (FL.one A0_0) (on_cons A27.rd.one on_nil)))) rfl (fun s28 p28 B28 => ?_)
 refine dn ?_
 have A31 := (A27.st p28 rfl)
 have A30 : OwF kd33 s28 [(.int .i64 a0.Kind), (.int .i64 a0.N), w0_0, v20_0] (Item.mk a0.Kind a0.N a0.F r20) 43 := (ow_isoz (fun x : Item => (x.Kind, x.N, x.F, x.T)) (Item.mk a0.Kind a0.N a0.F r20) (ow_l (fz_int .i64 a0.Kind) (ow_l (fz_int .i64 a0.N) (ow_l (fz_flt A0_0) A31))))
 have K33 := (((K18.st p21 rfl).st p24 rfl).st p28 rfl)
 exact re rfl Tryz.func14 rfl (r_b B28 Tryz.underlying33 rfl z33 rfl r_nil) rfl ⟨_, rfl, w0_0, v20_0, rfl, A30.fo K33 rfl z.l, z.ky K33⟩
noncomputable def laws_toSpan.f (a0 : Span) : Option (Span) :=
 ((laws_toItem.f a0.From).bind fun r12 => ((laws_toItem.f a0.To).bind fun r21 => (some (Span.mk r12 r21))))
def laws_toSpan.Q (w : World) (F : Nat → Prop) (r : Span) (v : Value) (w' : World) : Prop :=
 ∃ (v0 : Value) (v1 : Value) (v2 : Value) (v3 : Value), v = (.agg #[(.int .i64 r.From.Kind), (.int .i64 r.From.N), v0, v1, (.int .i64 r.To.Kind), (.int .i64 r.To.N), v2, v3]) ∧ FO kd200 w w' [(.int .i64 r.From.Kind), (.int .i64 r.From.N), v0, v1, (.int .i64 r.To.Kind), (.int .i64 r.To.N), v2, v3] r ∧ Ky [] w w'
set_option maxHeartbeats 4000000 in
set_option maxRecDepth 100000 in
theorem laws_toSpan.calls (a0 : Span) (w : World) (F : Nat → Prop) (w0_0 : Value) (w0_1 : Value) (w0_2 : Value) (w0_3 : Value) (h0_0 : Kd.flt.rd w [w0_0] a0.From.F F) (h0_1 : (Kd.sl 5 (Kd.int .u8)).rd w [w0_1] a0.From.T F) (h0_2 : Kd.flt.rd w [w0_2] a0.To.F F) (h0_3 : (Kd.sl 5 (Kd.int .u8)).rd w [w0_3] a0.To.T F) (r : Span) (m : laws_toSpan.f a0 = some r) :
  Calls Tryz.prog 244 #[(.agg #[(.int .i64 a0.From.Kind), (.int .i64 a0.From.N), w0_0, w0_1, (.int .i64 a0.To.Kind), (.int .i64 a0.To.N), w0_2, w0_3])] w fun en w' => ∃ v, en = .returned v ∧ laws_toSpan.Q w F r v w' := by
 obtain ⟨s0, rfl, kp0, z⟩ := start0 w F
 have A0_0 := fl_of h0_0
 have A0_1 := z.rd h0_1
 have A0_2 := fl_of h0_2
 have A0_3 := z.rd h0_3
 refine calls_of_TM (args := [(.agg #[(.int .i64 a0.From.Kind), (.int .i64 a0.From.N), w0_0, w0_1, (.int .i64 a0.To.Kind), (.int .i64 a0.To.N), w0_2, w0_3])]) (R := fun r en w' => ∃ v, en = .returned v ∧ laws_toSpan.Q s0.w F r v w') Tryz.func244 Tryz.ntmps244 rfl rfl m ?_
 unfold laws_toSpan.f
 refine sr ?_
 refine bx (cs := [(.int .i64 a0.From.Kind), (.int .i64 a0.From.N), w0_0, w0_1, (.int .i64 a0.To.Kind), (.int .i64 a0.To.N), w0_2, w0_3]) 40 rfl rfl rfl rfl rfl rfl (fun b3 s3 p3 B3 => ?_)
 refine al (cs := [(.int .i64 (0 : Int)), (.int .i64 (0 : Int)), (.float .f64 0), (.slice none 0 0), (.int .i64 (0 : Int)), (.int .i64 (0 : Int)), (.float .f64 0), (.slice none 0 0)]) 41 rfl rfl rfl rfl rfl o200 rfl (fun b5 s5 p5 B5 => ?_)
 refine dn ?_
 refine sr ?_
 refine al (cs := [(.int .i64 (0 : Int)), (.int .i64 (0 : Int)), (.float .f64 0), (.slice none 0 0), (.int .i64 (0 : Int)), (.int .i64 (0 : Int)), (.float .f64 0), (.slice none 0 0)]) 42 rfl rfl rfl rfl rfl o200 rfl (fun b7 s7 p7 B7 => ?_)
 refine dn ?_
 refine sr ?_
 refine fa fa282_0 rfl rfl rfl rfl rfl rfl ?_
 have A9 := (BlF.st (BlF.st B3 p5 rfl) p7 rfl)
 refine lda (es := [(.int .i64 a0.From.Kind), (.int .i64 a0.From.N), w0_0, w0_1]) A9 Tryz.underlying26 z26 rfl rfl rfl rfl rfl rfl rfl rfl ?_
 have K10 := (((kp0.st p3 rfl).st p5 rfl).st p7 rfl)
 have A11 := (A0_1.kp K10)
 refine cl rfl rfl rfl rfl rfl Tryz.func14 rfl rfl rfl (fun r12 m12 => laws_toItem.calls a0.From s7.w (fun b => memb [0] (s7.g b) = true) w0_0 w0_1 ((fl_rdf (s := s7) A0_0).sub (D := [0]) rfl) A11 r12 m12) ?_
 rintro r12 _ w12 m12 ⟨v12_0, v12_1, rfl, f12_0, ky12⟩
 obtain ⟨s13, rfl, p13, n13⟩ := nwx s7 w12 43 ky12
 have A12_0 := f12_0.c n13
 obtain ⟨os12_0, ho12_0, hn12_0, hc12_0⟩ := A12_0
 obtain ⟨u12_0_0, u12_0_1, qu12_0_1, e12_0, eo12_0, hu12_0_0, hu12_0_1⟩ := po33 ho12_0
 have yu12_0_0 : v12_0 = u12_0_0 := congrArg (fun l => (List.drop 2 l).headD undef) e12_0
 have yu12_0_1 : v12_1 = u12_0_1 := congrArg (fun l => (List.drop 3 l).headD undef) e12_0
 subst yu12_0_0
 subst yu12_0_1
 subst eo12_0
 have Au12_0_1 : OwF (Kd.sl 5 (Kd.int .u8)) s13 [v12_1] r12.T 43 := sp1 hu12_0_1 hn12_0 hc12_0
 refine fa fa200_0 rfl rfl rfl rfl rfl rfl ?_
 have A15 := (BlF.st B7 p13 rfl)
 refine sva (vs := [(.int .i64 r12.Kind), (.int .i64 r12.N), v12_0, v12_1]) A15 z33 rfl rfl rfl rfl rfl rfl (on_cons rfl (on_cons rfl (on_cons (FL.one hu12_0_0) (on_cons Au12_0_1.rd.one on_nil)))) rfl (fun s16 p16 B16 => ?_)
 refine dn ?_
 refine sr ?_
 refine fa fa282_1 rfl rfl rfl rfl rfl rfl ?_
 have A18 := (BlF.st (BlF.st A9 p13 rfl) p16 rfl)
 refine lda (es := [(.int .i64 a0.To.Kind), (.int .i64 a0.To.N), w0_2, w0_3]) A18 Tryz.underlying26 z26 rfl rfl rfl rfl rfl rfl rfl rfl ?_
 have K19 := ((K10.st p13 rfl).st p16 rfl)
 have A20 := (A0_3.kp K19)
 refine cl rfl rfl rfl rfl rfl Tryz.func14 rfl rfl rfl (fun r21 m21 => laws_toItem.calls a0.To s16.w (fun b => memb [0] (s16.g b) = true) w0_2 w0_3 ((fl_rdf (s := s16) A0_2).sub (D := [0]) rfl) A20 r21 m21) ?_
 rintro r21 _ w21 m21 ⟨v21_0, v21_1, rfl, f21_0, ky21⟩
 obtain ⟨s22, rfl, p22, n22⟩ := nwx s16 w21 44 ky21
 have A21_0 := f21_0.c n22
 obtain ⟨os21_0, ho21_0, hn21_0, hc21_0⟩ := A21_0
 obtain ⟨u21_0_0, u21_0_1, qu21_0_1, e21_0, eo21_0, hu21_0_0, hu21_0_1⟩ := po33 ho21_0
 have yu21_0_0 : v21_0 = u21_0_0 := congrArg (fun l => (List.drop 2 l).headD undef) e21_0
 have yu21_0_1 : v21_1 = u21_0_1 := congrArg (fun l => (List.drop 3 l).headD undef) e21_0
 subst yu21_0_0
 subst yu21_0_1
 subst eo21_0
 have Au21_0_1 : OwF (Kd.sl 5 (Kd.int .u8)) s22 [v21_1] r21.T 44 := sp1 hu21_0_1 hn21_0 hc21_0
 refine fa fa200_1 rfl rfl rfl rfl rfl rfl ?_
 have A24 := (BlF.st B16 p22 rfl)
 refine sva (vs := [(.int .i64 r21.Kind), (.int .i64 r21.N), v21_0, v21_1]) A24 z33 rfl rfl rfl rfl rfl rfl (on_cons rfl (on_cons rfl (on_cons (FL.one hu21_0_0) (on_cons Au21_0_1.rd.one on_nil)))) rfl (fun s25 p25 B25 => ?_)
 refine dn ?_
 refine sr ?_
 refine lda (es := [(.int .i64 r12.Kind), (.int .i64 r12.N), v12_0, v12_1, (.int .i64 r21.Kind), (.int .i64 r21.N), v21_0, v21_1]) B25 Tryz.underlying200 z200 rfl rfl rfl rfl rfl rfl rfl rfl ?_
 have A27 := (BlF.st (BlF.st (BlF.st (BlF.st (BlF.st B5 p7 rfl) p13 rfl) p16 rfl) p22 rfl) p25 rfl)
 have A28 := (Au21_0_1.st p25 rfl)
 have A29 := (((Au12_0_1.st p16 rfl).st p22 rfl).st p25 rfl)
 refine sva (vs := [(.int .i64 r12.Kind), (.int .i64 r12.N), v12_0, v12_1, (.int .i64 r21.Kind), (.int .i64 r21.N), v21_0, v21_1]) A27 z200 rfl rfl rfl rfl rfl rfl (on_cons rfl (on_cons rfl (on_cons (FL.one hu12_0_0) (on_cons A29.rd.one (on_cons rfl (on_cons rfl (on_cons (FL.one hu21_0_0) (on_cons A28.rd.one on_nil)))))))) rfl (fun s30 p30 B30 => ?_)
 refine dn ?_
 have A32 := (A29.st p30 rfl)
 have A33 := (A28.st p30 rfl)
 obtain ⟨s34, hw34, p34, A34⟩ := ow_2 (ow_isoz (fun x : Item => (x.Kind, x.N, x.F, x.T)) r12 (ow_l (fz_int .i64 r12.Kind) (ow_l (fz_int .i64 r12.N) (ow_l (fz_flt hu12_0_0) A32)))) (ow_isoz (fun x : Item => (x.Kind, x.N, x.F, x.T)) r21 (ow_l (fz_int .i64 r21.Kind) (ow_l (fz_int .i64 r21.N) (ow_l (fz_flt hu21_0_0) A33)))) rfl rfl
 rw [hw34]
 have A36 : OwF kd200 s34 [(.int .i64 r12.Kind), (.int .i64 r12.N), v12_0, v12_1, (.int .i64 r21.Kind), (.int .i64 r21.N), v21_0, v21_1] (Span.mk r12 r21) 43 := (ow_isoz (fun x : Span => (x.From, x.To)) (Span.mk r12 r21) A34)
 have A38 := (BlF.st B30 p34 rfl)
 have K39 := ((((K19.st p22 rfl).st p25 rfl).st p30 rfl).st p34 rfl)
 exact re rfl Tryz.func244 rfl (r_b A38 Tryz.underlying200 rfl z200 rfl r_nil) rfl ⟨_, rfl, v12_0, v12_1, v21_0, v21_1, rfl, A36.fo K39 rfl z.l, z.ky K39⟩
noncomputable def laws_toSpanS.b0 (a0 : (List Span)) (x4 : (List Span) × Int) : Option (((List Span) × Int) ⊕ (List Span)) :=
 (if (decide (x4.2 < (a0.length : Int))) = true then (if 0 ≤ x4.2 ∧ x4.2 < (a0.length : Int) then ((laws_toSpan.f (Span.mk ((at_ a0 x4.2).From) ((at_ a0 x4.2).To))).bind fun r14 => (if 0 ≤ x4.2 ∧ x4.2 < (x4.1.length : Int) then (some (Sum.inl ((x4.1.set (x4.2).toNat r14), (IntKind.wrap .i64 (x4.2 + (1 : Int)))))) else none)) else none) else ((some x4.1).bind fun o => some (Sum.inr o)))
noncomputable def laws_toSpanS.f (a0 : (List Span)) : Option ((List Span)) :=
 (if 0 ≤ (a0.length : Int) ∧ (a0.length : Int) ≤ (Lim : Int) then (iter (laws_toSpanS.b0 a0) ((List.replicate ((a0.length : Int)).toNat (Span.mk (Item.mk (0 : Int) (0 : Int) (0 : Nat) ([] : (List Int))) (Item.mk (0 : Int) (0 : Int) (0 : Nat) ([] : (List Int))))), (0 : Int))) else none)
def laws_toSpanS.Q (w : World) (F : Nat → Prop) (r : (List Span)) (v : Value) (w' : World) : Prop :=
 FO (Kd.sl 200 kd200) w w' [v] r ∧ Ky [] w w'
set_option maxHeartbeats 4000000 in
set_option maxRecDepth 100000 in
theorem laws_toSpanS.calls (a0 : (List Span)) (w : World) (F : Nat → Prop) (w0_0 : Value) (h0_0 : (Kd.sl 282 kd282).rd w [w0_0] a0 F) (r : (List Span)) (m : laws_toSpanS.f a0 = some r) :
  Calls Tryz.prog 156 #[w0_0] w fun en w' => ∃ v, en = .returned v ∧ laws_toSpanS.Q w F r v w' := by
 obtain ⟨s0, rfl, kp0, z⟩ := start0 w F
 have A0_0 := z.rd h0_0
 refine calls_of_TM (args := [w0_0]) (R := fun r en w' => ∃ v, en = .returned v ∧ laws_toSpanS.Q s0.w F r v w') Tryz.func156 Tryz.ntmps156 rfl rfl m ?_
 unfold laws_toSpanS.f
 refine sr ?_
 refine pu rfl rfl rfl rfl rfl ?_
 refine dn ?_
 refine sr ?_
 refine mv w0_0 rfl rfl rfl rfl rfl rfl ?_
 refine ln A0_0 Tryz.underlying106 rfl rfl rfl rfl rfl rfl ?_
 refine mk (x0 := (Span.mk (Item.mk (0 : Int) (0 : Int) (0 : Nat) ([] : (List Int))) (Item.mk (0 : Int) (0 : Int) (0 : Nat) ([] : (List Int))))) (K := kd200) 40 sl114 o200 (fun _ => ⟨_, _, [], [], rfl, rfl, ⟨_, _, [], [], rfl, rfl, ⟨rfl, rfl⟩, ⟨_, _, [], [], rfl, rfl, ⟨rfl, rfl⟩, ⟨_, _, [], [], rfl, rfl, ⟨⟨_, rfl, fl_c rfl⟩, rfl⟩, ⟨_, rfl, [], [], [], rfl, ⟨by simp, .inl ⟨rfl, rfl, rfl⟩⟩, ⟨rfl, rfl⟩⟩⟩⟩⟩, ⟨_, _, [], [], rfl, rfl, ⟨rfl, rfl⟩, ⟨_, _, [], [], rfl, rfl, ⟨rfl, rfl⟩, ⟨_, _, [], [], rfl, rfl, ⟨⟨_, rfl, fl_c rfl⟩, rfl⟩, ⟨_, rfl, [], [], [], rfl, ⟨by simp, .inl ⟨rfl, rfl, rfl⟩⟩, ⟨rfl, rfl⟩⟩⟩⟩⟩⟩) rfl rfl rfl rfl rfl rfl rfl (fun v2 s2 p2 A2 => ?_)
 refine asg v2 rfl rfl rfl rfl rfl rfl ?_
 refine dn ?_
 refine sq ?_
 refine sr ?_
 refine pu rfl rfl rfl rfl rfl ?_
 refine dn ?_
 refine bl ?_
 have K5 := (kp0.st p2 rfl)
 refine lpI (fun (x4 : (List Span) × Int) (e : Env) (w : World) => ∃ (s : St) (e0 : Env), w = s.w ∧ e = upd (upd (upd e0 0 w0_0) 3 v2) 4 (.int .i64 x4.2) ∧ Kp s0 s ∧ OwF (Kd.sl 200 kd200) s [v2] x4.1 40) ⟨s2, _, rfl, (ue (ue (ue rfl rfl) rfl) rfl), K5, A2⟩ (fun g4 ih4 => ?_)
 rintro x4 _ _ ⟨s6, _, rfl, rfl, Kx4, Ax4_0⟩
 unfold laws_toSpanS.b0
 refine sq ?_
 refine sr ?_
 refine pu rfl rfl rfl rfl rfl ?_
 refine mv w0_0 rfl rfl rfl rfl rfl rfl ?_
 have A8 := (A0_0.kp Kx4)
 refine ln A8 Tryz.underlying106 rfl rfl rfl rfl rfl rfl ?_
 refine pu rfl rfl rfl rfl rfl ?_
 refine dn ?_
 refine cd rfl (fun h9 => ?_) (fun h9 => ?_)
 ·
  refine sk ?_
  refine sq ?_
  refine bl ?_
  refine rg ?_
  refine mv v2 rfl rfl rfl rfl rfl rfl ?_
  refine pu rfl rfl rfl rfl rfl ?_
  refine mv w0_0 rfl rfl rfl rfl rfl rfl ?_
  refine pu rfl rfl rfl rfl rfl ?_
  refine ix A8 Tryz.underlying106 z282 rfl rfl rfl rfl rfl rfl rfl rfl (fun ad10 es10 h0_10 h1_10 he10 ce10 ia10 => ?_)
  obtain ⟨v10_0, v10_1, v10_2, v10_3, rfl, A10_0, A10_1, A10_2, A10_3⟩ := op282 he10
  refine lca ce10 Tryz.underlying282 z282 rfl rfl rfl rfl rfl rfl rfl ?_
  refine cl rfl rfl rfl rfl rfl Tryz.func244 rfl rfl rfl (fun r14 m14 => laws_toSpan.calls (Span.mk ((at_ a0 x4.2).From) ((at_ a0 x4.2).To)) s6.w (fun b => memb [0] (s6.g b) = true) v10_0 v10_1 v10_2 v10_3 ((fl_rdf (s := s6) A10_0).sub (D := [0]) rfl) A10_1 ((fl_rdf (s := s6) A10_2).sub (D := [0]) rfl) A10_3 r14 m14) ?_
  rintro r14 _ w14 m14 ⟨v14_0, v14_1, v14_2, v14_3, rfl, f14_0, ky14⟩
  obtain ⟨s15, rfl, p15, n15⟩ := nwx s6 w14 41 ky14
  have A14_0 := f14_0.c n15
  obtain ⟨os14_0, ho14_0, hn14_0, hc14_0⟩ := A14_0
  obtain ⟨u14_0_0, u14_0_1, u14_0_2, u14_0_3, qu14_0_1, qu14_0_3, e14_0, eo14_0, hu14_0_0, hu14_0_1, hu14_0_2, hu14_0_3⟩ := po200 ho14_0
  have yu14_0_0 : v14_0 = u14_0_0 := congrArg (fun l => (List.drop 2 l).headD undef) e14_0
  have yu14_0_1 : v14_1 = u14_0_1 := congrArg (fun l => (List.drop 3 l).headD undef) e14_0
  have yu14_0_2 : v14_2 = u14_0_2 := congrArg (fun l => (List.drop 6 l).headD undef) e14_0
  have yu14_0_3 : v14_3 = u14_0_3 := congrArg (fun l => (List.drop 7 l).headD undef) e14_0
  subst yu14_0_0
  subst yu14_0_1
  subst yu14_0_2
  subst yu14_0_3
  subst eo14_0
  obtain ⟨s16, hw16, p16, Au14_0_1, hn16, hc16⟩ := sp2 42 hu14_0_1 hn14_0 hc14_0 rfl
  rw [hw16]
  have Au14_0_3 : OwF (Kd.sl 5 (Kd.int .u8)) s16 [v14_3] r14.To.T 42 := sp1 (hw16 ▸ hu14_0_3) hn16 hc16
  have A19 := ((Ax4_0.st p15 rfl).st p16 rfl)
  refine ix A19.rd Tryz.underlying114 z200 rfl rfl rfl rfl rfl rfl rfl rfl (fun ad20 es20 h0_20 h1_20 he20 ce20 ia20 => ?_)
  obtain ⟨v20_0, v20_1, v20_2, v20_3, rfl, A20_0, A20_1, A20_2, A20_3⟩ := op200 he20
  obtain ⟨s24, hw24, p24, A24⟩ := ow_2 (ow_isoz (fun x : Item => (x.Kind, x.N, x.F, x.T)) r14.From (ow_l (fz_int .i64 r14.From.Kind) (ow_l (fz_int .i64 r14.From.N) (ow_l (fz_flt hu14_0_0) Au14_0_1)))) (ow_isoz (fun x : Item => (x.Kind, x.N, x.F, x.T)) r14.To (ow_l (fz_int .i64 r14.To.Kind) (ow_l (fz_int .i64 r14.To.N) (ow_l (fz_flt hu14_0_2) Au14_0_3)))) rfl rfl
  rw [hw24]
  have A26 : OwF kd200 s24 [(.int .i64 r14.From.Kind), (.int .i64 r14.From.N), v14_0, v14_1, (.int .i64 r14.To.Kind), (.int .i64 r14.To.N), v14_2, v14_3] r14 41 := (ow_isoz (fun x : Span => (x.From, x.To)) r14 A24)
  have A28 := (A19.st p24 rfl)
  refine som (x' := r14) A28 ia20 h0_20 h1_20 A26 rfl rfl z200 rfl rfl rfl rfl rfl rfl (fun s29 p29 A29 => ?_)
  refine dn ?_
  refine ib ?_
  refine rg ?_
  refine pu rfl rfl rfl rfl rfl ?_
  refine pu rfl rfl rfl rfl rfl ?_
  refine pu rfl rfl rfl rfl rfl ?_
  refine dn ?_
  have K31 := ((((Kx4.st p15 rfl).st p16 rfl).st p24 rfl).st p29 rfl)
  exact lb ih4 ⟨s29, _, rfl, (ue (ue (ue rfl rfl) rfl) rfl), K31, A29⟩
 ·
  refine xt rfl ?_
  refine sgb ?_
  refine sr ?_
  refine mv v2 rfl rfl rfl rfl rfl rfl ?_
  refine asg v2 rfl rfl rfl rfl rfl rfl ?_
  refine dn ?_
  exact re rfl Tryz.func156 rfl (r_t rfl r_nil) rfl ⟨_, rfl, Ax4_0.fo Kx4 rfl z.l, z.ky Kx4⟩
noncomputable def laws_toItemS.b0 (a0 : (List Item)) (x4 : (List Item) × Int) : Option (((List Item) × Int) ⊕ (List Item)) :=
 (if (decide (x4.2 < (a0.length : Int))) = true then (if 0 ≤ x4.2 ∧ x4.2 < (a0.length : Int) then ((laws_toItem.f (at_ a0 x4.2)).bind fun r13 => (if 0 ≤ x4.2 ∧ x4.2 < (x4.1.length : Int) then (some (Sum.inl ((x4.1.set (x4.2).toNat r13), (IntKind.wrap .i64 (x4.2 + (1 : Int)))))) else none)) else none) else ((some x4.1).bind fun o => some (Sum.inr o)))
noncomputable def laws_toItemS.f (a0 : (List Item)) : Option ((List Item)) :=
 (if 0 ≤ (a0.length : Int) ∧ (a0.length : Int) ≤ (Lim : Int) then (iter (laws_toItemS.b0 a0) ((List.replicate ((a0.length : Int)).toNat (Item.mk (0 : Int) (0 : Int) (0 : Nat) ([] : (List Int)))), (0 : Int))) else none)
def laws_toItemS.Q (w : World) (F : Nat → Prop) (r : (List Item)) (v : Value) (w' : World) : Prop :=
 FO (Kd.sl 33 kd33) w w' [v] r ∧ Ky [] w w'
set_option maxHeartbeats 4000000 in
set_option maxRecDepth 100000 in
theorem laws_toItemS.calls (a0 : (List Item)) (w : World) (F : Nat → Prop) (w0_0 : Value) (h0_0 : (Kd.sl 26 kd26).rd w [w0_0] a0 F) (r : (List Item)) (m : laws_toItemS.f a0 = some r) :
  Calls Tryz.prog 157 #[w0_0] w fun en w' => ∃ v, en = .returned v ∧ laws_toItemS.Q w F r v w' := by
 obtain ⟨s0, rfl, kp0, z⟩ := start0 w F
 have A0_0 := z.rd h0_0
 refine calls_of_TM (args := [w0_0]) (R := fun r en w' => ∃ v, en = .returned v ∧ laws_toItemS.Q s0.w F r v w') Tryz.func157 Tryz.ntmps157 rfl rfl m ?_
 unfold laws_toItemS.f
 refine sr ?_
 refine pu rfl rfl rfl rfl rfl ?_
 refine dn ?_
 refine sr ?_
 refine mv w0_0 rfl rfl rfl rfl rfl rfl ?_
 refine ln A0_0 Tryz.underlying107 rfl rfl rfl rfl rfl rfl ?_
 refine mk (x0 := (Item.mk (0 : Int) (0 : Int) (0 : Nat) ([] : (List Int)))) (K := kd33) 40 sl115 o33 (fun _ => ⟨_, _, [], [], rfl, rfl, ⟨rfl, rfl⟩, ⟨_, _, [], [], rfl, rfl, ⟨rfl, rfl⟩, ⟨_, _, [], [], rfl, rfl, ⟨⟨_, rfl, fl_c rfl⟩, rfl⟩, ⟨_, rfl, [], [], [], rfl, ⟨by simp, .inl ⟨rfl, rfl, rfl⟩⟩, ⟨rfl, rfl⟩⟩⟩⟩⟩) rfl rfl rfl rfl rfl rfl rfl (fun v2 s2 p2 A2 => ?_)
 refine asg v2 rfl rfl rfl rfl rfl rfl ?_
 refine dn ?_
 refine sq ?_
 refine sr ?_
 refine pu rfl rfl rfl rfl rfl ?_
 refine dn ?_
 refine bl ?_
 have K5 := (kp0.st p2 rfl)
 refine lpI (fun (x4 : (List Item) × Int) (e : Env) (w : World) => ∃ (s : St) (e0 : Env), w = s.w ∧ e = upd (upd (upd e0 0 w0_0) 3 v2) 4 (.int .i64 x4.2) ∧ Kp s0 s ∧ OwF (Kd.sl 33 kd33) s [v2] x4.1 40) ⟨s2, _, rfl, (ue (ue (ue rfl rfl) rfl) rfl), K5, A2⟩ (fun g4 ih4 => ?_)
 rintro x4 _ _ ⟨s6, _, rfl, rfl, Kx4, Ax4_0⟩
 unfold laws_toItemS.b0
 refine sq ?_
 refine sr ?_
 refine pu rfl rfl rfl rfl rfl ?_
 refine mv w0_0 rfl rfl rfl rfl rfl rfl ?_
 have A8 := (A0_0.kp Kx4)
 refine ln A8 Tryz.underlying107 rfl rfl rfl rfl rfl rfl ?_
 refine pu rfl rfl rfl rfl rfl ?_
 refine dn ?_
 refine cd rfl (fun h9 => ?_) (fun h9 => ?_)
 ·
  refine sk ?_
  refine sq ?_
  refine bl ?_
  refine rg ?_
  refine mv v2 rfl rfl rfl rfl rfl rfl ?_
  refine pu rfl rfl rfl rfl rfl ?_
  refine mv w0_0 rfl rfl rfl rfl rfl rfl ?_
  refine pu rfl rfl rfl rfl rfl ?_
  refine ix A8 Tryz.underlying107 z26 rfl rfl rfl rfl rfl rfl rfl rfl (fun ad10 es10 h0_10 h1_10 he10 ce10 ia10 => ?_)
  obtain ⟨v10_0, v10_1, rfl, A10_0, A10_1⟩ := op26 he10
  refine lca ce10 Tryz.underlying26 z26 rfl rfl rfl rfl rfl rfl rfl ?_
  refine cl rfl rfl rfl rfl rfl Tryz.func14 rfl rfl rfl (fun r13 m13 => laws_toItem.calls (at_ a0 x4.2) s6.w (fun b => memb [0] (s6.g b) = true) v10_0 v10_1 ((fl_rdf (s := s6) A10_0).sub (D := [0]) rfl) A10_1 r13 m13) ?_
  rintro r13 _ w13 m13 ⟨v13_0, v13_1, rfl, f13_0, ky13⟩
  obtain ⟨s14, rfl, p14, n14⟩ := nwx s6 w13 41 ky13
  have A13_0 := f13_0.c n14
  obtain ⟨os13_0, ho13_0, hn13_0, hc13_0⟩ := A13_0
  obtain ⟨u13_0_0, u13_0_1, qu13_0_1, e13_0, eo13_0, hu13_0_0, hu13_0_1⟩ := po33 ho13_0
  have yu13_0_0 : v13_0 = u13_0_0 := congrArg (fun l => (List.drop 2 l).headD undef) e13_0
  have yu13_0_1 : v13_1 = u13_0_1 := congrArg (fun l => (List.drop 3 l).headD undef) e13_0
  subst yu13_0_0
  subst yu13_0_1
  subst eo13_0
  have Au13_0_1 : OwF (Kd.sl 5 (Kd.int .u8)) s14 [v13_1] r13.T 41 := sp1 hu13_0_1 hn13_0 hc13_0
  have A16 := (Ax4_0.st p14 rfl)
  refine ix A16.rd Tryz.underlying115 z33 rfl rfl rfl rfl rfl rfl rfl rfl (fun ad17 es17 h0_17 h1_17 he17 ce17 ia17 => ?_)
  obtain ⟨v17_0, v17_1, rfl, A17_0, A17_1⟩ := op33 he17
  have A20 : OwF kd33 s14 [(.int .i64 r13.Kind), (.int .i64 r13.N), v13_0, v13_1] r13 41 := (ow_isoz (fun x : Item => (x.Kind, x.N, x.F, x.T)) r13 (ow_l (fz_int .i64 r13.Kind) (ow_l (fz_int .i64 r13.N) (ow_l (fz_flt hu13_0_0) Au13_0_1))))
  refine som (x' := r13) A16 ia17 h0_17 h1_17 A20 rfl rfl z33 rfl rfl rfl rfl rfl rfl (fun s22 p22 A22 => ?_)
  refine dn ?_
  refine ib ?_
  refine rg ?_
  refine pu rfl rfl rfl rfl rfl ?_
  refine pu rfl rfl rfl rfl rfl ?_
  refine pu rfl rfl rfl rfl rfl ?_
  refine dn ?_
  have K24 := ((Kx4.st p14 rfl).st p22 rfl)
  exact lb ih4 ⟨s22, _, rfl, (ue (ue (ue rfl rfl) rfl) rfl), K24, A22⟩
 ·
  refine xt rfl ?_
  refine sgb ?_
  refine sr ?_
  refine mv v2 rfl rfl rfl rfl rfl rfl ?_
  refine asg v2 rfl rfl rfl rfl rfl rfl ?_
  refine dn ?_
  exact re rfl Tryz.func157 rfl (r_t rfl r_nil) rfl ⟨_, rfl, Ax4_0.fo Kx4 rfl z.l, z.ky Kx4⟩
noncomputable def laws_toTrack.f (a0 : Track) : Option (Track) :=
 ((laws_toSpanS.f a0.Reads).bind fun r24 => ((laws_toItemS.f a0.Writes).bind fun r33 => (some (Track.mk a0.Xid a0.Begun a0.Ended a0.All r24 r33 a0.In a0.Out))))
def laws_toTrack.Q (w : World) (F : Nat → Prop) (r : Track) (v : Value) (w' : World) : Prop :=
 ∃ (v0 : Value) (v1 : Value), v = (.agg #[(.int .i64 r.Xid), (.int .i64 r.Begun), (.int .i64 r.Ended), (.bool r.All), v0, v1, (.bool r.In), (.bool r.Out)]) ∧ FO kd117 w w' [(.int .i64 r.Xid), (.int .i64 r.Begun), (.int .i64 r.Ended), (.bool r.All), v0, v1, (.bool r.In), (.bool r.Out)] r ∧ Ky [] w w'
set_option maxHeartbeats 4000000 in
set_option maxRecDepth 100000 in
theorem laws_toTrack.calls (a0 : Track) (w : World) (F : Nat → Prop) (w0_0 : Value) (w0_1 : Value) (h0_0 : (Kd.sl 282 kd282).rd w [w0_0] a0.Reads F) (h0_1 : (Kd.sl 26 kd26).rd w [w0_1] a0.Writes F) (r : Track) (m : laws_toTrack.f a0 = some r) :
  Calls Tryz.prog 72 #[(.agg #[(.int .i64 a0.Xid), (.int .i64 a0.Begun), (.int .i64 a0.Ended), (.bool a0.All), w0_0, w0_1, (.bool a0.In), (.bool a0.Out)])] w fun en w' => ∃ v, en = .returned v ∧ laws_toTrack.Q w F r v w' := by
 obtain ⟨s0, rfl, kp0, z⟩ := start0 w F
 have A0_0 := z.rd h0_0
 have A0_1 := z.rd h0_1
 refine calls_of_TM (args := [(.agg #[(.int .i64 a0.Xid), (.int .i64 a0.Begun), (.int .i64 a0.Ended), (.bool a0.All), w0_0, w0_1, (.bool a0.In), (.bool a0.Out)])]) (R := fun r en w' => ∃ v, en = .returned v ∧ laws_toTrack.Q s0.w F r v w') Tryz.func72 Tryz.ntmps72 rfl rfl m ?_
 unfold laws_toTrack.f
 refine sr ?_
 refine bx (cs := [(.int .i64 a0.Xid), (.int .i64 a0.Begun), (.int .i64 a0.Ended), (.bool a0.All), w0_0, w0_1, (.bool a0.In), (.bool a0.Out)]) 40 rfl rfl rfl rfl rfl rfl (fun b3 s3 p3 B3 => ?_)
 refine al (cs := [(.int .i64 (0 : Int)), (.int .i64 (0 : Int)), (.int .i64 (0 : Int)), (.bool false), (.slice none 0 0), (.slice none 0 0), (.bool false), (.bool false)]) 41 rfl rfl rfl rfl rfl o117 rfl (fun b5 s5 p5 B5 => ?_)
 refine dn ?_
 refine sr ?_
 refine al (cs := [(.int .i64 (0 : Int)), (.int .i64 (0 : Int)), (.int .i64 (0 : Int)), (.bool false), (.slice none 0 0), (.slice none 0 0), (.bool false), (.bool false)]) 42 rfl rfl rfl rfl rfl o117 rfl (fun b7 s7 p7 B7 => ?_)
 refine dn ?_
 refine sr ?_
 refine fa fa109_0 rfl rfl rfl rfl rfl rfl ?_
 have A9 := (BlF.st (BlF.st B3 p5 rfl) p7 rfl)
 refine ld A9 Tryz.underlying3 rfl rfl rfl rfl rfl rfl rfl rfl ?_
 refine fa fa117_0 rfl rfl rfl rfl rfl rfl ?_
 refine sv B7 z3 rfl rfl rfl rfl rfl rfl rfl rfl (fun s10 p10 B10 => ?_)
 refine dn ?_
 refine sr ?_
 refine fa fa109_1 rfl rfl rfl rfl rfl rfl ?_
 have A12 := (BlF.st A9 p10 rfl)
 refine ld A12 Tryz.underlying3 rfl rfl rfl rfl rfl rfl rfl rfl ?_
 refine fa fa117_1 rfl rfl rfl rfl rfl rfl ?_
 refine sv B10 z3 rfl rfl rfl rfl rfl rfl rfl rfl (fun s13 p13 B13 => ?_)
 refine dn ?_
 refine sr ?_
 refine fa fa109_2 rfl rfl rfl rfl rfl rfl ?_
 have A15 := (BlF.st A12 p13 rfl)
 refine ld A15 Tryz.underlying3 rfl rfl rfl rfl rfl rfl rfl rfl ?_
 refine fa fa117_2 rfl rfl rfl rfl rfl rfl ?_
 refine sv B13 z3 rfl rfl rfl rfl rfl rfl rfl rfl (fun s16 p16 B16 => ?_)
 refine dn ?_
 refine sr ?_
 refine fa fa109_3 rfl rfl rfl rfl rfl rfl ?_
 have A18 := (BlF.st A15 p16 rfl)
 refine ld A18 Tryz.underlying4 rfl rfl rfl rfl rfl rfl rfl rfl ?_
 refine fa fa117_3 rfl rfl rfl rfl rfl rfl ?_
 refine sv B16 z4 rfl rfl rfl rfl rfl rfl rfl rfl (fun s19 p19 B19 => ?_)
 refine dn ?_
 refine sr ?_
 refine fa fa109_4 rfl rfl rfl rfl rfl rfl ?_
 have A21 := (BlF.st A18 p19 rfl)
 refine ld A21 Tryz.underlying106 rfl rfl rfl rfl rfl rfl rfl rfl ?_
 have K22 := (((((((kp0.st p3 rfl).st p5 rfl).st p7 rfl).st p10 rfl).st p13 rfl).st p16 rfl).st p19 rfl)
 have A23 := (A0_0.kp K22)
 refine cl rfl rfl rfl rfl rfl Tryz.func156 rfl rfl rfl (fun r24 m24 => laws_toSpanS.calls a0.Reads s19.w (fun b => memb [0] (s19.g b) = true) w0_0 A23 r24 m24) ?_
 rintro r24 v24_0 w24 m24 ⟨f24_0, ky24⟩
 obtain ⟨s25, rfl, p25, n25⟩ := nwx s19 w24 43 ky24
 have A24_0 := f24_0.c n25
 refine fa fa117_4 rfl rfl rfl rfl rfl rfl ?_
 have A27 := (BlF.st B19 p25 rfl)
 refine sv A27 z114 rfl rfl rfl rfl rfl rfl A24_0.rd.one rfl (fun s28 p28 B28 => ?_)
 refine dn ?_
 refine sr ?_
 refine fa fa109_5 rfl rfl rfl rfl rfl rfl ?_
 have A30 := (BlF.st (BlF.st A21 p25 rfl) p28 rfl)
 refine ld A30 Tryz.underlying107 rfl rfl rfl rfl rfl rfl rfl rfl ?_
 have K31 := ((K22.st p25 rfl).st p28 rfl)
 have A32 := (A0_1.kp K31)
 refine cl rfl rfl rfl rfl rfl Tryz.func157 rfl rfl rfl (fun r33 m33 => laws_toItemS.calls a0.Writes s28.w (fun b => memb [0] (s28.g b) = true) w0_1 A32 r33 m33) ?_
 rintro r33 v33_0 w33 m33 ⟨f33_0, ky33⟩
 obtain ⟨s34, rfl, p34, n34⟩ := nwx s28 w33 44 ky33
 have A33_0 := f33_0.c n34
 refine fa fa117_5 rfl rfl rfl rfl rfl rfl ?_
 have A36 := (BlF.st B28 p34 rfl)
 refine sv A36 z115 rfl rfl rfl rfl rfl rfl A33_0.rd.one rfl (fun s37 p37 B37 => ?_)
 refine dn ?_
 refine sr ?_
 refine fa fa109_6 rfl rfl rfl rfl rfl rfl ?_
 have A39 := (BlF.st (BlF.st A30 p34 rfl) p37 rfl)
 refine ld A39 Tryz.underlying4 rfl rfl rfl rfl rfl rfl rfl rfl ?_
 refine fa fa117_6 rfl rfl rfl rfl rfl rfl ?_
 refine sv B37 z4 rfl rfl rfl rfl rfl rfl rfl rfl (fun s40 p40 B40 => ?_)
 refine dn ?_
 refine sr ?_
 refine fa fa109_7 rfl rfl rfl rfl rfl rfl ?_
 have A42 := (BlF.st A39 p40 rfl)
 refine ld A42 Tryz.underlying4 rfl rfl rfl rfl rfl rfl rfl rfl ?_
 refine fa fa117_7 rfl rfl rfl rfl rfl rfl ?_
 refine sv B40 z4 rfl rfl rfl rfl rfl rfl rfl rfl (fun s43 p43 B43 => ?_)
 refine dn ?_
 refine sr ?_
 refine lda (es := [(.int .i64 a0.Xid), (.int .i64 a0.Begun), (.int .i64 a0.Ended), (.bool a0.All), v24_0, v33_0, (.bool a0.In), (.bool a0.Out)]) B43 Tryz.underlying117 z117 rfl rfl rfl rfl rfl rfl rfl rfl ?_
 have A45 := (BlF.st (BlF.st (BlF.st (BlF.st (BlF.st (BlF.st (BlF.st (BlF.st (BlF.st (BlF.st (BlF.st B5 p7 rfl) p10 rfl) p13 rfl) p16 rfl) p19 rfl) p25 rfl) p28 rfl) p34 rfl) p37 rfl) p40 rfl) p43 rfl)
 have A46 := (((A33_0.st p37 rfl).st p40 rfl).st p43 rfl)
 have A47 := (((((A24_0.st p28 rfl).st p34 rfl).st p37 rfl).st p40 rfl).st p43 rfl)
 refine sva (vs := [(.int .i64 a0.Xid), (.int .i64 a0.Begun), (.int .i64 a0.Ended), (.bool a0.All), v24_0, v33_0, (.bool a0.In), (.bool a0.Out)]) A45 z117 rfl rfl rfl rfl rfl rfl (on_cons rfl (on_cons rfl (on_cons rfl (on_cons rfl (on_cons A47.rd.one (on_cons A46.rd.one (on_cons rfl (on_cons rfl on_nil)))))))) rfl (fun s48 p48 B48 => ?_)
 refine dn ?_
 have A50 := (A47.st p48 rfl)
 have A51 := (A46.st p48 rfl)
 obtain ⟨s52, hw52, p52, A52⟩ := ow_2 A50 (ow_r A51 (fz_pair (fz_bool a0.In) (fz_bool a0.Out))) rfl rfl
 rw [hw52]
 have A54 : OwF kd117 s52 [(.int .i64 a0.Xid), (.int .i64 a0.Begun), (.int .i64 a0.Ended), (.bool a0.All), v24_0, v33_0, (.bool a0.In), (.bool a0.Out)] (Track.mk a0.Xid a0.Begun a0.Ended a0.All r24 r33 a0.In a0.Out) 43 := (ow_isoz (fun x : Track => (x.Xid, x.Begun, x.Ended, x.All, x.Reads, x.Writes, x.In, x.Out)) (Track.mk a0.Xid a0.Begun a0.Ended a0.All r24 r33 a0.In a0.Out) (ow_l (fz_int .i64 a0.Xid) (ow_l (fz_int .i64 a0.Begun) (ow_l (fz_int .i64 a0.Ended) (ow_l (fz_bool a0.All) A52)))))
 have A56 := (BlF.st B48 p52 rfl)
 have K57 := ((((((K31.st p34 rfl).st p37 rfl).st p40 rfl).st p43 rfl).st p48 rfl).st p52 rfl)
 exact re rfl Tryz.func72 rfl (r_b A56 Tryz.underlying117 rfl z117 rfl r_nil) rfl ⟨_, rfl, v24_0, v33_0, rfl, A54.fo K57 rfl z.l, z.ky K57⟩
noncomputable def laws_toTrackS.b0 (a0 : (List Track)) (x4 : (List Track) × Int) : Option (((List Track) × Int) ⊕ (List Track)) :=
 (if (decide (x4.2 < (a0.length : Int))) = true then (if 0 ≤ x4.2 ∧ x4.2 < (a0.length : Int) then ((laws_toTrack.f (at_ a0 x4.2)).bind fun r14 => (if 0 ≤ x4.2 ∧ x4.2 < (x4.1.length : Int) then (some (Sum.inl ((x4.1.set (x4.2).toNat r14), (IntKind.wrap .i64 (x4.2 + (1 : Int)))))) else none)) else none) else ((some x4.1).bind fun o => some (Sum.inr o)))
noncomputable def laws_toTrackS.f (a0 : (List Track)) : Option ((List Track)) :=
 (if 0 ≤ (a0.length : Int) ∧ (a0.length : Int) ≤ (Lim : Int) then (iter (laws_toTrackS.b0 a0) ((List.replicate ((a0.length : Int)).toNat (Track.mk (0 : Int) (0 : Int) (0 : Int) false ([] : (List Span)) ([] : (List Item)) false false)), (0 : Int))) else none)
def laws_toTrackS.Q (w : World) (F : Nat → Prop) (r : (List Track)) (v : Value) (w' : World) : Prop :=
 FO (Kd.sl 117 kd117) w w' [v] r ∧ Ky [] w w'
set_option maxHeartbeats 4000000 in
set_option maxRecDepth 100000 in
theorem laws_toTrackS.calls (a0 : (List Track)) (w : World) (F : Nat → Prop) (w0_0 : Value) (h0_0 : (Kd.sl 109 kd109).rd w [w0_0] a0 F) (r : (List Track)) (m : laws_toTrackS.f a0 = some r) :
  Calls Tryz.prog 13 #[w0_0] w fun en w' => ∃ v, en = .returned v ∧ laws_toTrackS.Q w F r v w' := by
 obtain ⟨s0, rfl, kp0, z⟩ := start0 w F
 have A0_0 := z.rd h0_0
 refine calls_of_TM (args := [w0_0]) (R := fun r en w' => ∃ v, en = .returned v ∧ laws_toTrackS.Q s0.w F r v w') Tryz.func13 Tryz.ntmps13 rfl rfl m ?_
 unfold laws_toTrackS.f
 refine sr ?_
 refine pu rfl rfl rfl rfl rfl ?_
 refine dn ?_
 refine sr ?_
 refine mv w0_0 rfl rfl rfl rfl rfl rfl ?_
 refine ln A0_0 Tryz.underlying22 rfl rfl rfl rfl rfl rfl ?_
 refine mk (x0 := (Track.mk (0 : Int) (0 : Int) (0 : Int) false ([] : (List Span)) ([] : (List Item)) false false)) (K := kd117) 40 sl29 o117 (fun _ => ⟨_, _, [], [], rfl, rfl, ⟨rfl, rfl⟩, ⟨_, _, [], [], rfl, rfl, ⟨rfl, rfl⟩, ⟨_, _, [], [], rfl, rfl, ⟨rfl, rfl⟩, ⟨_, _, [], [], rfl, rfl, ⟨rfl, rfl⟩, ⟨_, _, [], [], rfl, rfl, ⟨_, rfl, [], [], [], rfl, ⟨by simp, .inl ⟨rfl, rfl, rfl⟩⟩, ⟨rfl, rfl⟩⟩, ⟨_, _, [], [], rfl, rfl, ⟨_, rfl, [], [], [], rfl, ⟨by simp, .inl ⟨rfl, rfl, rfl⟩⟩, ⟨rfl, rfl⟩⟩, ⟨_, _, [], [], rfl, rfl, ⟨rfl, rfl⟩, ⟨rfl, rfl⟩⟩⟩⟩⟩⟩⟩⟩) rfl rfl rfl rfl rfl rfl rfl (fun v2 s2 p2 A2 => ?_)
 refine asg v2 rfl rfl rfl rfl rfl rfl ?_
 refine dn ?_
 refine sq ?_
 refine sr ?_
 refine pu rfl rfl rfl rfl rfl ?_
 refine dn ?_
 refine bl ?_
 have K5 := (kp0.st p2 rfl)
 refine lpI (fun (x4 : (List Track) × Int) (e : Env) (w : World) => ∃ (s : St) (e0 : Env), w = s.w ∧ e = upd (upd (upd e0 0 w0_0) 3 v2) 4 (.int .i64 x4.2) ∧ Kp s0 s ∧ OwF (Kd.sl 117 kd117) s [v2] x4.1 40) ⟨s2, _, rfl, (ue (ue (ue rfl rfl) rfl) rfl), K5, A2⟩ (fun g4 ih4 => ?_)
 rintro x4 _ _ ⟨s6, _, rfl, rfl, Kx4, Ax4_0⟩
 unfold laws_toTrackS.b0
 refine sq ?_
 refine sr ?_
 refine pu rfl rfl rfl rfl rfl ?_
 refine mv w0_0 rfl rfl rfl rfl rfl rfl ?_
 have A8 := (A0_0.kp Kx4)
 refine ln A8 Tryz.underlying22 rfl rfl rfl rfl rfl rfl ?_
 refine pu rfl rfl rfl rfl rfl ?_
 refine dn ?_
 refine cd rfl (fun h9 => ?_) (fun h9 => ?_)
 ·
  refine sk ?_
  refine sq ?_
  refine bl ?_
  refine rg ?_
  refine mv v2 rfl rfl rfl rfl rfl rfl ?_
  refine pu rfl rfl rfl rfl rfl ?_
  refine mv w0_0 rfl rfl rfl rfl rfl rfl ?_
  refine pu rfl rfl rfl rfl rfl ?_
  refine ix A8 Tryz.underlying22 z109 rfl rfl rfl rfl rfl rfl rfl rfl (fun ad10 es10 h0_10 h1_10 he10 ce10 ia10 => ?_)
  obtain ⟨v10_0, v10_1, rfl, A10_0, A10_1⟩ := op109 he10
  refine lca ce10 Tryz.underlying109 z109 rfl rfl rfl rfl rfl rfl rfl ?_
  refine cl rfl rfl rfl rfl rfl Tryz.func72 rfl rfl rfl (fun r14 m14 => laws_toTrack.calls (at_ a0 x4.2) s6.w (fun b => memb [0] (s6.g b) = true) v10_0 v10_1 A10_0 A10_1 r14 m14) ?_
  rintro r14 _ w14 m14 ⟨v14_0, v14_1, rfl, f14_0, ky14⟩
  obtain ⟨s15, rfl, p15, n15⟩ := nwx s6 w14 41 ky14
  have A14_0 := f14_0.c n15
  obtain ⟨os14_0, ho14_0, hn14_0, hc14_0⟩ := A14_0
  obtain ⟨u14_0_0, u14_0_1, qu14_0_0, qu14_0_1, e14_0, eo14_0, hu14_0_0, hu14_0_1⟩ := po117 ho14_0
  have yu14_0_0 : v14_0 = u14_0_0 := congrArg (fun l => (List.drop 4 l).headD undef) e14_0
  have yu14_0_1 : v14_1 = u14_0_1 := congrArg (fun l => (List.drop 5 l).headD undef) e14_0
  subst yu14_0_0
  subst yu14_0_1
  subst eo14_0
  obtain ⟨s16, hw16, p16, Au14_0_0, hn16, hc16⟩ := sp2 42 hu14_0_0 hn14_0 hc14_0 rfl
  rw [hw16]
  have Au14_0_1 : OwF (Kd.sl 33 kd33) s16 [v14_1] r14.Writes 42 := sp1 (hw16 ▸ hu14_0_1) hn16 hc16
  have A19 := ((Ax4_0.st p15 rfl).st p16 rfl)
  refine ix A19.rd Tryz.underlying29 z117 rfl rfl rfl rfl rfl rfl rfl rfl (fun ad20 es20 h0_20 h1_20 he20 ce20 ia20 => ?_)
  obtain ⟨v20_0, v20_1, rfl, A20_0, A20_1⟩ := op117 he20
  obtain ⟨s24, hw24, p24, A24⟩ := ow_2 Au14_0_0 (ow_r Au14_0_1 (fz_pair (fz_bool r14.In) (fz_bool r14.Out))) rfl rfl
  rw [hw24]
  have A26 : OwF kd117 s24 [(.int .i64 r14.Xid), (.int .i64 r14.Begun), (.int .i64 r14.Ended), (.bool r14.All), v14_0, v14_1, (.bool r14.In), (.bool r14.Out)] r14 41 := (ow_isoz (fun x : Track => (x.Xid, x.Begun, x.Ended, x.All, x.Reads, x.Writes, x.In, x.Out)) r14 (ow_l (fz_int .i64 r14.Xid) (ow_l (fz_int .i64 r14.Begun) (ow_l (fz_int .i64 r14.Ended) (ow_l (fz_bool r14.All) A24)))))
  have A28 := (A19.st p24 rfl)
  refine som (x' := r14) A28 ia20 h0_20 h1_20 A26 rfl rfl z117 rfl rfl rfl rfl rfl rfl (fun s29 p29 A29 => ?_)
  refine dn ?_
  refine ib ?_
  refine rg ?_
  refine pu rfl rfl rfl rfl rfl ?_
  refine pu rfl rfl rfl rfl rfl ?_
  refine pu rfl rfl rfl rfl rfl ?_
  refine dn ?_
  have K31 := ((((Kx4.st p15 rfl).st p16 rfl).st p24 rfl).st p29 rfl)
  exact lb ih4 ⟨s29, _, rfl, (ue (ue (ue rfl rfl) rfl) rfl), K31, A29⟩
 ·
  refine xt rfl ?_
  refine sgb ?_
  refine sr ?_
  refine mv v2 rfl rfl rfl rfl rfl rfl ?_
  refine asg v2 rfl rfl rfl rfl rfl rfl ?_
  refine dn ?_
  exact re rfl Tryz.func13 rfl (r_t rfl r_nil) rfl ⟨_, rfl, Ax4_0.fo Kx4 rfl z.l, z.ky Kx4⟩
noncomputable def spec_l13at.b0 (a0 : (List Track)) (a1 : Int) (x2 : Int) : Option (Int ⊕ Int) :=
 (if (decide (x2 < (a0.length : Int))) = true then (if 0 ≤ x2 ∧ x2 < (a0.length : Int) then ((if ((at_ a0 x2).Xid == a1) = true then (if 0 ≤ x2 ∧ x2 < (a0.length : Int) then (some ((at_ a0 x2).Ended == (0 : Int))) else none) else (some false)).bind fun y10 => (if y10 = true then (some (Sum.inr x2)) else (some (Sum.inl (IntKind.wrap .i64 (x2 + (1 : Int))))))) else none) else ((some (-1 : Int)).bind fun o => some (Sum.inr o)))
noncomputable def spec_l13at.f (a0 : (List Track)) (a1 : Int) : Option (Int) :=
 (iter (spec_l13at.b0 a0 a1) (0 : Int))
def spec_l13at.Q (w : World) (F : Nat → Prop) (r : Int) (v : Value) (w' : World) : Prop :=
 v = (.int .i64 r) ∧ Ky [] w w'
set_option maxHeartbeats 4000000 in
set_option maxRecDepth 100000 in
theorem spec_l13at.calls (a0 : (List Track)) (a1 : Int) (w : World) (F : Nat → Prop) (w0_0 : Value) (h0_0 : (Kd.sl 117 kd117).rd w [w0_0] a0 F) (r : Int) (m : spec_l13at.f a0 a1 = some r) :
  Calls Tryz.prog 64 #[w0_0, (.int .i64 a1)] w fun en w' => ∃ v, en = .returned v ∧ spec_l13at.Q w F r v w' := by
 obtain ⟨s0, rfl, kp0, z⟩ := start0 w F
 have A0_0 := z.rd h0_0
 refine calls_of_TM (args := [w0_0, (.int .i64 a1)]) (R := fun r en w' => ∃ v, en = .returned v ∧ spec_l13at.Q s0.w F r v w') Tryz.func64 Tryz.ntmps64 rfl rfl m ?_
 unfold spec_l13at.f
 refine sr ?_
 refine pu rfl rfl rfl rfl rfl ?_
 refine dn ?_
 refine sq ?_
 refine sr ?_
 refine pu rfl rfl rfl rfl rfl ?_
 refine dn ?_
 refine bl ?_
 refine lpI (fun (x2 : Int) (e : Env) (w : World) => ∃ (s : St) (e0 : Env), w = s.w ∧ e = upd (upd (upd e0 0 w0_0) 1 (.int .i64 a1)) 5 (.int .i64 x2) ∧ Kp s0 s) ⟨s0, _, rfl, (ue (ue (ue rfl rfl) rfl) rfl), kp0⟩ (fun g2 ih2 => ?_)
 rintro x2 _ _ ⟨s3, _, rfl, rfl, Kx2⟩
 unfold spec_l13at.b0
 refine sq ?_
 refine sr ?_
 refine pu rfl rfl rfl rfl rfl ?_
 refine mv w0_0 rfl rfl rfl rfl rfl rfl ?_
 have A4 := (A0_0.kp Kx2)
 refine ln A4 Tryz.underlying29 rfl rfl rfl rfl rfl rfl ?_
 refine pu rfl rfl rfl rfl rfl ?_
 refine dn ?_
 refine cd rfl (fun h5 => ?_) (fun h5 => ?_)
 ·
  refine sk ?_
  refine sq ?_
  refine bl ?_
  refine sr ?_
  refine mv w0_0 rfl rfl rfl rfl rfl rfl ?_
  refine pu rfl rfl rfl rfl rfl ?_
  refine ix A4 Tryz.underlying29 z117 rfl rfl rfl rfl rfl rfl rfl rfl (fun ad6 es6 h0_6 h1_6 he6 ce6 ia6 => ?_)
  obtain ⟨v6_0, v6_1, rfl, A6_0, A6_1⟩ := op117 he6
  refine fa fa117_0 rfl rfl rfl rfl rfl rfl ?_
  refine lc0 ce6 Tryz.underlying3 rfl rfl rfl rfl rfl rfl rfl rfl ?_
  refine pu rfl rfl rfl rfl rfl ?_
  refine pu rfl rfl rfl rfl rfl ?_
  refine pu rfl rfl rfl rfl rfl ?_
  refine ji [] (fun (y10 : Bool) (e : Env) (w : World) => ∃ (s : St) (e0 : Env), w = s.w ∧ e = upd (upd (upd (upd e0 0 w0_0) 1 (.int .i64 a1)) 5 (.int .i64 x2)) 26 (.bool y10) ∧ Kp s0 s) (fun Gj10 Kj10 => ?_) ?_
  ·
   rcases Bool.eq_false_or_eq_true ((at_ a0 x2).Xid == a1) with hb10 | hb10
   ·
    refine sbT hb10 ?_
    rw [if_pos hb10]
    refine mv w0_0 rfl rfl rfl rfl rfl rfl ?_
    refine pu rfl rfl rfl rfl rfl ?_
    refine ix A4 Tryz.underlying29 z117 rfl rfl rfl rfl rfl rfl rfl rfl (fun ad11 es11 h0_11 h1_11 he11 ce11 ia11 => ?_)
    obtain ⟨v11_0, v11_1, rfl, A11_0, A11_1⟩ := op117 he11
    refine fa fa117_2 rfl rfl rfl rfl rfl rfl ?_
    refine lc ce11 Tryz.underlying3 rfl rfl rfl rfl rfl rfl rfl rfl ?_
    refine pu rfl rfl rfl rfl rfl ?_
    refine pu rfl rfl rfl rfl rfl ?_
    exact Kj10 _ _ _ ⟨s3, _, rfl, (ue (ue (ue (ue rfl rfl) rfl) rfl) rfl), Kx2⟩
   ·
    refine sbT hb10 ?_
    rw [if_neg (by rw [hb10]; decide)]
    refine uw rfl rfl rfl rfl ?_
    refine uw rfl rfl rfl rfl ?_
    refine uw rfl rfl rfl rfl ?_
    refine uw rfl rfl rfl rfl ?_
    refine uw rfl rfl rfl rfl ?_
    refine uw rfl rfl rfl rfl ?_
    refine pu rfl rfl rfl rfl rfl ?_
    exact Kj10 _ _ _ ⟨s3, _, rfl, (ue (ue (ue (ue rfl rfl) rfl) rfl) rfl), Kx2⟩
  rintro y10 _ _ ⟨s15, _, rfl, rfl, Ky10⟩
  refine dn ?_
  refine cd rfl (fun h16 => ?_) (fun h16 => ?_)
  ·
   refine sr ?_
   refine pu rfl rfl rfl rfl rfl ?_
   refine pu rfl rfl rfl rfl rfl ?_
   refine dn ?_
   refine sgi ?_
   exact re rfl Tryz.func64 rfl (r_t rfl r_nil) rfl ⟨_, rfl, rfl, z.ky Ky10⟩
  ·
   refine sk ?_
   refine ib ?_
   refine rg ?_
   refine pu rfl rfl rfl rfl rfl ?_
   refine pu rfl rfl rfl rfl rfl ?_
   refine pu rfl rfl rfl rfl rfl ?_
   refine dn ?_
   exact lb ih2 ⟨s15, _, rfl, (ue (ue (ue rfl rfl) rfl) rfl), Ky10⟩
 ·
  refine xt rfl ?_
  refine sgb ?_
  refine sr ?_
  refine pu rfl rfl rfl rfl rfl ?_
  refine dn ?_
  exact re rfl Tryz.func64 rfl (r_t rfl r_nil) rfl ⟨_, rfl, rfl, z.ky Kx2⟩
noncomputable def spec_l5in.f (a0 : Int) (a1 : Int) (a2 : Int) : Option (Bool) :=
 (some ((decide (a0 ≥ a1)) && (decide (a0 ≤ a2))))
def spec_l5in.Q (w : World) (F : Nat → Prop) (r : Bool) (v : Value) (w' : World) : Prop :=
 v = (.bool r) ∧ Ky [] w w'
set_option maxHeartbeats 4000000 in
set_option maxRecDepth 100000 in
theorem spec_l5in.calls (a0 : Int) (a1 : Int) (a2 : Int) (w : World) (F : Nat → Prop)   (r : Bool) (m : spec_l5in.f a0 a1 a2 = some r) :
  Calls Tryz.prog 96 #[(.int .i64 a0), (.int .i64 a1), (.int .i64 a2)] w fun en w' => ∃ v, en = .returned v ∧ spec_l5in.Q w F r v w' := by
 obtain ⟨s0, rfl, kp0, z⟩ := start0 w F
 refine calls_of_TM (args := [(.int .i64 a0), (.int .i64 a1), (.int .i64 a2)]) (R := fun r en w' => ∃ v, en = .returned v ∧ spec_l5in.Q s0.w F r v w') Tryz.func96 Tryz.ntmps96 rfl rfl m ?_
 unfold spec_l5in.f
 refine sr ?_
 refine pu rfl rfl rfl rfl rfl ?_
 refine dn ?_
 refine sr ?_
 refine pu rfl rfl rfl rfl rfl ?_
 refine pu rfl rfl rfl rfl rfl ?_
 refine pu rfl rfl rfl rfl rfl ?_
 refine pu rfl rfl rfl rfl rfl ?_
 refine jy [10, 11, 12, 13, 14] [8] 14 (.bool ((decide (a0 ≥ a1)) && (decide (a0 ≤ a2)))) rfl (fun Kg1 => ?_) (fun j1 => ?_)
 ·
  rcases Bool.eq_false_or_eq_true (decide (a0 ≥ a1)) with hb1 | hb1
  ·
   refine sbT hb1 ?_
   refine pu rfl rfl rfl rfl rfl ?_
   refine pu rfl rfl rfl rfl rfl ?_
   refine pu rfl rfl rfl rfl rfl ?_
   refine pu rfl rfl rfl rfl rfl ?_
   exact Kg1 _ (Ag.put ((Ag.put ((Ag.put ((Ag.put (Ag.base rfl) rfl)) rfl)) rfl)) rfl) (by rw [hb1]; rfl)
  ·
   refine sbT hb1 ?_
   refine uw rfl rfl rfl rfl ?_
   refine uw rfl rfl rfl rfl ?_
   refine uw rfl rfl rfl rfl ?_
   refine pu rfl rfl rfl rfl rfl ?_
   exact Kg1 _ (Ag.put ((Ag.put ((Ag.put ((Ag.put (Ag.base rfl) rfl)) rfl)) rfl)) rfl) (by rw [hb1]; rfl)
 refine pu rfl rfl rfl rfl rfl ?_
 refine dn ?_
 exact re rfl Tryz.func96 rfl (r_t rfl r_nil) rfl ⟨_, rfl, rfl, z.ky kp0⟩
noncomputable def spec_FloatBits.b1 (y8 : Int × Nat) (x19 : Nat × Int) : Option ((Nat × Int) ⊕ Int) :=
 (if ((fcmp .f64 x19.1 (4607182418800017408 : Nat) == some .lt) && (decide (x19.2 > (-1022 : Int)))) = true then (some (Sum.inl ((far .mul x19.1 (4611686018427387904 : Nat)), (IntKind.wrap .i64 (x19.2 - (1 : Int)))))) else ((if (fcmp .f64 x19.1 (4607182418800017408 : Nat) == some .lt) = true then ((floatToIntVal .f64 (far .mul x19.1 (4841369599423283200 : Nat)) .u64).bind fun r27 => (some (ior .u64 y8.1 r27))) else ((floatToIntVal .f64 (far .mul (far .sub x19.1 (4607182418800017408 : Nat)) (4841369599423283200 : Nat)) .u64).bind fun r31 => (some (ior .u64 (ior .u64 y8.1 (ishl .u64 (IntKind.wrap .u64 (IntKind.wrap .i64 (x19.2 + (1023 : Int)))) (52 : Int))) r31)))).bind fun o => some (Sum.inr o)))
noncomputable def spec_FloatBits.b0 (y8 : Int × Nat) (x14 : Nat × Int) : Option ((Nat × Int) ⊕ Int) :=
 (if (fcmp .f64 x14.1 (4611686018427387904 : Nat) == some .gt || fcmp .f64 x14.1 (4611686018427387904 : Nat) == some .eq) = true then (some (Sum.inl ((far .quo x14.1 (4611686018427387904 : Nat)), (IntKind.wrap .i64 (x14.2 + (1 : Int)))))) else ((iter (spec_FloatBits.b1 y8) (x14.1, x14.2)).bind fun o => some (Sum.inr o)))
noncomputable def spec_FloatBits.f (a0 : Nat) : Option (Int) :=
 (if (fcmp .f64 a0 a0 != some .eq) = true then (some (9221120237041090560 : Int)) else ((if (fcmp .f64 a0 (0 : Nat) == some .lt) = true then (some true) else ((if (fcmp .f64 a0 (0 : Nat) == some .eq) = true then (some (fcmp .f64 (far .quo (4607182418800017408 : Nat) a0) (0 : Nat) == some .lt)) else (some false)).bind fun y3 => (some y3))).bind fun y2 => ((if y2 = true then (some ((9223372036854775808 : Int), (fneg a0))) else (some ((0 : Int), a0))).bind fun y8 => (if (fcmp .f64 y8.2 (0 : Nat) == some .eq) = true then (some y8.1) else (if (fcmp .f64 y8.2 (9218868437227405311 : Nat) == some .gt) = true then (some (ior .u64 y8.1 (9218868437227405312 : Int))) else (iter (spec_FloatBits.b0 y8) (y8.2, (0 : Int))))))))
def spec_FloatBits.Q (w : World) (F : Nat → Prop) (r : Int) (v : Value) (w' : World) : Prop :=
 v = (.int .u64 r) ∧ Ky [] w w'
set_option maxHeartbeats 4000000 in
set_option maxRecDepth 100000 in
theorem spec_FloatBits.calls (a0 : Nat) (w : World) (F : Nat → Prop) (w0_0 : Value) (h0_0 : Kd.flt.rd w [w0_0] a0 F) (r : Int) (m : spec_FloatBits.f a0 = some r) :
  Calls Tryz.prog 151 #[w0_0] w fun en w' => ∃ v, en = .returned v ∧ spec_FloatBits.Q w F r v w' := by
 obtain ⟨s0, rfl, kp0, z⟩ := start0 w F
 have A0_0 := fl_of h0_0
 refine calls_of_TM (args := [w0_0]) (R := fun r en w' => ∃ v, en = .returned v ∧ spec_FloatBits.Q s0.w F r v w') Tryz.func151 Tryz.ntmps151 rfl rfl m ?_
 unfold spec_FloatBits.f
 refine sr ?_
 refine pu rfl rfl rfl rfl rfl ?_
 refine dn ?_
 refine sq ?_
 refine sr ?_
 refine mv w0_0 rfl rfl rfl rfl rfl rfl ?_
 refine mv w0_0 rfl rfl rfl rfl rfl rfl ?_
 refine fq_ A0_0 A0_0 rfl rfl rfl rfl rfl rfl rfl rfl ?_
 refine dn ?_
 refine cd rfl (fun h1 => ?_) (fun h1 => ?_)
 ·
  refine sr ?_
  refine pu rfl rfl rfl rfl rfl ?_
  refine dn ?_
  exact re rfl Tryz.func151 rfl (r_t rfl r_nil) rfl ⟨_, rfl, rfl, z.ky kp0⟩
 ·
  refine sk ?_
  refine sr ?_
  refine pu rfl rfl rfl rfl rfl ?_
  refine dn ?_
  refine sr ?_
  refine mv w0_0 rfl rfl rfl rfl rfl rfl ?_
  refine asg w0_0 rfl rfl rfl rfl rfl rfl ?_
  refine dn ?_
  refine sq ?_
  refine sr ?_
  refine mv w0_0 rfl rfl rfl rfl rfl rfl ?_
  refine fq_ A0_0 (fl_c rfl) rfl rfl rfl rfl rfl rfl rfl rfl ?_
  refine pu rfl rfl rfl rfl rfl ?_
  refine ji [] (fun (y2 : Bool) (e : Env) (w : World) => ∃ (s : St) (e0 : Env), w = s.w ∧ e = upd (upd (upd (upd e0 0 w0_0) 3 (.int .u64 (0 : Int))) 4 w0_0) 20 (.bool y2) ∧ Kp s0 s) (fun Gj2 Kj2 => ?_) ?_
  ·
   rcases Bool.eq_false_or_eq_true (fcmp .f64 a0 (0 : Nat) == some .lt) with hb2 | hb2
   ·
    refine sbT hb2 ?_
    rw [if_pos hb2]
    refine uw rfl rfl rfl rfl ?_
    refine uw rfl rfl rfl rfl ?_
    refine uw rfl rfl rfl rfl ?_
    refine uw rfl rfl rfl rfl ?_
    refine uw rfl rfl rfl rfl ?_
    refine uw rfl rfl rfl rfl ?_
    refine uw rfl rfl rfl rfl ?_
    refine pu rfl rfl rfl rfl rfl ?_
    exact Kj2 _ _ _ ⟨s0, _, rfl, (ue (ue (ue (ue rfl rfl) rfl) rfl) rfl), kp0⟩
   ·
    refine sbT hb2 ?_
    rw [if_neg (by rw [hb2]; decide)]
    refine mv w0_0 rfl rfl rfl rfl rfl rfl ?_
    refine fq_ A0_0 (fl_c rfl) rfl rfl rfl rfl rfl rfl rfl rfl ?_
    refine pu rfl rfl rfl rfl rfl ?_
    refine ji [10] (fun (y3 : Bool) (e : Env) (w : World) => ∃ (s : St) (e0 : Env), w = s.w ∧ e = upd (upd (upd (upd (upd e0 0 w0_0) 3 (.int .u64 (0 : Int))) 4 w0_0) 12 (.bool false)) 19 (.bool y3) ∧ Kp s0 s) (fun Gj3 Kj3 => ?_) ?_
    ·
     rcases Bool.eq_false_or_eq_true (fcmp .f64 a0 (0 : Nat) == some .eq) with hb3 | hb3
     ·
      refine sbT hb3 ?_
      rw [if_pos hb3]
      refine mv w0_0 rfl rfl rfl rfl rfl rfl ?_
      refine fa_ (fl_c rfl) A0_0 (by simp) rfl rfl rfl rfl rfl rfl rfl (fun v4 s4 p4 A4 => ?_)
      refine fq_ A4 (fl_c rfl) rfl rfl rfl rfl rfl rfl rfl rfl ?_
      refine pu rfl rfl rfl rfl rfl ?_
      have K5 := (kp0.st p4 rfl)
      exact Kj3 _ _ _ ⟨s4, _, rfl, (ue (ue (ue (ue (ue rfl rfl) rfl) rfl) rfl) rfl), K5⟩
     ·
      refine sbT hb3 ?_
      rw [if_neg (by rw [hb3]; decide)]
      refine uw rfl rfl rfl rfl ?_
      refine uw rfl rfl rfl rfl ?_
      refine uw rfl rfl rfl rfl ?_
      refine pu rfl rfl rfl rfl rfl ?_
      exact Kj3 _ _ _ ⟨s0, _, rfl, (ue (ue (ue (ue (ue rfl rfl) rfl) rfl) rfl) rfl), kp0⟩
    rintro y3 _ _ ⟨s6, _, rfl, rfl, Ky3⟩
    refine pu rfl rfl rfl rfl rfl ?_
    exact Kj2 _ _ _ ⟨s6, _, rfl, (ue (ue (ue (ue rfl rfl) rfl) rfl) rfl), Ky3⟩
  rintro y2 _ _ ⟨s7, _, rfl, rfl, Ky2⟩
  refine dn ?_
  refine jc (fun (y8 : Int × Nat) (e : Env) (w : World) => ∃ (s : St) (e0 : Env) (uy8_0 : Value), w = s.w ∧ e = upd (upd e0 3 (.int .u64 y8.1)) 4 uy8_0 ∧ Kp s0 s ∧ FL uy8_0 y8.2) (fun Gj8 Kj8 => ?_) ?_
  ·
   refine cd rfl (fun h9 => ?_) (fun h9 => ?_)
   ·
    refine sr ?_
    refine pu rfl rfl rfl rfl rfl ?_
    refine dn ?_
    refine rg ?_
    refine mv w0_0 rfl rfl rfl rfl rfl rfl ?_
    refine fng_ A0_0 rfl rfl rfl rfl rfl rfl (fun v10 A10 => ?_)
    refine asg v10 rfl rfl rfl rfl rfl rfl ?_
    refine dn ?_
    exact Kj8 _ _ _ ⟨s7, _, v10, rfl, (ue (ue rfl rfl) rfl), Ky2, A10⟩
   ·
    refine sk ?_
    exact Kj8 _ _ _ ⟨s7, _, w0_0, rfl, (ue (ue rfl rfl) rfl), Ky2, A0_0⟩
  rintro y8 _ _ ⟨s11, _, uy8_0, rfl, rfl, Ky8, Fy8_0⟩
  refine sq ?_
  refine sr ?_
  refine mv uy8_0 rfl rfl rfl rfl rfl rfl ?_
  refine fq_ Fy8_0 (fl_c rfl) rfl rfl rfl rfl rfl rfl rfl rfl ?_
  refine dn ?_
  refine cd rfl (fun h12 => ?_) (fun h12 => ?_)
  ·
   refine sr ?_
   refine pu rfl rfl rfl rfl rfl ?_
   refine pu rfl rfl rfl rfl rfl ?_
   refine dn ?_
   exact re rfl Tryz.func151 rfl (r_t rfl r_nil) rfl ⟨_, rfl, rfl, z.ky Ky8⟩
  ·
   refine sk ?_
   refine sq ?_
   refine sr ?_
   refine mv uy8_0 rfl rfl rfl rfl rfl rfl ?_
   refine fq_ Fy8_0 (fl_c rfl) rfl rfl rfl rfl rfl rfl rfl rfl ?_
   refine dn ?_
   refine cd rfl (fun h13 => ?_) (fun h13 => ?_)
   ·
    refine sr ?_
    refine pu rfl rfl rfl rfl rfl ?_
    refine pu rfl rfl rfl rfl rfl ?_
    refine pu rfl rfl rfl rfl rfl ?_
    refine dn ?_
    exact re rfl Tryz.func151 rfl (r_t rfl r_nil) rfl ⟨_, rfl, rfl, z.ky Ky8⟩
   ·
    refine sk ?_
    refine sr ?_
    refine pu rfl rfl rfl rfl rfl ?_
    refine dn ?_
    refine sq ?_
    refine bl ?_
    refine lpI (fun (x14 : Nat × Int) (e : Env) (w : World) => ∃ (s : St) (e0 : Env) (ux14_0 : Value), w = s.w ∧ e = upd (upd (upd e0 3 (.int .u64 y8.1)) 4 ux14_0) 5 (.int .i64 x14.2) ∧ Kp s0 s ∧ FL ux14_0 x14.1) ⟨s11, _, uy8_0, rfl, (ue (ue (ue rfl rfl) rfl) rfl), Ky8, Fy8_0⟩ (fun g14 ih14 => ?_)
    rintro x14 _ _ ⟨s15, _, ux14_0, rfl, rfl, Kx14, Fx14_0⟩
    unfold spec_FloatBits.b0
    refine sq ?_
    refine sr ?_
    refine mv ux14_0 rfl rfl rfl rfl rfl rfl ?_
    refine fq_ Fx14_0 (fl_c rfl) rfl rfl rfl rfl rfl rfl rfl rfl ?_
    refine dn ?_
    refine cd rfl (fun h16 => ?_) (fun h16 => ?_)
    ·
     refine sk ?_
     refine bl ?_
     refine sr ?_
     refine mv ux14_0 rfl rfl rfl rfl rfl rfl ?_
     refine fa_ Fx14_0 (fl_c rfl) (by simp) rfl rfl rfl rfl rfl rfl rfl (fun v17 s17 p17 A17 => ?_)
     refine asg v17 rfl rfl rfl rfl rfl rfl ?_
     refine dn ?_
     refine rg ?_
     refine pu rfl rfl rfl rfl rfl ?_
     refine pu rfl rfl rfl rfl rfl ?_
     refine pu rfl rfl rfl rfl rfl ?_
     refine dn ?_
     refine ib ?_
     have K18 := (Kx14.st p17 rfl)
     exact lb ih14 ⟨s17, _, v17, rfl, (ue (ue (ue rfl rfl) rfl) rfl), K18, A17⟩
    ·
     refine xt rfl ?_
     refine sgb ?_
     refine sq ?_
     refine bl ?_
     refine lpI (fun (x19 : Nat × Int) (e : Env) (w : World) => ∃ (s : St) (e0 : Env) (ux19_0 : Value), w = s.w ∧ e = upd (upd (upd e0 3 (.int .u64 y8.1)) 4 ux19_0) 5 (.int .i64 x19.2) ∧ Kp s0 s ∧ FL ux19_0 x19.1) ⟨s15, _, ux14_0, rfl, (ue (ue (ue rfl rfl) rfl) rfl), Kx14, Fx14_0⟩ (fun g19 ih19 => ?_)
     rintro x19 _ _ ⟨s20, _, ux19_0, rfl, rfl, Kx19, Fx19_0⟩
     unfold spec_FloatBits.b1
     refine sq ?_
     refine sr ?_
     refine mv ux19_0 rfl rfl rfl rfl rfl rfl ?_
     refine fq_ Fx19_0 (fl_c rfl) rfl rfl rfl rfl rfl rfl rfl rfl ?_
     refine pu rfl rfl rfl rfl rfl ?_
     refine jy [38, 39, 40, 41] [] 41 (.bool ((fcmp .f64 x19.1 (4607182418800017408 : Nat) == some .lt) && (decide (x19.2 > (-1022 : Int))))) rfl (fun Kg21 => ?_) (fun j21 => ?_)
     ·
      rcases Bool.eq_false_or_eq_true (fcmp .f64 x19.1 (4607182418800017408 : Nat) == some .lt) with hb21 | hb21
      ·
       refine sbT hb21 ?_
       refine pu rfl rfl rfl rfl rfl ?_
       refine pu rfl rfl rfl rfl rfl ?_
       refine pu rfl rfl rfl rfl rfl ?_
       exact Kg21 _ (Ag.put ((Ag.put ((Ag.put (Ag.base rfl) rfl)) rfl)) rfl) (by rw [hb21]; rfl)
      ·
       refine sbT hb21 ?_
       refine uw rfl rfl rfl rfl ?_
       refine uw rfl rfl rfl rfl ?_
       refine pu rfl rfl rfl rfl rfl ?_
       exact Kg21 _ (Ag.put ((Ag.put ((Ag.put (Ag.base rfl) rfl)) rfl)) rfl) (by rw [hb21]; rfl)
     refine dn ?_
     refine cd rfl (fun h22 => ?_) (fun h22 => ?_)
     ·
      refine sk ?_
      refine bl ?_
      refine sr ?_
      refine mv ux19_0 rfl rfl rfl rfl rfl rfl ?_
      refine fa_ Fx19_0 (fl_c rfl) (by simp) rfl rfl rfl rfl rfl rfl rfl (fun v23 s23 p23 A23 => ?_)
      refine asg v23 rfl rfl rfl rfl rfl rfl ?_
      refine dn ?_
      refine rg ?_
      refine pu rfl rfl rfl rfl rfl ?_
      refine pu rfl rfl rfl rfl rfl ?_
      refine pu rfl rfl rfl rfl rfl ?_
      refine dn ?_
      refine ib ?_
      have K24 := (Kx19.st p23 rfl)
      exact lb ih19 ⟨s23, _, v23, rfl, (ue (ue (ue rfl rfl) rfl) rfl), K24, A23⟩
     ·
      refine xt rfl ?_
      refine sgb ?_
      refine sq ?_
      refine sr ?_
      refine mv ux19_0 rfl rfl rfl rfl rfl rfl ?_
      refine fq_ Fx19_0 (fl_c rfl) rfl rfl rfl rfl rfl rfl rfl rfl ?_
      refine dn ?_
      refine cd rfl (fun h25 => ?_) (fun h25 => ?_)
      ·
       refine sr ?_
       refine pu rfl rfl rfl rfl rfl ?_
       refine mv ux19_0 rfl rfl rfl rfl rfl rfl ?_
       refine fa_ Fx19_0 (fl_c rfl) (by simp) rfl rfl rfl rfl rfl rfl rfl (fun v26 s26 p26 A26 => ?_)
       refine f2i A26 Tryz.underlying201 Tryz.underlying23 rfl rfl rfl rfl rfl rfl (fun r27 m27 => ?_)
       refine pu rfl rfl rfl rfl rfl ?_
       refine pu rfl rfl rfl rfl rfl ?_
       refine dn ?_
       have K28 := (Kx19.st p26 rfl)
       exact re rfl Tryz.func151 rfl (r_t rfl r_nil) rfl ⟨_, rfl, rfl, z.ky K28⟩
      ·
       refine sk ?_
       refine sr ?_
       refine pu rfl rfl rfl rfl rfl ?_
       refine pu rfl rfl rfl rfl rfl ?_
       refine pu rfl rfl rfl rfl rfl ?_
       refine cv Tryz.underlying201 Tryz.underlying3 rfl rfl rfl rfl rfl rfl ?_
       refine shlK rfl rfl rfl rfl rfl rfl rfl rfl ?_
       refine pu rfl rfl rfl rfl rfl ?_
       refine mv ux19_0 rfl rfl rfl rfl rfl rfl ?_
       refine fa_ Fx19_0 (fl_c rfl) (by simp) rfl rfl rfl rfl rfl rfl rfl (fun v29 s29 p29 A29 => ?_)
       refine fa_ A29 (fl_c rfl) (by simp) rfl rfl rfl rfl rfl rfl rfl (fun v30 s30 p30 A30 => ?_)
       refine f2i A30 Tryz.underlying201 Tryz.underlying23 rfl rfl rfl rfl rfl rfl (fun r31 m31 => ?_)
       refine pu rfl rfl rfl rfl rfl ?_
       refine pu rfl rfl rfl rfl rfl ?_
       refine dn ?_
       have K32 := ((Kx19.st p29 rfl).st p30 rfl)
       exact re rfl Tryz.func151 rfl (r_t rfl r_nil) rfl ⟨_, rfl, rfl, z.ky K32⟩
noncomputable def spec_ItemOk.f (a0 : Item) : Option (Bool) :=
 (if (((decide (a0.Kind < (0 : Int))) || (decide (a0.Kind > (3 : Int)))) || (decide ((a0.T.length : Int) > (40 : Int)))) = true then (some false) else (if ((a0.Kind != (1 : Int)) && (a0.N != (0 : Int))) = true then (some false) else ((if (a0.Kind != (2 : Int)) = true then ((spec_FloatBits.f a0.F).bind fun r14 => (some (r14 != (0 : Int)))) else (some false)).bind fun y13 => (if y13 = true then (some false) else (some ((a0.Kind == (3 : Int)) || ((a0.T.length : Int) == (0 : Int))))))))
def spec_ItemOk.Q (w : World) (F : Nat → Prop) (r : Bool) (v : Value) (w' : World) : Prop :=
 v = (.bool r) ∧ Ky [] w w'
set_option maxHeartbeats 4000000 in
set_option maxRecDepth 100000 in
theorem spec_ItemOk.calls (a0 : Item) (w : World) (F : Nat → Prop) (w0_0 : Value) (w0_1 : Value) (h0_0 : Kd.flt.rd w [w0_0] a0.F F) (h0_1 : (Kd.sl 5 (Kd.int .u8)).rd w [w0_1] a0.T F) (r : Bool) (m : spec_ItemOk.f a0 = some r) :
  Calls Tryz.prog 150 #[(.agg #[(.int .i64 a0.Kind), (.int .i64 a0.N), w0_0, w0_1])] w fun en w' => ∃ v, en = .returned v ∧ spec_ItemOk.Q w F r v w' := by
 obtain ⟨s0, rfl, kp0, z⟩ := start0 w F
 have A0_0 := fl_of h0_0
 have A0_1 := z.rd h0_1
 refine calls_of_TM (args := [(.agg #[(.int .i64 a0.Kind), (.int .i64 a0.N), w0_0, w0_1])]) (R := fun r en w' => ∃ v, en = .returned v ∧ spec_ItemOk.Q s0.w F r v w') Tryz.func150 Tryz.ntmps150 rfl rfl m ?_
 unfold spec_ItemOk.f
 refine sr ?_
 refine bx (cs := [(.int .i64 a0.Kind), (.int .i64 a0.N), w0_0, w0_1]) 40 rfl rfl rfl rfl rfl rfl (fun b2 s2 p2 B2 => ?_)
 refine pu rfl rfl rfl rfl rfl ?_
 refine dn ?_
 refine sq ?_
 refine sr ?_
 refine fa fa33_0 rfl rfl rfl rfl rfl rfl ?_
 refine ld B2 Tryz.underlying3 rfl rfl rfl rfl rfl rfl rfl rfl ?_
 refine pu rfl rfl rfl rfl rfl ?_
 refine pu rfl rfl rfl rfl rfl ?_
 refine jy [6, 7, 8, 9, 10] [8, 9, 10, 11, 12, 13] 10 (.bool ((decide (a0.Kind < (0 : Int))) || (decide (a0.Kind > (3 : Int))))) rfl (fun Kg4 => ?_) (fun j4 => ?_)
 ·
  rcases Bool.eq_false_or_eq_true (decide (a0.Kind < (0 : Int))) with hb4 | hb4
  ·
   refine sbT hb4 ?_
   refine uw rfl rfl rfl rfl ?_
   refine uw rfl rfl rfl rfl ?_
   refine uw rfl rfl rfl rfl ?_
   refine pu rfl rfl rfl rfl rfl ?_
   exact Kg4 _ (Ag.put ((Ag.put ((Ag.put ((Ag.put (Ag.base rfl) rfl)) rfl)) rfl)) rfl) (by rw [hb4]; rfl)
  ·
   refine sbT hb4 ?_
   refine fa fa33_0 rfl rfl rfl rfl rfl rfl ?_
   refine ld B2 Tryz.underlying3 rfl rfl rfl rfl rfl rfl rfl rfl ?_
   refine pu rfl rfl rfl rfl rfl ?_
   refine pu rfl rfl rfl rfl rfl ?_
   exact Kg4 _ (Ag.put ((Ag.put ((Ag.put ((Ag.put (Ag.base rfl) rfl)) rfl)) rfl)) rfl) (by rw [hb4]; rfl)
 refine pu rfl rfl rfl rfl rfl ?_
 refine jy [11, 12, 13, 14, 15, 16] [] 16 (.bool (((decide (a0.Kind < (0 : Int))) || (decide (a0.Kind > (3 : Int)))) || (decide ((a0.T.length : Int) > (40 : Int))))) rfl (fun Kg5 => ?_) (fun j5 => ?_)
 ·
  rcases Bool.eq_false_or_eq_true ((decide (a0.Kind < (0 : Int))) || (decide (a0.Kind > (3 : Int)))) with hb5 | hb5
  ·
   refine sbT hb5 ?_
   refine uw rfl rfl rfl rfl ?_
   refine uw rfl rfl rfl rfl ?_
   refine uw rfl rfl rfl rfl ?_
   refine uw rfl rfl rfl rfl ?_
   refine pu rfl rfl rfl rfl rfl ?_
   exact Kg5 _ (Ag.put ((Ag.put ((Ag.put ((Ag.put ((Ag.put (Ag.base rfl) rfl)) rfl)) rfl)) rfl)) rfl) (by rw [hb5]; rfl)
  ·
   refine sbT hb5 ?_
   refine fa fa33_3 rfl rfl rfl rfl rfl rfl ?_
   refine ld B2 Tryz.underlying24 rfl rfl rfl rfl rfl rfl rfl rfl ?_
   have K6 := (kp0.st p2 rfl)
   have A7 := (A0_1.kp K6)
   refine ln A7 Tryz.underlying24 rfl rfl rfl rfl rfl rfl ?_
   refine pu rfl rfl rfl rfl rfl ?_
   refine pu rfl rfl rfl rfl rfl ?_
   exact Kg5 _ (Ag.put ((Ag.put ((Ag.put ((Ag.put ((Ag.put (Ag.base rfl) rfl)) rfl)) rfl)) rfl)) rfl) (by rw [hb5]; rfl)
 refine dn ?_
 refine cd rfl (fun h8 => ?_) (fun h8 => ?_)
 ·
  refine sr ?_
  refine pu rfl rfl rfl rfl rfl ?_
  refine dn ?_
  have K9 := (kp0.st p2 rfl)
  exact re rfl Tryz.func150 rfl (r_t rfl r_nil) rfl ⟨_, rfl, rfl, z.ky K9⟩
 ·
  refine sk ?_
  refine sq ?_
  refine sr ?_
  refine fa fa33_0 rfl rfl rfl rfl rfl rfl ?_
  refine ld B2 Tryz.underlying3 rfl rfl rfl rfl rfl rfl rfl rfl ?_
  refine pu rfl rfl rfl rfl rfl ?_
  refine pu rfl rfl rfl rfl rfl ?_
  refine jy [20, 21, 22, 23, 24] [] 24 (.bool ((a0.Kind != (1 : Int)) && (a0.N != (0 : Int)))) rfl (fun Kg10 => ?_) (fun j10 => ?_)
  ·
   rcases Bool.eq_false_or_eq_true (a0.Kind != (1 : Int)) with hb10 | hb10
   ·
    refine sbT hb10 ?_
    refine fa fa33_1 rfl rfl rfl rfl rfl rfl ?_
    refine ld B2 Tryz.underlying3 rfl rfl rfl rfl rfl rfl rfl rfl ?_
    refine pu rfl rfl rfl rfl rfl ?_
    refine pu rfl rfl rfl rfl rfl ?_
    exact Kg10 _ (Ag.put ((Ag.put ((Ag.put ((Ag.put (Ag.base rfl) rfl)) rfl)) rfl)) rfl) (by rw [hb10]; rfl)
   ·
    refine sbT hb10 ?_
    refine uw rfl rfl rfl rfl ?_
    refine uw rfl rfl rfl rfl ?_
    refine uw rfl rfl rfl rfl ?_
    refine pu rfl rfl rfl rfl rfl ?_
    exact Kg10 _ (Ag.put ((Ag.put ((Ag.put ((Ag.put (Ag.base rfl) rfl)) rfl)) rfl)) rfl) (by rw [hb10]; rfl)
  refine dn ?_
  refine cd rfl (fun h11 => ?_) (fun h11 => ?_)
  ·
   refine sr ?_
   refine pu rfl rfl rfl rfl rfl ?_
   refine dn ?_
   have K12 := (kp0.st p2 rfl)
   exact re rfl Tryz.func150 rfl (r_t rfl r_nil) rfl ⟨_, rfl, rfl, z.ky K12⟩
  ·
   refine sk ?_
   refine sq ?_
   refine sr ?_
   refine fa fa33_0 rfl rfl rfl rfl rfl rfl ?_
   refine ld B2 Tryz.underlying3 rfl rfl rfl rfl rfl rfl rfl rfl ?_
   refine pu rfl rfl rfl rfl rfl ?_
   refine pu rfl rfl rfl rfl rfl ?_
   refine ji [] (fun (y13 : Bool) (e : Env) (w : World) => ∃ (s : St) (e0 : Env), w = s.w ∧ e = upd (upd e0 1 (.pointer (some ⟨b2, 0, none⟩))) 33 (.bool y13) ∧ Kp s0 s ∧ BlF s b2 33 [(.int .i64 a0.Kind), (.int .i64 a0.N), w0_0, w0_1] 40) (fun Gj13 Kj13 => ?_) ?_
   ·
    rcases Bool.eq_false_or_eq_true (a0.Kind != (2 : Int)) with hb13 | hb13
    ·
     refine sbT hb13 ?_
     rw [if_pos hb13]
     refine fa fa33_2 rfl rfl rfl rfl rfl rfl ?_
     refine ld B2 Tryz.underlying23 rfl rfl rfl rfl rfl rfl rfl rfl ?_
     refine cl rfl rfl rfl rfl rfl Tryz.func151 rfl rfl rfl (fun r14 m14 => spec_FloatBits.calls a0.F s2.w (fun b => memb [] (s2.g b) = true) w0_0 (fl_rdf (s := s2) A0_0) r14 m14) ?_
     rintro r14 _ w14 m14 ⟨rfl, ky14⟩
     obtain ⟨s15, rfl, p15, n15⟩ := nwx s2 w14 41 ky14
     refine pu rfl rfl rfl rfl rfl ?_
     refine pu rfl rfl rfl rfl rfl ?_
     have A16 := (BlF.st B2 p15 rfl)
     have K17 := ((kp0.st p2 rfl).st p15 rfl)
     exact Kj13 _ _ _ ⟨s15, _, rfl, (ue (ue rfl rfl) rfl), K17, A16⟩
    ·
     refine sbT hb13 ?_
     rw [if_neg (by rw [hb13]; decide)]
     refine uw rfl rfl rfl rfl ?_
     refine uw rfl rfl rfl rfl ?_
     refine uw rfl rfl rfl rfl ?_
     refine uw rfl rfl rfl rfl ?_
     refine pu rfl rfl rfl rfl rfl ?_
     have K18 := (kp0.st p2 rfl)
     exact Kj13 _ _ _ ⟨s2, _, rfl, (ue (ue rfl rfl) rfl), K18, B2⟩
   rintro y13 _ _ ⟨s19, _, rfl, rfl, Ky13, By13_b2⟩
   refine dn ?_
   refine cd rfl (fun h21 => ?_) (fun h21 => ?_)
   ·
    refine sr ?_
    refine pu rfl rfl rfl rfl rfl ?_
    refine dn ?_
    exact re rfl Tryz.func150 rfl (r_t rfl r_nil) rfl ⟨_, rfl, rfl, z.ky Ky13⟩
   ·
    refine sk ?_
    refine sr ?_
    refine fa fa33_0 rfl rfl rfl rfl rfl rfl ?_
    refine ld By13_b2 Tryz.underlying3 rfl rfl rfl rfl rfl rfl rfl rfl ?_
    refine pu rfl rfl rfl rfl rfl ?_
    refine pu rfl rfl rfl rfl rfl ?_
    refine jy [37, 38, 39, 40, 41, 42] [9] 42 (.bool ((a0.Kind == (3 : Int)) || ((a0.T.length : Int) == (0 : Int)))) rfl (fun Kg22 => ?_) (fun j22 => ?_)
    ·
     rcases Bool.eq_false_or_eq_true (a0.Kind == (3 : Int)) with hb22 | hb22
     ·
      refine sbT hb22 ?_
      refine uw rfl rfl rfl rfl ?_
      refine uw rfl rfl rfl rfl ?_
      refine uw rfl rfl rfl rfl ?_
      refine uw rfl rfl rfl rfl ?_
      refine pu rfl rfl rfl rfl rfl ?_
      exact Kg22 _ (Ag.put ((Ag.put ((Ag.put ((Ag.put ((Ag.put (Ag.base rfl) rfl)) rfl)) rfl)) rfl)) rfl) (by rw [hb22]; rfl)
     ·
      refine sbT hb22 ?_
      refine fa fa33_3 rfl rfl rfl rfl rfl rfl ?_
      refine ld By13_b2 Tryz.underlying24 rfl rfl rfl rfl rfl rfl rfl rfl ?_
      have A23 := (A0_1.kp Ky13)
      refine ln A23 Tryz.underlying24 rfl rfl rfl rfl rfl rfl ?_
      refine pu rfl rfl rfl rfl rfl ?_
      refine pu rfl rfl rfl rfl rfl ?_
      exact Kg22 _ (Ag.put ((Ag.put ((Ag.put ((Ag.put ((Ag.put (Ag.base rfl) rfl)) rfl)) rfl)) rfl)) rfl) (by rw [hb22]; rfl)
    refine pu rfl rfl rfl rfl rfl ?_
    refine dn ?_
    exact re rfl Tryz.func150 rfl (r_t rfl r_nil) rfl ⟨_, rfl, rfl, z.ky Ky13⟩
noncomputable def spec_KeyOk.f (a0 : Item) : Option (Bool) :=
 ((spec_ItemOk.f a0).bind fun r6 => ((if (r6 && (a0.Kind != (0 : Int))) = true then ((if (fcmp .f64 a0.F (0 : Nat) == some .eq) = true then ((spec_FloatBits.f a0.F).bind fun r13 => (some (r13 != (0 : Int)))) else (some false)).bind fun y12 => (some (!y12))) else (some false)).bind fun y10 => (some y10)))
def spec_KeyOk.Q (w : World) (F : Nat → Prop) (r : Bool) (v : Value) (w' : World) : Prop :=
 v = (.bool r) ∧ Ky [] w w'
set_option maxHeartbeats 4000000 in
set_option maxRecDepth 100000 in
theorem spec_KeyOk.calls (a0 : Item) (w : World) (F : Nat → Prop) (w0_0 : Value) (w0_1 : Value) (h0_0 : Kd.flt.rd w [w0_0] a0.F F) (h0_1 : (Kd.sl 5 (Kd.int .u8)).rd w [w0_1] a0.T F) (r : Bool) (m : spec_KeyOk.f a0 = some r) :
  Calls Tryz.prog 66 #[(.agg #[(.int .i64 a0.Kind), (.int .i64 a0.N), w0_0, w0_1])] w fun en w' => ∃ v, en = .returned v ∧ spec_KeyOk.Q w F r v w' := by
 obtain ⟨s0, rfl, kp0, z⟩ := start0 w F
 have A0_0 := fl_of h0_0
 have A0_1 := z.rd h0_1
 refine calls_of_TM (args := [(.agg #[(.int .i64 a0.Kind), (.int .i64 a0.N), w0_0, w0_1])]) (R := fun r en w' => ∃ v, en = .returned v ∧ spec_KeyOk.Q s0.w F r v w') Tryz.func66 Tryz.ntmps66 rfl rfl m ?_
 unfold spec_KeyOk.f
 refine sr ?_
 refine bx (cs := [(.int .i64 a0.Kind), (.int .i64 a0.N), w0_0, w0_1]) 40 rfl rfl rfl rfl rfl rfl (fun b2 s2 p2 B2 => ?_)
 refine pu rfl rfl rfl rfl rfl ?_
 refine dn ?_
 refine sr ?_
 refine lda (es := [(.int .i64 a0.Kind), (.int .i64 a0.N), w0_0, w0_1]) B2 Tryz.underlying33 z33 rfl rfl rfl rfl rfl rfl rfl rfl ?_
 have K4 := (kp0.st p2 rfl)
 have A5 := (A0_1.kp K4)
 refine cl rfl rfl rfl rfl rfl Tryz.func150 rfl rfl rfl (fun r6 m6 => spec_ItemOk.calls a0 s2.w (fun b => memb [0] (s2.g b) = true) w0_0 w0_1 ((fl_rdf (s := s2) A0_0).sub (D := [0]) rfl) A5 r6 m6) ?_
 rintro r6 _ w6 m6 ⟨rfl, ky6⟩
 obtain ⟨s7, rfl, p7, n7⟩ := nwx s2 w6 41 ky6
 refine pu rfl rfl rfl rfl rfl ?_
 refine jy [5, 6, 7, 8, 9] [7, 8, 9, 10, 11, 12, 13, 14, 15, 16, 17, 18, 19] 9 (.bool (r6 && (a0.Kind != (0 : Int)))) rfl (fun Kg8 => ?_) (fun j8 => ?_)
 ·
  rcases Bool.eq_false_or_eq_true r6 with hb8 | hb8
  ·
   refine sbT hb8 ?_
   refine fa fa33_0 rfl rfl rfl rfl rfl rfl ?_
   have A9 := (BlF.st B2 p7 rfl)
   refine ld A9 Tryz.underlying3 rfl rfl rfl rfl rfl rfl rfl rfl ?_
   refine pu rfl rfl rfl rfl rfl ?_
   refine pu rfl rfl rfl rfl rfl ?_
   exact Kg8 _ (Ag.put ((Ag.put ((Ag.put ((Ag.put (Ag.base rfl) rfl)) rfl)) rfl)) rfl) (by rw [hb8]; rfl)
  ·
   refine sbT hb8 ?_
   refine uw rfl rfl rfl rfl ?_
   refine uw rfl rfl rfl rfl ?_
   refine uw rfl rfl rfl rfl ?_
   refine pu rfl rfl rfl rfl rfl ?_
   exact Kg8 _ (Ag.put ((Ag.put ((Ag.put ((Ag.put (Ag.base rfl) rfl)) rfl)) rfl)) rfl) (by rw [hb8]; rfl)
 refine pu rfl rfl rfl rfl rfl ?_
 refine ji [19] (fun (y10 : Bool) (e : Env) (w : World) => ∃ (s : St) (e0 : Env), w = s.w ∧ e = upd e0 21 (.bool y10) ∧ Kp s0 s) (fun Gj10 Kj10 => ?_) ?_
 ·
  rcases Bool.eq_false_or_eq_true (r6 && (a0.Kind != (0 : Int))) with hb10 | hb10
  ·
   refine sbT hb10 ?_
   rw [if_pos hb10]
   refine fa fa33_2 rfl rfl rfl rfl rfl rfl ?_
   have A11 := (BlF.st B2 p7 rfl)
   refine ld A11 Tryz.underlying23 rfl rfl rfl rfl rfl rfl rfl rfl ?_
   refine fq_ A0_0 (fl_c rfl) rfl rfl rfl rfl rfl rfl rfl rfl ?_
   refine pu rfl rfl rfl rfl rfl ?_
   refine ji [17, 18, 19] (fun (y12 : Bool) (e : Env) (w : World) => ∃ (s : St) (e0 : Env), w = s.w ∧ e = upd (upd e0 10 (.bool true)) 19 (.bool y12) ∧ Kp s0 s) (fun Gj12 Kj12 => ?_) ?_
   ·
    rcases Bool.eq_false_or_eq_true (fcmp .f64 a0.F (0 : Nat) == some .eq) with hb12 | hb12
    ·
     refine sbT hb12 ?_
     rw [if_pos hb12]
     refine fa fa33_2 rfl rfl rfl rfl rfl rfl ?_
     refine ld A11 Tryz.underlying23 rfl rfl rfl rfl rfl rfl rfl rfl ?_
     refine cl rfl rfl rfl rfl rfl Tryz.func151 rfl rfl rfl (fun r13 m13 => spec_FloatBits.calls a0.F s7.w (fun b => memb [] (s7.g b) = true) w0_0 (fl_rdf (s := s7) A0_0) r13 m13) ?_
     rintro r13 _ w13 m13 ⟨rfl, ky13⟩
     obtain ⟨s14, rfl, p14, n14⟩ := nwx s7 w13 42 ky13
     refine pu rfl rfl rfl rfl rfl ?_
     refine pu rfl rfl rfl rfl rfl ?_
     have K15 := ((K4.st p7 rfl).st p14 rfl)
     exact Kj12 _ _ _ ⟨s14, _, rfl, (ue (ue rfl rfl) rfl), K15⟩
    ·
     refine sbT hb12 ?_
     rw [if_neg (by rw [hb12]; decide)]
     refine uw rfl rfl rfl rfl ?_
     refine uw rfl rfl rfl rfl ?_
     refine uw rfl rfl rfl rfl ?_
     refine uw rfl rfl rfl rfl ?_
     refine pu rfl rfl rfl rfl rfl ?_
     have K16 := (K4.st p7 rfl)
     exact Kj12 _ _ _ ⟨s7, _, rfl, (ue (ue rfl rfl) rfl), K16⟩
   rintro y12 _ _ ⟨s17, _, rfl, rfl, Ky12⟩
   refine pu rfl rfl rfl rfl rfl ?_
   refine pu rfl rfl rfl rfl rfl ?_
   exact Kj10 _ _ _ ⟨s17, _, rfl, (ue rfl rfl), Ky12⟩
  ·
   refine sbT hb10 ?_
   rw [if_neg (by rw [hb10]; decide)]
   refine uw rfl rfl rfl rfl ?_
   refine uw rfl rfl rfl rfl ?_
   refine uw rfl rfl rfl rfl ?_
   refine uw rfl rfl rfl rfl ?_
   refine uw rfl rfl rfl rfl ?_
   refine uw rfl rfl rfl rfl ?_
   refine uw rfl rfl rfl rfl ?_
   refine uw rfl rfl rfl rfl ?_
   refine uw rfl rfl rfl rfl ?_
   refine uw rfl rfl rfl rfl ?_
   refine pu rfl rfl rfl rfl rfl ?_
   have K18 := (K4.st p7 rfl)
   exact Kj10 _ _ _ ⟨s7, _, rfl, (ue rfl rfl), K18⟩
 rintro y10 _ _ ⟨s19, _, rfl, rfl, Ky10⟩
 refine pu rfl rfl rfl rfl rfl ?_
 refine dn ?_
 exact re rfl Tryz.func66 rfl (r_t rfl r_nil) rfl ⟨_, rfl, rfl, z.ky Ky10⟩
noncomputable def spec_FloatRank.f (a0 : Nat) : Option (Int) :=
 ((spec_FloatBits.f a0).bind fun r1 => (if (r1 == (9221120237041090560 : Int)) = true then (some (18446744073709551615 : Int)) else (if (fcmp .f64 a0 (0 : Nat) == some .eq) = true then (some (9223372036854775808 : Int)) else (if ((ishr .u64 r1 (63 : Int)) == (1 : Int)) = true then (some (ixor .u64 (IntKind.max .u64) r1)) else (some (ior .u64 r1 (9223372036854775808 : Int)))))))
def spec_FloatRank.Q (w : World) (F : Nat → Prop) (r : Int) (v : Value) (w' : World) : Prop :=
 v = (.int .u64 r) ∧ Ky [] w w'
set_option maxHeartbeats 4000000 in
set_option maxRecDepth 100000 in
theorem spec_FloatRank.calls (a0 : Nat) (w : World) (F : Nat → Prop) (w0_0 : Value) (h0_0 : Kd.flt.rd w [w0_0] a0 F) (r : Int) (m : spec_FloatRank.f a0 = some r) :
  Calls Tryz.prog 261 #[w0_0] w fun en w' => ∃ v, en = .returned v ∧ spec_FloatRank.Q w F r v w' := by
 obtain ⟨s0, rfl, kp0, z⟩ := start0 w F
 have A0_0 := fl_of h0_0
 refine calls_of_TM (args := [w0_0]) (R := fun r en w' => ∃ v, en = .returned v ∧ spec_FloatRank.Q s0.w F r v w') Tryz.func261 Tryz.ntmps261 rfl rfl m ?_
 unfold spec_FloatRank.f
 refine sr ?_
 refine pu rfl rfl rfl rfl rfl ?_
 refine dn ?_
 refine sr ?_
 refine mv w0_0 rfl rfl rfl rfl rfl rfl ?_
 refine cl rfl rfl rfl rfl rfl Tryz.func151 rfl rfl rfl (fun r1 m1 => spec_FloatBits.calls a0 s0.w (fun b => memb [] (s0.g b) = true) w0_0 (fl_rdf (s := s0) A0_0) r1 m1) ?_
 rintro r1 _ w1 m1 ⟨rfl, ky1⟩
 obtain ⟨s2, rfl, p2, n2⟩ := nwx s0 w1 40 ky1
 refine pu rfl rfl rfl rfl rfl ?_
 refine dn ?_
 refine sq ?_
 refine sr ?_
 refine pu rfl rfl rfl rfl rfl ?_
 refine pu rfl rfl rfl rfl rfl ?_
 refine dn ?_
 refine cd rfl (fun h3 => ?_) (fun h3 => ?_)
 ·
  refine sr ?_
  refine pu rfl rfl rfl rfl rfl ?_
  refine dn ?_
  have K4 := (kp0.st p2 rfl)
  exact re rfl Tryz.func261 rfl (r_t rfl r_nil) rfl ⟨_, rfl, rfl, z.ky K4⟩
 ·
  refine sk ?_
  refine sq ?_
  refine sr ?_
  refine mv w0_0 rfl rfl rfl rfl rfl rfl ?_
  refine fq_ A0_0 (fl_c rfl) rfl rfl rfl rfl rfl rfl rfl rfl ?_
  refine dn ?_
  refine cd rfl (fun h5 => ?_) (fun h5 => ?_)
  ·
   refine sr ?_
   refine pu rfl rfl rfl rfl rfl ?_
   refine dn ?_
   have K6 := (kp0.st p2 rfl)
   exact re rfl Tryz.func261 rfl (r_t rfl r_nil) rfl ⟨_, rfl, rfl, z.ky K6⟩
  ·
   refine sk ?_
   refine sq ?_
   refine sr ?_
   refine pu rfl rfl rfl rfl rfl ?_
   refine shrK rfl rfl rfl rfl rfl rfl rfl rfl ?_
   refine pu rfl rfl rfl rfl rfl ?_
   refine dn ?_
   refine cd rfl (fun h7 => ?_) (fun h7 => ?_)
   ·
    refine sr ?_
    refine pu rfl rfl rfl rfl rfl ?_
    refine pu rfl rfl rfl rfl rfl ?_
    refine pu rfl rfl rfl rfl rfl ?_
    refine dn ?_
    have K8 := (kp0.st p2 rfl)
    exact re rfl Tryz.func261 rfl (r_t rfl r_nil) rfl ⟨_, rfl, rfl, z.ky K8⟩
   ·
    refine sk ?_
    refine sr ?_
    refine pu rfl rfl rfl rfl rfl ?_
    refine pu rfl rfl rfl rfl rfl ?_
    refine pu rfl rfl rfl rfl rfl ?_
    refine dn ?_
    have K9 := (kp0.st p2 rfl)
    exact re rfl Tryz.func261 rfl (r_t rfl r_nil) rfl ⟨_, rfl, rfl, z.ky K9⟩
noncomputable def spec_FloatCompare.f (a0 : Nat) (a1 : Nat) : Option (Int) :=
 ((spec_FloatRank.f a0).bind fun r1 => ((spec_FloatRank.f a1).bind fun r3 => (if (decide (r1 < r3)) = true then (some (-1 : Int)) else (if (decide (r1 > r3)) = true then (some (1 : Int)) else (some (0 : Int))))))
def spec_FloatCompare.Q (w : World) (F : Nat → Prop) (r : Int) (v : Value) (w' : World) : Prop :=
 v = (.int .i64 r) ∧ Ky [] w w'
set_option maxHeartbeats 4000000 in
set_option maxRecDepth 100000 in
theorem spec_FloatCompare.calls (a0 : Nat) (a1 : Nat) (w : World) (F : Nat → Prop) (w0_0 : Value) (w1_0 : Value) (h0_0 : Kd.flt.rd w [w0_0] a0 F) (h1_0 : Kd.flt.rd w [w1_0] a1 F) (r : Int) (m : spec_FloatCompare.f a0 a1 = some r) :
  Calls Tryz.prog 242 #[w0_0, w1_0] w fun en w' => ∃ v, en = .returned v ∧ spec_FloatCompare.Q w F r v w' := by
 obtain ⟨s0, rfl, kp0, z⟩ := start0 w F
 have A0_0 := fl_of h0_0
 have A1_0 := fl_of h1_0
 refine calls_of_TM (args := [w0_0, w1_0]) (R := fun r en w' => ∃ v, en = .returned v ∧ spec_FloatCompare.Q s0.w F r v w') Tryz.func242 Tryz.ntmps242 rfl rfl m ?_
 unfold spec_FloatCompare.f
 refine sr ?_
 refine pu rfl rfl rfl rfl rfl ?_
 refine dn ?_
 refine sr ?_
 refine mv w0_0 rfl rfl rfl rfl rfl rfl ?_
 refine cl rfl rfl rfl rfl rfl Tryz.func261 rfl rfl rfl (fun r1 m1 => spec_FloatRank.calls a0 s0.w (fun b => memb [] (s0.g b) = true) w0_0 (fl_rdf (s := s0) A0_0) r1 m1) ?_
 rintro r1 _ w1 m1 ⟨rfl, ky1⟩
 obtain ⟨s2, rfl, p2, n2⟩ := nwx s0 w1 40 ky1
 refine pu rfl rfl rfl rfl rfl ?_
 refine dn ?_
 refine sr ?_
 refine mv w1_0 rfl rfl rfl rfl rfl rfl ?_
 refine cl rfl rfl rfl rfl rfl Tryz.func261 rfl rfl rfl (fun r3 m3 => spec_FloatRank.calls a1 s2.w (fun b => memb [] (s2.g b) = true) w1_0 (fl_rdf (s := s2) A1_0) r3 m3) ?_
 rintro r3 _ w3 m3 ⟨rfl, ky3⟩
 obtain ⟨s4, rfl, p4, n4⟩ := nwx s2 w3 41 ky3
 refine pu rfl rfl rfl rfl rfl ?_
 refine dn ?_
 refine sq ?_
 refine sr ?_
 refine pu rfl rfl rfl rfl rfl ?_
 refine pu rfl rfl rfl rfl rfl ?_
 refine pu rfl rfl rfl rfl rfl ?_
 refine dn ?_
 refine cd rfl (fun h5 => ?_) (fun h5 => ?_)
 ·
  refine sr ?_
  refine pu rfl rfl rfl rfl rfl ?_
  refine dn ?_
  have K6 := ((kp0.st p2 rfl).st p4 rfl)
  exact re rfl Tryz.func242 rfl (r_t rfl r_nil) rfl ⟨_, rfl, rfl, z.ky K6⟩
 ·
  refine sk ?_
  refine sq ?_
  refine sr ?_
  refine pu rfl rfl rfl rfl rfl ?_
  refine pu rfl rfl rfl rfl rfl ?_
  refine pu rfl rfl rfl rfl rfl ?_
  refine dn ?_
  refine cd rfl (fun h7 => ?_) (fun h7 => ?_)
  ·
   refine sr ?_
   refine pu rfl rfl rfl rfl rfl ?_
   refine dn ?_
   have K8 := ((kp0.st p2 rfl).st p4 rfl)
   exact re rfl Tryz.func242 rfl (r_t rfl r_nil) rfl ⟨_, rfl, rfl, z.ky K8⟩
  ·
   refine sk ?_
   refine sr ?_
   refine pu rfl rfl rfl rfl rfl ?_
   refine dn ?_
   have K9 := ((kp0.st p2 rfl).st p4 rfl)
   exact re rfl Tryz.func242 rfl (r_t rfl r_nil) rfl ⟨_, rfl, rfl, z.ky K9⟩
noncomputable def spec_l3texts.b0 (a0 : (List Int)) (a1 : (List Int)) (x3 : Int) : Option (Int ⊕ Int) :=
 (if ((decide (x3 < (a0.length : Int))) && (decide (x3 < (a1.length : Int)))) = true then (if 0 ≤ x3 ∧ x3 < (a0.length : Int) then (if 0 ≤ x3 ∧ x3 < (a1.length : Int) then (if (decide ((at_ a0 x3) < (at_ a1 x3))) = true then (some (Sum.inr (-1 : Int))) else (if 0 ≤ x3 ∧ x3 < (a0.length : Int) then (if 0 ≤ x3 ∧ x3 < (a1.length : Int) then (if (decide ((at_ a0 x3) > (at_ a1 x3))) = true then (some (Sum.inr (1 : Int))) else (some (Sum.inl (IntKind.wrap .i64 (x3 + (1 : Int)))))) else none) else none)) else none) else none) else ((if (decide ((a0.length : Int) < (a1.length : Int))) = true then (some (-1 : Int)) else (if (decide ((a0.length : Int) > (a1.length : Int))) = true then (some (1 : Int)) else (some (0 : Int)))).bind fun o => some (Sum.inr o)))
noncomputable def spec_l3texts.f (a0 : (List Int)) (a1 : (List Int)) : Option (Int) :=
 (iter (spec_l3texts.b0 a0 a1) (0 : Int))
def spec_l3texts.Q (w : World) (F : Nat → Prop) (r : Int) (v : Value) (w' : World) : Prop :=
 v = (.int .i64 r) ∧ Ky [] w w'
set_option maxHeartbeats 4000000 in
set_option maxRecDepth 100000 in
theorem spec_l3texts.calls (a0 : (List Int)) (a1 : (List Int)) (w : World) (F : Nat → Prop) (w0_0 : Value) (w1_0 : Value) (h0_0 : (Kd.sl 5 (Kd.int .u8)).rd w [w0_0] a0 F) (h1_0 : (Kd.sl 5 (Kd.int .u8)).rd w [w1_0] a1 F) (r : Int) (m : spec_l3texts.f a0 a1 = some r) :
  Calls Tryz.prog 243 #[w0_0, w1_0] w fun en w' => ∃ v, en = .returned v ∧ spec_l3texts.Q w F r v w' := by
 obtain ⟨s0, rfl, kp0, z⟩ := start0 w F
 have A0_0 := z.rd h0_0
 have A1_0 := z.rd h1_0
 refine calls_of_TM (args := [w0_0, w1_0]) (R := fun r en w' => ∃ v, en = .returned v ∧ spec_l3texts.Q s0.w F r v w') Tryz.func243 Tryz.ntmps243 rfl rfl m ?_
 unfold spec_l3texts.f
 refine sr ?_
 refine pu rfl rfl rfl rfl rfl ?_
 refine dn ?_
 refine sq ?_
 refine sr ?_
 refine pu rfl rfl rfl rfl rfl ?_
 refine dn ?_
 refine bl ?_
 refine lpI (fun (x3 : Int) (e : Env) (w : World) => ∃ (s : St) (e0 : Env), w = s.w ∧ e = upd (upd (upd e0 0 w0_0) 1 w1_0) 5 (.int .i64 x3) ∧ Kp s0 s) ⟨s0, _, rfl, (ue (ue (ue rfl rfl) rfl) rfl), kp0⟩ (fun g3 ih3 => ?_)
 rintro x3 _ _ ⟨s4, _, rfl, rfl, Kx3⟩
 unfold spec_l3texts.b0
 refine sq ?_
 refine sr ?_
 refine pu rfl rfl rfl rfl rfl ?_
 refine mv w0_0 rfl rfl rfl rfl rfl rfl ?_
 have A5 := (A0_0.kp Kx3)
 refine ln A5 Tryz.underlying24 rfl rfl rfl rfl rfl rfl ?_
 refine pu rfl rfl rfl rfl rfl ?_
 refine pu rfl rfl rfl rfl rfl ?_
 refine jy [10, 11, 12, 13, 14, 15] [] 15 (.bool ((decide (x3 < (a0.length : Int))) && (decide (x3 < (a1.length : Int))))) rfl (fun Kg6 => ?_) (fun j6 => ?_)
 ·
  rcases Bool.eq_false_or_eq_true (decide (x3 < (a0.length : Int))) with hb6 | hb6
  ·
   refine sbT hb6 ?_
   refine pu rfl rfl rfl rfl rfl ?_
   refine mv w1_0 rfl rfl rfl rfl rfl rfl ?_
   have A7 := (A1_0.kp Kx3)
   refine ln A7 Tryz.underlying24 rfl rfl rfl rfl rfl rfl ?_
   refine pu rfl rfl rfl rfl rfl ?_
   refine pu rfl rfl rfl rfl rfl ?_
   exact Kg6 _ (Ag.put ((Ag.put ((Ag.put ((Ag.put ((Ag.put (Ag.base rfl) rfl)) rfl)) rfl)) rfl)) rfl) (by rw [hb6]; rfl)
  ·
   refine sbT hb6 ?_
   refine uw rfl rfl rfl rfl ?_
   refine uw rfl rfl rfl rfl ?_
   refine uw rfl rfl rfl rfl ?_
   refine uw rfl rfl rfl rfl ?_
   refine pu rfl rfl rfl rfl rfl ?_
   exact Kg6 _ (Ag.put ((Ag.put ((Ag.put ((Ag.put ((Ag.put (Ag.base rfl) rfl)) rfl)) rfl)) rfl)) rfl) (by rw [hb6]; rfl)
 refine dn ?_
 refine cd rfl (fun h8 => ?_) (fun h8 => ?_)
 ·
  refine sk ?_
  refine sq ?_
  refine bl ?_
  refine sq ?_
  refine sq ?_
  refine zdraw [[], [], [0, 1], [2], [], [], [4, 5], [6], [3, 7]] [some 18, some 19, some 20, some 21, some 22, some 23, some 24, some 25, some 26] [[0], [5], [18, 19], [20], [1], [5], [22, 23], [24], [21, 25]] [0, 1, 2, 3, 4, 5, 6, 7, 8] ⟨by kernel_rfl, by kernel_rfl, by kernel_rfl⟩ (by kernel_rfl) (fun s9 p9 l9 tb9 zd9 => ?_)
  have zd10 := zd9.add 0 18 w0_0 rfl
  have zd11 := zd10.add 1 19 (.int .i64 x3) rfl
  have K12 := (Kx3.st p9 rfl)
  have A13 := (A0_0.kp K12)
  refine mg fun hg14 => ?_
  obtain ⟨ad14, es14, he14, ce14, ia14⟩ := ix_e A13 rfl hg14.1 hg14.2
  have h0_14 := hg14.1
  have h1_14 := hg14.2
  obtain rfl := he14
  have zd16 := zd11.add 2 20 (.pointer (some ad14)) rfl
  have zd17 := zd16.add 3 21 (.int .u8 (at_ a0 x3)) rfl
  have zd18 := zd17.add 4 22 w1_0 rfl
  have zd19 := zd18.add 5 23 (.int .i64 x3) rfl
  have A20 := (A1_0.kp K12)
  refine mg fun hg21 => ?_
  obtain ⟨ad21, es21, he21, ce21, ia21⟩ := ix_e A20 rfl hg21.1 hg21.2
  have h0_21 := hg21.1
  have h1_21 := hg21.2
  obtain rfl := he21
  have zd23 := zd19.add 6 24 (.pointer (some ad21)) rfl
  have zd24 := zd23.add 7 25 (.int .u8 (at_ a1 x3)) rfl
  refine zfin [8] tb9 zd24 (pq_cons (lc0_q ce21 Tryz.underlying5 rfl rfl rfl rfl rfl rfl rfl rfl) rfl (pq_cons (ix_q A20 Tryz.underlying24 z5 hg21.1 hg21.2 ia21 rfl rfl rfl rfl rfl rfl rfl) rfl (pq_cons (pu_q rfl rfl rfl rfl rfl rfl) rfl (pq_cons (mv_q w1_0 rfl rfl rfl rfl rfl rfl) rfl (pq_cons (lc0_q ce14 Tryz.underlying5 rfl rfl rfl rfl rfl rfl rfl rfl) rfl (pq_cons (ix_q A13 Tryz.underlying24 z5 hg14.1 hg14.2 ia14 rfl rfl rfl rfl rfl rfl rfl) rfl (pq_cons (pu_q rfl rfl rfl rfl rfl rfl) rfl (pq_cons (mv_q w0_0 rfl rfl rfl rfl rfl rfl) rfl pq_nil)))))))) (by kernel_rfl) (by decide) ?_
  refine pu rfl rfl rfl rfl rfl ?_
  refine dn ?_
  refine cd rfl (fun h25 => ?_) (fun h25 => ?_)
  ·
   refine sr ?_
   refine pu rfl rfl rfl rfl rfl ?_
   refine dn ?_
   refine sgi ?_
   exact re rfl Tryz.func243 rfl (r_t rfl r_nil) rfl ⟨_, rfl, rfl, z.ky K12⟩
  ·
   refine sk ?_
   refine sq ?_
   refine zdraw [[], [], [0, 1], [2], [], [], [4, 5], [6], [3, 7]] [some 27, some 28, some 29, some 30, some 31, some 32, some 33, some 34, some 35] [[0], [5], [27, 28], [29], [1], [5], [31, 32], [33], [30, 34]] [0, 1, 2, 3, 4, 5, 6, 7, 8] ⟨by kernel_rfl, by kernel_rfl, by kernel_rfl⟩ (by kernel_rfl) (fun s26 p26 l26 tb26 zd26 => ?_)
   have zd27 := zd26.add 0 27 w0_0 rfl
   have zd28 := zd27.add 1 28 (.int .i64 x3) rfl
   have K29 := (K12.st p26 rfl)
   have A30 := (A0_0.kp K29)
   refine mg fun hg31 => ?_
   obtain ⟨ad31, es31, he31, ce31, ia31⟩ := ix_e A30 rfl hg31.1 hg31.2
   have h0_31 := hg31.1
   have h1_31 := hg31.2
   obtain rfl := he31
   have zd33 := zd28.add 2 29 (.pointer (some ad31)) rfl
   have zd34 := zd33.add 3 30 (.int .u8 (at_ a0 x3)) rfl
   have zd35 := zd34.add 4 31 w1_0 rfl
   have zd36 := zd35.add 5 32 (.int .i64 x3) rfl
   have A37 := (A1_0.kp K29)
   refine mg fun hg38 => ?_
   obtain ⟨ad38, es38, he38, ce38, ia38⟩ := ix_e A37 rfl hg38.1 hg38.2
   have h0_38 := hg38.1
   have h1_38 := hg38.2
   obtain rfl := he38
   have zd40 := zd36.add 6 33 (.pointer (some ad38)) rfl
   have zd41 := zd40.add 7 34 (.int .u8 (at_ a1 x3)) rfl
   refine zfin [8] tb26 zd41 (pq_cons (lc0_q ce38 Tryz.underlying5 rfl rfl rfl rfl rfl rfl rfl rfl) rfl (pq_cons (ix_q A37 Tryz.underlying24 z5 hg38.1 hg38.2 ia38 rfl rfl rfl rfl rfl rfl rfl) rfl (pq_cons (pu_q rfl rfl rfl rfl rfl rfl) rfl (pq_cons (mv_q w1_0 rfl rfl rfl rfl rfl rfl) rfl (pq_cons (lc0_q ce31 Tryz.underlying5 rfl rfl rfl rfl rfl rfl rfl rfl) rfl (pq_cons (ix_q A30 Tryz.underlying24 z5 hg31.1 hg31.2 ia31 rfl rfl rfl rfl rfl rfl rfl) rfl (pq_cons (pu_q rfl rfl rfl rfl rfl rfl) rfl (pq_cons (mv_q w0_0 rfl rfl rfl rfl rfl rfl) rfl pq_nil)))))))) (by kernel_rfl) (by decide) ?_
   refine pu rfl rfl rfl rfl rfl ?_
   refine dn ?_
   refine cd rfl (fun h42 => ?_) (fun h42 => ?_)
   ·
    refine sr ?_
    refine pu rfl rfl rfl rfl rfl ?_
    refine dn ?_
    refine sgi ?_
    exact re rfl Tryz.func243 rfl (r_t rfl r_nil) rfl ⟨_, rfl, rfl, z.ky K29⟩
   ·
    refine sk ?_
    refine ib ?_
    refine rg ?_
    refine pu rfl rfl rfl rfl rfl ?_
    refine pu rfl rfl rfl rfl rfl ?_
    refine pu rfl rfl rfl rfl rfl ?_
    refine dn ?_
    exact lb ih3 ⟨s26, _, rfl, (ue (ue (ue rfl rfl) rfl) rfl), K29⟩
 ·
  refine xt rfl ?_
  refine sgb ?_
  refine sq ?_
  refine sr ?_
  refine mv w0_0 rfl rfl rfl rfl rfl rfl ?_
  refine ln A5 Tryz.underlying24 rfl rfl rfl rfl rfl rfl ?_
  refine mv w1_0 rfl rfl rfl rfl rfl rfl ?_
  have A43 := (A1_0.kp Kx3)
  refine ln A43 Tryz.underlying24 rfl rfl rfl rfl rfl rfl ?_
  refine pu rfl rfl rfl rfl rfl ?_
  refine dn ?_
  refine cd rfl (fun h44 => ?_) (fun h44 => ?_)
  ·
   refine sr ?_
   refine pu rfl rfl rfl rfl rfl ?_
   refine dn ?_
   exact re rfl Tryz.func243 rfl (r_t rfl r_nil) rfl ⟨_, rfl, rfl, z.ky Kx3⟩
  ·
   refine sk ?_
   refine sq ?_
   refine sr ?_
   refine mv w0_0 rfl rfl rfl rfl rfl rfl ?_
   refine ln A5 Tryz.underlying24 rfl rfl rfl rfl rfl rfl ?_
   refine mv w1_0 rfl rfl rfl rfl rfl rfl ?_
   refine ln A43 Tryz.underlying24 rfl rfl rfl rfl rfl rfl ?_
   refine pu rfl rfl rfl rfl rfl ?_
   refine dn ?_
   refine cd rfl (fun h45 => ?_) (fun h45 => ?_)
   ·
    refine sr ?_
    refine pu rfl rfl rfl rfl rfl ?_
    refine dn ?_
    exact re rfl Tryz.func243 rfl (r_t rfl r_nil) rfl ⟨_, rfl, rfl, z.ky Kx3⟩
   ·
    refine sk ?_
    refine sr ?_
    refine pu rfl rfl rfl rfl rfl ?_
    refine dn ?_
    exact re rfl Tryz.func243 rfl (r_t rfl r_nil) rfl ⟨_, rfl, rfl, z.ky Kx3⟩
noncomputable def spec_ItemCompare.f (a0 : Item) (a1 : Item) : Option (Int) :=
 ((spec_ItemOk.f a0).bind fun r10 => ((if (!r10) = true then (some true) else ((spec_ItemOk.f a1).bind fun r19 => (some (!r19)))).bind fun y12 => (if y12 = true then (some (-2 : Int)) else (if (a0.Kind != a1.Kind) = true then (if (decide (a0.Kind < a1.Kind)) = true then (some (-1 : Int)) else (some (1 : Int))) else (if (a0.N != a1.N) = true then (if (decide (a0.N < a1.N)) = true then (some (-1 : Int)) else (some (1 : Int))) else ((spec_FloatCompare.f a0.F a1.F).bind fun r32 => (if (r32 != (0 : Int)) = true then (some r32) else ((spec_l3texts.f a0.T a1.T).bind fun r41 => (some r41)))))))))
def spec_ItemCompare.Q (w : World) (F : Nat → Prop) (r : Int) (v : Value) (w' : World) : Prop :=
 v = (.int .i64 r) ∧ Ky [] w w'
set_option maxHeartbeats 4000000 in
set_option maxRecDepth 100000 in
theorem spec_ItemCompare.calls (a0 : Item) (a1 : Item) (w : World) (F : Nat → Prop) (w0_0 : Value) (w0_1 : Value) (w1_0 : Value) (w1_1 : Value) (h0_0 : Kd.flt.rd w [w0_0] a0.F F) (h0_1 : (Kd.sl 5 (Kd.int .u8)).rd w [w0_1] a0.T F) (h1_0 : Kd.flt.rd w [w1_0] a1.F F) (h1_1 : (Kd.sl 5 (Kd.int .u8)).rd w [w1_1] a1.T F) (r : Int) (m : spec_ItemCompare.f a0 a1 = some r) :
  Calls Tryz.prog 154 #[(.agg #[(.int .i64 a0.Kind), (.int .i64 a0.N), w0_0, w0_1]), (.agg #[(.int .i64 a1.Kind), (.int .i64 a1.N), w1_0, w1_1])] w fun en w' => ∃ v, en = .returned v ∧ spec_ItemCompare.Q w F r v w' := by
 obtain ⟨s0, rfl, kp0, z⟩ := start0 w F
 have A0_0 := fl_of h0_0
 have A0_1 := z.rd h0_1
 have A1_0 := fl_of h1_0
 have A1_1 := z.rd h1_1
 refine calls_of_TM (args := [(.agg #[(.int .i64 a0.Kind), (.int .i64 a0.N), w0_0, w0_1]), (.agg #[(.int .i64 a1.Kind), (.int .i64 a1.N), w1_0, w1_1])]) (R := fun r en w' => ∃ v, en = .returned v ∧ spec_ItemCompare.Q s0.w F r v w') Tryz.func154 Tryz.ntmps154 rfl rfl m ?_
 unfold spec_ItemCompare.f
 refine sr ?_
 refine bx (cs := [(.int .i64 a0.Kind), (.int .i64 a0.N), w0_0, w0_1]) 40 rfl rfl rfl rfl rfl rfl (fun b3 s3 p3 B3 => ?_)
 refine bx (cs := [(.int .i64 a1.Kind), (.int .i64 a1.N), w1_0, w1_1]) 41 rfl rfl rfl rfl rfl rfl (fun b5 s5 p5 B5 => ?_)
 refine pu rfl rfl rfl rfl rfl ?_
 refine dn ?_
 refine sq ?_
 refine sr ?_
 have A7 := (BlF.st B3 p5 rfl)
 refine lda (es := [(.int .i64 a0.Kind), (.int .i64 a0.N), w0_0, w0_1]) A7 Tryz.underlying33 z33 rfl rfl rfl rfl rfl rfl rfl rfl ?_
 have K8 := ((kp0.st p3 rfl).st p5 rfl)
 have A9 := (A0_1.kp K8)
 refine cl rfl rfl rfl rfl rfl Tryz.func150 rfl rfl rfl (fun r10 m10 => spec_ItemOk.calls a0 s5.w (fun b => memb [0] (s5.g b) = true) w0_0 w0_1 ((fl_rdf (s := s5) A0_0).sub (D := [0]) rfl) A9 r10 m10) ?_
 rintro r10 _ w10 m10 ⟨rfl, ky10⟩
 obtain ⟨s11, rfl, p11, n11⟩ := nwx s5 w10 42 ky10
 refine pu rfl rfl rfl rfl rfl ?_
 refine pu rfl rfl rfl rfl rfl ?_
 refine ji [] (fun (y12 : Bool) (e : Env) (w : World) => ∃ (s : St) (e0 : Env), w = s.w ∧ e = upd (upd (upd e0 2 (.pointer (some ⟨b3, 0, none⟩))) 3 (.pointer (some ⟨b5, 0, none⟩))) 13 (.bool y12) ∧ Kp s0 s ∧ BlF s b5 33 [(.int .i64 a1.Kind), (.int .i64 a1.N), w1_0, w1_1] 41 ∧ BlF s b3 33 [(.int .i64 a0.Kind), (.int .i64 a0.N), w0_0, w0_1] 40) (fun Gj12 Kj12 => ?_) ?_
 ·
  rcases Bool.eq_false_or_eq_true (!r10) with hb12 | hb12
  ·
   refine sbT hb12 ?_
   rw [if_pos hb12]
   refine uw rfl rfl rfl rfl ?_
   refine uw rfl rfl rfl rfl ?_
   refine uw rfl rfl rfl rfl ?_
   refine pu rfl rfl rfl rfl rfl ?_
   have A13 := (BlF.st B5 p11 rfl)
   have A14 := (BlF.st A7 p11 rfl)
   have K15 := (K8.st p11 rfl)
   exact Kj12 _ _ _ ⟨s11, _, rfl, (ue (ue (ue rfl rfl) rfl) rfl), K15, A13, A14⟩
  ·
   refine sbT hb12 ?_
   rw [if_neg (by rw [hb12]; decide)]
   have A16 := (BlF.st B5 p11 rfl)
   refine lda (es := [(.int .i64 a1.Kind), (.int .i64 a1.N), w1_0, w1_1]) A16 Tryz.underlying33 z33 rfl rfl rfl rfl rfl rfl rfl rfl ?_
   have K17 := (K8.st p11 rfl)
   have A18 := (A1_1.kp K17)
   refine cl rfl rfl rfl rfl rfl Tryz.func150 rfl rfl rfl (fun r19 m19 => spec_ItemOk.calls a1 s11.w (fun b => memb [0] (s11.g b) = true) w1_0 w1_1 ((fl_rdf (s := s11) A1_0).sub (D := [0]) rfl) A18 r19 m19) ?_
   rintro r19 _ w19 m19 ⟨rfl, ky19⟩
   obtain ⟨s20, rfl, p20, n20⟩ := nwx s11 w19 43 ky19
   refine pu rfl rfl rfl rfl rfl ?_
   refine pu rfl rfl rfl rfl rfl ?_
   have A21 := (BlF.st A16 p20 rfl)
   have A22 := (BlF.st (BlF.st A7 p11 rfl) p20 rfl)
   have K23 := (K17.st p20 rfl)
   exact Kj12 _ _ _ ⟨s20, _, rfl, (ue (ue (ue rfl rfl) rfl) rfl), K23, A21, A22⟩
 rintro y12 _ _ ⟨s24, _, rfl, rfl, Ky12, By12_b5, By12_b3⟩
 refine dn ?_
 refine cd rfl (fun h27 => ?_) (fun h27 => ?_)
 ·
  refine sr ?_
  refine pu rfl rfl rfl rfl rfl ?_
  refine dn ?_
  exact re rfl Tryz.func154 rfl (r_t rfl r_nil) rfl ⟨_, rfl, rfl, z.ky Ky12⟩
 ·
  refine sk ?_
  refine sq ?_
  refine sr ?_
  refine fa fa33_0 rfl rfl rfl rfl rfl rfl ?_
  refine ld By12_b3 Tryz.underlying3 rfl rfl rfl rfl rfl rfl rfl rfl ?_
  refine fa fa33_0 rfl rfl rfl rfl rfl rfl ?_
  refine ld By12_b5 Tryz.underlying3 rfl rfl rfl rfl rfl rfl rfl rfl ?_
  refine pu rfl rfl rfl rfl rfl ?_
  refine dn ?_
  refine cd rfl (fun h28 => ?_) (fun h28 => ?_)
  ·
   refine sq ?_
   refine sr ?_
   refine fa fa33_0 rfl rfl rfl rfl rfl rfl ?_
   refine ld By12_b3 Tryz.underlying3 rfl rfl rfl rfl rfl rfl rfl rfl ?_
   refine fa fa33_0 rfl rfl rfl rfl rfl rfl ?_
   refine ld By12_b5 Tryz.underlying3 rfl rfl rfl rfl rfl rfl rfl rfl ?_
   refine pu rfl rfl rfl rfl rfl ?_
   refine dn ?_
   refine cd rfl (fun h29 => ?_) (fun h29 => ?_)
   ·
    refine sr ?_
    refine pu rfl rfl rfl rfl rfl ?_
    refine dn ?_
    exact re rfl Tryz.func154 rfl (r_t rfl r_nil) rfl ⟨_, rfl, rfl, z.ky Ky12⟩
   ·
    refine sk ?_
    refine sr ?_
    refine pu rfl rfl rfl rfl rfl ?_
    refine dn ?_
    exact re rfl Tryz.func154 rfl (r_t rfl r_nil) rfl ⟨_, rfl, rfl, z.ky Ky12⟩
  ·
   refine sk ?_
   refine sq ?_
   refine sr ?_
   refine fa fa33_1 rfl rfl rfl rfl rfl rfl ?_
   refine ld By12_b3 Tryz.underlying3 rfl rfl rfl rfl rfl rfl rfl rfl ?_
   refine fa fa33_1 rfl rfl rfl rfl rfl rfl ?_
   refine ld By12_b5 Tryz.underlying3 rfl rfl rfl rfl rfl rfl rfl rfl ?_
   refine pu rfl rfl rfl rfl rfl ?_
   refine dn ?_
   refine cd rfl (fun h30 => ?_) (fun h30 => ?_)
   ·
    refine sq ?_
    refine sr ?_
    refine fa fa33_1 rfl rfl rfl rfl rfl rfl ?_
    refine ld By12_b3 Tryz.underlying3 rfl rfl rfl rfl rfl rfl rfl rfl ?_
    refine fa fa33_1 rfl rfl rfl rfl rfl rfl ?_
    refine ld By12_b5 Tryz.underlying3 rfl rfl rfl rfl rfl rfl rfl rfl ?_
    refine pu rfl rfl rfl rfl rfl ?_
    refine dn ?_
    refine cd rfl (fun h31 => ?_) (fun h31 => ?_)
    ·
     refine sr ?_
     refine pu rfl rfl rfl rfl rfl ?_
     refine dn ?_
     exact re rfl Tryz.func154 rfl (r_t rfl r_nil) rfl ⟨_, rfl, rfl, z.ky Ky12⟩
    ·
     refine sk ?_
     refine sr ?_
     refine pu rfl rfl rfl rfl rfl ?_
     refine dn ?_
     exact re rfl Tryz.func154 rfl (r_t rfl r_nil) rfl ⟨_, rfl, rfl, z.ky Ky12⟩
   ·
    refine sk ?_
    refine sr ?_
    refine fa fa33_2 rfl rfl rfl rfl rfl rfl ?_
    refine ld By12_b3 Tryz.underlying23 rfl rfl rfl rfl rfl rfl rfl rfl ?_
    refine fa fa33_2 rfl rfl rfl rfl rfl rfl ?_
    refine ld By12_b5 Tryz.underlying23 rfl rfl rfl rfl rfl rfl rfl rfl ?_
    refine cl rfl rfl rfl rfl rfl Tryz.func242 rfl rfl rfl (fun r32 m32 => spec_FloatCompare.calls a0.F a1.F s24.w (fun b => memb [] (s24.g b) = true) w0_0 w1_0 (fl_rdf (s := s24) A0_0) (fl_rdf (s := s24) A1_0) r32 m32) ?_
    rintro r32 _ w32 m32 ⟨rfl, ky32⟩
    obtain ⟨s33, rfl, p33, n33⟩ := nwx s24 w32 44 ky32
    refine pu rfl rfl rfl rfl rfl ?_
    refine dn ?_
    refine sq ?_
    refine sr ?_
    refine pu rfl rfl rfl rfl rfl ?_
    refine pu rfl rfl rfl rfl rfl ?_
    refine dn ?_
    refine cd rfl (fun h34 => ?_) (fun h34 => ?_)
    ·
     refine sr ?_
     refine pu rfl rfl rfl rfl rfl ?_
     refine pu rfl rfl rfl rfl rfl ?_
     refine dn ?_
     have K35 := (Ky12.st p33 rfl)
     exact re rfl Tryz.func154 rfl (r_t rfl r_nil) rfl ⟨_, rfl, rfl, z.ky K35⟩
    ·
     refine sk ?_
     refine sr ?_
     refine fa fa33_3 rfl rfl rfl rfl rfl rfl ?_
     have A36 := (BlF.st By12_b3 p33 rfl)
     refine ld A36 Tryz.underlying24 rfl rfl rfl rfl rfl rfl rfl rfl ?_
     refine fa fa33_3 rfl rfl rfl rfl rfl rfl ?_
     have A37 := (BlF.st By12_b5 p33 rfl)
     refine ld A37 Tryz.underlying24 rfl rfl rfl rfl rfl rfl rfl rfl ?_
     have K38 := (Ky12.st p33 rfl)
     have A39 := (A0_1.kp K38)
     have A40 := (A1_1.kp K38)
     refine cl rfl rfl rfl rfl rfl Tryz.func243 rfl rfl rfl (fun r41 m41 => spec_l3texts.calls a0.T a1.T s33.w (fun b => memb [0] (s33.g b) = true) w0_1 w1_1 A39 A40 r41 m41) ?_
     rintro r41 _ w41 m41 ⟨rfl, ky41⟩
     obtain ⟨s42, rfl, p42, n42⟩ := nwx s33 w41 45 ky41
     refine pu rfl rfl rfl rfl rfl ?_
     refine dn ?_
     have K43 := (K38.st p42 rfl)
     exact re rfl Tryz.func154 rfl (r_t rfl r_nil) rfl ⟨_, rfl, rfl, z.ky K43⟩
noncomputable def spec_SpanOk.f (a0 : Span) : Option (Bool) :=
 ((spec_KeyOk.f a0.From).bind fun r7 => ((if r7 = true then ((spec_KeyOk.f a0.To).bind fun r13 => (some r13)) else (some false)).bind fun y9 => ((if y9 = true then ((spec_ItemCompare.f a0.From a0.To).bind fun r24 => (some (decide (r24 ≤ (0 : Int))))) else (some false)).bind fun y21 => (some y21))))
def spec_SpanOk.Q (w : World) (F : Nat → Prop) (r : Bool) (v : Value) (w' : World) : Prop :=
 v = (.bool r) ∧ Ky [] w w'
set_option maxHeartbeats 4000000 in
set_option maxRecDepth 100000 in
theorem spec_SpanOk.calls (a0 : Span) (w : World) (F : Nat → Prop) (w0_0 : Value) (w0_1 : Value) (w0_2 : Value) (w0_3 : Value) (h0_0 : Kd.flt.rd w [w0_0] a0.From.F F) (h0_1 : (Kd.sl 5 (Kd.int .u8)).rd w [w0_1] a0.From.T F) (h0_2 : Kd.flt.rd w [w0_2] a0.To.F F) (h0_3 : (Kd.sl 5 (Kd.int .u8)).rd w [w0_3] a0.To.T F) (r : Bool) (m : spec_SpanOk.f a0 = some r) :
  Calls Tryz.prog 149 #[(.agg #[(.int .i64 a0.From.Kind), (.int .i64 a0.From.N), w0_0, w0_1, (.int .i64 a0.To.Kind), (.int .i64 a0.To.N), w0_2, w0_3])] w fun en w' => ∃ v, en = .returned v ∧ spec_SpanOk.Q w F r v w' := by
 obtain ⟨s0, rfl, kp0, z⟩ := start0 w F
 have A0_0 := fl_of h0_0
 have A0_1 := z.rd h0_1
 have A0_2 := fl_of h0_2
 have A0_3 := z.rd h0_3
 refine calls_of_TM (args := [(.agg #[(.int .i64 a0.From.Kind), (.int .i64 a0.From.N), w0_0, w0_1, (.int .i64 a0.To.Kind), (.int .i64 a0.To.N), w0_2, w0_3])]) (R := fun r en w' => ∃ v, en = .returned v ∧ spec_SpanOk.Q s0.w F r v w') Tryz.func149 Tryz.ntmps149 rfl rfl m ?_
 unfold spec_SpanOk.f
 refine sr ?_
 refine bx (cs := [(.int .i64 a0.From.Kind), (.int .i64 a0.From.N), w0_0, w0_1, (.int .i64 a0.To.Kind), (.int .i64 a0.To.N), w0_2, w0_3]) 40 rfl rfl rfl rfl rfl rfl (fun b3 s3 p3 B3 => ?_)
 refine pu rfl rfl rfl rfl rfl ?_
 refine dn ?_
 refine sr ?_
 refine fa fa200_0 rfl rfl rfl rfl rfl rfl ?_
 refine lda (es := [(.int .i64 a0.From.Kind), (.int .i64 a0.From.N), w0_0, w0_1]) B3 Tryz.underlying33 z33 rfl rfl rfl rfl rfl rfl rfl rfl ?_
 have K5 := (kp0.st p3 rfl)
 have A6 := (A0_1.kp K5)
 refine cl rfl rfl rfl rfl rfl Tryz.func66 rfl rfl rfl (fun r7 m7 => spec_KeyOk.calls a0.From s3.w (fun b => memb [0] (s3.g b) = true) w0_0 w0_1 ((fl_rdf (s := s3) A0_0).sub (D := [0]) rfl) A6 r7 m7) ?_
 rintro r7 _ w7 m7 ⟨rfl, ky7⟩
 obtain ⟨s8, rfl, p8, n8⟩ := nwx s3 w7 41 ky7
 refine pu rfl rfl rfl rfl rfl ?_
 refine ji [8, 9, 10, 11, 12, 13, 14, 15, 16] (fun (y9 : Bool) (e : Env) (w : World) => ∃ (s : St) (e0 : Env), w = s.w ∧ e = upd (upd e0 1 (.pointer (some ⟨b3, 0, none⟩))) 10 (.bool y9) ∧ Kp s0 s ∧ BlF s b3 200 [(.int .i64 a0.From.Kind), (.int .i64 a0.From.N), w0_0, w0_1, (.int .i64 a0.To.Kind), (.int .i64 a0.To.N), w0_2, w0_3] 40) (fun Gj9 Kj9 => ?_) ?_
 ·
  rcases Bool.eq_false_or_eq_true r7 with hb9 | hb9
  ·
   refine sbT hb9 ?_
   rw [if_pos hb9]
   refine fa fa200_1 rfl rfl rfl rfl rfl rfl ?_
   have A10 := (BlF.st B3 p8 rfl)
   refine lda (es := [(.int .i64 a0.To.Kind), (.int .i64 a0.To.N), w0_2, w0_3]) A10 Tryz.underlying33 z33 rfl rfl rfl rfl rfl rfl rfl rfl ?_
   have K11 := (K5.st p8 rfl)
   have A12 := (A0_3.kp K11)
   refine cl rfl rfl rfl rfl rfl Tryz.func66 rfl rfl rfl (fun r13 m13 => spec_KeyOk.calls a0.To s8.w (fun b => memb [0] (s8.g b) = true) w0_2 w0_3 ((fl_rdf (s := s8) A0_2).sub (D := [0]) rfl) A12 r13 m13) ?_
   rintro r13 _ w13 m13 ⟨rfl, ky13⟩
   obtain ⟨s14, rfl, p14, n14⟩ := nwx s8 w13 42 ky13
   refine pu rfl rfl rfl rfl rfl ?_
   have A15 := (BlF.st A10 p14 rfl)
   have K16 := (K11.st p14 rfl)
   exact Kj9 _ _ _ ⟨s14, _, rfl, (ue (ue rfl rfl) rfl), K16, A15⟩
  ·
   refine sbT hb9 ?_
   rw [if_neg (by rw [hb9]; decide)]
   refine uw rfl rfl rfl rfl ?_
   refine uw rfl rfl rfl rfl ?_
   refine uw rfl rfl rfl rfl ?_
   refine pu rfl rfl rfl rfl rfl ?_
   have A17 := (BlF.st B3 p8 rfl)
   have K18 := (K5.st p8 rfl)
   exact Kj9 _ _ _ ⟨s8, _, rfl, (ue (ue rfl rfl) rfl), K18, A17⟩
 rintro y9 _ _ ⟨s19, _, rfl, rfl, Ky9, By9_b3⟩
 refine pu rfl rfl rfl rfl rfl ?_
 refine ji [16] (fun (y21 : Bool) (e : Env) (w : World) => ∃ (s : St) (e0 : Env), w = s.w ∧ e = upd e0 18 (.bool y21) ∧ Kp s0 s) (fun Gj21 Kj21 => ?_) ?_
 ·
  rcases Bool.eq_false_or_eq_true y9 with hb21 | hb21
  ·
   refine sbT hb21 ?_
   rw [if_pos hb21]
   refine fa fa200_0 rfl rfl rfl rfl rfl rfl ?_
   refine lda (es := [(.int .i64 a0.From.Kind), (.int .i64 a0.From.N), w0_0, w0_1]) By9_b3 Tryz.underlying33 z33 rfl rfl rfl rfl rfl rfl rfl rfl ?_
   refine fa fa200_1 rfl rfl rfl rfl rfl rfl ?_
   refine lda (es := [(.int .i64 a0.To.Kind), (.int .i64 a0.To.N), w0_2, w0_3]) By9_b3 Tryz.underlying33 z33 rfl rfl rfl rfl rfl rfl rfl rfl ?_
   have A22 := (A0_1.kp Ky9)
   have A23 := (A0_3.kp Ky9)
   refine cl rfl rfl rfl rfl rfl Tryz.func154 rfl rfl rfl (fun r24 m24 => spec_ItemCompare.calls a0.From a0.To s19.w (fun b => memb [0] (s19.g b) = true) w0_0 w0_1 w0_2 w0_3 ((fl_rdf (s := s19) A0_0).sub (D := [0]) rfl) A22 ((fl_rdf (s := s19) A0_2).sub (D := [0]) rfl) A23 r24 m24) ?_
   rintro r24 _ w24 m24 ⟨rfl, ky24⟩
   obtain ⟨s25, rfl, p25, n25⟩ := nwx s19 w24 43 ky24
   refine pu rfl rfl rfl rfl rfl ?_
   refine pu rfl rfl rfl rfl rfl ?_
   have K26 := (Ky9.st p25 rfl)
   exact Kj21 _ _ _ ⟨s25, _, rfl, (ue rfl rfl), K26⟩
  ·
   refine sbT hb21 ?_
   rw [if_neg (by rw [hb21]; decide)]
   refine uw rfl rfl rfl rfl ?_
   refine uw rfl rfl rfl rfl ?_
   refine uw rfl rfl rfl rfl ?_
   refine uw rfl rfl rfl rfl ?_
   refine uw rfl rfl rfl rfl ?_
   refine uw rfl rfl rfl rfl ?_
   refine pu rfl rfl rfl rfl rfl ?_
   exact Kj21 _ _ _ ⟨s19, _, rfl, (ue rfl rfl), Ky9⟩
 rintro y21 _ _ ⟨s27, _, rfl, rfl, Ky21⟩
 refine pu rfl rfl rfl rfl rfl ?_
 refine dn ?_
 exact re rfl Tryz.func149 rfl (r_t rfl r_nil) rfl ⟨_, rfl, rfl, z.ky Ky21⟩
noncomputable def spec_TracksOk.b3 (a0 : (List Track)) (x3 : Int) (x71 : Int) : Option (Int ⊕ (Int ⊕ Bool)) :=
 (if (decide (x71 < x3)) = true then (if 0 ≤ x71 ∧ x71 < (a0.length : Int) then (if ((at_ a0 x71).Xid == (at_ a0 x3).Xid) = true then (some (Sum.inr (Sum.inr false))) else (some (Sum.inl (IntKind.wrap .i64 (x71 + (1 : Int)))))) else none) else ((some (Sum.inl (IntKind.wrap .i64 (x3 + (1 : Int))))).bind fun o => some (Sum.inr o)))
noncomputable def spec_TracksOk.b2 (a0 : (List Track)) (x3 : Int) (x56 : Int) : Option (Int ⊕ (Int ⊕ Bool)) :=
 (if (decide (x56 < (((at_ a0 x3).Writes).length : Int))) = true then (if 0 ≤ x56 ∧ x56 < (((at_ a0 x3).Writes).length : Int) then ((spec_KeyOk.f (at_ ((at_ a0 x3).Writes) x56)).bind fun r63 => (if (!r63) = true then (some (Sum.inr (Sum.inr false))) else (some (Sum.inl (IntKind.wrap .i64 (x56 + (1 : Int))))))) else none) else ((iter (spec_TracksOk.b3 a0 x3) (0 : Int)).bind fun o => some (Sum.inr o)))
noncomputable def spec_TracksOk.b1 (a0 : (List Track)) (x3 : Int) (x36 : Int) : Option (Int ⊕ (Int ⊕ Bool)) :=
 (if (decide (x36 < (((at_ a0 x3).Reads).length : Int))) = true then (if 0 ≤ x36 ∧ x36 < (((at_ a0 x3).Reads).length : Int) then ((spec_SpanOk.f (Span.mk ((at_ ((at_ a0 x3).Reads) x36).From) ((at_ ((at_ a0 x3).Reads) x36).To))).bind fun r48 => (if (!r48) = true then (some (Sum.inr (Sum.inr false))) else (some (Sum.inl (IntKind.wrap .i64 (x36 + (1 : Int))))))) else none) else ((iter (spec_TracksOk.b2 a0 x3) (0 : Int)).bind fun o => some (Sum.inr o)))
noncomputable def spec_TracksOk.b0 (a0 : (List Track)) (x3 : Int) : Option (Int ⊕ Bool) :=
 (if (decide (x3 < (a0.length : Int))) = true then (if 0 ≤ x3 ∧ x3 < (a0.length : Int) then ((spec_l5in.f ((at_ a0 x3).Xid) (1 : Int) (400 : Int)).bind fun r17 => (if ((((((!r17) || (decide ((at_ a0 x3).Begun < (1 : Int)))) || (((at_ a0 x3).Ended != (0 : Int)) && (decide ((at_ a0 x3).Ended ≤ (at_ a0 x3).Begun)))) || (decide ((((at_ a0 x3).Reads).length : Int) > (6 : Int)))) || ((at_ a0 x3).All && (decide ((((at_ a0 x3).Reads).length : Int) > (0 : Int))))) || (decide ((((at_ a0 x3).Writes).length : Int) > (200 : Int)))) = true then (some (Sum.inr false)) else (iter (spec_TracksOk.b1 a0 x3) (0 : Int)))) else none) else ((some true).bind fun o => some (Sum.inr o)))
noncomputable def spec_TracksOk.f (a0 : (List Track)) : Option (Bool) :=
 (if (decide ((a0.length : Int) > (64 : Int))) = true then (some false) else (iter (spec_TracksOk.b0 a0) (0 : Int)))
def spec_TracksOk.Q (w : World) (F : Nat → Prop) (r : Bool) (v : Value) (w' : World) : Prop :=
 v = (.bool r) ∧ Ky [] w w'
set_option maxHeartbeats 4000000 in
set_option maxRecDepth 100000 in
theorem spec_TracksOk.calls (a0 : (List Track)) (w : World) (F : Nat → Prop) (w0_0 : Value) (h0_0 : (Kd.sl 117 kd117).rd w [w0_0] a0 F) (r : Bool) (m : spec_TracksOk.f a0 = some r) :
  Calls Tryz.prog 65 #[w0_0] w fun en w' => ∃ v, en = .returned v ∧ spec_TracksOk.Q w F r v w' := by
 obtain ⟨s0, rfl, kp0, z⟩ := start0 w F
 have A0_0 := z.rd h0_0
 refine calls_of_TM (args := [w0_0]) (R := fun r en w' => ∃ v, en = .returned v ∧ spec_TracksOk.Q s0.w F r v w') Tryz.func65 Tryz.ntmps65 rfl rfl m ?_
 unfold spec_TracksOk.f
 refine sr ?_
 refine pu rfl rfl rfl rfl rfl ?_
 refine dn ?_
 refine sq ?_
 refine sr ?_
 refine mv w0_0 rfl rfl rfl rfl rfl rfl ?_
 refine ln A0_0 Tryz.underlying29 rfl rfl rfl rfl rfl rfl ?_
 refine pu rfl rfl rfl rfl rfl ?_
 refine dn ?_
 refine cd rfl (fun h2 => ?_) (fun h2 => ?_)
 ·
  refine sr ?_
  refine pu rfl rfl rfl rfl rfl ?_
  refine dn ?_
  exact re rfl Tryz.func65 rfl (r_t rfl r_nil) rfl ⟨_, rfl, rfl, z.ky kp0⟩
 ·
  refine sk ?_
  refine sq ?_
  refine sr ?_
  refine pu rfl rfl rfl rfl rfl ?_
  refine dn ?_
  refine bl ?_
  refine lpI (fun (x3 : Int) (e : Env) (w : World) => ∃ (s : St) (e0 : Env), w = s.w ∧ e = upd (upd e0 0 w0_0) 3 (.int .i64 x3) ∧ Kp s0 s) ⟨s0, _, rfl, (ue (ue rfl rfl) rfl), kp0⟩ (fun g3 ih3 => ?_)
  rintro x3 _ _ ⟨s4, _, rfl, rfl, Kx3⟩
  unfold spec_TracksOk.b0
  refine sq ?_
  refine sr ?_
  refine pu rfl rfl rfl rfl rfl ?_
  refine mv w0_0 rfl rfl rfl rfl rfl rfl ?_
  have A5 := (A0_0.kp Kx3)
  refine ln A5 Tryz.underlying29 rfl rfl rfl rfl rfl rfl ?_
  refine pu rfl rfl rfl rfl rfl ?_
  refine dn ?_
  refine cd rfl (fun h6 => ?_) (fun h6 => ?_)
  ·
   refine sk ?_
   refine sq ?_
   refine bl ?_
   refine sr ?_
   refine mv w0_0 rfl rfl rfl rfl rfl rfl ?_
   refine pu rfl rfl rfl rfl rfl ?_
   refine ix A5 Tryz.underlying29 z117 rfl rfl rfl rfl rfl rfl rfl rfl (fun ad7 es7 h0_7 h1_7 he7 ce7 ia7 => ?_)
   obtain ⟨v7_0, v7_1, rfl, A7_0, A7_1⟩ := op117 he7
   refine lca ce7 Tryz.underlying117 z117 rfl rfl rfl rfl rfl rfl rfl ?_
   refine al (cs := [(.int .i64 (0 : Int)), (.int .i64 (0 : Int)), (.int .i64 (0 : Int)), (.bool false), (.slice none 0 0), (.slice none 0 0), (.bool false), (.bool false)]) 40 rfl rfl rfl rfl rfl o117 rfl (fun b11 s11 p11 B11 => ?_)
   have A13 := (A7_1.st p11 rfl)
   have A14 := (A7_0.st p11 rfl)
   refine sva (vs := [(.int .i64 ((at_ a0 x3).Xid)), (.int .i64 ((at_ a0 x3).Begun)), (.int .i64 ((at_ a0 x3).Ended)), (.bool ((at_ a0 x3).All)), v7_0, v7_1, (.bool ((at_ a0 x3).In)), (.bool ((at_ a0 x3).Out))]) B11 z117 rfl rfl rfl rfl rfl rfl (on_cons rfl (on_cons rfl (on_cons rfl (on_cons rfl (on_cons A14.one (on_cons A13.one (on_cons rfl (on_cons rfl on_nil)))))))) rfl (fun s15 p15 B15 => ?_)
   refine dn ?_
   refine sq ?_
   refine sr ?_
   refine fa fa117_0 rfl rfl rfl rfl rfl rfl ?_
   refine ld B15 Tryz.underlying3 rfl rfl rfl rfl rfl rfl rfl rfl ?_
   refine cl rfl rfl rfl rfl rfl Tryz.func96 rfl rfl rfl (fun r17 m17 => spec_l5in.calls ((at_ a0 x3).Xid) (1 : Int) (400 : Int) s15.w (fun b => memb [] (s15.g b) = true)  r17 m17) ?_
   rintro r17 _ w17 m17 ⟨rfl, ky17⟩
   obtain ⟨s18, rfl, p18, n18⟩ := nwx s15 w17 41 ky17
   refine pu rfl rfl rfl rfl rfl ?_
   refine pu rfl rfl rfl rfl rfl ?_
   refine jy [25, 26, 27, 28, 29] [9, 10, 11, 12, 13, 14, 15, 16, 17, 18, 19, 20, 21, 22, 23, 24, 25, 26, 27, 28, 29, 30, 31, 32, 33, 34, 35, 36, 37, 38, 39, 40, 41, 42] 29 (.bool ((!r17) || (decide ((at_ a0 x3).Begun < (1 : Int))))) rfl (fun Kg19 => ?_) (fun j19 => ?_)
   ·
    rcases Bool.eq_false_or_eq_true (!r17) with hb19 | hb19
    ·
     refine sbT hb19 ?_
     refine uw rfl rfl rfl rfl ?_
     refine uw rfl rfl rfl rfl ?_
     refine uw rfl rfl rfl rfl ?_
     refine pu rfl rfl rfl rfl rfl ?_
     exact Kg19 _ (Ag.put ((Ag.put ((Ag.put ((Ag.put (Ag.base rfl) rfl)) rfl)) rfl)) rfl) (by rw [hb19]; rfl)
    ·
     refine sbT hb19 ?_
     refine fa fa117_1 rfl rfl rfl rfl rfl rfl ?_
     have A20 := (BlF.st B15 p18 rfl)
     refine ld A20 Tryz.underlying3 rfl rfl rfl rfl rfl rfl rfl rfl ?_
     refine pu rfl rfl rfl rfl rfl ?_
     refine pu rfl rfl rfl rfl rfl ?_
     exact Kg19 _ (Ag.put ((Ag.put ((Ag.put ((Ag.put (Ag.base rfl) rfl)) rfl)) rfl)) rfl) (by rw [hb19]; rfl)
   refine pu rfl rfl rfl rfl rfl ?_
   refine jy [30, 31, 32, 33, 34, 35, 36, 37, 38, 39, 40, 41] [21, 22, 23, 24, 25, 26, 27, 28, 29, 30, 31, 32, 33, 34, 35, 36, 37, 38, 39, 40, 41, 42] 41 (.bool (((!r17) || (decide ((at_ a0 x3).Begun < (1 : Int)))) || (((at_ a0 x3).Ended != (0 : Int)) && (decide ((at_ a0 x3).Ended ≤ (at_ a0 x3).Begun))))) rfl (fun Kg21 => ?_) (fun j21 => ?_)
   ·
    rcases Bool.eq_false_or_eq_true ((!r17) || (decide ((at_ a0 x3).Begun < (1 : Int)))) with hb21 | hb21
    ·
     refine sbT hb21 ?_
     refine uw rfl rfl rfl rfl ?_
     refine uw rfl rfl rfl rfl ?_
     refine uw rfl rfl rfl rfl ?_
     refine uw rfl rfl rfl rfl ?_
     refine uw rfl rfl rfl rfl ?_
     refine uw rfl rfl rfl rfl ?_
     refine uw rfl rfl rfl rfl ?_
     refine uw rfl rfl rfl rfl ?_
     refine uw rfl rfl rfl rfl ?_
     refine uw rfl rfl rfl rfl ?_
     refine pu rfl rfl rfl rfl rfl ?_
     exact Kg21 _ (Ag.put ((Ag.put ((Ag.put ((Ag.put ((Ag.put ((Ag.put ((Ag.put ((Ag.put ((Ag.put ((Ag.put ((Ag.put (Ag.base rfl) rfl)) rfl)) rfl)) rfl)) rfl)) rfl)) rfl)) rfl)) rfl)) rfl)) rfl) (by rw [hb21]; rfl)
    ·
     refine sbT hb21 ?_
     refine fa fa117_2 rfl rfl rfl rfl rfl rfl ?_
     have A22 := (BlF.st B15 p18 rfl)
     refine ld A22 Tryz.underlying3 rfl rfl rfl rfl rfl rfl rfl rfl ?_
     refine pu rfl rfl rfl rfl rfl ?_
     refine pu rfl rfl rfl rfl rfl ?_
     refine jy [34, 35, 36, 37, 38, 39, 40] [20, 21, 22, 23, 24, 25, 26, 27, 28, 29, 30, 31, 32, 33, 34, 35, 36, 37, 38, 39, 40, 41, 42] 40 (.bool (((at_ a0 x3).Ended != (0 : Int)) && (decide ((at_ a0 x3).Ended ≤ (at_ a0 x3).Begun)))) rfl (fun Kg23 => ?_) (fun j23 => ?_)
     ·
      rcases Bool.eq_false_or_eq_true ((at_ a0 x3).Ended != (0 : Int)) with hb23 | hb23
      ·
       refine sbT hb23 ?_
       refine fa fa117_2 rfl rfl rfl rfl rfl rfl ?_
       refine ld A22 Tryz.underlying3 rfl rfl rfl rfl rfl rfl rfl rfl ?_
       refine fa fa117_1 rfl rfl rfl rfl rfl rfl ?_
       refine ld A22 Tryz.underlying3 rfl rfl rfl rfl rfl rfl rfl rfl ?_
       refine pu rfl rfl rfl rfl rfl ?_
       refine pu rfl rfl rfl rfl rfl ?_
       exact Kg23 _ (Ag.put ((Ag.put ((Ag.put ((Ag.put ((Ag.put ((Ag.put (Ag.base rfl) rfl)) rfl)) rfl)) rfl)) rfl)) rfl) (by rw [hb23]; rfl)
      ·
       refine sbT hb23 ?_
       refine uw rfl rfl rfl rfl ?_
       refine uw rfl rfl rfl rfl ?_
       refine uw rfl rfl rfl rfl ?_
       refine uw rfl rfl rfl rfl ?_
       refine uw rfl rfl rfl rfl ?_
       refine pu rfl rfl rfl rfl rfl ?_
       exact Kg23 _ (Ag.put ((Ag.put ((Ag.put ((Ag.put ((Ag.put ((Ag.put (Ag.base rfl) rfl)) rfl)) rfl)) rfl)) rfl)) rfl) (by rw [hb23]; rfl)
     refine pu rfl rfl rfl rfl rfl ?_
     exact Kg21 _ (Ag.put ((Ag.put ((Ag.ov ((Ag.put ((Ag.put ((Ag.put ((Ag.put (Ag.base rfl) rfl)) rfl)) rfl)) rfl)) rfl)) rfl)) rfl) (by rw [hb21]; rfl)
   refine pu rfl rfl rfl rfl rfl ?_
   refine jy [42, 43, 44, 45, 46, 47] [27, 28, 29, 30, 31, 32, 33, 34, 35, 36, 37, 38, 39, 40, 41, 42] 47 (.bool ((((!r17) || (decide ((at_ a0 x3).Begun < (1 : Int)))) || (((at_ a0 x3).Ended != (0 : Int)) && (decide ((at_ a0 x3).Ended ≤ (at_ a0 x3).Begun)))) || (decide ((((at_ a0 x3).Reads).length : Int) > (6 : Int))))) rfl (fun Kg24 => ?_) (fun j24 => ?_)
   ·
    rcases Bool.eq_false_or_eq_true (((!r17) || (decide ((at_ a0 x3).Begun < (1 : Int)))) || (((at_ a0 x3).Ended != (0 : Int)) && (decide ((at_ a0 x3).Ended ≤ (at_ a0 x3).Begun)))) with hb24 | hb24
    ·
     refine sbT hb24 ?_
     refine uw rfl rfl rfl rfl ?_
     refine uw rfl rfl rfl rfl ?_
     refine uw rfl rfl rfl rfl ?_
     refine uw rfl rfl rfl rfl ?_
     refine pu rfl rfl rfl rfl rfl ?_
     exact Kg24 _ (Ag.put ((Ag.put ((Ag.put ((Ag.put ((Ag.put (Ag.base rfl) rfl)) rfl)) rfl)) rfl)) rfl) (by rw [hb24]; rfl)
    ·
     refine sbT hb24 ?_
     refine fa fa117_4 rfl rfl rfl rfl rfl rfl ?_
     have A25 := (BlF.st B15 p18 rfl)
     refine ld A25 Tryz.underlying114 rfl rfl rfl rfl rfl rfl rfl rfl ?_
     have A26 := ((A14.st p15 rfl).st p18 rfl)
     refine ln A26 Tryz.underlying114 rfl rfl rfl rfl rfl rfl ?_
     refine pu rfl rfl rfl rfl rfl ?_
     refine pu rfl rfl rfl rfl rfl ?_
     exact Kg24 _ (Ag.put ((Ag.put ((Ag.put ((Ag.put ((Ag.put (Ag.base rfl) rfl)) rfl)) rfl)) rfl)) rfl) (by rw [hb24]; rfl)
   refine pu rfl rfl rfl rfl rfl ?_
   refine jy [48, 49, 50, 51, 52, 53, 54, 55, 56, 57] [37, 38, 39, 40, 41, 42] 57 (.bool (((((!r17) || (decide ((at_ a0 x3).Begun < (1 : Int)))) || (((at_ a0 x3).Ended != (0 : Int)) && (decide ((at_ a0 x3).Ended ≤ (at_ a0 x3).Begun)))) || (decide ((((at_ a0 x3).Reads).length : Int) > (6 : Int)))) || ((at_ a0 x3).All && (decide ((((at_ a0 x3).Reads).length : Int) > (0 : Int)))))) rfl (fun Kg27 => ?_) (fun j27 => ?_)
   ·
    rcases Bool.eq_false_or_eq_true ((((!r17) || (decide ((at_ a0 x3).Begun < (1 : Int)))) || (((at_ a0 x3).Ended != (0 : Int)) && (decide ((at_ a0 x3).Ended ≤ (at_ a0 x3).Begun)))) || (decide ((((at_ a0 x3).Reads).length : Int) > (6 : Int)))) with hb27 | hb27
    ·
     refine sbT hb27 ?_
     refine uw rfl rfl rfl rfl ?_
     refine uw rfl rfl rfl rfl ?_
     refine uw rfl rfl rfl rfl ?_
     refine uw rfl rfl rfl rfl ?_
     refine uw rfl rfl rfl rfl ?_
     refine uw rfl rfl rfl rfl ?_
     refine uw rfl rfl rfl rfl ?_
     refine uw rfl rfl rfl rfl ?_
     refine pu rfl rfl rfl rfl rfl ?_
     exact Kg27 _ (Ag.put ((Ag.put ((Ag.put ((Ag.put ((Ag.put ((Ag.put ((Ag.put ((Ag.put ((Ag.put (Ag.base rfl) rfl)) rfl)) rfl)) rfl)) rfl)) rfl)) rfl)) rfl)) rfl) (by rw [hb27]; rfl)
    ·
     refine sbT hb27 ?_
     refine fa fa117_3 rfl rfl rfl rfl rfl rfl ?_
     have A28 := (BlF.st B15 p18 rfl)
     refine ld A28 Tryz.underlying4 rfl rfl rfl rfl rfl rfl rfl rfl ?_
     refine pu rfl rfl rfl rfl rfl ?_
     refine jy [51, 52, 53, 54, 55, 56] [36, 37, 38, 39, 40, 41, 42] 56 (.bool ((at_ a0 x3).All && (decide ((((at_ a0 x3).Reads).length : Int) > (0 : Int))))) rfl (fun Kg29 => ?_) (fun j29 => ?_)
     ·
      rcases Bool.eq_false_or_eq_true ((at_ a0 x3).All) with hb29 | hb29
      ·
       refine sbT hb29 ?_
       refine fa fa117_4 rfl rfl rfl rfl rfl rfl ?_
       refine ld A28 Tryz.underlying114 rfl rfl rfl rfl rfl rfl rfl rfl ?_
       have A30 := ((A14.st p15 rfl).st p18 rfl)
       refine ln A30 Tryz.underlying114 rfl rfl rfl rfl rfl rfl ?_
       refine pu rfl rfl rfl rfl rfl ?_
       refine pu rfl rfl rfl rfl rfl ?_
       exact Kg29 _ (Ag.put ((Ag.put ((Ag.put ((Ag.put ((Ag.put (Ag.base rfl) rfl)) rfl)) rfl)) rfl)) rfl) (by rw [hb29]; rfl)
      ·
       refine sbT hb29 ?_
       refine uw rfl rfl rfl rfl ?_
       refine uw rfl rfl rfl rfl ?_
       refine uw rfl rfl rfl rfl ?_
       refine uw rfl rfl rfl rfl ?_
       refine pu rfl rfl rfl rfl rfl ?_
       exact Kg29 _ (Ag.put ((Ag.put ((Ag.put ((Ag.put ((Ag.put (Ag.base rfl) rfl)) rfl)) rfl)) rfl)) rfl) (by rw [hb29]; rfl)
     refine pu rfl rfl rfl rfl rfl ?_
     exact Kg27 _ (Ag.put ((Ag.put ((Ag.ov ((Ag.put ((Ag.put ((Ag.put (Ag.base rfl) rfl)) rfl)) rfl)) rfl)) rfl)) rfl) (by rw [hb27]; rfl)
   refine pu rfl rfl rfl rfl rfl ?_
   refine jy [58, 59, 60, 61, 62, 63] [] 63 (.bool ((((((!r17) || (decide ((at_ a0 x3).Begun < (1 : Int)))) || (((at_ a0 x3).Ended != (0 : Int)) && (decide ((at_ a0 x3).Ended ≤ (at_ a0 x3).Begun)))) || (decide ((((at_ a0 x3).Reads).length : Int) > (6 : Int)))) || ((at_ a0 x3).All && (decide ((((at_ a0 x3).Reads).length : Int) > (0 : Int))))) || (decide ((((at_ a0 x3).Writes).length : Int) > (200 : Int))))) rfl (fun Kg31 => ?_) (fun j31 => ?_)
   ·
    rcases Bool.eq_false_or_eq_true (((((!r17) || (decide ((at_ a0 x3).Begun < (1 : Int)))) || (((at_ a0 x3).Ended != (0 : Int)) && (decide ((at_ a0 x3).Ended ≤ (at_ a0 x3).Begun)))) || (decide ((((at_ a0 x3).Reads).length : Int) > (6 : Int)))) || ((at_ a0 x3).All && (decide ((((at_ a0 x3).Reads).length : Int) > (0 : Int))))) with hb31 | hb31
    ·
     refine sbT hb31 ?_
     refine uw rfl rfl rfl rfl ?_
     refine uw rfl rfl rfl rfl ?_
     refine uw rfl rfl rfl rfl ?_
     refine uw rfl rfl rfl rfl ?_
     refine pu rfl rfl rfl rfl rfl ?_
     exact Kg31 _ (Ag.put ((Ag.put ((Ag.put ((Ag.put ((Ag.put (Ag.base rfl) rfl)) rfl)) rfl)) rfl)) rfl) (by rw [hb31]; rfl)
    ·
     refine sbT hb31 ?_
     refine fa fa117_5 rfl rfl rfl rfl rfl rfl ?_
     have A32 := (BlF.st B15 p18 rfl)
     refine ld A32 Tryz.underlying115 rfl rfl rfl rfl rfl rfl rfl rfl ?_
     have A33 := ((A13.st p15 rfl).st p18 rfl)
     refine ln A33 Tryz.underlying115 rfl rfl rfl rfl rfl rfl ?_
     refine pu rfl rfl rfl rfl rfl ?_
     refine pu rfl rfl rfl rfl rfl ?_
     exact Kg31 _ (Ag.put ((Ag.put ((Ag.put ((Ag.put ((Ag.put (Ag.base rfl) rfl)) rfl)) rfl)) rfl)) rfl) (by rw [hb31]; rfl)
   refine dn ?_
   refine cd rfl (fun h34 => ?_) (fun h34 => ?_)
   ·
    refine sr ?_
    refine pu rfl rfl rfl rfl rfl ?_
    refine dn ?_
    refine sgi ?_
    have K35 := (((Kx3.st p11 rfl).st p15 rfl).st p18 rfl)
    exact re rfl Tryz.func65 rfl (r_t rfl r_nil) rfl ⟨_, rfl, rfl, z.ky K35⟩
   ·
    refine sk ?_
    refine sq ?_
    refine sr ?_
    refine pu rfl rfl rfl rfl rfl ?_
    refine dn ?_
    refine bl ?_
    have A37 := (BlF.st B15 p18 rfl)
    have A38 := ((A14.st p15 rfl).st p18 rfl)
    have A39 := ((A13.st p15 rfl).st p18 rfl)
    have K40 := (((Kx3.st p11 rfl).st p15 rfl).st p18 rfl)
    refine lpI (fun (x36 : Int) (e : Env) (w : World) => ∃ (s : St) (e0 : Env), w = s.w ∧ e = upd (upd (upd (upd e0 0 w0_0) 3 (.int .i64 x3)) 4 (.pointer (some ⟨b11, 0, none⟩))) 5 (.int .i64 x36) ∧ Kp s0 s ∧ BlF s b11 117 [(.int .i64 ((at_ a0 x3).Xid)), (.int .i64 ((at_ a0 x3).Begun)), (.int .i64 ((at_ a0 x3).Ended)), (.bool ((at_ a0 x3).All)), v7_0, v7_1, (.bool ((at_ a0 x3).In)), (.bool ((at_ a0 x3).Out))] 40 ∧ RdF (Kd.sl 200 kd200) s [v7_0] ((at_ a0 x3).Reads) [0] ∧ RdF (Kd.sl 33 kd33) s [v7_1] ((at_ a0 x3).Writes) [0]) ⟨s18, _, rfl, (ue (ue (ue (ue rfl rfl) rfl) rfl) rfl), K40, A37, A38, A39⟩ (fun g36 ih36 => ?_)
    rintro x36 _ _ ⟨s41, _, rfl, rfl, Kx36, Bx36_b11, Cx36_8, Cx36_9⟩
    unfold spec_TracksOk.b1
    refine sq ?_
    refine sr ?_
    refine pu rfl rfl rfl rfl rfl ?_
    refine fa fa117_4 rfl rfl rfl rfl rfl rfl ?_
    refine ld Bx36_b11 Tryz.underlying114 rfl rfl rfl rfl rfl rfl rfl rfl ?_
    refine ln Cx36_8 Tryz.underlying114 rfl rfl rfl rfl rfl rfl ?_
    refine pu rfl rfl rfl rfl rfl ?_
    refine dn ?_
    refine cd rfl (fun h43 => ?_) (fun h43 => ?_)
    ·
     refine sk ?_
     refine sq ?_
     refine bl ?_
     refine sr ?_
     refine fa fa117_4 rfl rfl rfl rfl rfl rfl ?_
     refine ld Bx36_b11 Tryz.underlying114 rfl rfl rfl rfl rfl rfl rfl rfl ?_
     refine pu rfl rfl rfl rfl rfl ?_
     refine ix Cx36_8 Tryz.underlying114 z200 rfl rfl rfl rfl rfl rfl rfl rfl (fun ad44 es44 h0_44 h1_44 he44 ce44 ia44 => ?_)
     obtain ⟨v44_0, v44_1, v44_2, v44_3, rfl, A44_0, A44_1, A44_2, A44_3⟩ := op200 he44
     refine lca ce44 Tryz.underlying200 z200 rfl rfl rfl rfl rfl rfl rfl ?_
     refine cl rfl rfl rfl rfl rfl Tryz.func149 rfl rfl rfl (fun r48 m48 => spec_SpanOk.calls (Span.mk ((at_ ((at_ a0 x3).Reads) x36).From) ((at_ ((at_ a0 x3).Reads) x36).To)) s41.w (fun b => memb [0] (s41.g b) = true) v44_0 v44_1 v44_2 v44_3 ((fl_rdf (s := s41) A44_0).sub (D := [0]) rfl) A44_1 ((fl_rdf (s := s41) A44_2).sub (D := [0]) rfl) A44_3 r48 m48) ?_
     rintro r48 _ w48 m48 ⟨rfl, ky48⟩
     obtain ⟨s49, rfl, p49, n49⟩ := nwx s41 w48 42 ky48
     refine pu rfl rfl rfl rfl rfl ?_
     refine dn ?_
     refine cd rfl (fun h50 => ?_) (fun h50 => ?_)
     ·
      refine sr ?_
      refine pu rfl rfl rfl rfl rfl ?_
      refine dn ?_
      refine sgi ?_
      refine sgi ?_
      have K51 := (Kx36.st p49 rfl)
      exact re rfl Tryz.func65 rfl (r_t rfl r_nil) rfl ⟨_, rfl, rfl, z.ky K51⟩
     ·
      refine sk ?_
      refine ib ?_
      refine rg ?_
      refine pu rfl rfl rfl rfl rfl ?_
      refine pu rfl rfl rfl rfl rfl ?_
      refine pu rfl rfl rfl rfl rfl ?_
      refine dn ?_
      have A52 := (BlF.st Bx36_b11 p49 rfl)
      have A53 := (Cx36_8.st p49 rfl)
      have A54 := (Cx36_9.st p49 rfl)
      have K55 := (Kx36.st p49 rfl)
      exact lb ih36 ⟨s49, _, rfl, (ue (ue (ue (ue rfl rfl) rfl) rfl) rfl), K55, A52, A53, A54⟩
    ·
     refine xt rfl ?_
     refine sgb ?_
     refine sq ?_
     refine sr ?_
     refine pu rfl rfl rfl rfl rfl ?_
     refine dn ?_
     refine bl ?_
     refine lpI (fun (x56 : Int) (e : Env) (w : World) => ∃ (s : St) (e0 : Env), w = s.w ∧ e = upd (upd (upd (upd e0 0 w0_0) 3 (.int .i64 x3)) 4 (.pointer (some ⟨b11, 0, none⟩))) 6 (.int .i64 x56) ∧ Kp s0 s ∧ BlF s b11 117 [(.int .i64 ((at_ a0 x3).Xid)), (.int .i64 ((at_ a0 x3).Begun)), (.int .i64 ((at_ a0 x3).Ended)), (.bool ((at_ a0 x3).All)), v7_0, v7_1, (.bool ((at_ a0 x3).In)), (.bool ((at_ a0 x3).Out))] 40 ∧ RdF (Kd.sl 200 kd200) s [v7_0] ((at_ a0 x3).Reads) [0] ∧ RdF (Kd.sl 33 kd33) s [v7_1] ((at_ a0 x3).Writes) [0]) ⟨s41, _, rfl, (ue (ue (ue (ue rfl rfl) rfl) rfl) rfl), Kx36, Bx36_b11, Cx36_8, Cx36_9⟩ (fun g56 ih56 => ?_)
     rintro x56 _ _ ⟨s57, _, rfl, rfl, Kx56, Bx56_b11, Cx56_8, Cx56_9⟩
     unfold spec_TracksOk.b2
     refine sq ?_
     refine sr ?_
     refine pu rfl rfl rfl rfl rfl ?_
     refine fa fa117_5 rfl rfl rfl rfl rfl rfl ?_
     refine ld Bx56_b11 Tryz.underlying115 rfl rfl rfl rfl rfl rfl rfl rfl ?_
     refine ln Cx56_9 Tryz.underlying115 rfl rfl rfl rfl rfl rfl ?_
     refine pu rfl rfl rfl rfl rfl ?_
     refine dn ?_
     refine cd rfl (fun h59 => ?_) (fun h59 => ?_)
     ·
      refine sk ?_
      refine sq ?_
      refine bl ?_
      refine sr ?_
      refine fa fa117_5 rfl rfl rfl rfl rfl rfl ?_
      refine ld Bx56_b11 Tryz.underlying115 rfl rfl rfl rfl rfl rfl rfl rfl ?_
      refine pu rfl rfl rfl rfl rfl ?_
      refine ix Cx56_9 Tryz.underlying115 z33 rfl rfl rfl rfl rfl rfl rfl rfl (fun ad60 es60 h0_60 h1_60 he60 ce60 ia60 => ?_)
      obtain ⟨v60_0, v60_1, rfl, A60_0, A60_1⟩ := op33 he60
      refine lca ce60 Tryz.underlying33 z33 rfl rfl rfl rfl rfl rfl rfl ?_
      refine cl rfl rfl rfl rfl rfl Tryz.func66 rfl rfl rfl (fun r63 m63 => spec_KeyOk.calls (at_ ((at_ a0 x3).Writes) x56) s57.w (fun b => memb [0] (s57.g b) = true) v60_0 v60_1 ((fl_rdf (s := s57) A60_0).sub (D := [0]) rfl) A60_1 r63 m63) ?_
      rintro r63 _ w63 m63 ⟨rfl, ky63⟩
      obtain ⟨s64, rfl, p64, n64⟩ := nwx s57 w63 43 ky63
      refine pu rfl rfl rfl rfl rfl ?_
      refine dn ?_
      refine cd rfl (fun h65 => ?_) (fun h65 => ?_)
      ·
       refine sr ?_
       refine pu rfl rfl rfl rfl rfl ?_
       refine dn ?_
       refine sgi ?_
       refine sgi ?_
       have K66 := (Kx56.st p64 rfl)
       exact re rfl Tryz.func65 rfl (r_t rfl r_nil) rfl ⟨_, rfl, rfl, z.ky K66⟩
      ·
       refine sk ?_
       refine ib ?_
       refine rg ?_
       refine pu rfl rfl rfl rfl rfl ?_
       refine pu rfl rfl rfl rfl rfl ?_
       refine pu rfl rfl rfl rfl rfl ?_
       refine dn ?_
       have A67 := (BlF.st Bx56_b11 p64 rfl)
       have A68 := (Cx56_8.st p64 rfl)
       have A69 := (Cx56_9.st p64 rfl)
       have K70 := (Kx56.st p64 rfl)
       exact lb ih56 ⟨s64, _, rfl, (ue (ue (ue (ue rfl rfl) rfl) rfl) rfl), K70, A67, A68, A69⟩
     ·
      refine xt rfl ?_
      refine sgb ?_
      refine sr ?_
      refine pu rfl rfl rfl rfl rfl ?_
      refine dn ?_
      refine bl ?_
      refine lpI (fun (x71 : Int) (e : Env) (w : World) => ∃ (s : St) (e0 : Env), w = s.w ∧ e = upd (upd (upd (upd e0 0 w0_0) 3 (.int .i64 x3)) 4 (.pointer (some ⟨b11, 0, none⟩))) 7 (.int .i64 x71) ∧ Kp s0 s ∧ BlF s b11 117 [(.int .i64 ((at_ a0 x3).Xid)), (.int .i64 ((at_ a0 x3).Begun)), (.int .i64 ((at_ a0 x3).Ended)), (.bool ((at_ a0 x3).All)), v7_0, v7_1, (.bool ((at_ a0 x3).In)), (.bool ((at_ a0 x3).Out))] 40 ∧ RdF (Kd.sl 200 kd200) s [v7_0] ((at_ a0 x3).Reads) [0] ∧ RdF (Kd.sl 33 kd33) s [v7_1] ((at_ a0 x3).Writes) [0]) ⟨s57, _, rfl, (ue (ue (ue (ue rfl rfl) rfl) rfl) rfl), Kx56, Bx56_b11, Cx56_8, Cx56_9⟩ (fun g71 ih71 => ?_)
      rintro x71 _ _ ⟨s72, _, rfl, rfl, Kx71, Bx71_b11, Cx71_8, Cx71_9⟩
      unfold spec_TracksOk.b3
      refine sq ?_
      refine sr ?_
      refine pu rfl rfl rfl rfl rfl ?_
      refine pu rfl rfl rfl rfl rfl ?_
      refine pu rfl rfl rfl rfl rfl ?_
      refine dn ?_
      refine cd rfl (fun h74 => ?_) (fun h74 => ?_)
      ·
       refine sk ?_
       refine sq ?_
       refine bl ?_
       refine sq ?_
       refine zdraw [[], [], [0, 1], [2], [3], [], [5], [4, 6]] [some 97, some 98, some 99, some 100, some 101, some 102, some 103, some 104] [[0], [7], [97, 98], [99], [100], [4], [102], [101, 103]] [0, 1, 2, 3, 4, 5, 6, 7] ⟨by kernel_rfl, by kernel_rfl, by kernel_rfl⟩ (by kernel_rfl) (fun s75 p75 l75 tb75 zd75 => ?_)
       have zd76 := zd75.add 0 97 w0_0 rfl
       have zd77 := zd76.add 1 98 (.int .i64 x71) rfl
       have K78 := (Kx71.st p75 rfl)
       have A79 := (A0_0.kp K78)
       refine mg fun hg80 => ?_
       obtain ⟨ad80, es80, he80, ce80, ia80⟩ := ix_e A79 rfl hg80.1 hg80.2
       have h0_80 := hg80.1
       have h1_80 := hg80.2
       obtain ⟨v80_0, v80_1, rfl, A80_0, A80_1⟩ := op117 he80
       have zd84 := zd77.add 2 99 (.pointer (some ad80)) rfl
       have zd85 := zd84.add 3 100 (.pointer (some ad80)) rfl
       have zd86 := zd85.add 4 101 (.int .i64 ((at_ a0 x71).Xid)) rfl
       have zd87 := zd86.add 5 102 (.pointer (some ⟨b11, 0, none⟩)) rfl
       have A88 := (BlF.st Bx71_b11 p75 rfl)
       have zd89 := zd87.add 6 103 (.int .i64 ((at_ a0 x3).Xid)) rfl
       have A90 := (BlF.st Bx71_b11 p75 rfl)
       refine zfin [7] tb75 zd89 (pq_cons (ld_q A90 Tryz.underlying3 rfl rfl rfl rfl rfl rfl rfl rfl) rfl (pq_cons (fa_q fa117_0 rfl rfl rfl rfl rfl rfl) rfl (pq_cons (lc0_q ce80 Tryz.underlying3 rfl rfl rfl rfl rfl rfl rfl rfl) rfl (pq_cons (fa_q fa117_0 rfl rfl rfl rfl rfl rfl) rfl (pq_cons (ix_q A79 Tryz.underlying29 z117 hg80.1 hg80.2 ia80 rfl rfl rfl rfl rfl rfl rfl) rfl (pq_cons (pu_q rfl rfl rfl rfl rfl rfl) rfl (pq_cons (mv_q w0_0 rfl rfl rfl rfl rfl rfl) rfl pq_nil))))))) (by kernel_rfl) (by decide) ?_
       refine pu rfl rfl rfl rfl rfl ?_
       refine dn ?_
       refine cd rfl (fun h91 => ?_) (fun h91 => ?_)
       ·
        refine sr ?_
        refine pu rfl rfl rfl rfl rfl ?_
        refine dn ?_
        refine sgi ?_
        refine sgi ?_
        exact re rfl Tryz.func65 rfl (r_t rfl r_nil) rfl ⟨_, rfl, rfl, z.ky K78⟩
       ·
        refine sk ?_
        refine ib ?_
        refine rg ?_
        refine pu rfl rfl rfl rfl rfl ?_
        refine pu rfl rfl rfl rfl rfl ?_
        refine pu rfl rfl rfl rfl rfl ?_
        refine dn ?_
        have A92 := (BlF.st Bx71_b11 p75 rfl)
        have A93 := (Cx71_8.st p75 rfl)
        have A94 := (Cx71_9.st p75 rfl)
        exact lb ih71 ⟨s75, _, rfl, (ue (ue (ue (ue rfl rfl) rfl) rfl) rfl), K78, A92, A93, A94⟩
      ·
       refine xt rfl ?_
       refine sgb ?_
       refine ib ?_
       refine rg ?_
       refine pu rfl rfl rfl rfl rfl ?_
       refine pu rfl rfl rfl rfl rfl ?_
       refine pu rfl rfl rfl rfl rfl ?_
       refine dn ?_
       exact lb ih3 ⟨s72, _, rfl, (ue (ue rfl rfl) rfl), Kx71⟩
  ·
   refine xt rfl ?_
   refine sgb ?_
   refine sr ?_
   refine pu rfl rfl rfl rfl rfl ?_
   refine dn ?_
   exact re rfl Tryz.func65 rfl (r_t rfl r_nil) rfl ⟨_, rfl, rfl, z.ky Kx3⟩
noncomputable def spec_l3copy.f (a0 : Item) : Option (Item) :=
 (if ([] : (List Int)).length + a0.T.length ≤ Lim then (some (Item.mk a0.Kind a0.N a0.F (([] : (List Int)) ++ a0.T))) else none)
def spec_l3copy.Q (w : World) (F : Nat → Prop) (r : Item) (v : Value) (w' : World) : Prop :=
 ∃ (v0 : Value) (v1 : Value), v = (.agg #[(.int .i64 r.Kind), (.int .i64 r.N), v0, v1]) ∧ FO kd33 w w' [(.int .i64 r.Kind), (.int .i64 r.N), v0, v1] r ∧ Ky [] w w'
set_option maxHeartbeats 4000000 in
set_option maxRecDepth 100000 in
theorem spec_l3copy.calls (a0 : Item) (w : World) (F : Nat → Prop) (w0_0 : Value) (w0_1 : Value) (h0_0 : Kd.flt.rd w [w0_0] a0.F F) (h0_1 : (Kd.sl 5 (Kd.int .u8)).rd w [w0_1] a0.T F) (r : Item) (m : spec_l3copy.f a0 = some r) :
  Calls Tryz.prog 69 #[(.agg #[(.int .i64 a0.Kind), (.int .i64 a0.N), w0_0, w0_1])] w fun en w' => ∃ v, en = .returned v ∧ spec_l3copy.Q w F r v w' := by
 obtain ⟨s0, rfl, kp0, z⟩ := start0 w F
 have A0_0 := fl_of h0_0
 have A0_1 := z.rd h0_1
 refine calls_of_TM (args := [(.agg #[(.int .i64 a0.Kind), (.int .i64 a0.N), w0_0, w0_1])]) (R := fun r en w' => ∃ v, en = .returned v ∧ spec_l3copy.Q s0.w F r v w') Tryz.func69 Tryz.ntmps69 rfl rfl m ?_
 unfold spec_l3copy.f
 refine sr ?_
 refine bx (cs := [(.int .i64 a0.Kind), (.int .i64 a0.N), w0_0, w0_1]) 40 rfl rfl rfl rfl rfl rfl (fun b2 s2 p2 B2 => ?_)
 refine al (cs := [(.int .i64 (0 : Int)), (.int .i64 (0 : Int)), (.float .f64 0), (.slice none 0 0)]) 41 rfl rfl rfl rfl rfl o33 rfl (fun b4 s4 p4 B4 => ?_)
 refine dn ?_
 refine sr ?_
 refine lt0 (K := (Kd.int .u8)) 42 Tryz.underlying24 z5 rfl rfl rfl rfl rfl (fun v6 s6 p6 A6 => ?_)
 refine fa fa33_3 rfl rfl rfl rfl rfl rfl ?_
 have A8 := (BlF.st (BlF.st B2 p4 rfl) p6 rfl)
 refine ld A8 Tryz.underlying24 rfl rfl rfl rfl rfl rfl rfl rfl ?_
 have K9 := (((kp0.st p2 rfl).st p4 rfl).st p6 rfl)
 have A10 := (A0_1.kp K9)
 refine apF fl_int sl24 A6 A10 rfl rfl rfl rfl rfl rfl rfl (fun v11 s11 p11 A11 => ?_)
 refine fa fa33_3 rfl rfl rfl rfl rfl rfl ?_
 have A13 := (BlF.st A8 p11 rfl)
 refine sv A13 z24 rfl rfl rfl rfl rfl rfl A11.rd.one rfl (fun s14 p14 B14 => ?_)
 refine dn ?_
 refine sr ?_
 refine lda (es := [(.int .i64 a0.Kind), (.int .i64 a0.N), w0_0, v11]) B14 Tryz.underlying33 z33 rfl rfl rfl rfl rfl rfl rfl rfl ?_
 have A16 := (BlF.st (BlF.st (BlF.st B4 p6 rfl) p11 rfl) p14 rfl)
 have A17 := (A11.st p14 rfl)
 refine sva (vs := [(.int .i64 a0.Kind), (.int .i64 a0.N), w0_0, v11]) A16 z33 rfl rfl rfl rfl rfl rfl (on_cons rfl (on_cons rfl (on_cons (FL.one A0_0) (on_cons A17.rd.one on_nil)))) rfl (fun s18 p18 B18 => ?_)
 refine dn ?_
 have A21 := (A17.st p18 rfl)
 have A20 : OwF kd33 s18 [(.int .i64 a0.Kind), (.int .i64 a0.N), w0_0, v11] (Item.mk a0.Kind a0.N a0.F (([] : (List Int)) ++ a0.T)) 42 := (ow_isoz (fun x : Item => (x.Kind, x.N, x.F, x.T)) (Item.mk a0.Kind a0.N a0.F (([] : (List Int)) ++ a0.T)) (ow_l (fz_int .i64 a0.Kind) (ow_l (fz_int .i64 a0.N) (ow_l (fz_flt A0_0) A21))))
 have K23 := (((K9.st p11 rfl).st p14 rfl).st p18 rfl)
 exact re rfl Tryz.func69 rfl (r_b B18 Tryz.underlying33 rfl z33 rfl r_nil) rfl ⟨_, rfl, w0_0, v11, rfl, A20.fo K23 rfl z.l, z.ky K23⟩
noncomputable def spec_l13spans.b0 (a0 : (List Span)) (x2 : (List Span) × Int) : Option (((List Span) × Int) ⊕ (List Span)) :=
 (if (decide (x2.2 < (a0.length : Int))) = true then (if 0 ≤ x2.2 ∧ x2.2 < (a0.length : Int) then (if 0 ≤ x2.2 ∧ x2.2 < (a0.length : Int) then ((spec_l3copy.f ((at_ a0 x2.2).From)).bind fun r30 => ((spec_l3copy.f ((at_ a0 x2.2).To)).bind fun r39 => (if x2.1.length + ([(Span.mk r30 r39)]).length ≤ Lim then (some (Sum.inl ((x2.1 ++ [(Span.mk r30 r39)]), (IntKind.wrap .i64 (x2.2 + (1 : Int)))))) else none))) else none) else none) else ((some x2.1).bind fun o => some (Sum.inr o)))
noncomputable def spec_l13spans.f (a0 : (List Span)) : Option ((List Span)) :=
 (iter (spec_l13spans.b0 a0) (([] : (List Span)), (0 : Int)))
def spec_l13spans.Q (w : World) (F : Nat → Prop) (r : (List Span)) (v : Value) (w' : World) : Prop :=
 FO (Kd.sl 200 kd200) w w' [v] r ∧ Ky [] w w'
set_option maxHeartbeats 4000000 in
set_option maxRecDepth 100000 in
theorem spec_l13spans.calls (a0 : (List Span)) (w : World) (F : Nat → Prop) (w0_0 : Value) (h0_0 : (Kd.sl 200 kd200).rd w [w0_0] a0 F) (r : (List Span)) (m : spec_l13spans.f a0 = some r) :
  Calls Tryz.prog 152 #[w0_0] w fun en w' => ∃ v, en = .returned v ∧ spec_l13spans.Q w F r v w' := by
 obtain ⟨s0, rfl, kp0, z⟩ := start0 w F
 have A0_0 := z.rd h0_0
 refine calls_of_TM (args := [w0_0]) (R := fun r en w' => ∃ v, en = .returned v ∧ spec_l13spans.Q s0.w F r v w') Tryz.func152 Tryz.ntmps152 rfl rfl m ?_
 unfold spec_l13spans.f
 refine sr ?_
 refine pu rfl rfl rfl rfl rfl ?_
 refine dn ?_
 refine sr ?_
 refine pu rfl rfl rfl rfl rfl ?_
 refine dn ?_
 refine sq ?_
 refine sr ?_
 refine pu rfl rfl rfl rfl rfl ?_
 refine dn ?_
 refine bl ?_
 refine lpI (fun (x2 : (List Span) × Int) (e : Env) (w : World) => ∃ (s : St) (e0 : Env) (vx2_0 : Value), w = s.w ∧ e = upd (upd (upd e0 0 w0_0) 3 vx2_0) 4 (.int .i64 x2.2) ∧ Kp s0 s ∧ OwF (Kd.sl 200 kd200) s [vx2_0] x2.1 41) ⟨s0, _, (.slice none 0 0), rfl, (ue (ue (ue rfl rfl) rfl) rfl), kp0, (ow_nil 200 kd200 _ 41)⟩ (fun g2 ih2 => ?_)
 rintro x2 _ _ ⟨s3, _, vx2_0, rfl, rfl, Kx2, Ax2_0⟩
 unfold spec_l13spans.b0
 refine sq ?_
 refine sr ?_
 refine pu rfl rfl rfl rfl rfl ?_
 refine mv w0_0 rfl rfl rfl rfl rfl rfl ?_
 have A5 := (A0_0.kp Kx2)
 refine ln A5 Tryz.underlying114 rfl rfl rfl rfl rfl rfl ?_
 refine pu rfl rfl rfl rfl rfl ?_
 refine dn ?_
 refine cd rfl (fun h6 => ?_) (fun h6 => ?_)
 ·
  refine sk ?_
  refine sq ?_
  refine bl ?_
  refine zdraw [[], [], [], [1, 2], [3], [4], [5], [], [], [7, 8], [9], [10], [11, 6], [6, 12], [13], [0, 14, 12], [15, 15, 0, 1, 2, 3, 4, 5, 6, 7, 8, 9, 10, 11, 12, 13, 14, 15]] [some 11, some 12, some 13, some 14, some 15, some 16, some 17, some 18, some 19, some 20, some 21, some 22, some 23, some 24, some 25, some 26, some 3] [[3], [0], [4], [12, 13], [14], [15], [16], [0], [4], [18, 19], [20], [21], [22], [17, 23], [24], [11, 25], [26]] [0, 1, 2, 3, 4, 5, 6, 7, 8, 9, 10, 11, 12, 13, 14, 15, 16] ⟨by kernel_rfl, by kernel_rfl, by kernel_rfl⟩ (by kernel_rfl) (fun s7 p7 l7 tb7 zd7 => ?_)
  have zd8 := zd7.add 0 11 vx2_0 rfl
  have zd9 := zd8.add 1 12 w0_0 rfl
  have zd10 := zd9.add 2 13 (.int .i64 x2.2) rfl
  have K11 := (Kx2.st p7 rfl)
  have A12 := (A0_0.kp K11)
  refine mg fun hg13 => ?_
  obtain ⟨ad13, es13, he13, ce13, ia13⟩ := ix_e A12 rfl hg13.1 hg13.2
  have h0_13 := hg13.1
  have h1_13 := hg13.2
  obtain ⟨v13_0, v13_1, v13_2, v13_3, rfl, A13_0, A13_1, A13_2, A13_3⟩ := op200 he13
  have zd17 := zd10.add 3 14 (.pointer (some ad13)) rfl
  have zd18 := zd17.add 4 15 (.pointer (some ad13)) rfl
  have zd19 := zd18.add 5 16 (.agg #[(.int .i64 (((at_ a0 x2.2).From).Kind)), (.int .i64 (((at_ a0 x2.2).From).N)), v13_0, v13_1]) rfl
  have zd20 := zd19.add 7 18 w0_0 rfl
  have zd21 := zd20.add 8 19 (.int .i64 x2.2) rfl
  refine mg fun hg22 => ?_
  obtain ⟨ad22, es22, he22, ce22, ia22⟩ := ix_e A12 rfl hg22.1 hg22.2
  have h0_22 := hg22.1
  have h1_22 := hg22.2
  obtain ⟨v22_0, v22_1, v22_2, v22_3, rfl, A22_0, A22_1, A22_2, A22_3⟩ := op200 he22
  have zd26 := zd21.add 9 20 (.pointer (some ad22)) rfl
  have zd27 := zd26.add 10 21 (.pointer (some (ad22.add 4))) rfl
  have zd28 := zd27.add 11 22 (.agg #[(.int .i64 (((at_ a0 x2.2).To).Kind)), (.int .i64 (((at_ a0 x2.2).To).N)), v22_2, v22_3]) rfl
  refine zstep 6 [some 22, some 21, some 20, some 19, some 18, some 11] tb7 zd28 (pq_cons (lcq_q (q := 4) (es' := [(.int .i64 (((at_ a0 x2.2).To).Kind)), (.int .i64 (((at_ a0 x2.2).To).N)), v22_2, v22_3]) ce22 Tryz.underlying33 z33 rfl rfl rfl rfl rfl rfl rfl rfl) rfl (pq_cons (fa_q fa200_1 rfl rfl rfl rfl rfl rfl) rfl (pq_cons (ix_q A12 Tryz.underlying114 z200 hg22.1 hg22.2 ia22 rfl rfl rfl rfl rfl rfl rfl) rfl (pq_cons (pu_q rfl rfl rfl rfl rfl rfl) rfl (pq_cons (mv_q w0_0 rfl rfl rfl rfl rfl rfl) rfl (pq_cons (lcq_q (q := 0) (es' := [(.int .i64 (((at_ a0 x2.2).From).Kind)), (.int .i64 (((at_ a0 x2.2).From).N)), v13_0, v13_1]) ce13 Tryz.underlying33 z33 rfl rfl rfl rfl rfl rfl rfl rfl) rfl (pq_cons (fa_q fa200_0 rfl rfl rfl rfl rfl rfl) rfl (pq_cons (ix_q A12 Tryz.underlying114 z200 hg13.1 hg13.2 ia13 rfl rfl rfl rfl rfl rfl rfl) rfl (pq_cons (pu_q rfl rfl rfl rfl rfl rfl) rfl (pq_cons (mv_q w0_0 rfl rfl rfl rfl rfl rfl) rfl (pq_cons (mv_q vx2_0 rfl rfl rfl rfl rfl rfl) rfl pq_nil))))))))))) (by kernel_rfl) rfl (fun l29 e29 zd29 => ?_)
  refine cl rfl rfl rfl rfl rfl Tryz.func69 rfl rfl rfl (fun r30 m30 => spec_l3copy.calls ((at_ a0 x2.2).From) s7.w (fun b => memb [0] (s7.g b) = true) v13_0 v13_1 ((fl_rdf (s := s7) A13_0).sub (D := [0]) rfl) A13_1 r30 m30) ?_
  rintro r30 _ w30 m30 ⟨v30_0, v30_1, rfl, f30_0, ky30⟩
  obtain ⟨s31, rfl, p31, n31⟩ := nwx s7 w30 42 ky30
  have A30_0 := f30_0.c n31
  obtain ⟨os30_0, ho30_0, hn30_0, hc30_0⟩ := A30_0
  obtain ⟨u30_0_0, u30_0_1, qu30_0_1, e30_0, eo30_0, hu30_0_0, hu30_0_1⟩ := po33 ho30_0
  have yu30_0_0 : v30_0 = u30_0_0 := congrArg (fun l => (List.drop 2 l).headD undef) e30_0
  have yu30_0_1 : v30_1 = u30_0_1 := congrArg (fun l => (List.drop 3 l).headD undef) e30_0
  subst yu30_0_0
  subst yu30_0_1
  subst eo30_0
  have Au30_0_1 : OwF (Kd.sl 5 (Kd.int .u8)) s31 [v30_1] r30.T 42 := sp1 hu30_0_1 hn30_0 hc30_0
  refine zdone (L' := [11, 10, 9, 8, 7, 0]) (D' := [1, 2, 3, 4, 5, 6]) zd29 rfl rfl rfl (fun zd33 => ?_)
  have K35 := (K11.st p31 rfl)
  have A36 := (A0_0.kp K35)
  have ce37 := (ce22.st p31 rfl rfl)
  refine zstep 12 [some 11] tb7 zd33 (pq_cons (lcq_q (q := 4) (es' := [(.int .i64 (((at_ a0 x2.2).To).Kind)), (.int .i64 (((at_ a0 x2.2).To).N)), v22_2, v22_3]) ce37 Tryz.underlying33 z33 rfl rfl rfl rfl rfl rfl rfl rfl) rfl (pq_cons (fa_q fa200_1 rfl rfl rfl rfl rfl rfl) rfl (pq_cons (ix_q A36 Tryz.underlying114 z200 hg22.1 hg22.2 ia22 rfl rfl rfl rfl rfl rfl rfl) rfl (pq_cons (pu_q rfl rfl rfl rfl rfl rfl) rfl (pq_cons (mv_q w0_0 rfl rfl rfl rfl rfl rfl) rfl (pq_cons (mv_q vx2_0 rfl rfl rfl rfl rfl rfl) rfl pq_nil)))))) (by kernel_rfl) rfl (fun l34 e34 zd34 => ?_)
  have A38 := (A22_3.st p31 rfl)
  refine cl rfl rfl rfl rfl rfl Tryz.func69 rfl rfl rfl (fun r39 m39 => spec_l3copy.calls ((at_ a0 x2.2).To) s31.w (fun b => memb [0] (s31.g b) = true) v22_2 v22_3 ((fl_rdf (s := s31) A22_2).sub (D := [0]) rfl) A38 r39 m39) ?_
  rintro r39 _ w39 m39 ⟨v39_0, v39_1, rfl, f39_0, ky39⟩
  obtain ⟨s40, rfl, p40, n40⟩ := nwx s31 w39 43 ky39
  have A39_0 := f39_0.c n40
  obtain ⟨os39_0, ho39_0, hn39_0, hc39_0⟩ := A39_0
  obtain ⟨u39_0_0, u39_0_1, qu39_0_1, e39_0, eo39_0, hu39_0_0, hu39_0_1⟩ := po33 ho39_0
  have yu39_0_0 : v39_0 = u39_0_0 := congrArg (fun l => (List.drop 2 l).headD undef) e39_0
  have yu39_0_1 : v39_1 = u39_0_1 := congrArg (fun l => (List.drop 3 l).headD undef) e39_0
  subst yu39_0_0
  subst yu39_0_1
  subst eo39_0
  have Au39_0_1 : OwF (Kd.sl 5 (Kd.int .u8)) s40 [v39_1] r39.T 43 := sp1 hu39_0_1 hn39_0 hc39_0
  refine zdone (L' := [0]) (D' := [7, 8, 9, 10, 11, 12, 1, 2, 3, 4, 5, 6]) zd34 rfl rfl rfl (fun zd42 => ?_)
  have zd43 := zd42.add 13 24 (.agg #[(.int .i64 r30.Kind), (.int .i64 r30.N), v30_0, v30_1, (.int .i64 r39.Kind), (.int .i64 r39.N), v39_0, v39_1]) rfl
  refine zstep 14 [some 11] tb7 zd43 (pq_cons (bd_q (cells := [(.int .i64 r30.Kind), (.int .i64 r30.N), v30_0, v30_1, (.int .i64 r39.Kind), (.int .i64 r39.N), v39_0, v39_1]) pl200 o200 rfl rfl rfl rfl rfl rfl) rfl (pq_cons (mv_q vx2_0 rfl rfl rfl rfl rfl rfl) rfl pq_nil)) (by kernel_rfl) rfl (fun l44 e44 zd44 => ?_)
  have A45 := (Au30_0_1.st p40 rfl)
  obtain ⟨s46, hw46, p46, A46⟩ := ow_2 (ow_isoz (fun x : Item => (x.Kind, x.N, x.F, x.T)) r30 (ow_l (fz_int .i64 r30.Kind) (ow_l (fz_int .i64 r30.N) (ow_l (fz_flt hu30_0_0) A45)))) (ow_isoz (fun x : Item => (x.Kind, x.N, x.F, x.T)) r39 (ow_l (fz_int .i64 r39.Kind) (ow_l (fz_int .i64 r39.N) (ow_l (fz_flt hu39_0_0) Au39_0_1)))) rfl rfl
  rw [hw46]
  have A48 : OwF kd200 s46 [(.int .i64 r30.Kind), (.int .i64 r30.N), v30_0, v30_1, (.int .i64 r39.Kind), (.int .i64 r39.N), v39_0, v39_1] (Span.mk r30 r39) 42 := (ow_isoz (fun x : Span => (x.From, x.To)) (Span.mk r30 r39) A46)
  have L50 := lo_one A48
  refine ltO (K := kd200) (cells := [(.int .i64 r30.Kind), (.int .i64 r30.N), v30_0, v30_1, (.int .i64 r39.Kind), (.int .i64 r39.N), v39_0, v39_1]) [(Span.mk r30 r39)] 42 Tryz.underlying114 z200 o200 L50 rfl rfl rfl rfl rfl rfl rfl rfl rfl rfl (fun v51 s51 p51 A51 => ?_)
  refine zdone (L' := [0]) (D' := [13, 14, 7, 8, 9, 10, 11, 12, 1, 2, 3, 4, 5, 6]) zd44 rfl rfl rfl (fun zd53 => ?_)
  refine zfin [15, 16] tb7 zd53 (pq_cons (mv_q vx2_0 rfl rfl rfl rfl rfl rfl) rfl pq_nil) (by kernel_rfl) (by decide) ?_
  have A54 := (((((Ax2_0.st p7 rfl).st p31 rfl).st p40 rfl).st p46 rfl).st p51 rfl)
  refine apO sl114 A54 A51 rfl rfl rfl rfl rfl rfl rfl rfl rfl (fun v55 s55 p55 A55 => ?_)
  refine asg v55 rfl rfl rfl rfl rfl rfl ?_
  refine dn ?_
  refine ib ?_
  refine rg ?_
  refine pu rfl rfl rfl rfl rfl ?_
  refine pu rfl rfl rfl rfl rfl ?_
  refine pu rfl rfl rfl rfl rfl ?_
  refine dn ?_
  have K57 := ((((K35.st p40 rfl).st p46 rfl).st p51 rfl).st p55 rfl)
  exact lb ih2 ⟨s55, _, v55, rfl, (ue (ue (ue rfl rfl) rfl) rfl), K57, A55⟩
 ·
  refine xt rfl ?_
  refine sgb ?_
  refine sr ?_
  refine mv vx2_0 rfl rfl rfl rfl rfl rfl ?_
  refine asg vx2_0 rfl rfl rfl rfl rfl rfl ?_
  refine dn ?_
  exact re rfl Tryz.func152 rfl (r_t rfl r_nil) rfl ⟨_, rfl, Ax2_0.fo Kx2 rfl z.l, z.ky Kx2⟩
noncomputable def spec_l13items.b0 (a0 : (List Item)) (x2 : (List Item) × Int) : Option (((List Item) × Int) ⊕ (List Item)) :=
 (if (decide (x2.2 < (a0.length : Int))) = true then (if 0 ≤ x2.2 ∧ x2.2 < (a0.length : Int) then ((spec_l3copy.f (at_ a0 x2.2)).bind fun r10 => (if x2.1.length + ([r10]).length ≤ Lim then (some (Sum.inl ((x2.1 ++ [r10]), (IntKind.wrap .i64 (x2.2 + (1 : Int)))))) else none)) else none) else ((some x2.1).bind fun o => some (Sum.inr o)))
noncomputable def spec_l13items.f (a0 : (List Item)) : Option ((List Item)) :=
 (iter (spec_l13items.b0 a0) (([] : (List Item)), (0 : Int)))
def spec_l13items.Q (w : World) (F : Nat → Prop) (r : (List Item)) (v : Value) (w' : World) : Prop :=
 FO (Kd.sl 33 kd33) w w' [v] r ∧ Ky [] w w'
set_option maxHeartbeats 4000000 in
set_option maxRecDepth 100000 in
theorem spec_l13items.calls (a0 : (List Item)) (w : World) (F : Nat → Prop) (w0_0 : Value) (h0_0 : (Kd.sl 33 kd33).rd w [w0_0] a0 F) (r : (List Item)) (m : spec_l13items.f a0 = some r) :
  Calls Tryz.prog 153 #[w0_0] w fun en w' => ∃ v, en = .returned v ∧ spec_l13items.Q w F r v w' := by
 obtain ⟨s0, rfl, kp0, z⟩ := start0 w F
 have A0_0 := z.rd h0_0
 refine calls_of_TM (args := [w0_0]) (R := fun r en w' => ∃ v, en = .returned v ∧ spec_l13items.Q s0.w F r v w') Tryz.func153 Tryz.ntmps153 rfl rfl m ?_
 unfold spec_l13items.f
 refine sr ?_
 refine pu rfl rfl rfl rfl rfl ?_
 refine dn ?_
 refine sr ?_
 refine pu rfl rfl rfl rfl rfl ?_
 refine dn ?_
 refine sq ?_
 refine sr ?_
 refine pu rfl rfl rfl rfl rfl ?_
 refine dn ?_
 refine bl ?_
 refine lpI (fun (x2 : (List Item) × Int) (e : Env) (w : World) => ∃ (s : St) (e0 : Env) (vx2_0 : Value), w = s.w ∧ e = upd (upd (upd e0 0 w0_0) 3 vx2_0) 4 (.int .i64 x2.2) ∧ Kp s0 s ∧ OwF (Kd.sl 33 kd33) s [vx2_0] x2.1 41) ⟨s0, _, (.slice none 0 0), rfl, (ue (ue (ue rfl rfl) rfl) rfl), kp0, (ow_nil 33 kd33 _ 41)⟩ (fun g2 ih2 => ?_)
 rintro x2 _ _ ⟨s3, _, vx2_0, rfl, rfl, Kx2, Ax2_0⟩
 unfold spec_l13items.b0
 refine sq ?_
 refine sr ?_
 refine pu rfl rfl rfl rfl rfl ?_
 refine mv w0_0 rfl rfl rfl rfl rfl rfl ?_
 have A5 := (A0_0.kp Kx2)
 refine ln A5 Tryz.underlying115 rfl rfl rfl rfl rfl rfl ?_
 refine pu rfl rfl rfl rfl rfl ?_
 refine dn ?_
 refine cd rfl (fun h6 => ?_) (fun h6 => ?_)
 ·
  refine sk ?_
  refine sq ?_
  refine bl ?_
  refine rg ?_
  refine mv vx2_0 rfl rfl rfl rfl rfl rfl ?_
  refine mv w0_0 rfl rfl rfl rfl rfl rfl ?_
  refine pu rfl rfl rfl rfl rfl ?_
  refine ix A5 Tryz.underlying115 z33 rfl rfl rfl rfl rfl rfl rfl rfl (fun ad7 es7 h0_7 h1_7 he7 ce7 ia7 => ?_)
  obtain ⟨v7_0, v7_1, rfl, A7_0, A7_1⟩ := op33 he7
  refine lca ce7 Tryz.underlying33 z33 rfl rfl rfl rfl rfl rfl rfl ?_
  refine cl rfl rfl rfl rfl rfl Tryz.func69 rfl rfl rfl (fun r10 m10 => spec_l3copy.calls (at_ a0 x2.2) s3.w (fun b => memb [0] (s3.g b) = true) v7_0 v7_1 ((fl_rdf (s := s3) A7_0).sub (D := [0]) rfl) A7_1 r10 m10) ?_
  rintro r10 _ w10 m10 ⟨v10_0, v10_1, rfl, f10_0, ky10⟩
  obtain ⟨s11, rfl, p11, n11⟩ := nwx s3 w10 42 ky10
  have A10_0 := f10_0.c n11
  obtain ⟨os10_0, ho10_0, hn10_0, hc10_0⟩ := A10_0
  obtain ⟨u10_0_0, u10_0_1, qu10_0_1, e10_0, eo10_0, hu10_0_0, hu10_0_1⟩ := po33 ho10_0
  have yu10_0_0 : v10_0 = u10_0_0 := congrArg (fun l => (List.drop 2 l).headD undef) e10_0
  have yu10_0_1 : v10_1 = u10_0_1 := congrArg (fun l => (List.drop 3 l).headD undef) e10_0
  subst yu10_0_0
  subst yu10_0_1
  subst eo10_0
  have Au10_0_1 : OwF (Kd.sl 5 (Kd.int .u8)) s11 [v10_1] r10.T 42 := sp1 hu10_0_1 hn10_0 hc10_0
  have A13 : OwF kd33 s11 [(.int .i64 r10.Kind), (.int .i64 r10.N), v10_0, v10_1] r10 42 := (ow_isoz (fun x : Item => (x.Kind, x.N, x.F, x.T)) r10 (ow_l (fz_int .i64 r10.Kind) (ow_l (fz_int .i64 r10.N) (ow_l (fz_flt hu10_0_0) Au10_0_1))))
  have L15 := lo_one A13
  refine ltO (K := kd33) (cells := [(.int .i64 r10.Kind), (.int .i64 r10.N), v10_0, v10_1]) [r10] 42 Tryz.underlying115 z33 o33 L15 rfl rfl rfl rfl rfl rfl rfl rfl rfl rfl (fun v16 s16 p16 A16 => ?_)
  have A18 := ((Ax2_0.st p11 rfl).st p16 rfl)
  refine apO sl115 A18 A16 rfl rfl rfl rfl rfl rfl rfl rfl rfl (fun v19 s19 p19 A19 => ?_)
  refine asg v19 rfl rfl rfl rfl rfl rfl ?_
  refine dn ?_
  refine ib ?_
  refine rg ?_
  refine pu rfl rfl rfl rfl rfl ?_
  refine pu rfl rfl rfl rfl rfl ?_
  refine pu rfl rfl rfl rfl rfl ?_
  refine dn ?_
  have K21 := (((Kx2.st p11 rfl).st p16 rfl).st p19 rfl)
  exact lb ih2 ⟨s19, _, v19, rfl, (ue (ue (ue rfl rfl) rfl) rfl), K21, A19⟩
 ·
  refine xt rfl ?_
  refine sgb ?_
  refine sr ?_
  refine mv vx2_0 rfl rfl rfl rfl rfl rfl ?_
  refine asg vx2_0 rfl rfl rfl rfl rfl rfl ?_
  refine dn ?_
  exact re rfl Tryz.func153 rfl (r_t rfl r_nil) rfl ⟨_, rfl, Ax2_0.fo Kx2 rfl z.l, z.ky Kx2⟩
noncomputable def spec_l13copy.b0 (a0 : (List Track)) (x2 : (List Track) × Int) : Option (((List Track) × Int) ⊕ (List Track)) :=
 (if (decide (x2.2 < (a0.length : Int))) = true then (if 0 ≤ x2.2 ∧ x2.2 < (a0.length : Int) then ((spec_l13spans.f ((at_ a0 x2.2).Reads)).bind fun r18 => ((spec_l13items.f ((at_ a0 x2.2).Writes)).bind fun r25 => (if x2.1.length + ([(Track.mk ((at_ a0 x2.2).Xid) ((at_ a0 x2.2).Begun) ((at_ a0 x2.2).Ended) ((at_ a0 x2.2).All) r18 r25 ((at_ a0 x2.2).In) ((at_ a0 x2.2).Out))]).length ≤ Lim then (some (Sum.inl ((x2.1 ++ [(Track.mk ((at_ a0 x2.2).Xid) ((at_ a0 x2.2).Begun) ((at_ a0 x2.2).Ended) ((at_ a0 x2.2).All) r18 r25 ((at_ a0 x2.2).In) ((at_ a0 x2.2).Out))]), (IntKind.wrap .i64 (x2.2 + (1 : Int)))))) else none))) else none) else ((some x2.1).bind fun o => some (Sum.inr o)))
noncomputable def spec_l13copy.f (a0 : (List Track)) : Option ((List Track)) :=
 (iter (spec_l13copy.b0 a0) (([] : (List Track)), (0 : Int)))
def spec_l13copy.Q (w : World) (F : Nat → Prop) (r : (List Track)) (v : Value) (w' : World) : Prop :=
 FO (Kd.sl 117 kd117) w w' [v] r ∧ Ky [] w w'
set_option maxHeartbeats 4000000 in
set_option maxRecDepth 100000 in
theorem spec_l13copy.calls (a0 : (List Track)) (w : World) (F : Nat → Prop) (w0_0 : Value) (h0_0 : (Kd.sl 117 kd117).rd w [w0_0] a0 F) (r : (List Track)) (m : spec_l13copy.f a0 = some r) :
  Calls Tryz.prog 67 #[w0_0] w fun en w' => ∃ v, en = .returned v ∧ spec_l13copy.Q w F r v w' := by
 obtain ⟨s0, rfl, kp0, z⟩ := start0 w F
 have A0_0 := z.rd h0_0
 refine calls_of_TM (args := [w0_0]) (R := fun r en w' => ∃ v, en = .returned v ∧ spec_l13copy.Q s0.w F r v w') Tryz.func67 Tryz.ntmps67 rfl rfl m ?_
 unfold spec_l13copy.f
 refine sr ?_
 refine pu rfl rfl rfl rfl rfl ?_
 refine dn ?_
 refine sr ?_
 refine pu rfl rfl rfl rfl rfl ?_
 refine dn ?_
 refine sq ?_
 refine sr ?_
 refine pu rfl rfl rfl rfl rfl ?_
 refine dn ?_
 refine bl ?_
 refine lpI (fun (x2 : (List Track) × Int) (e : Env) (w : World) => ∃ (s : St) (e0 : Env) (vx2_0 : Value), w = s.w ∧ e = upd (upd (upd e0 0 w0_0) 3 vx2_0) 4 (.int .i64 x2.2) ∧ Kp s0 s ∧ OwF (Kd.sl 117 kd117) s [vx2_0] x2.1 41) ⟨s0, _, (.slice none 0 0), rfl, (ue (ue (ue rfl rfl) rfl) rfl), kp0, (ow_nil 117 kd117 _ 41)⟩ (fun g2 ih2 => ?_)
 rintro x2 _ _ ⟨s3, _, vx2_0, rfl, rfl, Kx2, Ax2_0⟩
 unfold spec_l13copy.b0
 refine sq ?_
 refine sr ?_
 refine pu rfl rfl rfl rfl rfl ?_
 refine mv w0_0 rfl rfl rfl rfl rfl rfl ?_
 have A5 := (A0_0.kp Kx2)
 refine ln A5 Tryz.underlying29 rfl rfl rfl rfl rfl rfl ?_
 refine pu rfl rfl rfl rfl rfl ?_
 refine dn ?_
 refine cd rfl (fun h6 => ?_) (fun h6 => ?_)
 ·
  refine sk ?_
  refine sq ?_
  refine bl ?_
  refine sr ?_
  refine mv w0_0 rfl rfl rfl rfl rfl rfl ?_
  refine pu rfl rfl rfl rfl rfl ?_
  refine ix A5 Tryz.underlying29 z117 rfl rfl rfl rfl rfl rfl rfl rfl (fun ad7 es7 h0_7 h1_7 he7 ce7 ia7 => ?_)
  obtain ⟨v7_0, v7_1, rfl, A7_0, A7_1⟩ := op117 he7
  refine lca ce7 Tryz.underlying117 z117 rfl rfl rfl rfl rfl rfl rfl ?_
  refine al (cs := [(.int .i64 (0 : Int)), (.int .i64 (0 : Int)), (.int .i64 (0 : Int)), (.bool false), (.slice none 0 0), (.slice none 0 0), (.bool false), (.bool false)]) 42 rfl rfl rfl rfl rfl o117 rfl (fun b11 s11 p11 B11 => ?_)
  have A13 := (A7_1.st p11 rfl)
  have A14 := (A7_0.st p11 rfl)
  refine sva (vs := [(.int .i64 ((at_ a0 x2.2).Xid)), (.int .i64 ((at_ a0 x2.2).Begun)), (.int .i64 ((at_ a0 x2.2).Ended)), (.bool ((at_ a0 x2.2).All)), v7_0, v7_1, (.bool ((at_ a0 x2.2).In)), (.bool ((at_ a0 x2.2).Out))]) B11 z117 rfl rfl rfl rfl rfl rfl (on_cons rfl (on_cons rfl (on_cons rfl (on_cons rfl (on_cons A14.one (on_cons A13.one (on_cons rfl (on_cons rfl on_nil)))))))) rfl (fun s15 p15 B15 => ?_)
  refine dn ?_
  refine sr ?_
  refine fa fa117_4 rfl rfl rfl rfl rfl rfl ?_
  refine ld B15 Tryz.underlying114 rfl rfl rfl rfl rfl rfl rfl rfl ?_
  have A17 := (A14.st p15 rfl)
  refine cl rfl rfl rfl rfl rfl Tryz.func152 rfl rfl rfl (fun r18 m18 => spec_l13spans.calls ((at_ a0 x2.2).Reads) s15.w (fun b => memb [0] (s15.g b) = true) v7_0 A17 r18 m18) ?_
  rintro r18 v18_0 w18 m18 ⟨f18_0, ky18⟩
  obtain ⟨s19, rfl, p19, n19⟩ := nwx s15 w18 43 ky18
  have A18_0 := f18_0.c n19
  refine fa fa117_4 rfl rfl rfl rfl rfl rfl ?_
  have A21 := (BlF.st B15 p19 rfl)
  refine sv A21 z114 rfl rfl rfl rfl rfl rfl A18_0.rd.one rfl (fun s22 p22 B22 => ?_)
  refine dn ?_
  refine sr ?_
  refine fa fa117_5 rfl rfl rfl rfl rfl rfl ?_
  refine ld B22 Tryz.underlying115 rfl rfl rfl rfl rfl rfl rfl rfl ?_
  have A24 := (((A13.st p15 rfl).st p19 rfl).st p22 rfl)
  refine cl rfl rfl rfl rfl rfl Tryz.func153 rfl rfl rfl (fun r25 m25 => spec_l13items.calls ((at_ a0 x2.2).Writes) s22.w (fun b => memb [0] (s22.g b) = true) v7_1 A24 r25 m25) ?_
  rintro r25 v25_0 w25 m25 ⟨f25_0, ky25⟩
  obtain ⟨s26, rfl, p26, n26⟩ := nwx s22 w25 44 ky25
  have A25_0 := f25_0.c n26
  refine fa fa117_5 rfl rfl rfl rfl rfl rfl ?_
  have A28 := (BlF.st B22 p26 rfl)
  refine sv A28 z115 rfl rfl rfl rfl rfl rfl A25_0.rd.one rfl (fun s29 p29 B29 => ?_)
  refine dn ?_
  refine rg ?_
  refine mv vx2_0 rfl rfl rfl rfl rfl rfl ?_
  refine lda (es := [(.int .i64 ((at_ a0 x2.2).Xid)), (.int .i64 ((at_ a0 x2.2).Begun)), (.int .i64 ((at_ a0 x2.2).Ended)), (.bool ((at_ a0 x2.2).All)), v18_0, v25_0, (.bool ((at_ a0 x2.2).In)), (.bool ((at_ a0 x2.2).Out))]) B29 Tryz.underlying117 z117 rfl rfl rfl rfl rfl rfl rfl rfl ?_
  have A31 := (((A18_0.st p22 rfl).st p26 rfl).st p29 rfl)
  have A32 := (A25_0.st p29 rfl)
  obtain ⟨s33, hw33, p33, A33⟩ := ow_2 A31 (ow_r A32 (fz_pair (fz_bool ((at_ a0 x2.2).In)) (fz_bool ((at_ a0 x2.2).Out)))) rfl rfl
  rw [hw33]
  have A35 : OwF kd117 s33 [(.int .i64 ((at_ a0 x2.2).Xid)), (.int .i64 ((at_ a0 x2.2).Begun)), (.int .i64 ((at_ a0 x2.2).Ended)), (.bool ((at_ a0 x2.2).All)), v18_0, v25_0, (.bool ((at_ a0 x2.2).In)), (.bool ((at_ a0 x2.2).Out))] (Track.mk ((at_ a0 x2.2).Xid) ((at_ a0 x2.2).Begun) ((at_ a0 x2.2).Ended) ((at_ a0 x2.2).All) r18 r25 ((at_ a0 x2.2).In) ((at_ a0 x2.2).Out)) 43 := (ow_isoz (fun x : Track => (x.Xid, x.Begun, x.Ended, x.All, x.Reads, x.Writes, x.In, x.Out)) (Track.mk ((at_ a0 x2.2).Xid) ((at_ a0 x2.2).Begun) ((at_ a0 x2.2).Ended) ((at_ a0 x2.2).All) r18 r25 ((at_ a0 x2.2).In) ((at_ a0 x2.2).Out)) (ow_l (fz_int .i64 ((at_ a0 x2.2).Xid)) (ow_l (fz_int .i64 ((at_ a0 x2.2).Begun)) (ow_l (fz_int .i64 ((at_ a0 x2.2).Ended)) (ow_l (fz_bool ((at_ a0 x2.2).All)) A33)))))
  have L37 := lo_one A35
  refine ltO (K := kd117) (cells := [(.int .i64 ((at_ a0 x2.2).Xid)), (.int .i64 ((at_ a0 x2.2).Begun)), (.int .i64 ((at_ a0 x2.2).Ended)), (.bool ((at_ a0 x2.2).All)), v18_0, v25_0, (.bool ((at_ a0 x2.2).In)), (.bool ((at_ a0 x2.2).Out))]) [(Track.mk ((at_ a0 x2.2).Xid) ((at_ a0 x2.2).Begun) ((at_ a0 x2.2).Ended) ((at_ a0 x2.2).All) r18 r25 ((at_ a0 x2.2).In) ((at_ a0 x2.2).Out))] 43 Tryz.underlying29 z117 o117 L37 rfl rfl rfl rfl rfl rfl rfl rfl rfl rfl (fun v38 s38 p38 A38 => ?_)
  have A40 := ((((((((Ax2_0.st p11 rfl).st p15 rfl).st p19 rfl).st p22 rfl).st p26 rfl).st p29 rfl).st p33 rfl).st p38 rfl)
  refine apO sl29 A40 A38 rfl rfl rfl rfl rfl rfl rfl rfl rfl (fun v41 s41 p41 A41 => ?_)
  refine asg v41 rfl rfl rfl rfl rfl rfl ?_
  refine dn ?_
  refine ib ?_
  refine rg ?_
  refine pu rfl rfl rfl rfl rfl ?_
  refine pu rfl rfl rfl rfl rfl ?_
  refine pu rfl rfl rfl rfl rfl ?_
  refine dn ?_
  have K43 := (((((((((Kx2.st p11 rfl).st p15 rfl).st p19 rfl).st p22 rfl).st p26 rfl).st p29 rfl).st p33 rfl).st p38 rfl).st p41 rfl)
  exact lb ih2 ⟨s41, _, v41, rfl, (ue (ue (ue rfl rfl) rfl) rfl), K43, A41⟩
 ·
  refine xt rfl ?_
  refine sgb ?_
  refine sr ?_
  refine mv vx2_0 rfl rfl rfl rfl rfl rfl ?_
  refine asg vx2_0 rfl rfl rfl rfl rfl rfl ?_
  refine dn ?_
  exact re rfl Tryz.func67 rfl (r_t rfl r_nil) rfl ⟨_, rfl, Ax2_0.fo Kx2 rfl z.l, z.ky Kx2⟩
noncomputable def spec_l13has.b0 (a0 : (List Item)) (a1 : Item) (x5 : Int) : Option (Int ⊕ Bool) :=
 (if (decide (x5 < (a0.length : Int))) = true then (if 0 ≤ x5 ∧ x5 < (a0.length : Int) then ((spec_ItemCompare.f (at_ a0 x5) a1).bind fun r25 => (if (r25 == (0 : Int)) = true then (some (Sum.inr true)) else (some (Sum.inl (IntKind.wrap .i64 (x5 + (1 : Int))))))) else none) else ((some false).bind fun o => some (Sum.inr o)))
noncomputable def spec_l13has.f (a0 : (List Item)) (a1 : Item) : Option (Bool) :=
 (iter (spec_l13has.b0 a0 a1) (0 : Int))
def spec_l13has.Q (w : World) (F : Nat → Prop) (r : Bool) (v : Value) (w' : World) : Prop :=
 v = (.bool r) ∧ Ky [] w w'
set_option maxHeartbeats 4000000 in
set_option maxRecDepth 100000 in
theorem spec_l13has.calls (a0 : (List Item)) (a1 : Item) (w : World) (F : Nat → Prop) (w0_0 : Value) (w1_0 : Value) (w1_1 : Value) (h0_0 : (Kd.sl 33 kd33).rd w [w0_0] a0 F) (h1_0 : Kd.flt.rd w [w1_0] a1.F F) (h1_1 : (Kd.sl 5 (Kd.int .u8)).rd w [w1_1] a1.T F) (r : Bool) (m : spec_l13has.f a0 a1 = some r) :
  Calls Tryz.prog 68 #[w0_0, (.agg #[(.int .i64 a1.Kind), (.int .i64 a1.N), w1_0, w1_1])] w fun en w' => ∃ v, en = .returned v ∧ spec_l13has.Q w F r v w' := by
 obtain ⟨s0, rfl, kp0, z⟩ := start0 w F
 have A0_0 := z.rd h0_0
 have A1_0 := fl_of h1_0
 have A1_1 := z.rd h1_1
 refine calls_of_TM (args := [w0_0, (.agg #[(.int .i64 a1.Kind), (.int .i64 a1.N), w1_0, w1_1])]) (R := fun r en w' => ∃ v, en = .returned v ∧ spec_l13has.Q s0.w F r v w') Tryz.func68 Tryz.ntmps68 rfl rfl m ?_
 unfold spec_l13has.f
 refine sr ?_
 refine bx (cs := [(.int .i64 a1.Kind), (.int .i64 a1.N), w1_0, w1_1]) 40 rfl rfl rfl rfl rfl rfl (fun b3 s3 p3 B3 => ?_)
 refine pu rfl rfl rfl rfl rfl ?_
 refine dn ?_
 refine sq ?_
 refine sr ?_
 refine pu rfl rfl rfl rfl rfl ?_
 refine dn ?_
 refine bl ?_
 have K6 := (kp0.st p3 rfl)
 refine lpI (fun (x5 : Int) (e : Env) (w : World) => ∃ (s : St) (e0 : Env), w = s.w ∧ e = upd (upd (upd e0 0 w0_0) 3 (.pointer (some ⟨b3, 0, none⟩))) 5 (.int .i64 x5) ∧ Kp s0 s ∧ BlF s b3 33 [(.int .i64 a1.Kind), (.int .i64 a1.N), w1_0, w1_1] 40) ⟨s3, _, rfl, (ue (ue (ue rfl rfl) rfl) rfl), K6, B3⟩ (fun g5 ih5 => ?_)
 rintro x5 _ _ ⟨s7, _, rfl, rfl, Kx5, Bx5_b3⟩
 unfold spec_l13has.b0
 refine sq ?_
 refine sr ?_
 refine pu rfl rfl rfl rfl rfl ?_
 refine mv w0_0 rfl rfl rfl rfl rfl rfl ?_
 have A9 := (A0_0.kp Kx5)
 refine ln A9 Tryz.underlying115 rfl rfl rfl rfl rfl rfl ?_
 refine pu rfl rfl rfl rfl rfl ?_
 refine dn ?_
 refine cd rfl (fun h10 => ?_) (fun h10 => ?_)
 ·
  refine sk ?_
  refine sq ?_
  refine bl ?_
  refine sq ?_
  refine zdraw [[], [], [0, 1], [2], [], [3, 4], [5]] [some 12, some 13, some 14, some 15, some 16, some 17, some 18] [[0], [5], [12, 13], [14], [3], [15, 16], [17]] [0, 1, 2, 3, 4, 5, 6] ⟨by kernel_rfl, by kernel_rfl, by kernel_rfl⟩ (by kernel_rfl) (fun s11 p11 l11 tb11 zd11 => ?_)
  have zd12 := zd11.add 0 12 w0_0 rfl
  have zd13 := zd12.add 1 13 (.int .i64 x5) rfl
  have K14 := (Kx5.st p11 rfl)
  have A15 := (A0_0.kp K14)
  refine mg fun hg16 => ?_
  obtain ⟨ad16, es16, he16, ce16, ia16⟩ := ix_e A15 rfl hg16.1 hg16.2
  have h0_16 := hg16.1
  have h1_16 := hg16.2
  obtain ⟨v16_0, v16_1, rfl, A16_0, A16_1⟩ := op33 he16
  have zd19 := zd13.add 2 14 (.pointer (some ad16)) rfl
  have zd20 := zd19.add 3 15 (.agg #[(.int .i64 ((at_ a0 x5).Kind)), (.int .i64 ((at_ a0 x5).N)), v16_0, v16_1]) rfl
  have A21 := (BlF.st Bx5_b3 p11 rfl)
  have zd22 := zd20.add 4 16 (.agg #[(.int .i64 a1.Kind), (.int .i64 a1.N), w1_0, w1_1]) rfl
  have A23 := (BlF.st Bx5_b3 p11 rfl)
  refine zfin [5, 6] tb11 zd22 (pq_cons (lda_q (es := [(.int .i64 a1.Kind), (.int .i64 a1.N), w1_0, w1_1]) A23 Tryz.underlying33 z33 rfl rfl rfl rfl rfl rfl rfl rfl) rfl (pq_cons (lca_q ce16 Tryz.underlying33 z33 rfl rfl rfl rfl rfl rfl rfl) rfl (pq_cons (ix_q A15 Tryz.underlying115 z33 hg16.1 hg16.2 ia16 rfl rfl rfl rfl rfl rfl rfl) rfl (pq_cons (pu_q rfl rfl rfl rfl rfl rfl) rfl (pq_cons (mv_q w0_0 rfl rfl rfl rfl rfl rfl) rfl pq_nil))))) (by kernel_rfl) (by decide) ?_
  have A24 := (A1_1.kp K14)
  refine cl rfl rfl rfl rfl rfl Tryz.func154 rfl rfl rfl (fun r25 m25 => spec_ItemCompare.calls (at_ a0 x5) a1 s11.w (fun b => memb [0] (s11.g b) = true) v16_0 v16_1 w1_0 w1_1 ((fl_rdf (s := s11) A16_0).sub (D := [0]) rfl) A16_1 ((fl_rdf (s := s11) A1_0).sub (D := [0]) rfl) A24 r25 m25) ?_
  rintro r25 _ w25 m25 ⟨rfl, ky25⟩
  obtain ⟨s26, rfl, p26, n26⟩ := nwx s11 w25 41 ky25
  refine pu rfl rfl rfl rfl rfl ?_
  refine dn ?_
  refine cd rfl (fun h27 => ?_) (fun h27 => ?_)
  ·
   refine sr ?_
   refine pu rfl rfl rfl rfl rfl ?_
   refine dn ?_
   refine sgi ?_
   have K28 := (K14.st p26 rfl)
   exact re rfl Tryz.func68 rfl (r_t rfl r_nil) rfl ⟨_, rfl, rfl, z.ky K28⟩
  ·
   refine sk ?_
   refine ib ?_
   refine rg ?_
   refine pu rfl rfl rfl rfl rfl ?_
   refine pu rfl rfl rfl rfl rfl ?_
   refine pu rfl rfl rfl rfl rfl ?_
   refine dn ?_
   have A29 := (BlF.st (BlF.st Bx5_b3 p11 rfl) p26 rfl)
   have K30 := (K14.st p26 rfl)
   exact lb ih5 ⟨s26, _, rfl, (ue (ue (ue rfl rfl) rfl) rfl), K30, A29⟩
 ·
  refine xt rfl ?_
  refine sgb ?_
  refine sr ?_
  refine pu rfl rfl rfl rfl rfl ?_
  refine dn ?_
  exact re rfl Tryz.func68 rfl (r_t rfl r_nil) rfl ⟨_, rfl, rfl, z.ky Kx5⟩
noncomputable def spec_InSpan.f (a0 : Item) (a1 : Item) (a2 : Item) : Option (Bool) :=
 ((spec_KeyOk.f a0).bind fun r13 => ((if r13 = true then ((spec_KeyOk.f a1).bind fun r19 => (some r19)) else (some false)).bind fun y15 => ((if y15 = true then ((spec_KeyOk.f a2).bind fun r35 => (some r35)) else (some false)).bind fun y33 => ((if y33 = true then ((spec_ItemCompare.f a0 a2).bind fun r48 => (some (decide (r48 ≤ (0 : Int))))) else (some false)).bind fun y45 => ((if y45 = true then ((spec_ItemCompare.f a2 a1).bind fun r59 => (some (decide (r59 ≤ (0 : Int))))) else (some false)).bind fun y56 => (some y56))))))
def spec_InSpan.Q (w : World) (F : Nat → Prop) (r : Bool) (v : Value) (w' : World) : Prop :=
 v = (.bool r) ∧ Ky [] w w'
set_option maxHeartbeats 4000000 in
set_option maxRecDepth 100000 in
theorem spec_InSpan.calls (a0 : Item) (a1 : Item) (a2 : Item) (w : World) (F : Nat → Prop) (w0_0 : Value) (w0_1 : Value) (w1_0 : Value) (w1_1 : Value) (w2_0 : Value) (w2_1 : Value) (h0_0 : Kd.flt.rd w [w0_0] a0.F F) (h0_1 : (Kd.sl 5 (Kd.int .u8)).rd w [w0_1] a0.T F) (h1_0 : Kd.flt.rd w [w1_0] a1.F F) (h1_1 : (Kd.sl 5 (Kd.int .u8)).rd w [w1_1] a1.T F) (h2_0 : Kd.flt.rd w [w2_0] a2.F F) (h2_1 : (Kd.sl 5 (Kd.int .u8)).rd w [w2_1] a2.T F) (r : Bool) (m : spec_InSpan.f a0 a1 a2 = some r) :
  Calls Tryz.prog 155 #[(.agg #[(.int .i64 a0.Kind), (.int .i64 a0.N), w0_0, w0_1]), (.agg #[(.int .i64 a1.Kind), (.int .i64 a1.N), w1_0, w1_1]), (.agg #[(.int .i64 a2.Kind), (.int .i64 a2.N), w2_0, w2_1])] w fun en w' => ∃ v, en = .returned v ∧ spec_InSpan.Q w F r v w' := by
 obtain ⟨s0, rfl, kp0, z⟩ := start0 w F
 have A0_0 := fl_of h0_0
 have A0_1 := z.rd h0_1
 have A1_0 := fl_of h1_0
 have A1_1 := z.rd h1_1
 have A2_0 := fl_of h2_0
 have A2_1 := z.rd h2_1
 refine calls_of_TM (args := [(.agg #[(.int .i64 a0.Kind), (.int .i64 a0.N), w0_0, w0_1]), (.agg #[(.int .i64 a1.Kind), (.int .i64 a1.N), w1_0, w1_1]), (.agg #[(.int .i64 a2.Kind), (.int .i64 a2.N), w2_0, w2_1])]) (R := fun r en w' => ∃ v, en = .returned v ∧ spec_InSpan.Q s0.w F r v w') Tryz.func155 Tryz.ntmps155 rfl rfl m ?_
 unfold spec_InSpan.f
 refine sr ?_
 refine bx (cs := [(.int .i64 a0.Kind), (.int .i64 a0.N), w0_0, w0_1]) 40 rfl rfl rfl rfl rfl rfl (fun b4 s4 p4 B4 => ?_)
 refine bx (cs := [(.int .i64 a1.Kind), (.int .i64 a1.N), w1_0, w1_1]) 41 rfl rfl rfl rfl rfl rfl (fun b6 s6 p6 B6 => ?_)
 refine bx (cs := [(.int .i64 a2.Kind), (.int .i64 a2.N), w2_0, w2_1]) 42 rfl rfl rfl rfl rfl rfl (fun b8 s8 p8 B8 => ?_)
 refine pu rfl rfl rfl rfl rfl ?_
 refine dn ?_
 refine sr ?_
 have A10 := (BlF.st (BlF.st B4 p6 rfl) p8 rfl)
 refine lda (es := [(.int .i64 a0.Kind), (.int .i64 a0.N), w0_0, w0_1]) A10 Tryz.underlying33 z33 rfl rfl rfl rfl rfl rfl rfl rfl ?_
 have K11 := (((kp0.st p4 rfl).st p6 rfl).st p8 rfl)
 have A12 := (A0_1.kp K11)
 refine cl rfl rfl rfl rfl rfl Tryz.func66 rfl rfl rfl (fun r13 m13 => spec_KeyOk.calls a0 s8.w (fun b => memb [0] (s8.g b) = true) w0_0 w0_1 ((fl_rdf (s := s8) A0_0).sub (D := [0]) rfl) A12 r13 m13) ?_
 rintro r13 _ w13 m13 ⟨rfl, ky13⟩
 obtain ⟨s14, rfl, p14, n14⟩ := nwx s8 w13 43 ky13
 refine pu rfl rfl rfl rfl rfl ?_
 refine ji [6, 7, 8, 9, 10, 11, 12, 13, 14, 15, 16, 17, 18, 19, 20, 21, 22] (fun (y15 : Bool) (e : Env) (w : World) => ∃ (s : St) (e0 : Env), w = s.w ∧ e = upd (upd (upd (upd e0 3 (.pointer (some ⟨b4, 0, none⟩))) 4 (.pointer (some ⟨b6, 0, none⟩))) 5 (.pointer (some ⟨b8, 0, none⟩))) 12 (.bool y15) ∧ Kp s0 s ∧ BlF s b8 33 [(.int .i64 a2.Kind), (.int .i64 a2.N), w2_0, w2_1] 42 ∧ BlF s b6 33 [(.int .i64 a1.Kind), (.int .i64 a1.N), w1_0, w1_1] 41 ∧ BlF s b4 33 [(.int .i64 a0.Kind), (.int .i64 a0.N), w0_0, w0_1] 40) (fun Gj15 Kj15 => ?_) ?_
 ·
  rcases Bool.eq_false_or_eq_true r13 with hb15 | hb15
  ·
   refine sbT hb15 ?_
   rw [if_pos hb15]
   have A16 := (BlF.st (BlF.st B6 p8 rfl) p14 rfl)
   refine lda (es := [(.int .i64 a1.Kind), (.int .i64 a1.N), w1_0, w1_1]) A16 Tryz.underlying33 z33 rfl rfl rfl rfl rfl rfl rfl rfl ?_
   have K17 := (K11.st p14 rfl)
   have A18 := (A1_1.kp K17)
   refine cl rfl rfl rfl rfl rfl Tryz.func66 rfl rfl rfl (fun r19 m19 => spec_KeyOk.calls a1 s14.w (fun b => memb [0] (s14.g b) = true) w1_0 w1_1 ((fl_rdf (s := s14) A1_0).sub (D := [0]) rfl) A18 r19 m19) ?_
   rintro r19 _ w19 m19 ⟨rfl, ky19⟩
   obtain ⟨s20, rfl, p20, n20⟩ := nwx s14 w19 44 ky19
   refine pu rfl rfl rfl rfl rfl ?_
   have A21 := (BlF.st (BlF.st B8 p14 rfl) p20 rfl)
   have A22 := (BlF.st A16 p20 rfl)
   have A23 := (BlF.st (BlF.st A10 p14 rfl) p20 rfl)
   have K24 := (K17.st p20 rfl)
   exact Kj15 _ _ _ ⟨s20, _, rfl, (ue (ue (ue (ue rfl rfl) rfl) rfl) rfl), K24, A21, A22, A23⟩
  ·
   refine sbT hb15 ?_
   rw [if_neg (by rw [hb15]; decide)]
   refine uw rfl rfl rfl rfl ?_
   refine uw rfl rfl rfl rfl ?_
   refine pu rfl rfl rfl rfl rfl ?_
   have A25 := (BlF.st B8 p14 rfl)
   have A26 := (BlF.st (BlF.st B6 p8 rfl) p14 rfl)
   have A27 := (BlF.st A10 p14 rfl)
   have K28 := (K11.st p14 rfl)
   exact Kj15 _ _ _ ⟨s14, _, rfl, (ue (ue (ue (ue rfl rfl) rfl) rfl) rfl), K28, A25, A26, A27⟩
 rintro y15 _ _ ⟨s29, _, rfl, rfl, Ky15, By15_b8, By15_b6, By15_b4⟩
 refine pu rfl rfl rfl rfl rfl ?_
 refine ji [10, 11, 12, 13, 14, 15, 16, 17, 18, 19, 20, 21, 22] (fun (y33 : Bool) (e : Env) (w : World) => ∃ (s : St) (e0 : Env), w = s.w ∧ e = upd (upd (upd (upd e0 3 (.pointer (some ⟨b4, 0, none⟩))) 4 (.pointer (some ⟨b6, 0, none⟩))) 5 (.pointer (some ⟨b8, 0, none⟩))) 16 (.bool y33) ∧ Kp s0 s ∧ BlF s b8 33 [(.int .i64 a2.Kind), (.int .i64 a2.N), w2_0, w2_1] 42 ∧ BlF s b6 33 [(.int .i64 a1.Kind), (.int .i64 a1.N), w1_0, w1_1] 41 ∧ BlF s b4 33 [(.int .i64 a0.Kind), (.int .i64 a0.N), w0_0, w0_1] 40) (fun Gj33 Kj33 => ?_) ?_
 ·
  rcases Bool.eq_false_or_eq_true y15 with hb33 | hb33
  ·
   refine sbT hb33 ?_
   rw [if_pos hb33]
   refine lda (es := [(.int .i64 a2.Kind), (.int .i64 a2.N), w2_0, w2_1]) By15_b8 Tryz.underlying33 z33 rfl rfl rfl rfl rfl rfl rfl rfl ?_
   have A34 := (A2_1.kp Ky15)
   refine cl rfl rfl rfl rfl rfl Tryz.func66 rfl rfl rfl (fun r35 m35 => spec_KeyOk.calls a2 s29.w (fun b => memb [0] (s29.g b) = true) w2_0 w2_1 ((fl_rdf (s := s29) A2_0).sub (D := [0]) rfl) A34 r35 m35) ?_
   rintro r35 _ w35 m35 ⟨rfl, ky35⟩
   obtain ⟨s36, rfl, p36, n36⟩ := nwx s29 w35 45 ky35
   refine pu rfl rfl rfl rfl rfl ?_
   have A37 := (BlF.st By15_b8 p36 rfl)
   have A38 := (BlF.st By15_b6 p36 rfl)
   have A39 := (BlF.st By15_b4 p36 rfl)
   have K40 := (Ky15.st p36 rfl)
   exact Kj33 _ _ _ ⟨s36, _, rfl, (ue (ue (ue (ue rfl rfl) rfl) rfl) rfl), K40, A37, A38, A39⟩
  ·
   refine sbT hb33 ?_
   rw [if_neg (by rw [hb33]; decide)]
   refine uw rfl rfl rfl rfl ?_
   refine uw rfl rfl rfl rfl ?_
   refine pu rfl rfl rfl rfl rfl ?_
   exact Kj33 _ _ _ ⟨s29, _, rfl, (ue (ue (ue (ue rfl rfl) rfl) rfl) rfl), Ky15, By15_b8, By15_b6, By15_b4⟩
 rintro y33 _ _ ⟨s41, _, rfl, rfl, Ky33, By33_b8, By33_b6, By33_b4⟩
 refine pu rfl rfl rfl rfl rfl ?_
 refine ji [16, 17, 18, 19, 20, 21, 22] (fun (y45 : Bool) (e : Env) (w : World) => ∃ (s : St) (e0 : Env), w = s.w ∧ e = upd (upd (upd e0 4 (.pointer (some ⟨b6, 0, none⟩))) 5 (.pointer (some ⟨b8, 0, none⟩))) 22 (.bool y45) ∧ Kp s0 s ∧ BlF s b8 33 [(.int .i64 a2.Kind), (.int .i64 a2.N), w2_0, w2_1] 42 ∧ BlF s b6 33 [(.int .i64 a1.Kind), (.int .i64 a1.N), w1_0, w1_1] 41) (fun Gj45 Kj45 => ?_) ?_
 ·
  rcases Bool.eq_false_or_eq_true y33 with hb45 | hb45
  ·
   refine sbT hb45 ?_
   rw [if_pos hb45]
   refine lda (es := [(.int .i64 a0.Kind), (.int .i64 a0.N), w0_0, w0_1]) By33_b4 Tryz.underlying33 z33 rfl rfl rfl rfl rfl rfl rfl rfl ?_
   refine lda (es := [(.int .i64 a2.Kind), (.int .i64 a2.N), w2_0, w2_1]) By33_b8 Tryz.underlying33 z33 rfl rfl rfl rfl rfl rfl rfl rfl ?_
   have A46 := (A0_1.kp Ky33)
   have A47 := (A2_1.kp Ky33)
   refine cl rfl rfl rfl rfl rfl Tryz.func154 rfl rfl rfl (fun r48 m48 => spec_ItemCompare.calls a0 a2 s41.w (fun b => memb [0] (s41.g b) = true) w0_0 w0_1 w2_0 w2_1 ((fl_rdf (s := s41) A0_0).sub (D := [0]) rfl) A46 ((fl_rdf (s := s41) A2_0).sub (D := [0]) rfl) A47 r48 m48) ?_
   rintro r48 _ w48 m48 ⟨rfl, ky48⟩
   obtain ⟨s49, rfl, p49, n49⟩ := nwx s41 w48 46 ky48
   refine pu rfl rfl rfl rfl rfl ?_
   refine pu rfl rfl rfl rfl rfl ?_
   have A50 := (BlF.st By33_b8 p49 rfl)
   have A51 := (BlF.st By33_b6 p49 rfl)
   have K52 := (Ky33.st p49 rfl)
   exact Kj45 _ _ _ ⟨s49, _, rfl, (ue (ue (ue rfl rfl) rfl) rfl), K52, A50, A51⟩
  ·
   refine sbT hb45 ?_
   rw [if_neg (by rw [hb45]; decide)]
   refine uw rfl rfl rfl rfl ?_
   refine uw rfl rfl rfl rfl ?_
   refine uw rfl rfl rfl rfl ?_
   refine uw rfl rfl rfl rfl ?_
   refine pu rfl rfl rfl rfl rfl ?_
   exact Kj45 _ _ _ ⟨s41, _, rfl, (ue (ue (ue rfl rfl) rfl) rfl), Ky33, By33_b8, By33_b6⟩
 rintro y45 _ _ ⟨s53, _, rfl, rfl, Ky45, By45_b8, By45_b6⟩
 refine pu rfl rfl rfl rfl rfl ?_
 refine ji [22] (fun (y56 : Bool) (e : Env) (w : World) => ∃ (s : St) (e0 : Env), w = s.w ∧ e = upd e0 28 (.bool y56) ∧ Kp s0 s) (fun Gj56 Kj56 => ?_) ?_
 ·
  rcases Bool.eq_false_or_eq_true y45 with hb56 | hb56
  ·
   refine sbT hb56 ?_
   rw [if_pos hb56]
   refine lda (es := [(.int .i64 a2.Kind), (.int .i64 a2.N), w2_0, w2_1]) By45_b8 Tryz.underlying33 z33 rfl rfl rfl rfl rfl rfl rfl rfl ?_
   refine lda (es := [(.int .i64 a1.Kind), (.int .i64 a1.N), w1_0, w1_1]) By45_b6 Tryz.underlying33 z33 rfl rfl rfl rfl rfl rfl rfl rfl ?_
   have A57 := (A2_1.kp Ky45)
   have A58 := (A1_1.kp Ky45)
   refine cl rfl rfl rfl rfl rfl Tryz.func154 rfl rfl rfl (fun r59 m59 => spec_ItemCompare.calls a2 a1 s53.w (fun b => memb [0] (s53.g b) = true) w2_0 w2_1 w1_0 w1_1 ((fl_rdf (s := s53) A2_0).sub (D := [0]) rfl) A57 ((fl_rdf (s := s53) A1_0).sub (D := [0]) rfl) A58 r59 m59) ?_
   rintro r59 _ w59 m59 ⟨rfl, ky59⟩
   obtain ⟨s60, rfl, p60, n60⟩ := nwx s53 w59 47 ky59
   refine pu rfl rfl rfl rfl rfl ?_
   refine pu rfl rfl rfl rfl rfl ?_
   have K61 := (Ky45.st p60 rfl)
   exact Kj56 _ _ _ ⟨s60, _, rfl, (ue rfl rfl), K61⟩
  ·
   refine sbT hb56 ?_
   rw [if_neg (by rw [hb56]; decide)]
   refine uw rfl rfl rfl rfl ?_
   refine uw rfl rfl rfl rfl ?_
   refine uw rfl rfl rfl rfl ?_
   refine uw rfl rfl rfl rfl ?_
   refine pu rfl rfl rfl rfl rfl ?_
   exact Kj56 _ _ _ ⟨s53, _, rfl, (ue rfl rfl), Ky45⟩
 rintro y56 _ _ ⟨s62, _, rfl, rfl, Ky56⟩
 refine pu rfl rfl rfl rfl rfl ?_
 refine dn ?_
 exact re rfl Tryz.func155 rfl (r_t rfl r_nil) rfl ⟨_, rfl, rfl, z.ky Ky56⟩
noncomputable def spec_TrackReads.b0 (a0 : Track) (a1 : Item) (x14 : Int) : Option (Int ⊕ Bool) :=
 (if (decide (x14 < (a0.Reads.length : Int))) = true then (if 0 ≤ x14 ∧ x14 < (a0.Reads.length : Int) then (if 0 ≤ x14 ∧ x14 < (a0.Reads.length : Int) then ((spec_InSpan.f ((at_ a0.Reads x14).From) ((at_ a0.Reads x14).To) a1).bind fun r54 => (if r54 = true then (some (Sum.inr true)) else (some (Sum.inl (IntKind.wrap .i64 (x14 + (1 : Int))))))) else none) else none) else ((some a0.All).bind fun o => some (Sum.inr o)))
noncomputable def spec_TrackReads.f (a0 : Track) (a1 : Item) : Option (Bool) :=
 ((spec_KeyOk.f a1).bind fun r10 => (if (!r10) = true then (some false) else (iter (spec_TrackReads.b0 a0 a1) (0 : Int))))
def spec_TrackReads.Q (w : World) (F : Nat → Prop) (r : Bool) (v : Value) (w' : World) : Prop :=
 v = (.bool r) ∧ Ky [] w w'
set_option maxHeartbeats 4000000 in
set_option maxRecDepth 100000 in
theorem spec_TrackReads.calls (a0 : Track) (a1 : Item) (w : World) (F : Nat → Prop) (w0_0 : Value) (w0_1 : Value) (w1_0 : Value) (w1_1 : Value) (h0_0 : (Kd.sl 200 kd200).rd w [w0_0] a0.Reads F) (h0_1 : (Kd.sl 33 kd33).rd w [w0_1] a0.Writes F) (h1_0 : Kd.flt.rd w [w1_0] a1.F F) (h1_1 : (Kd.sl 5 (Kd.int .u8)).rd w [w1_1] a1.T F) (r : Bool) (m : spec_TrackReads.f a0 a1 = some r) :
  Calls Tryz.prog 70 #[(.agg #[(.int .i64 a0.Xid), (.int .i64 a0.Begun), (.int .i64 a0.Ended), (.bool a0.All), w0_0, w0_1, (.bool a0.In), (.bool a0.Out)]), (.agg #[(.int .i64 a1.Kind), (.int .i64 a1.N), w1_0, w1_1])] w fun en w' => ∃ v, en = .returned v ∧ spec_TrackReads.Q w F r v w' := by
 obtain ⟨s0, rfl, kp0, z⟩ := start0 w F
 have A0_0 := z.rd h0_0
 have A0_1 := z.rd h0_1
 have A1_0 := fl_of h1_0
 have A1_1 := z.rd h1_1
 refine calls_of_TM (args := [(.agg #[(.int .i64 a0.Xid), (.int .i64 a0.Begun), (.int .i64 a0.Ended), (.bool a0.All), w0_0, w0_1, (.bool a0.In), (.bool a0.Out)]), (.agg #[(.int .i64 a1.Kind), (.int .i64 a1.N), w1_0, w1_1])]) (R := fun r en w' => ∃ v, en = .returned v ∧ spec_TrackReads.Q s0.w F r v w') Tryz.func70 Tryz.ntmps70 rfl rfl m ?_
 unfold spec_TrackReads.f
 refine sr ?_
 refine bx (cs := [(.int .i64 a0.Xid), (.int .i64 a0.Begun), (.int .i64 a0.Ended), (.bool a0.All), w0_0, w0_1, (.bool a0.In), (.bool a0.Out)]) 40 rfl rfl rfl rfl rfl rfl (fun b4 s4 p4 B4 => ?_)
 refine bx (cs := [(.int .i64 a1.Kind), (.int .i64 a1.N), w1_0, w1_1]) 41 rfl rfl rfl rfl rfl rfl (fun b6 s6 p6 B6 => ?_)
 refine pu rfl rfl rfl rfl rfl ?_
 refine dn ?_
 refine sq ?_
 refine sr ?_
 refine lda (es := [(.int .i64 a1.Kind), (.int .i64 a1.N), w1_0, w1_1]) B6 Tryz.underlying33 z33 rfl rfl rfl rfl rfl rfl rfl rfl ?_
 have K8 := ((kp0.st p4 rfl).st p6 rfl)
 have A9 := (A1_1.kp K8)
 refine cl rfl rfl rfl rfl rfl Tryz.func66 rfl rfl rfl (fun r10 m10 => spec_KeyOk.calls a1 s6.w (fun b => memb [0] (s6.g b) = true) w1_0 w1_1 ((fl_rdf (s := s6) A1_0).sub (D := [0]) rfl) A9 r10 m10) ?_
 rintro r10 _ w10 m10 ⟨rfl, ky10⟩
 obtain ⟨s11, rfl, p11, n11⟩ := nwx s6 w10 42 ky10
 refine pu rfl rfl rfl rfl rfl ?_
 refine dn ?_
 refine cd rfl (fun h12 => ?_) (fun h12 => ?_)
 ·
  refine sr ?_
  refine pu rfl rfl rfl rfl rfl ?_
  refine dn ?_
  have K13 := (K8.st p11 rfl)
  exact re rfl Tryz.func70 rfl (r_t rfl r_nil) rfl ⟨_, rfl, rfl, z.ky K13⟩
 ·
  refine sk ?_
  refine sq ?_
  refine sr ?_
  refine pu rfl rfl rfl rfl rfl ?_
  refine dn ?_
  refine bl ?_
  have A15 := (BlF.st B6 p11 rfl)
  have A16 := (BlF.st (BlF.st B4 p6 rfl) p11 rfl)
  have K17 := (K8.st p11 rfl)
  refine lpI (fun (x14 : Int) (e : Env) (w : World) => ∃ (s : St) (e0 : Env), w = s.w ∧ e = upd (upd (upd e0 2 (.pointer (some ⟨b4, 0, none⟩))) 3 (.pointer (some ⟨b6, 0, none⟩))) 5 (.int .i64 x14) ∧ Kp s0 s ∧ BlF s b6 33 [(.int .i64 a1.Kind), (.int .i64 a1.N), w1_0, w1_1] 41 ∧ BlF s b4 117 [(.int .i64 a0.Xid), (.int .i64 a0.Begun), (.int .i64 a0.Ended), (.bool a0.All), w0_0, w0_1, (.bool a0.In), (.bool a0.Out)] 40) ⟨s11, _, rfl, (ue (ue (ue rfl rfl) rfl) rfl), K17, A15, A16⟩ (fun g14 ih14 => ?_)
  rintro x14 _ _ ⟨s18, _, rfl, rfl, Kx14, Bx14_b6, Bx14_b4⟩
  unfold spec_TrackReads.b0
  refine sq ?_
  refine sr ?_
  refine pu rfl rfl rfl rfl rfl ?_
  refine fa fa117_4 rfl rfl rfl rfl rfl rfl ?_
  refine ld Bx14_b4 Tryz.underlying114 rfl rfl rfl rfl rfl rfl rfl rfl ?_
  have A21 := (A0_0.kp Kx14)
  refine ln A21 Tryz.underlying114 rfl rfl rfl rfl rfl rfl ?_
  refine pu rfl rfl rfl rfl rfl ?_
  refine dn ?_
  refine cd rfl (fun h22 => ?_) (fun h22 => ?_)
  ·
   refine sk ?_
   refine sq ?_
   refine bl ?_
   refine sq ?_
   refine zdraw [[], [0], [], [1, 2], [3], [4], [], [6], [], [7, 8], [9], [10], [], [5, 11, 12]] [some 16, some 17, some 18, some 19, some 20, some 21, some 22, some 23, some 24, some 25, some 26, some 27, some 28, some 29] [[2], [16], [5], [17, 18], [19], [20], [2], [22], [5], [23, 24], [25], [26], [3], [21, 27, 28]] [0, 1, 2, 3, 4, 5, 6, 7, 8, 9, 10, 11, 12, 13] ⟨by kernel_rfl, by kernel_rfl, by kernel_rfl⟩ (by kernel_rfl) (fun s23 p23 l23 tb23 zd23 => ?_)
   have zd24 := zd23.add 0 16 (.pointer (some ⟨b4, 4, none⟩)) rfl
   have A25 := (BlF.st Bx14_b4 p23 rfl)
   have zd26 := zd24.add 1 17 w0_0 rfl
   have zd27 := zd26.add 2 18 (.int .i64 x14) rfl
   have K28 := (Kx14.st p23 rfl)
   have A29 := (A0_0.kp K28)
   refine mg fun hg30 => ?_
   obtain ⟨ad30, es30, he30, ce30, ia30⟩ := ix_e A29 rfl hg30.1 hg30.2
   have h0_30 := hg30.1
   have h1_30 := hg30.2
   obtain ⟨v30_0, v30_1, v30_2, v30_3, rfl, A30_0, A30_1, A30_2, A30_3⟩ := op200 he30
   have zd34 := zd27.add 3 19 (.pointer (some ad30)) rfl
   have zd35 := zd34.add 4 20 (.pointer (some ad30)) rfl
   have zd36 := zd35.add 5 21 (.agg #[(.int .i64 (((at_ a0.Reads x14).From).Kind)), (.int .i64 (((at_ a0.Reads x14).From).N)), v30_0, v30_1]) rfl
   have zd37 := zd36.add 6 22 (.pointer (some ⟨b4, 4, none⟩)) rfl
   have A38 := (BlF.st Bx14_b4 p23 rfl)
   have zd39 := zd37.add 7 23 w0_0 rfl
   have zd40 := zd39.add 8 24 (.int .i64 x14) rfl
   refine mg fun hg41 => ?_
   obtain ⟨ad41, es41, he41, ce41, ia41⟩ := ix_e A29 rfl hg41.1 hg41.2
   have h0_41 := hg41.1
   have h1_41 := hg41.2
   obtain ⟨v41_0, v41_1, v41_2, v41_3, rfl, A41_0, A41_1, A41_2, A41_3⟩ := op200 he41
   have zd45 := zd40.add 9 25 (.pointer (some ad41)) rfl
   have zd46 := zd45.add 10 26 (.pointer (some (ad41.add 4))) rfl
   have zd47 := zd46.add 11 27 (.agg #[(.int .i64 (((at_ a0.Reads x14).To).Kind)), (.int .i64 (((at_ a0.Reads x14).To).N)), v41_2, v41_3]) rfl
   have A48 := (BlF.st Bx14_b6 p23 rfl)
   have zd49 := zd47.add 12 28 (.agg #[(.int .i64 a1.Kind), (.int .i64 a1.N), w1_0, w1_1]) rfl
   have A50 := (BlF.st Bx14_b4 p23 rfl)
   have A51 := (BlF.st Bx14_b4 p23 rfl)
   have A52 := (BlF.st Bx14_b6 p23 rfl)
   refine zfin [13] tb23 zd49 (pq_cons (lda_q (es := [(.int .i64 a1.Kind), (.int .i64 a1.N), w1_0, w1_1]) A52 Tryz.underlying33 z33 rfl rfl rfl rfl rfl rfl rfl rfl) rfl (pq_cons (lcq_q (q := 4) (es' := [(.int .i64 (((at_ a0.Reads x14).To).Kind)), (.int .i64 (((at_ a0.Reads x14).To).N)), v41_2, v41_3]) ce41 Tryz.underlying33 z33 rfl rfl rfl rfl rfl rfl rfl rfl) rfl (pq_cons (fa_q fa200_1 rfl rfl rfl rfl rfl rfl) rfl (pq_cons (ix_q A29 Tryz.underlying114 z200 hg41.1 hg41.2 ia41 rfl rfl rfl rfl rfl rfl rfl) rfl (pq_cons (pu_q rfl rfl rfl rfl rfl rfl) rfl (pq_cons (ld_q A51 Tryz.underlying114 rfl rfl rfl rfl rfl rfl rfl rfl) rfl (pq_cons (fa_q fa117_4 rfl rfl rfl rfl rfl rfl) rfl (pq_cons (lcq_q (q := 0) (es' := [(.int .i64 (((at_ a0.Reads x14).From).Kind)), (.int .i64 (((at_ a0.Reads x14).From).N)), v30_0, v30_1]) ce30 Tryz.underlying33 z33 rfl rfl rfl rfl rfl rfl rfl rfl) rfl (pq_cons (fa_q fa200_0 rfl rfl rfl rfl rfl rfl) rfl (pq_cons (ix_q A29 Tryz.underlying114 z200 hg30.1 hg30.2 ia30 rfl rfl rfl rfl rfl rfl rfl) rfl (pq_cons (pu_q rfl rfl rfl rfl rfl rfl) rfl (pq_cons (ld_q A50 Tryz.underlying114 rfl rfl rfl rfl rfl rfl rfl rfl) rfl (pq_cons (fa_q fa117_4 rfl rfl rfl rfl rfl rfl) rfl pq_nil))))))))))))) (by kernel_rfl) (by decide) ?_
   have A53 := (A1_1.kp K28)
   refine cl rfl rfl rfl rfl rfl Tryz.func155 rfl rfl rfl (fun r54 m54 => spec_InSpan.calls ((at_ a0.Reads x14).From) ((at_ a0.Reads x14).To) a1 s23.w (fun b => memb [0] (s23.g b) = true) v30_0 v30_1 v41_2 v41_3 w1_0 w1_1 ((fl_rdf (s := s23) A30_0).sub (D := [0]) rfl) A30_1 ((fl_rdf (s := s23) A41_2).sub (D := [0]) rfl) A41_3 ((fl_rdf (s := s23) A1_0).sub (D := [0]) rfl) A53 r54 m54) ?_
   rintro r54 _ w54 m54 ⟨rfl, ky54⟩
   obtain ⟨s55, rfl, p55, n55⟩ := nwx s23 w54 43 ky54
   refine dn ?_
   refine cd rfl (fun h56 => ?_) (fun h56 => ?_)
   ·
    refine sr ?_
    refine pu rfl rfl rfl rfl rfl ?_
    refine dn ?_
    refine sgi ?_
    have K57 := (K28.st p55 rfl)
    exact re rfl Tryz.func70 rfl (r_t rfl r_nil) rfl ⟨_, rfl, rfl, z.ky K57⟩
   ·
    refine sk ?_
    refine ib ?_
    refine rg ?_
    refine pu rfl rfl rfl rfl rfl ?_
    refine pu rfl rfl rfl rfl rfl ?_
    refine pu rfl rfl rfl rfl rfl ?_
    refine dn ?_
    have A58 := (BlF.st (BlF.st Bx14_b6 p23 rfl) p55 rfl)
    have A59 := (BlF.st (BlF.st Bx14_b4 p23 rfl) p55 rfl)
    have K60 := (K28.st p55 rfl)
    exact lb ih14 ⟨s55, _, rfl, (ue (ue (ue rfl rfl) rfl) rfl), K60, A58, A59⟩
  ·
   refine xt rfl ?_
   refine sgb ?_
   refine sr ?_
   refine fa fa117_3 rfl rfl rfl rfl rfl rfl ?_
   refine ld Bx14_b4 Tryz.underlying4 rfl rfl rfl rfl rfl rfl rfl rfl ?_
   refine pu rfl rfl rfl rfl rfl ?_
   refine dn ?_
   exact re rfl Tryz.func70 rfl (r_t rfl r_nil) rfl ⟨_, rfl, rfl, z.ky Kx14⟩
noncomputable def spec_Concurrent.f (a0 : Track) (a1 : Track) : Option (Bool) :=
 (some (((a0.Ended == (0 : Int)) || (decide (a0.Ended > a1.Begun))) && ((a1.Ended == (0 : Int)) || (decide (a1.Ended > a0.Begun)))))
def spec_Concurrent.Q (w : World) (F : Nat → Prop) (r : Bool) (v : Value) (w' : World) : Prop :=
 v = (.bool r) ∧ Ky [] w w'
set_option maxHeartbeats 4000000 in
set_option maxRecDepth 100000 in
theorem spec_Concurrent.calls (a0 : Track) (a1 : Track) (w : World) (F : Nat → Prop) (w0_0 : Value) (w0_1 : Value) (w1_0 : Value) (w1_1 : Value) (h0_0 : (Kd.sl 200 kd200).rd w [w0_0] a0.Reads F) (h0_1 : (Kd.sl 33 kd33).rd w [w0_1] a0.Writes F) (h1_0 : (Kd.sl 200 kd200).rd w [w1_0] a1.Reads F) (h1_1 : (Kd.sl 33 kd33).rd w [w1_1] a1.Writes F) (r : Bool) (m : spec_Concurrent.f a0 a1 = some r) :
  Calls Tryz.prog 71 #[(.agg #[(.int .i64 a0.Xid), (.int .i64 a0.Begun), (.int .i64 a0.Ended), (.bool a0.All), w0_0, w0_1, (.bool a0.In), (.bool a0.Out)]), (.agg #[(.int .i64 a1.Xid), (.int .i64 a1.Begun), (.int .i64 a1.Ended), (.bool a1.All), w1_0, w1_1, (.bool a1.In), (.bool a1.Out)])] w fun en w' => ∃ v, en = .returned v ∧ spec_Concurrent.Q w F r v w' := by
 obtain ⟨s0, rfl, kp0, z⟩ := start0 w F
 have A0_0 := z.rd h0_0
 have A0_1 := z.rd h0_1
 have A1_0 := z.rd h1_0
 have A1_1 := z.rd h1_1
 refine calls_of_TM (args := [(.agg #[(.int .i64 a0.Xid), (.int .i64 a0.Begun), (.int .i64 a0.Ended), (.bool a0.All), w0_0, w0_1, (.bool a0.In), (.bool a0.Out)]), (.agg #[(.int .i64 a1.Xid), (.int .i64 a1.Begun), (.int .i64 a1.Ended), (.bool a1.All), w1_0, w1_1, (.bool a1.In), (.bool a1.Out)])]) (R := fun r en w' => ∃ v, en = .returned v ∧ spec_Concurrent.Q s0.w F r v w') Tryz.func71 Tryz.ntmps71 rfl rfl m ?_
 unfold spec_Concurrent.f
 refine sr ?_
 refine bx (cs := [(.int .i64 a0.Xid), (.int .i64 a0.Begun), (.int .i64 a0.Ended), (.bool a0.All), w0_0, w0_1, (.bool a0.In), (.bool a0.Out)]) 40 rfl rfl rfl rfl rfl rfl (fun b5 s5 p5 B5 => ?_)
 refine bx (cs := [(.int .i64 a1.Xid), (.int .i64 a1.Begun), (.int .i64 a1.Ended), (.bool a1.All), w1_0, w1_1, (.bool a1.In), (.bool a1.Out)]) 41 rfl rfl rfl rfl rfl rfl (fun b7 s7 p7 B7 => ?_)
 refine pu rfl rfl rfl rfl rfl ?_
 refine dn ?_
 refine sr ?_
 refine fa fa117_2 rfl rfl rfl rfl rfl rfl ?_
 have A9 := (BlF.st B5 p7 rfl)
 refine ld A9 Tryz.underlying3 rfl rfl rfl rfl rfl rfl rfl rfl ?_
 refine pu rfl rfl rfl rfl rfl ?_
 refine pu rfl rfl rfl rfl rfl ?_
 refine jy [8, 9, 10, 11, 12, 13, 14] [10, 11, 12, 13, 14, 15, 16, 17, 18, 19, 20, 21, 22] 14 (.bool ((a0.Ended == (0 : Int)) || (decide (a0.Ended > a1.Begun)))) rfl (fun Kg10 => ?_) (fun j10 => ?_)
 ·
  rcases Bool.eq_false_or_eq_true (a0.Ended == (0 : Int)) with hb10 | hb10
  ·
   refine sbT hb10 ?_
   refine uw rfl rfl rfl rfl ?_
   refine uw rfl rfl rfl rfl ?_
   refine uw rfl rfl rfl rfl ?_
   refine uw rfl rfl rfl rfl ?_
   refine uw rfl rfl rfl rfl ?_
   refine pu rfl rfl rfl rfl rfl ?_
   exact Kg10 _ (Ag.put ((Ag.put ((Ag.put ((Ag.put ((Ag.put ((Ag.put (Ag.base rfl) rfl)) rfl)) rfl)) rfl)) rfl)) rfl) (by rw [hb10]; rfl)
  ·
   refine sbT hb10 ?_
   refine fa fa117_2 rfl rfl rfl rfl rfl rfl ?_
   refine ld A9 Tryz.underlying3 rfl rfl rfl rfl rfl rfl rfl rfl ?_
   refine fa fa117_1 rfl rfl rfl rfl rfl rfl ?_
   refine ld B7 Tryz.underlying3 rfl rfl rfl rfl rfl rfl rfl rfl ?_
   refine pu rfl rfl rfl rfl rfl ?_
   refine pu rfl rfl rfl rfl rfl ?_
   exact Kg10 _ (Ag.put ((Ag.put ((Ag.put ((Ag.put ((Ag.put ((Ag.put (Ag.base rfl) rfl)) rfl)) rfl)) rfl)) rfl)) rfl) (by rw [hb10]; rfl)
 refine pu rfl rfl rfl rfl rfl ?_
 refine jy [15, 16, 17, 18, 19, 20, 21, 22, 23, 24, 25, 26] [22] 26 (.bool (((a0.Ended == (0 : Int)) || (decide (a0.Ended > a1.Begun))) && ((a1.Ended == (0 : Int)) || (decide (a1.Ended > a0.Begun))))) rfl (fun Kg11 => ?_) (fun j11 => ?_)
 ·
  rcases Bool.eq_false_or_eq_true ((a0.Ended == (0 : Int)) || (decide (a0.Ended > a1.Begun))) with hb11 | hb11
  ·
   refine sbT hb11 ?_
   refine fa fa117_2 rfl rfl rfl rfl rfl rfl ?_
   refine ld B7 Tryz.underlying3 rfl rfl rfl rfl rfl rfl rfl rfl ?_
   refine pu rfl rfl rfl rfl rfl ?_
   refine pu rfl rfl rfl rfl rfl ?_
   refine jy [19, 20, 21, 22, 23, 24, 25] [21, 22] 25 (.bool ((a1.Ended == (0 : Int)) || (decide (a1.Ended > a0.Begun)))) rfl (fun Kg12 => ?_) (fun j12 => ?_)
   ·
    rcases Bool.eq_false_or_eq_true (a1.Ended == (0 : Int)) with hb12 | hb12
    ·
     refine sbT hb12 ?_
     refine uw rfl rfl rfl rfl ?_
     refine uw rfl rfl rfl rfl ?_
     refine uw rfl rfl rfl rfl ?_
     refine uw rfl rfl rfl rfl ?_
     refine uw rfl rfl rfl rfl ?_
     refine pu rfl rfl rfl rfl rfl ?_
     exact Kg12 _ (Ag.put ((Ag.put ((Ag.put ((Ag.put ((Ag.put ((Ag.put (Ag.base rfl) rfl)) rfl)) rfl)) rfl)) rfl)) rfl) (by rw [hb12]; rfl)
    ·
     refine sbT hb12 ?_
     refine fa fa117_2 rfl rfl rfl rfl rfl rfl ?_
     refine ld B7 Tryz.underlying3 rfl rfl rfl rfl rfl rfl rfl rfl ?_
     refine fa fa117_1 rfl rfl rfl rfl rfl rfl ?_
     refine ld A9 Tryz.underlying3 rfl rfl rfl rfl rfl rfl rfl rfl ?_
     refine pu rfl rfl rfl rfl rfl ?_
     refine pu rfl rfl rfl rfl rfl ?_
     exact Kg12 _ (Ag.put ((Ag.put ((Ag.put ((Ag.put ((Ag.put ((Ag.put (Ag.base rfl) rfl)) rfl)) rfl)) rfl)) rfl)) rfl) (by rw [hb12]; rfl)
   refine pu rfl rfl rfl rfl rfl ?_
   exact Kg11 _ (Ag.put ((Ag.put ((Ag.ov ((Ag.put ((Ag.put ((Ag.put ((Ag.put (Ag.base rfl) rfl)) rfl)) rfl)) rfl)) rfl)) rfl)) rfl) (by rw [hb11]; rfl)
  ·
   refine sbT hb11 ?_
   refine uw rfl rfl rfl rfl ?_
   refine uw rfl rfl rfl rfl ?_
   refine uw rfl rfl rfl rfl ?_
   refine uw rfl rfl rfl rfl ?_
   refine uw rfl rfl rfl rfl ?_
   refine uw rfl rfl rfl rfl ?_
   refine uw rfl rfl rfl rfl ?_
   refine uw rfl rfl rfl rfl ?_
   refine uw rfl rfl rfl rfl ?_
   refine uw rfl rfl rfl rfl ?_
   refine pu rfl rfl rfl rfl rfl ?_
   exact Kg11 _ (Ag.put ((Ag.put ((Ag.put ((Ag.put ((Ag.put ((Ag.put ((Ag.put ((Ag.put ((Ag.put ((Ag.put ((Ag.put (Ag.base rfl) rfl)) rfl)) rfl)) rfl)) rfl)) rfl)) rfl)) rfl)) rfl)) rfl)) rfl) (by rw [hb11]; rfl)
 refine pu rfl rfl rfl rfl rfl ?_
 refine dn ?_
 have K13 := ((kp0.st p5 rfl).st p7 rfl)
 exact re rfl Tryz.func71 rfl (r_t rfl r_nil) rfl ⟨_, rfl, rfl, z.ky K13⟩
end Go.Proofs.YtcagjdngannneaaGreat
