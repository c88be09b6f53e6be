/- The functions as models, and that the calls come to what the models tell. -/
import Derived.Test.YtcagjdngannneaaXt
set_option linter.unusedVariables false
set_option linter.unusedSimpArgs false
namespace Go.Proofs.Ytcagjdngannneaa
open Go V
noncomputable def laws_szByteS.f (a0 : (List Int)) (a1 : Int) : Option (Int) :=
 (if (decide ((IntKind.wrap .i64 (a1 - (a0.length : Int))) < (0 : Int))) = true then (some (-1 : Int)) else (some (IntKind.wrap .i64 (a1 - (a0.length : Int)))))
def laws_szByteS.Q (w : World) (F : Nat → Prop) (r : Int) (v : Value) (w' : World) : Prop :=
 v = (.int .i64 r) ∧ Ky [] w w'
set_option maxHeartbeats 4000000 in
set_option maxRecDepth 100000 in
theorem laws_szByteS.calls (a0 : (List Int)) (a1 : Int) (w : World) (F : Nat → Prop) (w0_0 : Value) (h0_0 : (Kd.sl 5 (Kd.int .u8)).rd w [w0_0] a0 F) (r : Int) (m : laws_szByteS.f a0 a1 = some r) :
  Calls Try.prog 62 #[w0_0, (.int .i64 a1)] w fun en w' => ∃ v, en = .returned v ∧ laws_szByteS.Q w F r v w' := by
 obtain ⟨s0, rfl, kp0, z⟩ := start0 w F
 have A0_0 := z.rd h0_0
 refine calls_of_TM (args := [w0_0, (.int .i64 a1)]) (R := fun r en w' => ∃ v, en = .returned v ∧ laws_szByteS.Q s0.w F r v w') Try.func62 Try.ntmps62 rfl rfl m ?_
 unfold laws_szByteS.f
 refine sr ?_
 refine pu rfl rfl rfl rfl rfl ?_
 refine dn ?_
 refine sr ?_
 refine pu rfl rfl rfl rfl rfl ?_
 refine mv w0_0 rfl rfl rfl rfl rfl rfl ?_
 refine ln A0_0 Try.underlying37 rfl rfl rfl rfl rfl rfl ?_
 refine pu rfl rfl rfl rfl rfl ?_
 refine pu rfl rfl rfl rfl rfl ?_
 refine dn ?_
 refine sq ?_
 refine sr ?_
 refine pu rfl rfl rfl rfl rfl ?_
 refine pu rfl rfl rfl rfl rfl ?_
 refine dn ?_
 refine cd rfl (fun h2 => ?_) (fun h2 => ?_)
 ·
  refine sr ?_
  refine pu rfl rfl rfl rfl rfl ?_
  refine dn ?_
  exact re rfl Try.func62 rfl (r_t rfl r_nil) rfl ⟨_, rfl, rfl, z.ky kp0⟩
 ·
  refine sk ?_
  refine sr ?_
  refine pu rfl rfl rfl rfl rfl ?_
  refine pu rfl rfl rfl rfl rfl ?_
  refine dn ?_
  exact re rfl Try.func62 rfl (r_t rfl r_nil) rfl ⟨_, rfl, rfl, z.ky kp0⟩
noncomputable def laws_szItem.f (a0 : Item) (a1 : Int) : Option (Int) :=
 ((laws_szByteS.f a0.T a1).bind fun r6 => (if (decide (r6 < (0 : Int))) = true then (some (-1 : Int)) else (some r6)))
def laws_szItem.Q (w : World) (F : Nat → Prop) (r : Int) (v : Value) (w' : World) : Prop :=
 v = (.int .i64 r) ∧ Ky [] w w'
set_option maxHeartbeats 4000000 in
set_option maxRecDepth 100000 in
theorem laws_szItem.calls (a0 : Item) (a1 : Int) (w : World) (F : Nat → Prop) (w0_0 : Value) (w0_1 : Value) (h0_0 : Kd.flt.rd w [w0_0] a0.F F) (h0_1 : (Kd.sl 5 (Kd.int .u8)).rd w [w0_1] a0.T F) (r : Int) (m : laws_szItem.f a0 a1 = some r) :
  Calls Try.prog 18 #[(.agg #[(.int .i64 a0.Kind), (.int .i64 a0.N), w0_0, w0_1]), (.int .i64 a1)] w fun en w' => ∃ v, en = .returned v ∧ laws_szItem.Q w F r v w' := by
 obtain ⟨s0, rfl, kp0, z⟩ := start0 w F
 have A0_0 := fl_of h0_0
 have A0_1 := z.rd h0_1
 refine calls_of_TM (args := [(.agg #[(.int .i64 a0.Kind), (.int .i64 a0.N), w0_0, w0_1]), (.int .i64 a1)]) (R := fun r en w' => ∃ v, en = .returned v ∧ laws_szItem.Q s0.w F r v w') Try.func18 Try.ntmps18 rfl rfl m ?_
 unfold laws_szItem.f
 refine sr ?_
 refine bx (cs := [(.int .i64 a0.Kind), (.int .i64 a0.N), w0_0, w0_1]) 40 rfl rfl rfl rfl rfl rfl (fun b2 s2 p2 B2 => ?_)
 refine pu rfl rfl rfl rfl rfl ?_
 refine dn ?_
 refine sr ?_
 refine fa fa39_3 rfl rfl rfl rfl rfl rfl ?_
 refine ld B2 Try.underlying37 rfl rfl rfl rfl rfl rfl rfl rfl ?_
 refine pu rfl rfl rfl rfl rfl ?_
 have K4 := (kp0.st p2 rfl)
 have A5 := (A0_1.kp K4)
 refine cl rfl rfl rfl rfl rfl Try.func62 rfl rfl rfl (fun r6 m6 => laws_szByteS.calls a0.T a1 s2.w (fun b => memb [0] (s2.g b) = true) w0_1 A5 r6 m6) ?_
 rintro r6 _ w6 m6 ⟨rfl, ky6⟩
 obtain ⟨s7, rfl, p7, n7⟩ := nwx s2 w6 41 ky6
 refine pu rfl rfl rfl rfl rfl ?_
 refine dn ?_
 refine sq ?_
 refine sr ?_
 refine pu rfl rfl rfl rfl rfl ?_
 refine pu rfl rfl rfl rfl rfl ?_
 refine dn ?_
 refine cd rfl (fun h8 => ?_) (fun h8 => ?_)
 ·
  refine sr ?_
  refine pu rfl rfl rfl rfl rfl ?_
  refine dn ?_
  have K9 := (K4.st p7 rfl)
  exact re rfl Try.func18 rfl (r_t rfl r_nil) rfl ⟨_, rfl, rfl, z.ky K9⟩
 ·
  refine sk ?_
  refine sr ?_
  refine pu rfl rfl rfl rfl rfl ?_
  refine pu rfl rfl rfl rfl rfl ?_
  refine dn ?_
  have K10 := (K4.st p7 rfl)
  exact re rfl Try.func18 rfl (r_t rfl r_nil) rfl ⟨_, rfl, rfl, z.ky K10⟩
noncomputable def laws_szSpan.f (a0 : Span) (a1 : Int) : Option (Int) :=
 ((laws_szItem.f a0.From a1).bind fun r7 => (if (decide (r7 < (0 : Int))) = true then (some (-1 : Int)) else ((laws_szItem.f a0.To r7).bind fun r14 => (if (decide (r14 < (0 : Int))) = true then (some (-1 : Int)) else (some r14)))))
def laws_szSpan.Q (w : World) (F : Nat → Prop) (r : Int) (v : Value) (w' : World) : Prop :=
 v = (.int .i64 r) ∧ Ky [] w w'
set_option maxHeartbeats 4000000 in
set_option maxRecDepth 100000 in
theorem laws_szSpan.calls (a0 : Span) (a1 : Int) (w : World) (F : Nat → Prop) (w0_0 : Value) (w0_1 : Value) (w0_2 : Value) (w0_3 : Value) (h0_0 : Kd.flt.rd w [w0_0] a0.From.F F) (h0_1 : (Kd.sl 5 (Kd.int .u8)).rd w [w0_1] a0.From.T F) (h0_2 : Kd.flt.rd w [w0_2] a0.To.F F) (h0_3 : (Kd.sl 5 (Kd.int .u8)).rd w [w0_3] a0.To.T F) (r : Int) (m : laws_szSpan.f a0 a1 = some r) :
  Calls Try.prog 40 #[(.agg #[(.int .i64 a0.From.Kind), (.int .i64 a0.From.N), w0_0, w0_1, (.int .i64 a0.To.Kind), (.int .i64 a0.To.N), w0_2, w0_3]), (.int .i64 a1)] w fun en w' => ∃ v, en = .returned v ∧ laws_szSpan.Q w F r v w' := by
 obtain ⟨s0, rfl, kp0, z⟩ := start0 w F
 have A0_0 := fl_of h0_0
 have A0_1 := z.rd h0_1
 have A0_2 := fl_of h0_2
 have A0_3 := z.rd h0_3
 refine calls_of_TM (args := [(.agg #[(.int .i64 a0.From.Kind), (.int .i64 a0.From.N), w0_0, w0_1, (.int .i64 a0.To.Kind), (.int .i64 a0.To.N), w0_2, w0_3]), (.int .i64 a1)]) (R := fun r en w' => ∃ v, en = .returned v ∧ laws_szSpan.Q s0.w F r v w') Try.func40 Try.ntmps40 rfl rfl m ?_
 unfold laws_szSpan.f
 refine sr ?_
 refine bx (cs := [(.int .i64 a0.From.Kind), (.int .i64 a0.From.N), w0_0, w0_1, (.int .i64 a0.To.Kind), (.int .i64 a0.To.N), w0_2, w0_3]) 40 rfl rfl rfl rfl rfl rfl (fun b3 s3 p3 B3 => ?_)
 refine pu rfl rfl rfl rfl rfl ?_
 refine dn ?_
 refine sr ?_
 refine fa fa76_0 rfl rfl rfl rfl rfl rfl ?_
 refine lda (es := [(.int .i64 a0.From.Kind), (.int .i64 a0.From.N), w0_0, w0_1]) B3 Try.underlying39 z39 rfl rfl rfl rfl rfl rfl rfl rfl ?_
 refine pu rfl rfl rfl rfl rfl ?_
 have K5 := (kp0.st p3 rfl)
 have A6 := (A0_1.kp K5)
 refine cl rfl rfl rfl rfl rfl Try.func18 rfl rfl rfl (fun r7 m7 => laws_szItem.calls a0.From a1 s3.w (fun b => memb [0] (s3.g b) = true) w0_0 w0_1 ((fl_rdf (s := s3) A0_0).sub (D := [0]) rfl) A6 r7 m7) ?_
 rintro r7 _ w7 m7 ⟨rfl, ky7⟩
 obtain ⟨s8, rfl, p8, n8⟩ := nwx s3 w7 41 ky7
 refine pu rfl rfl rfl rfl rfl ?_
 refine dn ?_
 refine sq ?_
 refine sr ?_
 refine pu rfl rfl rfl rfl rfl ?_
 refine pu rfl rfl rfl rfl rfl ?_
 refine dn ?_
 refine cd rfl (fun h9 => ?_) (fun h9 => ?_)
 ·
  refine sr ?_
  refine pu rfl rfl rfl rfl rfl ?_
  refine dn ?_
  have K10 := (K5.st p8 rfl)
  exact re rfl Try.func40 rfl (r_t rfl r_nil) rfl ⟨_, rfl, rfl, z.ky K10⟩
 ·
  refine sk ?_
  refine sr ?_
  refine fa fa76_1 rfl rfl rfl rfl rfl rfl ?_
  have A11 := (BlF.st B3 p8 rfl)
  refine lda (es := [(.int .i64 a0.To.Kind), (.int .i64 a0.To.N), w0_2, w0_3]) A11 Try.underlying39 z39 rfl rfl rfl rfl rfl rfl rfl rfl ?_
  refine pu rfl rfl rfl rfl rfl ?_
  have K12 := (K5.st p8 rfl)
  have A13 := (A0_3.kp K12)
  refine cl rfl rfl rfl rfl rfl Try.func18 rfl rfl rfl (fun r14 m14 => laws_szItem.calls a0.To r7 s8.w (fun b => memb [0] (s8.g b) = true) w0_2 w0_3 ((fl_rdf (s := s8) A0_2).sub (D := [0]) rfl) A13 r14 m14) ?_
  rintro r14 _ w14 m14 ⟨rfl, ky14⟩
  obtain ⟨s15, rfl, p15, n15⟩ := nwx s8 w14 42 ky14
  refine pu rfl rfl rfl rfl rfl ?_
  refine dn ?_
  refine sq ?_
  refine sr ?_
  refine pu rfl rfl rfl rfl rfl ?_
  refine pu rfl rfl rfl rfl rfl ?_
  refine dn ?_
  refine cd rfl (fun h16 => ?_) (fun h16 => ?_)
  ·
   refine sr ?_
   refine pu rfl rfl rfl rfl rfl ?_
   refine dn ?_
   have K17 := (K12.st p15 rfl)
   exact re rfl Try.func40 rfl (r_t rfl r_nil) rfl ⟨_, rfl, rfl, z.ky K17⟩
  ·
   refine sk ?_
   refine sr ?_
   refine pu rfl rfl rfl rfl rfl ?_
   refine pu rfl rfl rfl rfl rfl ?_
   refine dn ?_
   have K18 := (K12.st p15 rfl)
   exact re rfl Try.func40 rfl (r_t rfl r_nil) rfl ⟨_, rfl, rfl, z.ky K18⟩
noncomputable def laws_szSpanS.b0 (a0 : (List Span)) (x3 : Int × Int) : Option ((Int × Int) ⊕ Int) :=
 (if (decide (x3.2 < (a0.length : Int))) = true then (if 0 ≤ x3.2 ∧ x3.2 < (a0.length : Int) then ((laws_szSpan.f (Span.mk ((at_ a0 x3.2).From) ((at_ a0 x3.2).To)) x3.1).bind fun r11 => (if (decide (r11 < (0 : Int))) = true then (some (Sum.inr (-1 : Int))) else (some (Sum.inl (r11, (IntKind.wrap .i64 (x3.2 + (1 : Int)))))))) else none) else ((some x3.1).bind fun o => some (Sum.inr o)))
noncomputable def laws_szSpanS.f (a0 : (List Span)) (a1 : Int) : Option (Int) :=
 (if (decide ((IntKind.wrap .i64 (a1 - (a0.length : Int))) < (0 : Int))) = true then (some (-1 : Int)) else (iter (laws_szSpanS.b0 a0) ((IntKind.wrap .i64 (a1 - (a0.length : Int))), (0 : Int))))
def laws_szSpanS.Q (w : World) (F : Nat → Prop) (r : Int) (v : Value) (w' : World) : Prop :=
 v = (.int .i64 r) ∧ Ky [] w w'
set_option maxHeartbeats 4000000 in
set_option maxRecDepth 100000 in
theorem laws_szSpanS.calls (a0 : (List Span)) (a1 : Int) (w : World) (F : Nat → Prop) (w0_0 : Value) (h0_0 : (Kd.sl 76 kd76).rd w [w0_0] a0 F) (r : Int) (m : laws_szSpanS.f a0 a1 = some r) :
  Calls Try.prog 118 #[w0_0, (.int .i64 a1)] w fun en w' => ∃ v, en = .returned v ∧ laws_szSpanS.Q w F r v w' := by
 obtain ⟨s0, rfl, kp0, z⟩ := start0 w F
 have A0_0 := z.rd h0_0
 refine calls_of_TM (args := [w0_0, (.int .i64 a1)]) (R := fun r en w' => ∃ v, en = .returned v ∧ laws_szSpanS.Q s0.w F r v w') Try.func118 Try.ntmps118 rfl rfl m ?_
 unfold laws_szSpanS.f
 refine sr ?_
 refine pu rfl rfl rfl rfl rfl ?_
 refine dn ?_
 refine sr ?_
 refine pu rfl rfl rfl rfl rfl ?_
 refine mv w0_0 rfl rfl rfl rfl rfl rfl ?_
 refine ln A0_0 Try.underlying86 rfl rfl rfl rfl rfl rfl ?_
 refine pu rfl rfl rfl rfl rfl ?_
 refine pu rfl rfl rfl rfl rfl ?_
 refine dn ?_
 refine sq ?_
 refine sr ?_
 refine pu rfl rfl rfl rfl rfl ?_
 refine pu rfl rfl rfl rfl rfl ?_
 refine dn ?_
 refine cd rfl (fun h2 => ?_) (fun h2 => ?_)
 ·
  refine sr ?_
  refine pu rfl rfl rfl rfl rfl ?_
  refine dn ?_
  exact re rfl Try.func118 rfl (r_t rfl r_nil) rfl ⟨_, rfl, rfl, z.ky kp0⟩
 ·
  refine sk ?_
  refine sq ?_
  refine sr ?_
  refine pu rfl rfl rfl rfl rfl ?_
  refine dn ?_
  refine bl ?_
  refine lpI (fun (x3 : Int × Int) (e : Env) (w : World) => ∃ (s : St) (e0 : Env), w = s.w ∧ e = upd (upd (upd e0 0 w0_0) 1 (.int .i64 x3.1)) 5 (.int .i64 x3.2) ∧ Kp s0 s) ⟨s0, _, rfl, (ue (ue (ue rfl rfl) rfl) rfl), kp0⟩ (fun g3 ih3 => ?_)
  rintro x3 _ _ ⟨s4, _, rfl, rfl, Kx3⟩
  unfold laws_szSpanS.b0
  refine sq ?_
  refine sr ?_
  refine pu rfl rfl rfl rfl rfl ?_
  refine mv w0_0 rfl rfl rfl rfl rfl rfl ?_
  have A5 := (A0_0.kp Kx3)
  refine ln A5 Try.underlying86 rfl rfl rfl rfl rfl rfl ?_
  refine pu rfl rfl rfl rfl rfl ?_
  refine dn ?_
  refine cd rfl (fun h6 => ?_) (fun h6 => ?_)
  ·
   refine sk ?_
   refine sq ?_
   refine bl ?_
   refine sr ?_
   refine mv w0_0 rfl rfl rfl rfl rfl rfl ?_
   refine pu rfl rfl rfl rfl rfl ?_
   refine ix A5 Try.underlying86 z76 rfl rfl rfl rfl rfl rfl rfl rfl (fun ad7 es7 h0_7 h1_7 he7 ce7 ia7 => ?_)
   obtain ⟨v7_0, v7_1, v7_2, v7_3, rfl, A7_0, A7_1, A7_2, A7_3⟩ := op76 he7
   refine lca ce7 Try.underlying76 z76 rfl rfl rfl rfl rfl rfl rfl ?_
   refine pu rfl rfl rfl rfl rfl ?_
   refine cl rfl rfl rfl rfl rfl Try.func40 rfl rfl rfl (fun r11 m11 => laws_szSpan.calls (Span.mk ((at_ a0 x3.2).From) ((at_ a0 x3.2).To)) x3.1 s4.w (fun b => memb [0] (s4.g b) = true) v7_0 v7_1 v7_2 v7_3 ((fl_rdf (s := s4) A7_0).sub (D := [0]) rfl) A7_1 ((fl_rdf (s := s4) A7_2).sub (D := [0]) rfl) A7_3 r11 m11) ?_
   rintro r11 _ w11 m11 ⟨rfl, ky11⟩
   obtain ⟨s12, rfl, p12, n12⟩ := nwx s4 w11 40 ky11
   refine pu rfl rfl rfl rfl rfl ?_
   refine dn ?_
   refine sr ?_
   refine pu rfl rfl rfl rfl rfl ?_
   refine pu rfl rfl rfl rfl rfl ?_
   refine dn ?_
   refine cd rfl (fun h13 => ?_) (fun h13 => ?_)
   ·
    refine sr ?_
    refine pu rfl rfl rfl rfl rfl ?_
    refine dn ?_
    refine sgi ?_
    have K14 := (Kx3.st p12 rfl)
    exact re rfl Try.func118 rfl (r_t rfl r_nil) rfl ⟨_, rfl, rfl, z.ky K14⟩
   ·
    refine sk ?_
    refine ib ?_
    refine rg ?_
    refine pu rfl rfl rfl rfl rfl ?_
    refine pu rfl rfl rfl rfl rfl ?_
    refine pu rfl rfl rfl rfl rfl ?_
    refine dn ?_
    have K15 := (Kx3.st p12 rfl)
    exact lb ih3 ⟨s12, _, rfl, (ue (ue (ue rfl rfl) rfl) rfl), K15⟩
  ·
   refine xt rfl ?_
   refine sgb ?_
   refine sr ?_
   refine pu rfl rfl rfl rfl rfl ?_
   refine pu rfl rfl rfl rfl rfl ?_
   refine dn ?_
   exact re rfl Try.func118 rfl (r_t rfl r_nil) rfl ⟨_, rfl, rfl, z.ky Kx3⟩
noncomputable def laws_szItemS.b0 (a0 : (List Item)) (x3 : Int × Int) : Option ((Int × Int) ⊕ Int) :=
 (if (decide (x3.2 < (a0.length : Int))) = true then (if 0 ≤ x3.2 ∧ x3.2 < (a0.length : Int) then ((laws_szItem.f (at_ a0 x3.2) x3.1).bind fun r10 => (if (decide (r10 < (0 : Int))) = true then (some (Sum.inr (-1 : Int))) else (some (Sum.inl (r10, (IntKind.wrap .i64 (x3.2 + (1 : Int)))))))) else none) else ((some x3.1).bind fun o => some (Sum.inr o)))
noncomputable def laws_szItemS.f (a0 : (List Item)) (a1 : Int) : Option (Int) :=
 (if (decide ((IntKind.wrap .i64 (a1 - (a0.length : Int))) < (0 : Int))) = true then (some (-1 : Int)) else (iter (laws_szItemS.b0 a0) ((IntKind.wrap .i64 (a1 - (a0.length : Int))), (0 : Int))))
def laws_szItemS.Q (w : World) (F : Nat → Prop) (r : Int) (v : Value) (w' : World) : Prop :=
 v = (.int .i64 r) ∧ Ky [] w w'
set_option maxHeartbeats 4000000 in
set_option maxRecDepth 100000 in
theorem laws_szItemS.calls (a0 : (List Item)) (a1 : Int) (w : World) (F : Nat → Prop) (w0_0 : Value) (h0_0 : (Kd.sl 39 kd39).rd w [w0_0] a0 F) (r : Int) (m : laws_szItemS.f a0 a1 = some r) :
  Calls Try.prog 119 #[w0_0, (.int .i64 a1)] w fun en w' => ∃ v, en = .returned v ∧ laws_szItemS.Q w F r v w' := by
 obtain ⟨s0, rfl, kp0, z⟩ := start0 w F
 have A0_0 := z.rd h0_0
 refine calls_of_TM (args := [w0_0, (.int .i64 a1)]) (R := fun r en w' => ∃ v, en = .returned v ∧ laws_szItemS.Q s0.w F r v w') Try.func119 Try.ntmps119 rfl rfl m ?_
 unfold laws_szItemS.f
 refine sr ?_
 refine pu rfl rfl rfl rfl rfl ?_
 refine dn ?_
 refine sr ?_
 refine pu rfl rfl rfl rfl rfl ?_
 refine mv w0_0 rfl rfl rfl rfl rfl rfl ?_
 refine ln A0_0 Try.underlying87 rfl rfl rfl rfl rfl rfl ?_
 refine pu rfl rfl rfl rfl rfl ?_
 refine pu rfl rfl rfl rfl rfl ?_
 refine dn ?_
 refine sq ?_
 refine sr ?_
 refine pu rfl rfl rfl rfl rfl ?_
 refine pu rfl rfl rfl rfl rfl ?_
 refine dn ?_
 refine cd rfl (fun h2 => ?_) (fun h2 => ?_)
 ·
  refine sr ?_
  refine pu rfl rfl rfl rfl rfl ?_
  refine dn ?_
  exact re rfl Try.func119 rfl (r_t rfl r_nil) rfl ⟨_, rfl, rfl, z.ky kp0⟩
 ·
  refine sk ?_
  refine sq ?_
  refine sr ?_
  refine pu rfl rfl rfl rfl rfl ?_
  refine dn ?_
  refine bl ?_
  refine lpI (fun (x3 : Int × Int) (e : Env) (w : World) => ∃ (s : St) (e0 : Env), w = s.w ∧ e = upd (upd (upd e0 0 w0_0) 1 (.int .i64 x3.1)) 5 (.int .i64 x3.2) ∧ Kp s0 s) ⟨s0, _, rfl, (ue (ue (ue rfl rfl) rfl) rfl), kp0⟩ (fun g3 ih3 => ?_)
  rintro x3 _ _ ⟨s4, _, rfl, rfl, Kx3⟩
  unfold laws_szItemS.b0
  refine sq ?_
  refine sr ?_
  refine pu rfl rfl rfl rfl rfl ?_
  refine mv w0_0 rfl rfl rfl rfl rfl rfl ?_
  have A5 := (A0_0.kp Kx3)
  refine ln A5 Try.underlying87 rfl rfl rfl rfl rfl rfl ?_
  refine pu rfl rfl rfl rfl rfl ?_
  refine dn ?_
  refine cd rfl (fun h6 => ?_) (fun h6 => ?_)
  ·
   refine sk ?_
   refine sq ?_
   refine bl ?_
   refine sr ?_
   refine mv w0_0 rfl rfl rfl rfl rfl rfl ?_
   refine pu rfl rfl rfl rfl rfl ?_
   refine ix A5 Try.underlying87 z39 rfl rfl rfl rfl rfl rfl rfl rfl (fun ad7 es7 h0_7 h1_7 he7 ce7 ia7 => ?_)
   obtain ⟨v7_0, v7_1, rfl, A7_0, A7_1⟩ := op39 he7
   refine lca ce7 Try.underlying39 z39 rfl rfl rfl rfl rfl rfl rfl ?_
   refine pu rfl rfl rfl rfl rfl ?_
   refine cl rfl rfl rfl rfl rfl Try.func18 rfl rfl rfl (fun r10 m10 => laws_szItem.calls (at_ a0 x3.2) x3.1 s4.w (fun b => memb [0] (s4.g b) = true) v7_0 v7_1 ((fl_rdf (s := s4) A7_0).sub (D := [0]) rfl) A7_1 r10 m10) ?_
   rintro r10 _ w10 m10 ⟨rfl, ky10⟩
   obtain ⟨s11, rfl, p11, n11⟩ := nwx s4 w10 40 ky10
   refine pu rfl rfl rfl rfl rfl ?_
   refine dn ?_
   refine sr ?_
   refine pu rfl rfl rfl rfl rfl ?_
   refine pu rfl rfl rfl rfl rfl ?_
   refine dn ?_
   refine cd rfl (fun h12 => ?_) (fun h12 => ?_)
   ·
    refine sr ?_
    refine pu rfl rfl rfl rfl rfl ?_
    refine dn ?_
    refine sgi ?_
    have K13 := (Kx3.st p11 rfl)
    exact re rfl Try.func119 rfl (r_t rfl r_nil) rfl ⟨_, rfl, rfl, z.ky K13⟩
   ·
    refine sk ?_
    refine ib ?_
    refine rg ?_
    refine pu rfl rfl rfl rfl rfl ?_
    refine pu rfl rfl rfl rfl rfl ?_
    refine pu rfl rfl rfl rfl rfl ?_
    refine dn ?_
    have K14 := (Kx3.st p11 rfl)
    exact lb ih3 ⟨s11, _, rfl, (ue (ue (ue rfl rfl) rfl) rfl), K14⟩
  ·
   refine xt rfl ?_
   refine sgb ?_
   refine sr ?_
   refine pu rfl rfl rfl rfl rfl ?_
   refine pu rfl rfl rfl rfl rfl ?_
   refine dn ?_
   exact re rfl Try.func119 rfl (r_t rfl r_nil) rfl ⟨_, rfl, rfl, z.ky Kx3⟩
noncomputable def laws_szDeed.f (a0 : Deed) (a1 : Int) : Option (Int) :=
 ((laws_szSpanS.f a0.Reads a1).bind fun r7 => (if (decide (r7 < (0 : Int))) = true then (some (-1 : Int)) else ((laws_szItemS.f a0.Writes r7).bind fun r14 => (if (decide (r14 < (0 : Int))) = true then (some (-1 : Int)) else (some r14)))))
def laws_szDeed.Q (w : World) (F : Nat → Prop) (r : Int) (v : Value) (w' : World) : Prop :=
 v = (.int .i64 r) ∧ Ky [] w w'
set_option maxHeartbeats 4000000 in
set_option maxRecDepth 100000 in
theorem laws_szDeed.calls (a0 : Deed) (a1 : Int) (w : World) (F : Nat → Prop) (w0_0 : Value) (w0_1 : Value) (h0_0 : (Kd.sl 76 kd76).rd w [w0_0] a0.Reads F) (h0_1 : (Kd.sl 39 kd39).rd w [w0_1] a0.Writes F) (r : Int) (m : laws_szDeed.f a0 a1 = some r) :
  Calls Try.prog 46 #[(.agg #[(.int .i64 a0.Xid), (.int .i64 a0.Begun), (.int .i64 a0.Ended), w0_0, w0_1]), (.int .i64 a1)] w fun en w' => ∃ v, en = .returned v ∧ laws_szDeed.Q w F r v w' := by
 obtain ⟨s0, rfl, kp0, z⟩ := start0 w F
 have A0_0 := z.rd h0_0
 have A0_1 := z.rd h0_1
 refine calls_of_TM (args := [(.agg #[(.int .i64 a0.Xid), (.int .i64 a0.Begun), (.int .i64 a0.Ended), w0_0, w0_1]), (.int .i64 a1)]) (R := fun r en w' => ∃ v, en = .returned v ∧ laws_szDeed.Q s0.w F r v w') Try.func46 Try.ntmps46 rfl rfl m ?_
 unfold laws_szDeed.f
 refine sr ?_
 refine bx (cs := [(.int .i64 a0.Xid), (.int .i64 a0.Begun), (.int .i64 a0.Ended), w0_0, w0_1]) 40 rfl rfl rfl rfl rfl rfl (fun b3 s3 p3 B3 => ?_)
 refine pu rfl rfl rfl rfl rfl ?_
 refine dn ?_
 refine sr ?_
 refine fa fa89_3 rfl rfl rfl rfl rfl rfl ?_
 refine ld B3 Try.underlying86 rfl rfl rfl rfl rfl rfl rfl rfl ?_
 refine pu rfl rfl rfl rfl rfl ?_
 have K5 := (kp0.st p3 rfl)
 have A6 := (A0_0.kp K5)
 refine cl rfl rfl rfl rfl rfl Try.func118 rfl rfl rfl (fun r7 m7 => laws_szSpanS.calls a0.Reads a1 s3.w (fun b => memb [0] (s3.g b) = true) w0_0 A6 r7 m7) ?_
 rintro r7 _ w7 m7 ⟨rfl, ky7⟩
 obtain ⟨s8, rfl, p8, n8⟩ := nwx s3 w7 41 ky7
 refine pu rfl rfl rfl rfl rfl ?_
 refine dn ?_
 refine sq ?_
 refine sr ?_
 refine pu rfl rfl rfl rfl rfl ?_
 refine pu rfl rfl rfl rfl rfl ?_
 refine dn ?_
 refine cd rfl (fun h9 => ?_) (fun h9 => ?_)
 ·
  refine sr ?_
  refine pu rfl rfl rfl rfl rfl ?_
  refine dn ?_
  have K10 := (K5.st p8 rfl)
  exact re rfl Try.func46 rfl (r_t rfl r_nil) rfl ⟨_, rfl, rfl, z.ky K10⟩
 ·
  refine sk ?_
  refine sr ?_
  refine fa fa89_4 rfl rfl rfl rfl rfl rfl ?_
  have A11 := (BlF.st B3 p8 rfl)
  refine ld A11 Try.underlying87 rfl rfl rfl rfl rfl rfl rfl rfl ?_
  refine pu rfl rfl rfl rfl rfl ?_
  have K12 := (K5.st p8 rfl)
  have A13 := (A0_1.kp K12)
  refine cl rfl rfl rfl rfl rfl Try.func119 rfl rfl rfl (fun r14 m14 => laws_szItemS.calls a0.Writes r7 s8.w (fun b => memb [0] (s8.g b) = true) w0_1 A13 r14 m14) ?_
  rintro r14 _ w14 m14 ⟨rfl, ky14⟩
  obtain ⟨s15, rfl, p15, n15⟩ := nwx s8 w14 42 ky14
  refine pu rfl rfl rfl rfl rfl ?_
  refine dn ?_
  refine sq ?_
  refine sr ?_
  refine pu rfl rfl rfl rfl rfl ?_
  refine pu rfl rfl rfl rfl rfl ?_
  refine dn ?_
  refine cd rfl (fun h16 => ?_) (fun h16 => ?_)
  ·
   refine sr ?_
   refine pu rfl rfl rfl rfl rfl ?_
   refine dn ?_
   have K17 := (K12.st p15 rfl)
   exact re rfl Try.func46 rfl (r_t rfl r_nil) rfl ⟨_, rfl, rfl, z.ky K17⟩
  ·
   refine sk ?_
   refine sr ?_
   refine pu rfl rfl rfl rfl rfl ?_
   refine pu rfl rfl rfl rfl rfl ?_
   refine dn ?_
   have K18 := (K12.st p15 rfl)
   exact re rfl Try.func46 rfl (r_t rfl r_nil) rfl ⟨_, rfl, rfl, z.ky K18⟩
noncomputable def laws_szDeedS.b0 (a0 : (List Deed)) (x3 : Int × Int) : Option ((Int × Int) ⊕ Int) :=
 (if (decide (x3.2 < (a0.length : Int))) = true then (if 0 ≤ x3.2 ∧ x3.2 < (a0.length : Int) then ((laws_szDeed.f (at_ a0 x3.2) x3.1).bind fun r11 => (if (decide (r11 < (0 : Int))) = true then (some (Sum.inr (-1 : Int))) else (some (Sum.inl (r11, (IntKind.wrap .i64 (x3.2 + (1 : Int)))))))) else none) else ((some x3.1).bind fun o => some (Sum.inr o)))
noncomputable def laws_szDeedS.f (a0 : (List Deed)) (a1 : Int) : Option (Int) :=
 (if (decide ((IntKind.wrap .i64 (a1 - (a0.length : Int))) < (0 : Int))) = true then (some (-1 : Int)) else (iter (laws_szDeedS.b0 a0) ((IntKind.wrap .i64 (a1 - (a0.length : Int))), (0 : Int))))
def laws_szDeedS.Q (w : World) (F : Nat → Prop) (r : Int) (v : Value) (w' : World) : Prop :=
 v = (.int .i64 r) ∧ Ky [] w w'
set_option maxHeartbeats 4000000 in
set_option maxRecDepth 100000 in
theorem laws_szDeedS.calls (a0 : (List Deed)) (a1 : Int) (w : World) (F : Nat → Prop) (w0_0 : Value) (h0_0 : (Kd.sl 89 kd89).rd w [w0_0] a0 F) (r : Int) (m : laws_szDeedS.f a0 a1 = some r) :
  Calls Try.prog 8 #[w0_0, (.int .i64 a1)] w fun en w' => ∃ v, en = .returned v ∧ laws_szDeedS.Q w F r v w' := by
 obtain ⟨s0, rfl, kp0, z⟩ := start0 w F
 have A0_0 := z.rd h0_0
 refine calls_of_TM (args := [w0_0, (.int .i64 a1)]) (R := fun r en w' => ∃ v, en = .returned v ∧ laws_szDeedS.Q s0.w F r v w') Try.func8 Try.ntmps8 rfl rfl m ?_
 unfold laws_szDeedS.f
 refine sr ?_
 refine pu rfl rfl rfl rfl rfl ?_
 refine dn ?_
 refine sr ?_
 refine pu rfl rfl rfl rfl rfl ?_
 refine mv w0_0 rfl rfl rfl rfl rfl rfl ?_
 refine ln A0_0 Try.underlying22 rfl rfl rfl rfl rfl rfl ?_
 refine pu rfl rfl rfl rfl rfl ?_
 refine pu rfl rfl rfl rfl rfl ?_
 refine dn ?_
 refine sq ?_
 refine sr ?_
 refine pu rfl rfl rfl rfl rfl ?_
 refine pu rfl rfl rfl rfl rfl ?_
 refine dn ?_
 refine cd rfl (fun h2 => ?_) (fun h2 => ?_)
 ·
  refine sr ?_
  refine pu rfl rfl rfl rfl rfl ?_
  refine dn ?_
  exact re rfl Try.func8 rfl (r_t rfl r_nil) rfl ⟨_, rfl, rfl, z.ky kp0⟩
 ·
  refine sk ?_
  refine sq ?_
  refine sr ?_
  refine pu rfl rfl rfl rfl rfl ?_
  refine dn ?_
  refine bl ?_
  refine lpI (fun (x3 : Int × Int) (e : Env) (w : World) => ∃ (s : St) (e0 : Env), w = s.w ∧ e = upd (upd (upd e0 0 w0_0) 1 (.int .i64 x3.1)) 5 (.int .i64 x3.2) ∧ Kp s0 s) ⟨s0, _, rfl, (ue (ue (ue rfl rfl) rfl) rfl), kp0⟩ (fun g3 ih3 => ?_)
  rintro x3 _ _ ⟨s4, _, rfl, rfl, Kx3⟩
  unfold laws_szDeedS.b0
  refine sq ?_
  refine sr ?_
  refine pu rfl rfl rfl rfl rfl ?_
  refine mv w0_0 rfl rfl rfl rfl rfl rfl ?_
  have A5 := (A0_0.kp Kx3)
  refine ln A5 Try.underlying22 rfl rfl rfl rfl rfl rfl ?_
  refine pu rfl rfl rfl rfl rfl ?_
  refine dn ?_
  refine cd rfl (fun h6 => ?_) (fun h6 => ?_)
  ·
   refine sk ?_
   refine sq ?_
   refine bl ?_
   refine sr ?_
   refine mv w0_0 rfl rfl rfl rfl rfl rfl ?_
   refine pu rfl rfl rfl rfl rfl ?_
   refine ix A5 Try.underlying22 z89 rfl rfl rfl rfl rfl rfl rfl rfl (fun ad7 es7 h0_7 h1_7 he7 ce7 ia7 => ?_)
   obtain ⟨v7_0, v7_1, rfl, A7_0, A7_1⟩ := op89 he7
   refine lca ce7 Try.underlying89 z89 rfl rfl rfl rfl rfl rfl rfl ?_
   refine pu rfl rfl rfl rfl rfl ?_
   refine cl rfl rfl rfl rfl rfl Try.func46 rfl rfl rfl (fun r11 m11 => laws_szDeed.calls (at_ a0 x3.2) x3.1 s4.w (fun b => memb [0] (s4.g b) = true) v7_0 v7_1 A7_0 A7_1 r11 m11) ?_
   rintro r11 _ w11 m11 ⟨rfl, ky11⟩
   obtain ⟨s12, rfl, p12, n12⟩ := nwx s4 w11 40 ky11
   refine pu rfl rfl rfl rfl rfl ?_
   refine dn ?_
   refine sr ?_
   refine pu rfl rfl rfl rfl rfl ?_
   refine pu rfl rfl rfl rfl rfl ?_
   refine dn ?_
   refine cd rfl (fun h13 => ?_) (fun h13 => ?_)
   ·
    refine sr ?_
    refine pu rfl rfl rfl rfl rfl ?_
    refine dn ?_
    refine sgi ?_
    have K14 := (Kx3.st p12 rfl)
    exact re rfl Try.func8 rfl (r_t rfl r_nil) rfl ⟨_, rfl, rfl, z.ky K14⟩
   ·
    refine sk ?_
    refine ib ?_
    refine rg ?_
    refine pu rfl rfl rfl rfl rfl ?_
    refine pu rfl rfl rfl rfl rfl ?_
    refine pu rfl rfl rfl rfl rfl ?_
    refine dn ?_
    have K15 := (Kx3.st p12 rfl)
    exact lb ih3 ⟨s12, _, rfl, (ue (ue (ue rfl rfl) rfl) rfl), K15⟩
  ·
   refine xt rfl ?_
   refine sgb ?_
   refine sr ?_
   refine pu rfl rfl rfl rfl rfl ?_
   refine pu rfl rfl rfl rfl rfl ?_
   refine dn ?_
   exact re rfl Try.func8 rfl (r_t rfl r_nil) rfl ⟨_, rfl, rfl, z.ky Kx3⟩
noncomputable def laws_toByteS.b0 (a0 : (List Int)) (x4 : (List Int) × Int) : Option (((List Int) × Int) ⊕ (List Int)) :=
 (if (decide (x4.2 < (a0.length : Int))) = true then (if 0 ≤ x4.2 ∧ x4.2 < (a0.length : Int) then (if 0 ≤ x4.2 ∧ x4.2 < (x4.1.length : Int) then (some (Sum.inl ((x4.1.set (x4.2).toNat (at_ a0 x4.2)), (IntKind.wrap .i64 (x4.2 + (1 : Int)))))) else none) else none) else ((some x4.1).bind fun o => some (Sum.inr o)))
noncomputable def laws_toByteS.f (a0 : (List Int)) : Option ((List Int)) :=
 (if 0 ≤ (a0.length : Int) ∧ (a0.length : Int) ≤ (Lim : Int) then (iter (laws_toByteS.b0 a0) ((List.replicate ((a0.length : Int)).toNat (0 : Int)), (0 : Int))) else none)
def laws_toByteS.Q (w : World) (F : Nat → Prop) (r : (List Int)) (v : Value) (w' : World) : Prop :=
 FO (Kd.sl 5 (Kd.int .u8)) w w' [v] r ∧ Ky [] w w'
set_option maxHeartbeats 4000000 in
set_option maxRecDepth 100000 in
theorem laws_toByteS.calls (a0 : (List Int)) (w : World) (F : Nat → Prop) (w0_0 : Value) (h0_0 : (Kd.sl 5 (Kd.int .u8)).rd w [w0_0] a0 F) (r : (List Int)) (m : laws_toByteS.f a0 = some r) :
  Calls Try.prog 71 #[w0_0] w fun en w' => ∃ v, en = .returned v ∧ laws_toByteS.Q w F r v w' := by
 obtain ⟨s0, rfl, kp0, z⟩ := start0 w F
 have A0_0 := z.rd h0_0
 refine calls_of_TM (args := [w0_0]) (R := fun r en w' => ∃ v, en = .returned v ∧ laws_toByteS.Q s0.w F r v w') Try.func71 Try.ntmps71 rfl rfl m ?_
 unfold laws_toByteS.f
 refine sr ?_
 refine pu rfl rfl rfl rfl rfl ?_
 refine dn ?_
 refine sr ?_
 refine mv w0_0 rfl rfl rfl rfl rfl rfl ?_
 refine ln A0_0 Try.underlying37 rfl rfl rfl rfl rfl rfl ?_
 refine mk (x0 := (0 : Int)) (K := (Kd.int .u8)) 40 sl37 o5 (fun _ => ⟨rfl, rfl⟩) rfl rfl rfl rfl rfl rfl rfl (fun v2 s2 p2 A2 => ?_)
 refine asg v2 rfl rfl rfl rfl rfl rfl ?_
 refine dn ?_
 refine sq ?_
 refine sr ?_
 refine pu rfl rfl rfl rfl rfl ?_
 refine dn ?_
 refine bl ?_
 have K5 := (kp0.st p2 rfl)
 refine lpI (fun (x4 : (List Int) × Int) (e : Env) (w : World) => ∃ (s : St) (e0 : Env), w = s.w ∧ e = upd (upd (upd e0 0 w0_0) 3 v2) 4 (.int .i64 x4.2) ∧ Kp s0 s ∧ OwF (Kd.sl 5 (Kd.int .u8)) s [v2] x4.1 40) ⟨s2, _, rfl, (ue (ue (ue rfl rfl) rfl) rfl), K5, A2⟩ (fun g4 ih4 => ?_)
 rintro x4 _ _ ⟨s6, _, rfl, rfl, Kx4, Ax4_0⟩
 unfold laws_toByteS.b0
 refine sq ?_
 refine sr ?_
 refine pu rfl rfl rfl rfl rfl ?_
 refine mv w0_0 rfl rfl rfl rfl rfl rfl ?_
 have A8 := (A0_0.kp Kx4)
 refine ln A8 Try.underlying37 rfl rfl rfl rfl rfl rfl ?_
 refine pu rfl rfl rfl rfl rfl ?_
 refine dn ?_
 refine cd rfl (fun h9 => ?_) (fun h9 => ?_)
 ·
  refine sk ?_
  refine sq ?_
  refine bl ?_
  refine rg ?_
  refine mv v2 rfl rfl rfl rfl rfl rfl ?_
  refine pu rfl rfl rfl rfl rfl ?_
  refine mv w0_0 rfl rfl rfl rfl rfl rfl ?_
  refine pu rfl rfl rfl rfl rfl ?_
  refine ix A8 Try.underlying37 z5 rfl rfl rfl rfl rfl rfl rfl rfl (fun ad10 es10 h0_10 h1_10 he10 ce10 ia10 => ?_)
  obtain rfl := he10
  refine lc0 ce10 Try.underlying5 rfl rfl rfl rfl rfl rfl rfl rfl ?_
  refine ix Ax4_0.rd Try.underlying37 z5 rfl rfl rfl rfl rfl rfl rfl rfl (fun ad12 es12 h0_12 h1_12 he12 ce12 ia12 => ?_)
  obtain rfl := he12
  refine so (x' := (at_ a0 x4.2)) Ax4_0 ia12 h0_12 h1_12 cs_flat z5 rfl rfl rfl rfl rfl rfl (fun s14 p14 A14 => ?_)
  refine dn ?_
  refine ib ?_
  refine rg ?_
  refine pu rfl rfl rfl rfl rfl ?_
  refine pu rfl rfl rfl rfl rfl ?_
  refine pu rfl rfl rfl rfl rfl ?_
  refine dn ?_
  have K16 := (Kx4.st p14 rfl)
  exact lb ih4 ⟨s14, _, rfl, (ue (ue (ue rfl rfl) rfl) rfl), K16, A14⟩
 ·
  refine xt rfl ?_
  refine sgb ?_
  refine sr ?_
  refine mv v2 rfl rfl rfl rfl rfl rfl ?_
  refine asg v2 rfl rfl rfl rfl rfl rfl ?_
  refine dn ?_
  exact re rfl Try.func71 rfl (r_t rfl r_nil) rfl ⟨_, rfl, Ax4_0.fo Kx4 rfl z.l, z.ky Kx4⟩
noncomputable def laws_toItem.f (a0 : Item) : Option (Item) :=
 ((laws_toByteS.f a0.T).bind fun r20 => (some (Item.mk a0.Kind a0.N a0.F r20)))
def laws_toItem.Q (w : World) (F : Nat → Prop) (r : Item) (v : Value) (w' : World) : Prop :=
 ∃ (v0 : Value) (v1 : Value), v = (.agg #[(.int .i64 r.Kind), (.int .i64 r.N), v0, v1]) ∧ FO kd48 w w' [(.int .i64 r.Kind), (.int .i64 r.N), v0, v1] r ∧ Ky [] w w'
set_option maxHeartbeats 4000000 in
set_option maxRecDepth 100000 in
theorem laws_toItem.calls (a0 : Item) (w : World) (F : Nat → Prop) (w0_0 : Value) (w0_1 : Value) (h0_0 : Kd.flt.rd w [w0_0] a0.F F) (h0_1 : (Kd.sl 5 (Kd.int .u8)).rd w [w0_1] a0.T F) (r : Item) (m : laws_toItem.f a0 = some r) :
  Calls Try.prog 21 #[(.agg #[(.int .i64 a0.Kind), (.int .i64 a0.N), w0_0, w0_1])] w fun en w' => ∃ v, en = .returned v ∧ laws_toItem.Q w F r v w' := by
 obtain ⟨s0, rfl, kp0, z⟩ := start0 w F
 have A0_0 := fl_of h0_0
 have A0_1 := z.rd h0_1
 refine calls_of_TM (args := [(.agg #[(.int .i64 a0.Kind), (.int .i64 a0.N), w0_0, w0_1])]) (R := fun r en w' => ∃ v, en = .returned v ∧ laws_toItem.Q s0.w F r v w') Try.func21 Try.ntmps21 rfl rfl m ?_
 unfold laws_toItem.f
 refine sr ?_
 refine bx (cs := [(.int .i64 a0.Kind), (.int .i64 a0.N), w0_0, w0_1]) 40 rfl rfl rfl rfl rfl rfl (fun b2 s2 p2 B2 => ?_)
 refine al (cs := [(.int .i64 (0 : Int)), (.int .i64 (0 : Int)), (.float .f64 0), (.slice none 0 0)]) 41 rfl rfl rfl rfl rfl o48 rfl (fun b4 s4 p4 B4 => ?_)
 refine dn ?_
 refine sr ?_
 refine al (cs := [(.int .i64 (0 : Int)), (.int .i64 (0 : Int)), (.float .f64 0), (.slice none 0 0)]) 42 rfl rfl rfl rfl rfl o48 rfl (fun b6 s6 p6 B6 => ?_)
 refine dn ?_
 refine sr ?_
 refine fa fa39_0 rfl rfl rfl rfl rfl rfl ?_
 have A8 := (BlF.st (BlF.st B2 p4 rfl) p6 rfl)
 refine ld A8 Try.underlying3 rfl rfl rfl rfl rfl rfl rfl rfl ?_
 refine fa fa48_0 rfl rfl rfl rfl rfl rfl ?_
 refine sv B6 z3 rfl rfl rfl rfl rfl rfl rfl rfl (fun s9 p9 B9 => ?_)
 refine dn ?_
 refine sr ?_
 refine fa fa39_1 rfl rfl rfl rfl rfl rfl ?_
 have A11 := (BlF.st A8 p9 rfl)
 refine ld A11 Try.underlying3 rfl rfl rfl rfl rfl rfl rfl rfl ?_
 refine fa fa48_1 rfl rfl rfl rfl rfl rfl ?_
 refine sv B9 z3 rfl rfl rfl rfl rfl rfl rfl rfl (fun s12 p12 B12 => ?_)
 refine dn ?_
 refine sr ?_
 refine fa fa39_2 rfl rfl rfl rfl rfl rfl ?_
 have A14 := (BlF.st A11 p12 rfl)
 refine ld A14 Try.underlying36 rfl rfl rfl rfl rfl rfl rfl rfl ?_
 refine fa fa48_2 rfl rfl rfl rfl rfl rfl ?_
 refine sv B12 z36 rfl rfl rfl rfl rfl rfl (FL.one A0_0) rfl (fun s15 p15 B15 => ?_)
 refine dn ?_
 refine sr ?_
 refine fa fa39_3 rfl rfl rfl rfl rfl rfl ?_
 have A17 := (BlF.st A14 p15 rfl)
 refine ld A17 Try.underlying37 rfl rfl rfl rfl rfl rfl rfl rfl ?_
 have K18 := ((((((kp0.st p2 rfl).st p4 rfl).st p6 rfl).st p9 rfl).st p12 rfl).st p15 rfl)
 have A19 := (A0_1.kp K18)
 refine cl rfl rfl rfl rfl rfl Try.func71 rfl rfl rfl (fun r20 m20 => laws_toByteS.calls a0.T s15.w (fun b => memb [0] (s15.g b) = true) w0_1 A19 r20 m20) ?_
 rintro r20 v20_0 w20 m20 ⟨f20_0, ky20⟩
 obtain ⟨s21, rfl, p21, n21⟩ := nwx s15 w20 43 ky20
 have A20_0 := f20_0.c n21
 refine fa fa48_3 rfl rfl rfl rfl rfl rfl ?_
 have A23 := (BlF.st B15 p21 rfl)
 refine sv A23 z37 rfl rfl rfl rfl rfl rfl A20_0.rd.one rfl (fun s24 p24 B24 => ?_)
 refine dn ?_
 refine sr ?_
 refine lda (es := [(.int .i64 a0.Kind), (.int .i64 a0.N), w0_0, v20_0]) B24 Try.underlying48 z48 rfl rfl rfl rfl rfl rfl rfl rfl ?_
 have A26 := (BlF.st (BlF.st (BlF.st (BlF.st (BlF.st (BlF.st B4 p6 rfl) p9 rfl) p12 rfl) p15 rfl) p21 rfl) p24 rfl)
 have A27 := (A20_0.st p24 rfl)
 refine sva (vs := [(.int .i64 a0.Kind), (.int .i64 a0.N), w0_0, v20_0]) A26 z48 rfl rfl rfl rfl rfl rfl (on_cons rfl (on_cons rfl (on_cons (FL.one A0_0) (on_cons A27.rd.one on_nil)))) rfl (fun s28 p28 B28 => ?_)
 refine dn ?_
 have A31 := (A27.st p28 rfl)
 have A30 : OwF kd48 s28 [(.int .i64 a0.Kind), (.int .i64 a0.N), w0_0, v20_0] (Item.mk a0.Kind a0.N a0.F r20) 43 := (ow_isoz (fun x : Item => (x.Kind, x.N, x.F, x.T)) (Item.mk a0.Kind a0.N a0.F r20) (ow_l (fz_int .i64 a0.Kind) (ow_l (fz_int .i64 a0.N) (ow_l (fz_flt A0_0) A31))))
 have K33 := (((K18.st p21 rfl).st p24 rfl).st p28 rfl)
 exact re rfl Try.func21 rfl (r_b B28 Try.underlying48 rfl z48 rfl r_nil) rfl ⟨_, rfl, w0_0, v20_0, rfl, A30.fo K33 rfl z.l, z.ky K33⟩
noncomputable def laws_toSpan.f (a0 : Span) : Option (Span) :=
 ((laws_toItem.f a0.From).bind fun r12 => ((laws_toItem.f a0.To).bind fun r21 => (some (Span.mk r12 r21))))
def laws_toSpan.Q (w : World) (F : Nat → Prop) (r : Span) (v : Value) (w' : World) : Prop :=
 ∃ (v0 : Value) (v1 : Value) (v2 : Value) (v3 : Value), v = (.agg #[(.int .i64 r.From.Kind), (.int .i64 r.From.N), v0, v1, (.int .i64 r.To.Kind), (.int .i64 r.To.N), v2, v3]) ∧ FO kd80 w w' [(.int .i64 r.From.Kind), (.int .i64 r.From.N), v0, v1, (.int .i64 r.To.Kind), (.int .i64 r.To.N), v2, v3] r ∧ Ky [] w w'
set_option maxHeartbeats 4000000 in
set_option maxRecDepth 100000 in
theorem laws_toSpan.calls (a0 : Span) (w : World) (F : Nat → Prop) (w0_0 : Value) (w0_1 : Value) (w0_2 : Value) (w0_3 : Value) (h0_0 : Kd.flt.rd w [w0_0] a0.From.F F) (h0_1 : (Kd.sl 5 (Kd.int .u8)).rd w [w0_1] a0.From.T F) (h0_2 : Kd.flt.rd w [w0_2] a0.To.F F) (h0_3 : (Kd.sl 5 (Kd.int .u8)).rd w [w0_3] a0.To.T F) (r : Span) (m : laws_toSpan.f a0 = some r) :
  Calls Try.prog 42 #[(.agg #[(.int .i64 a0.From.Kind), (.int .i64 a0.From.N), w0_0, w0_1, (.int .i64 a0.To.Kind), (.int .i64 a0.To.N), w0_2, w0_3])] w fun en w' => ∃ v, en = .returned v ∧ laws_toSpan.Q w F r v w' := by
 obtain ⟨s0, rfl, kp0, z⟩ := start0 w F
 have A0_0 := fl_of h0_0
 have A0_1 := z.rd h0_1
 have A0_2 := fl_of h0_2
 have A0_3 := z.rd h0_3
 refine calls_of_TM (args := [(.agg #[(.int .i64 a0.From.Kind), (.int .i64 a0.From.N), w0_0, w0_1, (.int .i64 a0.To.Kind), (.int .i64 a0.To.N), w0_2, w0_3])]) (R := fun r en w' => ∃ v, en = .returned v ∧ laws_toSpan.Q s0.w F r v w') Try.func42 Try.ntmps42 rfl rfl m ?_
 unfold laws_toSpan.f
 refine sr ?_
 refine bx (cs := [(.int .i64 a0.From.Kind), (.int .i64 a0.From.N), w0_0, w0_1, (.int .i64 a0.To.Kind), (.int .i64 a0.To.N), w0_2, w0_3]) 40 rfl rfl rfl rfl rfl rfl (fun b3 s3 p3 B3 => ?_)
 refine al (cs := [(.int .i64 (0 : Int)), (.int .i64 (0 : Int)), (.float .f64 0), (.slice none 0 0), (.int .i64 (0 : Int)), (.int .i64 (0 : Int)), (.float .f64 0), (.slice none 0 0)]) 41 rfl rfl rfl rfl rfl o80 rfl (fun b5 s5 p5 B5 => ?_)
 refine dn ?_
 refine sr ?_
 refine al (cs := [(.int .i64 (0 : Int)), (.int .i64 (0 : Int)), (.float .f64 0), (.slice none 0 0), (.int .i64 (0 : Int)), (.int .i64 (0 : Int)), (.float .f64 0), (.slice none 0 0)]) 42 rfl rfl rfl rfl rfl o80 rfl (fun b7 s7 p7 B7 => ?_)
 refine dn ?_
 refine sr ?_
 refine fa fa76_0 rfl rfl rfl rfl rfl rfl ?_
 have A9 := (BlF.st (BlF.st B3 p5 rfl) p7 rfl)
 refine lda (es := [(.int .i64 a0.From.Kind), (.int .i64 a0.From.N), w0_0, w0_1]) A9 Try.underlying39 z39 rfl rfl rfl rfl rfl rfl rfl rfl ?_
 have K10 := (((kp0.st p3 rfl).st p5 rfl).st p7 rfl)
 have A11 := (A0_1.kp K10)
 refine cl rfl rfl rfl rfl rfl Try.func21 rfl rfl rfl (fun r12 m12 => laws_toItem.calls a0.From s7.w (fun b => memb [0] (s7.g b) = true) w0_0 w0_1 ((fl_rdf (s := s7) A0_0).sub (D := [0]) rfl) A11 r12 m12) ?_
 rintro r12 _ w12 m12 ⟨v12_0, v12_1, rfl, f12_0, ky12⟩
 obtain ⟨s13, rfl, p13, n13⟩ := nwx s7 w12 43 ky12
 have A12_0 := f12_0.c n13
 obtain ⟨os12_0, ho12_0, hn12_0, hc12_0⟩ := A12_0
 obtain ⟨u12_0_0, u12_0_1, qu12_0_1, e12_0, eo12_0, hu12_0_0, hu12_0_1⟩ := po48 ho12_0
 have yu12_0_0 : v12_0 = u12_0_0 := congrArg (fun l => (List.drop 2 l).headD undef) e12_0
 have yu12_0_1 : v12_1 = u12_0_1 := congrArg (fun l => (List.drop 3 l).headD undef) e12_0
 subst yu12_0_0
 subst yu12_0_1
 subst eo12_0
 have Au12_0_1 : OwF (Kd.sl 5 (Kd.int .u8)) s13 [v12_1] r12.T 43 := sp1 hu12_0_1 hn12_0 hc12_0
 refine fa fa80_0 rfl rfl rfl rfl rfl rfl ?_
 have A15 := (BlF.st B7 p13 rfl)
 refine sva (vs := [(.int .i64 r12.Kind), (.int .i64 r12.N), v12_0, v12_1]) A15 z48 rfl rfl rfl rfl rfl rfl (on_cons rfl (on_cons rfl (on_cons (FL.one hu12_0_0) (on_cons Au12_0_1.rd.one on_nil)))) rfl (fun s16 p16 B16 => ?_)
 refine dn ?_
 refine sr ?_
 refine fa fa76_1 rfl rfl rfl rfl rfl rfl ?_
 have A18 := (BlF.st (BlF.st A9 p13 rfl) p16 rfl)
 refine lda (es := [(.int .i64 a0.To.Kind), (.int .i64 a0.To.N), w0_2, w0_3]) A18 Try.underlying39 z39 rfl rfl rfl rfl rfl rfl rfl rfl ?_
 have K19 := ((K10.st p13 rfl).st p16 rfl)
 have A20 := (A0_3.kp K19)
 refine cl rfl rfl rfl rfl rfl Try.func21 rfl rfl rfl (fun r21 m21 => laws_toItem.calls a0.To s16.w (fun b => memb [0] (s16.g b) = true) w0_2 w0_3 ((fl_rdf (s := s16) A0_2).sub (D := [0]) rfl) A20 r21 m21) ?_
 rintro r21 _ w21 m21 ⟨v21_0, v21_1, rfl, f21_0, ky21⟩
 obtain ⟨s22, rfl, p22, n22⟩ := nwx s16 w21 44 ky21
 have A21_0 := f21_0.c n22
 obtain ⟨os21_0, ho21_0, hn21_0, hc21_0⟩ := A21_0
 obtain ⟨u21_0_0, u21_0_1, qu21_0_1, e21_0, eo21_0, hu21_0_0, hu21_0_1⟩ := po48 ho21_0
 have yu21_0_0 : v21_0 = u21_0_0 := congrArg (fun l => (List.drop 2 l).headD undef) e21_0
 have yu21_0_1 : v21_1 = u21_0_1 := congrArg (fun l => (List.drop 3 l).headD undef) e21_0
 subst yu21_0_0
 subst yu21_0_1
 subst eo21_0
 have Au21_0_1 : OwF (Kd.sl 5 (Kd.int .u8)) s22 [v21_1] r21.T 44 := sp1 hu21_0_1 hn21_0 hc21_0
 refine fa fa80_1 rfl rfl rfl rfl rfl rfl ?_
 have A24 := (BlF.st B16 p22 rfl)
 refine sva (vs := [(.int .i64 r21.Kind), (.int .i64 r21.N), v21_0, v21_1]) A24 z48 rfl rfl rfl rfl rfl rfl (on_cons rfl (on_cons rfl (on_cons (FL.one hu21_0_0) (on_cons Au21_0_1.rd.one on_nil)))) rfl (fun s25 p25 B25 => ?_)
 refine dn ?_
 refine sr ?_
 refine lda (es := [(.int .i64 r12.Kind), (.int .i64 r12.N), v12_0, v12_1, (.int .i64 r21.Kind), (.int .i64 r21.N), v21_0, v21_1]) B25 Try.underlying80 z80 rfl rfl rfl rfl rfl rfl rfl rfl ?_
 have A27 := (BlF.st (BlF.st (BlF.st (BlF.st (BlF.st B5 p7 rfl) p13 rfl) p16 rfl) p22 rfl) p25 rfl)
 have A28 := (Au21_0_1.st p25 rfl)
 have A29 := (((Au12_0_1.st p16 rfl).st p22 rfl).st p25 rfl)
 refine sva (vs := [(.int .i64 r12.Kind), (.int .i64 r12.N), v12_0, v12_1, (.int .i64 r21.Kind), (.int .i64 r21.N), v21_0, v21_1]) A27 z80 rfl rfl rfl rfl rfl rfl (on_cons rfl (on_cons rfl (on_cons (FL.one hu12_0_0) (on_cons A29.rd.one (on_cons rfl (on_cons rfl (on_cons (FL.one hu21_0_0) (on_cons A28.rd.one on_nil)))))))) rfl (fun s30 p30 B30 => ?_)
 refine dn ?_
 have A32 := (A29.st p30 rfl)
 have A33 := (A28.st p30 rfl)
 obtain ⟨s34, hw34, p34, A34⟩ := ow_2 (ow_isoz (fun x : Item => (x.Kind, x.N, x.F, x.T)) r12 (ow_l (fz_int .i64 r12.Kind) (ow_l (fz_int .i64 r12.N) (ow_l (fz_flt hu12_0_0) A32)))) (ow_isoz (fun x : Item => (x.Kind, x.N, x.F, x.T)) r21 (ow_l (fz_int .i64 r21.Kind) (ow_l (fz_int .i64 r21.N) (ow_l (fz_flt hu21_0_0) A33)))) rfl rfl
 rw [hw34]
 have A36 : OwF kd80 s34 [(.int .i64 r12.Kind), (.int .i64 r12.N), v12_0, v12_1, (.int .i64 r21.Kind), (.int .i64 r21.N), v21_0, v21_1] (Span.mk r12 r21) 43 := (ow_isoz (fun x : Span => (x.From, x.To)) (Span.mk r12 r21) A34)
 have A38 := (BlF.st B30 p34 rfl)
 have K39 := ((((K19.st p22 rfl).st p25 rfl).st p30 rfl).st p34 rfl)
 exact re rfl Try.func42 rfl (r_b A38 Try.underlying80 rfl z80 rfl r_nil) rfl ⟨_, rfl, v12_0, v12_1, v21_0, v21_1, rfl, A36.fo K39 rfl z.l, z.ky K39⟩
noncomputable def laws_toSpanS.b0 (a0 : (List Span)) (x4 : (List Span) × Int) : Option (((List Span) × Int) ⊕ (List Span)) :=
 (if (decide (x4.2 < (a0.length : Int))) = true then (if 0 ≤ x4.2 ∧ x4.2 < (a0.length : Int) then ((laws_toSpan.f (Span.mk ((at_ a0 x4.2).From) ((at_ a0 x4.2).To))).bind fun r14 => (if 0 ≤ x4.2 ∧ x4.2 < (x4.1.length : Int) then (some (Sum.inl ((x4.1.set (x4.2).toNat r14), (IntKind.wrap .i64 (x4.2 + (1 : Int)))))) else none)) else none) else ((some x4.1).bind fun o => some (Sum.inr o)))
noncomputable def laws_toSpanS.f (a0 : (List Span)) : Option ((List Span)) :=
 (if 0 ≤ (a0.length : Int) ∧ (a0.length : Int) ≤ (Lim : Int) then (iter (laws_toSpanS.b0 a0) ((List.replicate ((a0.length : Int)).toNat (Span.mk (Item.mk (0 : Int) (0 : Int) (0 : Nat) ([] : (List Int))) (Item.mk (0 : Int) (0 : Int) (0 : Nat) ([] : (List Int))))), (0 : Int))) else none)
def laws_toSpanS.Q (w : World) (F : Nat → Prop) (r : (List Span)) (v : Value) (w' : World) : Prop :=
 FO (Kd.sl 80 kd80) w w' [v] r ∧ Ky [] w w'
set_option maxHeartbeats 4000000 in
set_option maxRecDepth 100000 in
theorem laws_toSpanS.calls (a0 : (List Span)) (w : World) (F : Nat → Prop) (w0_0 : Value) (h0_0 : (Kd.sl 76 kd76).rd w [w0_0] a0 F) (r : (List Span)) (m : laws_toSpanS.f a0 = some r) :
  Calls Try.prog 122 #[w0_0] w fun en w' => ∃ v, en = .returned v ∧ laws_toSpanS.Q w F r v w' := by
 obtain ⟨s0, rfl, kp0, z⟩ := start0 w F
 have A0_0 := z.rd h0_0
 refine calls_of_TM (args := [w0_0]) (R := fun r en w' => ∃ v, en = .returned v ∧ laws_toSpanS.Q s0.w F r v w') Try.func122 Try.ntmps122 rfl rfl m ?_
 unfold laws_toSpanS.f
 refine sr ?_
 refine pu rfl rfl rfl rfl rfl ?_
 refine dn ?_
 refine sr ?_
 refine mv w0_0 rfl rfl rfl rfl rfl rfl ?_
 refine ln A0_0 Try.underlying86 rfl rfl rfl rfl rfl rfl ?_
 refine mk (x0 := (Span.mk (Item.mk (0 : Int) (0 : Int) (0 : Nat) ([] : (List Int))) (Item.mk (0 : Int) (0 : Int) (0 : Nat) ([] : (List Int))))) (K := kd80) 40 sl56 o80 (fun _ => ⟨_, _, [], [], rfl, rfl, ⟨_, _, [], [], rfl, rfl, ⟨rfl, rfl⟩, ⟨_, _, [], [], rfl, rfl, ⟨rfl, rfl⟩, ⟨_, _, [], [], rfl, rfl, ⟨⟨_, rfl, fl_c rfl⟩, rfl⟩, ⟨_, rfl, [], [], [], rfl, ⟨by simp, .inl ⟨rfl, rfl, rfl⟩⟩, ⟨rfl, rfl⟩⟩⟩⟩⟩, ⟨_, _, [], [], rfl, rfl, ⟨rfl, rfl⟩, ⟨_, _, [], [], rfl, rfl, ⟨rfl, rfl⟩, ⟨_, _, [], [], rfl, rfl, ⟨⟨_, rfl, fl_c rfl⟩, rfl⟩, ⟨_, rfl, [], [], [], rfl, ⟨by simp, .inl ⟨rfl, rfl, rfl⟩⟩, ⟨rfl, rfl⟩⟩⟩⟩⟩⟩) rfl rfl rfl rfl rfl rfl rfl (fun v2 s2 p2 A2 => ?_)
 refine asg v2 rfl rfl rfl rfl rfl rfl ?_
 refine dn ?_
 refine sq ?_
 refine sr ?_
 refine pu rfl rfl rfl rfl rfl ?_
 refine dn ?_
 refine bl ?_
 have K5 := (kp0.st p2 rfl)
 refine lpI (fun (x4 : (List Span) × Int) (e : Env) (w : World) => ∃ (s : St) (e0 : Env), w = s.w ∧ e = upd (upd (upd e0 0 w0_0) 3 v2) 4 (.int .i64 x4.2) ∧ Kp s0 s ∧ OwF (Kd.sl 80 kd80) s [v2] x4.1 40) ⟨s2, _, rfl, (ue (ue (ue rfl rfl) rfl) rfl), K5, A2⟩ (fun g4 ih4 => ?_)
 rintro x4 _ _ ⟨s6, _, rfl, rfl, Kx4, Ax4_0⟩
 unfold laws_toSpanS.b0
 refine sq ?_
 refine sr ?_
 refine pu rfl rfl rfl rfl rfl ?_
 refine mv w0_0 rfl rfl rfl rfl rfl rfl ?_
 have A8 := (A0_0.kp Kx4)
 refine ln A8 Try.underlying86 rfl rfl rfl rfl rfl rfl ?_
 refine pu rfl rfl rfl rfl rfl ?_
 refine dn ?_
 refine cd rfl (fun h9 => ?_) (fun h9 => ?_)
 ·
  refine sk ?_
  refine sq ?_
  refine bl ?_
  refine rg ?_
  refine mv v2 rfl rfl rfl rfl rfl rfl ?_
  refine pu rfl rfl rfl rfl rfl ?_
  refine mv w0_0 rfl rfl rfl rfl rfl rfl ?_
  refine pu rfl rfl rfl rfl rfl ?_
  refine ix A8 Try.underlying86 z76 rfl rfl rfl rfl rfl rfl rfl rfl (fun ad10 es10 h0_10 h1_10 he10 ce10 ia10 => ?_)
  obtain ⟨v10_0, v10_1, v10_2, v10_3, rfl, A10_0, A10_1, A10_2, A10_3⟩ := op76 he10
  refine lca ce10 Try.underlying76 z76 rfl rfl rfl rfl rfl rfl rfl ?_
  refine cl rfl rfl rfl rfl rfl Try.func42 rfl rfl rfl (fun r14 m14 => laws_toSpan.calls (Span.mk ((at_ a0 x4.2).From) ((at_ a0 x4.2).To)) s6.w (fun b => memb [0] (s6.g b) = true) v10_0 v10_1 v10_2 v10_3 ((fl_rdf (s := s6) A10_0).sub (D := [0]) rfl) A10_1 ((fl_rdf (s := s6) A10_2).sub (D := [0]) rfl) A10_3 r14 m14) ?_
  rintro r14 _ w14 m14 ⟨v14_0, v14_1, v14_2, v14_3, rfl, f14_0, ky14⟩
  obtain ⟨s15, rfl, p15, n15⟩ := nwx s6 w14 41 ky14
  have A14_0 := f14_0.c n15
  obtain ⟨os14_0, ho14_0, hn14_0, hc14_0⟩ := A14_0
  obtain ⟨u14_0_0, u14_0_1, u14_0_2, u14_0_3, qu14_0_1, qu14_0_3, e14_0, eo14_0, hu14_0_0, hu14_0_1, hu14_0_2, hu14_0_3⟩ := po80 ho14_0
  have yu14_0_0 : v14_0 = u14_0_0 := congrArg (fun l => (List.drop 2 l).headD undef) e14_0
  have yu14_0_1 : v14_1 = u14_0_1 := congrArg (fun l => (List.drop 3 l).headD undef) e14_0
  have yu14_0_2 : v14_2 = u14_0_2 := congrArg (fun l => (List.drop 6 l).headD undef) e14_0
  have yu14_0_3 : v14_3 = u14_0_3 := congrArg (fun l => (List.drop 7 l).headD undef) e14_0
  subst yu14_0_0
  subst yu14_0_1
  subst yu14_0_2
  subst yu14_0_3
  subst eo14_0
  obtain ⟨s16, hw16, p16, Au14_0_1, hn16, hc16⟩ := sp2 42 hu14_0_1 hn14_0 hc14_0 rfl
  rw [hw16]
  have Au14_0_3 : OwF (Kd.sl 5 (Kd.int .u8)) s16 [v14_3] r14.To.T 42 := sp1 (hw16 ▸ hu14_0_3) hn16 hc16
  have A19 := ((Ax4_0.st p15 rfl).st p16 rfl)
  refine ix A19.rd Try.underlying56 z80 rfl rfl rfl rfl rfl rfl rfl rfl (fun ad20 es20 h0_20 h1_20 he20 ce20 ia20 => ?_)
  obtain ⟨v20_0, v20_1, v20_2, v20_3, rfl, A20_0, A20_1, A20_2, A20_3⟩ := op80 he20
  obtain ⟨s24, hw24, p24, A24⟩ := ow_2 (ow_isoz (fun x : Item => (x.Kind, x.N, x.F, x.T)) r14.From (ow_l (fz_int .i64 r14.From.Kind) (ow_l (fz_int .i64 r14.From.N) (ow_l (fz_flt hu14_0_0) Au14_0_1)))) (ow_isoz (fun x : Item => (x.Kind, x.N, x.F, x.T)) r14.To (ow_l (fz_int .i64 r14.To.Kind) (ow_l (fz_int .i64 r14.To.N) (ow_l (fz_flt hu14_0_2) Au14_0_3)))) rfl rfl
  rw [hw24]
  have A26 : OwF kd80 s24 [(.int .i64 r14.From.Kind), (.int .i64 r14.From.N), v14_0, v14_1, (.int .i64 r14.To.Kind), (.int .i64 r14.To.N), v14_2, v14_3] r14 41 := (ow_isoz (fun x : Span => (x.From, x.To)) r14 A24)
  have A28 := (A19.st p24 rfl)
  refine som (x' := r14) A28 ia20 h0_20 h1_20 A26 rfl rfl z80 rfl rfl rfl rfl rfl rfl (fun s29 p29 A29 => ?_)
  refine dn ?_
  refine ib ?_
  refine rg ?_
  refine pu rfl rfl rfl rfl rfl ?_
  refine pu rfl rfl rfl rfl rfl ?_
  refine pu rfl rfl rfl rfl rfl ?_
  refine dn ?_
  have K31 := ((((Kx4.st p15 rfl).st p16 rfl).st p24 rfl).st p29 rfl)
  exact lb ih4 ⟨s29, _, rfl, (ue (ue (ue rfl rfl) rfl) rfl), K31, A29⟩
 ·
  refine xt rfl ?_
  refine sgb ?_
  refine sr ?_
  refine mv v2 rfl rfl rfl rfl rfl rfl ?_
  refine asg v2 rfl rfl rfl rfl rfl rfl ?_
  refine dn ?_
  exact re rfl Try.func122 rfl (r_t rfl r_nil) rfl ⟨_, rfl, Ax4_0.fo Kx4 rfl z.l, z.ky Kx4⟩
noncomputable def laws_toItemS.b0 (a0 : (List Item)) (x4 : (List Item) × Int) : Option (((List Item) × Int) ⊕ (List Item)) :=
 (if (decide (x4.2 < (a0.length : Int))) = true then (if 0 ≤ x4.2 ∧ x4.2 < (a0.length : Int) then ((laws_toItem.f (at_ a0 x4.2)).bind fun r13 => (if 0 ≤ x4.2 ∧ x4.2 < (x4.1.length : Int) then (some (Sum.inl ((x4.1.set (x4.2).toNat r13), (IntKind.wrap .i64 (x4.2 + (1 : Int)))))) else none)) else none) else ((some x4.1).bind fun o => some (Sum.inr o)))
noncomputable def laws_toItemS.f (a0 : (List Item)) : Option ((List Item)) :=
 (if 0 ≤ (a0.length : Int) ∧ (a0.length : Int) ≤ (Lim : Int) then (iter (laws_toItemS.b0 a0) ((List.replicate ((a0.length : Int)).toNat (Item.mk (0 : Int) (0 : Int) (0 : Nat) ([] : (List Int)))), (0 : Int))) else none)
def laws_toItemS.Q (w : World) (F : Nat → Prop) (r : (List Item)) (v : Value) (w' : World) : Prop :=
 FO (Kd.sl 48 kd48) w w' [v] r ∧ Ky [] w w'
set_option maxHeartbeats 4000000 in
set_option maxRecDepth 100000 in
theorem laws_toItemS.calls (a0 : (List Item)) (w : World) (F : Nat → Prop) (w0_0 : Value) (h0_0 : (Kd.sl 39 kd39).rd w [w0_0] a0 F) (r : (List Item)) (m : laws_toItemS.f a0 = some r) :
  Calls Try.prog 123 #[w0_0] w fun en w' => ∃ v, en = .returned v ∧ laws_toItemS.Q w F r v w' := by
 obtain ⟨s0, rfl, kp0, z⟩ := start0 w F
 have A0_0 := z.rd h0_0
 refine calls_of_TM (args := [w0_0]) (R := fun r en w' => ∃ v, en = .returned v ∧ laws_toItemS.Q s0.w F r v w') Try.func123 Try.ntmps123 rfl rfl m ?_
 unfold laws_toItemS.f
 refine sr ?_
 refine pu rfl rfl rfl rfl rfl ?_
 refine dn ?_
 refine sr ?_
 refine mv w0_0 rfl rfl rfl rfl rfl rfl ?_
 refine ln A0_0 Try.underlying87 rfl rfl rfl rfl rfl rfl ?_
 refine mk (x0 := (Item.mk (0 : Int) (0 : Int) (0 : Nat) ([] : (List Int)))) (K := kd48) 40 sl57 o48 (fun _ => ⟨_, _, [], [], rfl, rfl, ⟨rfl, rfl⟩, ⟨_, _, [], [], rfl, rfl, ⟨rfl, rfl⟩, ⟨_, _, [], [], rfl, rfl, ⟨⟨_, rfl, fl_c rfl⟩, rfl⟩, ⟨_, rfl, [], [], [], rfl, ⟨by simp, .inl ⟨rfl, rfl, rfl⟩⟩, ⟨rfl, rfl⟩⟩⟩⟩⟩) rfl rfl rfl rfl rfl rfl rfl (fun v2 s2 p2 A2 => ?_)
 refine asg v2 rfl rfl rfl rfl rfl rfl ?_
 refine dn ?_
 refine sq ?_
 refine sr ?_
 refine pu rfl rfl rfl rfl rfl ?_
 refine dn ?_
 refine bl ?_
 have K5 := (kp0.st p2 rfl)
 refine lpI (fun (x4 : (List Item) × Int) (e : Env) (w : World) => ∃ (s : St) (e0 : Env), w = s.w ∧ e = upd (upd (upd e0 0 w0_0) 3 v2) 4 (.int .i64 x4.2) ∧ Kp s0 s ∧ OwF (Kd.sl 48 kd48) s [v2] x4.1 40) ⟨s2, _, rfl, (ue (ue (ue rfl rfl) rfl) rfl), K5, A2⟩ (fun g4 ih4 => ?_)
 rintro x4 _ _ ⟨s6, _, rfl, rfl, Kx4, Ax4_0⟩
 unfold laws_toItemS.b0
 refine sq ?_
 refine sr ?_
 refine pu rfl rfl rfl rfl rfl ?_
 refine mv w0_0 rfl rfl rfl rfl rfl rfl ?_
 have A8 := (A0_0.kp Kx4)
 refine ln A8 Try.underlying87 rfl rfl rfl rfl rfl rfl ?_
 refine pu rfl rfl rfl rfl rfl ?_
 refine dn ?_
 refine cd rfl (fun h9 => ?_) (fun h9 => ?_)
 ·
  refine sk ?_
  refine sq ?_
  refine bl ?_
  refine rg ?_
  refine mv v2 rfl rfl rfl rfl rfl rfl ?_
  refine pu rfl rfl rfl rfl rfl ?_
  refine mv w0_0 rfl rfl rfl rfl rfl rfl ?_
  refine pu rfl rfl rfl rfl rfl ?_
  refine ix A8 Try.underlying87 z39 rfl rfl rfl rfl rfl rfl rfl rfl (fun ad10 es10 h0_10 h1_10 he10 ce10 ia10 => ?_)
  obtain ⟨v10_0, v10_1, rfl, A10_0, A10_1⟩ := op39 he10
  refine lca ce10 Try.underlying39 z39 rfl rfl rfl rfl rfl rfl rfl ?_
  refine cl rfl rfl rfl rfl rfl Try.func21 rfl rfl rfl (fun r13 m13 => laws_toItem.calls (at_ a0 x4.2) s6.w (fun b => memb [0] (s6.g b) = true) v10_0 v10_1 ((fl_rdf (s := s6) A10_0).sub (D := [0]) rfl) A10_1 r13 m13) ?_
  rintro r13 _ w13 m13 ⟨v13_0, v13_1, rfl, f13_0, ky13⟩
  obtain ⟨s14, rfl, p14, n14⟩ := nwx s6 w13 41 ky13
  have A13_0 := f13_0.c n14
  obtain ⟨os13_0, ho13_0, hn13_0, hc13_0⟩ := A13_0
  obtain ⟨u13_0_0, u13_0_1, qu13_0_1, e13_0, eo13_0, hu13_0_0, hu13_0_1⟩ := po48 ho13_0
  have yu13_0_0 : v13_0 = u13_0_0 := congrArg (fun l => (List.drop 2 l).headD undef) e13_0
  have yu13_0_1 : v13_1 = u13_0_1 := congrArg (fun l => (List.drop 3 l).headD undef) e13_0
  subst yu13_0_0
  subst yu13_0_1
  subst eo13_0
  have Au13_0_1 : OwF (Kd.sl 5 (Kd.int .u8)) s14 [v13_1] r13.T 41 := sp1 hu13_0_1 hn13_0 hc13_0
  have A16 := (Ax4_0.st p14 rfl)
  refine ix A16.rd Try.underlying57 z48 rfl rfl rfl rfl rfl rfl rfl rfl (fun ad17 es17 h0_17 h1_17 he17 ce17 ia17 => ?_)
  obtain ⟨v17_0, v17_1, rfl, A17_0, A17_1⟩ := op48 he17
  have A20 : OwF kd48 s14 [(.int .i64 r13.Kind), (.int .i64 r13.N), v13_0, v13_1] r13 41 := (ow_isoz (fun x : Item => (x.Kind, x.N, x.F, x.T)) r13 (ow_l (fz_int .i64 r13.Kind) (ow_l (fz_int .i64 r13.N) (ow_l (fz_flt hu13_0_0) Au13_0_1))))
  refine som (x' := r13) A16 ia17 h0_17 h1_17 A20 rfl rfl z48 rfl rfl rfl rfl rfl rfl (fun s22 p22 A22 => ?_)
  refine dn ?_
  refine ib ?_
  refine rg ?_
  refine pu rfl rfl rfl rfl rfl ?_
  refine pu rfl rfl rfl rfl rfl ?_
  refine pu rfl rfl rfl rfl rfl ?_
  refine dn ?_
  have K24 := ((Kx4.st p14 rfl).st p22 rfl)
  exact lb ih4 ⟨s22, _, rfl, (ue (ue (ue rfl rfl) rfl) rfl), K24, A22⟩
 ·
  refine xt rfl ?_
  refine sgb ?_
  refine sr ?_
  refine mv v2 rfl rfl rfl rfl rfl rfl ?_
  refine asg v2 rfl rfl rfl rfl rfl rfl ?_
  refine dn ?_
  exact re rfl Try.func123 rfl (r_t rfl r_nil) rfl ⟨_, rfl, Ax4_0.fo Kx4 rfl z.l, z.ky Kx4⟩
noncomputable def laws_toDeed.f (a0 : Deed) : Option (Deed) :=
 ((laws_toSpanS.f a0.Reads).bind fun r21 => ((laws_toItemS.f a0.Writes).bind fun r30 => (some (Deed.mk a0.Xid a0.Begun a0.Ended r21 r30))))
def laws_toDeed.Q (w : World) (F : Nat → Prop) (r : Deed) (v : Value) (w' : World) : Prop :=
 ∃ (v0 : Value) (v1 : Value), v = (.agg #[(.int .i64 r.Xid), (.int .i64 r.Begun), (.int .i64 r.Ended), v0, v1]) ∧ FO kd99 w w' [(.int .i64 r.Xid), (.int .i64 r.Begun), (.int .i64 r.Ended), v0, v1] r ∧ Ky [] w w'
set_option maxHeartbeats 4000000 in
set_option maxRecDepth 100000 in
theorem laws_toDeed.calls (a0 : Deed) (w : World) (F : Nat → Prop) (w0_0 : Value) (w0_1 : Value) (h0_0 : (Kd.sl 76 kd76).rd w [w0_0] a0.Reads F) (h0_1 : (Kd.sl 39 kd39).rd w [w0_1] a0.Writes F) (r : Deed) (m : laws_toDeed.f a0 = some r) :
  Calls Try.prog 51 #[(.agg #[(.int .i64 a0.Xid), (.int .i64 a0.Begun), (.int .i64 a0.Ended), w0_0, w0_1])] w fun en w' => ∃ v, en = .returned v ∧ laws_toDeed.Q w F r v w' := by
 obtain ⟨s0, rfl, kp0, z⟩ := start0 w F
 have A0_0 := z.rd h0_0
 have A0_1 := z.rd h0_1
 refine calls_of_TM (args := [(.agg #[(.int .i64 a0.Xid), (.int .i64 a0.Begun), (.int .i64 a0.Ended), w0_0, w0_1])]) (R := fun r en w' => ∃ v, en = .returned v ∧ laws_toDeed.Q s0.w F r v w') Try.func51 Try.ntmps51 rfl rfl m ?_
 unfold laws_toDeed.f
 refine sr ?_
 refine bx (cs := [(.int .i64 a0.Xid), (.int .i64 a0.Begun), (.int .i64 a0.Ended), w0_0, w0_1]) 40 rfl rfl rfl rfl rfl rfl (fun b3 s3 p3 B3 => ?_)
 refine al (cs := [(.int .i64 (0 : Int)), (.int .i64 (0 : Int)), (.int .i64 (0 : Int)), (.slice none 0 0), (.slice none 0 0)]) 41 rfl rfl rfl rfl rfl o99 rfl (fun b5 s5 p5 B5 => ?_)
 refine dn ?_
 refine sr ?_
 refine al (cs := [(.int .i64 (0 : Int)), (.int .i64 (0 : Int)), (.int .i64 (0 : Int)), (.slice none 0 0), (.slice none 0 0)]) 42 rfl rfl rfl rfl rfl o99 rfl (fun b7 s7 p7 B7 => ?_)
 refine dn ?_
 refine sr ?_
 refine fa fa89_0 rfl rfl rfl rfl rfl rfl ?_
 have A9 := (BlF.st (BlF.st B3 p5 rfl) p7 rfl)
 refine ld A9 Try.underlying3 rfl rfl rfl rfl rfl rfl rfl rfl ?_
 refine fa fa99_0 rfl rfl rfl rfl rfl rfl ?_
 refine sv B7 z3 rfl rfl rfl rfl rfl rfl rfl rfl (fun s10 p10 B10 => ?_)
 refine dn ?_
 refine sr ?_
 refine fa fa89_1 rfl rfl rfl rfl rfl rfl ?_
 have A12 := (BlF.st A9 p10 rfl)
 refine ld A12 Try.underlying3 rfl rfl rfl rfl rfl rfl rfl rfl ?_
 refine fa fa99_1 rfl rfl rfl rfl rfl rfl ?_
 refine sv B10 z3 rfl rfl rfl rfl rfl rfl rfl rfl (fun s13 p13 B13 => ?_)
 refine dn ?_
 refine sr ?_
 refine fa fa89_2 rfl rfl rfl rfl rfl rfl ?_
 have A15 := (BlF.st A12 p13 rfl)
 refine ld A15 Try.underlying3 rfl rfl rfl rfl rfl rfl rfl rfl ?_
 refine fa fa99_2 rfl rfl rfl rfl rfl rfl ?_
 refine sv B13 z3 rfl rfl rfl rfl rfl rfl rfl rfl (fun s16 p16 B16 => ?_)
 refine dn ?_
 refine sr ?_
 refine fa fa89_3 rfl rfl rfl rfl rfl rfl ?_
 have A18 := (BlF.st A15 p16 rfl)
 refine ld A18 Try.underlying86 rfl rfl rfl rfl rfl rfl rfl rfl ?_
 have K19 := ((((((kp0.st p3 rfl).st p5 rfl).st p7 rfl).st p10 rfl).st p13 rfl).st p16 rfl)
 have A20 := (A0_0.kp K19)
 refine cl rfl rfl rfl rfl rfl Try.func122 rfl rfl rfl (fun r21 m21 => laws_toSpanS.calls a0.Reads s16.w (fun b => memb [0] (s16.g b) = true) w0_0 A20 r21 m21) ?_
 rintro r21 v21_0 w21 m21 ⟨f21_0, ky21⟩
 obtain ⟨s22, rfl, p22, n22⟩ := nwx s16 w21 43 ky21
 have A21_0 := f21_0.c n22
 refine fa fa99_3 rfl rfl rfl rfl rfl rfl ?_
 have A24 := (BlF.st B16 p22 rfl)
 refine sv A24 z56 rfl rfl rfl rfl rfl rfl A21_0.rd.one rfl (fun s25 p25 B25 => ?_)
 refine dn ?_
 refine sr ?_
 refine fa fa89_4 rfl rfl rfl rfl rfl rfl ?_
 have A27 := (BlF.st (BlF.st A18 p22 rfl) p25 rfl)
 refine ld A27 Try.underlying87 rfl rfl rfl rfl rfl rfl rfl rfl ?_
 have K28 := ((K19.st p22 rfl).st p25 rfl)
 have A29 := (A0_1.kp K28)
 refine cl rfl rfl rfl rfl rfl Try.func123 rfl rfl rfl (fun r30 m30 => laws_toItemS.calls a0.Writes s25.w (fun b => memb [0] (s25.g b) = true) w0_1 A29 r30 m30) ?_
 rintro r30 v30_0 w30 m30 ⟨f30_0, ky30⟩
 obtain ⟨s31, rfl, p31, n31⟩ := nwx s25 w30 44 ky30
 have A30_0 := f30_0.c n31
 refine fa fa99_4 rfl rfl rfl rfl rfl rfl ?_
 have A33 := (BlF.st B25 p31 rfl)
 refine sv A33 z57 rfl rfl rfl rfl rfl rfl A30_0.rd.one rfl (fun s34 p34 B34 => ?_)
 refine dn ?_
 refine sr ?_
 refine lda (es := [(.int .i64 a0.Xid), (.int .i64 a0.Begun), (.int .i64 a0.Ended), v21_0, v30_0]) B34 Try.underlying99 z99 rfl rfl rfl rfl rfl rfl rfl rfl ?_
 have A36 := (BlF.st (BlF.st (BlF.st (BlF.st (BlF.st (BlF.st (BlF.st (BlF.st B5 p7 rfl) p10 rfl) p13 rfl) p16 rfl) p22 rfl) p25 rfl) p31 rfl) p34 rfl)
 have A37 := (A30_0.st p34 rfl)
 have A38 := (((A21_0.st p25 rfl).st p31 rfl).st p34 rfl)
 refine sva (vs := [(.int .i64 a0.Xid), (.int .i64 a0.Begun), (.int .i64 a0.Ended), v21_0, v30_0]) A36 z99 rfl rfl rfl rfl rfl rfl (on_cons rfl (on_cons rfl (on_cons rfl (on_cons A38.rd.one (on_cons A37.rd.one on_nil))))) rfl (fun s39 p39 B39 => ?_)
 refine dn ?_
 have A41 := (A38.st p39 rfl)
 have A42 := (A37.st p39 rfl)
 obtain ⟨s43, hw43, p43, A43⟩ := ow_2 A41 A42 rfl rfl
 rw [hw43]
 have A45 : OwF kd99 s43 [(.int .i64 a0.Xid), (.int .i64 a0.Begun), (.int .i64 a0.Ended), v21_0, v30_0] (Deed.mk a0.Xid a0.Begun a0.Ended r21 r30) 43 := (ow_isoz (fun x : Deed => (x.Xid, x.Begun, x.Ended, x.Reads, x.Writes)) (Deed.mk a0.Xid a0.Begun a0.Ended r21 r30) (ow_l (fz_int .i64 a0.Xid) (ow_l (fz_int .i64 a0.Begun) (ow_l (fz_int .i64 a0.Ended) A43))))
 have A47 := (BlF.st B39 p43 rfl)
 have K48 := ((((K28.st p31 rfl).st p34 rfl).st p39 rfl).st p43 rfl)
 exact re rfl Try.func51 rfl (r_b A47 Try.underlying99 rfl z99 rfl r_nil) rfl ⟨_, rfl, v21_0, v30_0, rfl, A45.fo K48 rfl z.l, z.ky K48⟩
noncomputable def laws_toDeedS.b0 (a0 : (List Deed)) (x4 : (List Deed) × Int) : Option (((List Deed) × Int) ⊕ (List Deed)) :=
 (if (decide (x4.2 < (a0.length : Int))) = true then (if 0 ≤ x4.2 ∧ x4.2 < (a0.length : Int) then ((laws_toDeed.f (at_ a0 x4.2)).bind fun r14 => (if 0 ≤ x4.2 ∧ x4.2 < (x4.1.length : Int) then (some (Sum.inl ((x4.1.set (x4.2).toNat r14), (IntKind.wrap .i64 (x4.2 + (1 : Int)))))) else none)) else none) else ((some x4.1).bind fun o => some (Sum.inr o)))
noncomputable def laws_toDeedS.f (a0 : (List Deed)) : Option ((List Deed)) :=
 (if 0 ≤ (a0.length : Int) ∧ (a0.length : Int) ≤ (Lim : Int) then (iter (laws_toDeedS.b0 a0) ((List.replicate ((a0.length : Int)).toNat (Deed.mk (0 : Int) (0 : Int) (0 : Int) ([] : (List Span)) ([] : (List Item)))), (0 : Int))) else none)
def laws_toDeedS.Q (w : World) (F : Nat → Prop) (r : (List Deed)) (v : Value) (w' : World) : Prop :=
 FO (Kd.sl 99 kd99) w w' [v] r ∧ Ky [] w w'
set_option maxHeartbeats 4000000 in
set_option maxRecDepth 100000 in
theorem laws_toDeedS.calls (a0 : (List Deed)) (w : World) (F : Nat → Prop) (w0_0 : Value) (h0_0 : (Kd.sl 89 kd89).rd w [w0_0] a0 F) (r : (List Deed)) (m : laws_toDeedS.f a0 = some r) :
  Calls Try.prog 10 #[w0_0] w fun en w' => ∃ v, en = .returned v ∧ laws_toDeedS.Q w F r v w' := by
 obtain ⟨s0, rfl, kp0, z⟩ := start0 w F
 have A0_0 := z.rd h0_0
 refine calls_of_TM (args := [w0_0]) (R := fun r en w' => ∃ v, en = .returned v ∧ laws_toDeedS.Q s0.w F r v w') Try.func10 Try.ntmps10 rfl rfl m ?_
 unfold laws_toDeedS.f
 refine sr ?_
 refine pu rfl rfl rfl rfl rfl ?_
 refine dn ?_
 refine sr ?_
 refine mv w0_0 rfl rfl rfl rfl rfl rfl ?_
 refine ln A0_0 Try.underlying22 rfl rfl rfl rfl rfl rfl ?_
 refine mk (x0 := (Deed.mk (0 : Int) (0 : Int) (0 : Int) ([] : (List Span)) ([] : (List Item)))) (K := kd99) 40 sl26 o99 (fun _ => ⟨_, _, [], [], rfl, rfl, ⟨rfl, rfl⟩, ⟨_, _, [], [], rfl, rfl, ⟨rfl, rfl⟩, ⟨_, _, [], [], rfl, rfl, ⟨rfl, rfl⟩, ⟨_, _, [], [], rfl, rfl, ⟨_, rfl, [], [], [], rfl, ⟨by simp, .inl ⟨rfl, rfl, rfl⟩⟩, ⟨rfl, rfl⟩⟩, ⟨_, rfl, [], [], [], rfl, ⟨by simp, .inl ⟨rfl, rfl, rfl⟩⟩, ⟨rfl, rfl⟩⟩⟩⟩⟩⟩) rfl rfl rfl rfl rfl rfl rfl (fun v2 s2 p2 A2 => ?_)
 refine asg v2 rfl rfl rfl rfl rfl rfl ?_
 refine dn ?_
 refine sq ?_
 refine sr ?_
 refine pu rfl rfl rfl rfl rfl ?_
 refine dn ?_
 refine bl ?_
 have K5 := (kp0.st p2 rfl)
 refine lpI (fun (x4 : (List Deed) × Int) (e : Env) (w : World) => ∃ (s : St) (e0 : Env), w = s.w ∧ e = upd (upd (upd e0 0 w0_0) 3 v2) 4 (.int .i64 x4.2) ∧ Kp s0 s ∧ OwF (Kd.sl 99 kd99) s [v2] x4.1 40) ⟨s2, _, rfl, (ue (ue (ue rfl rfl) rfl) rfl), K5, A2⟩ (fun g4 ih4 => ?_)
 rintro x4 _ _ ⟨s6, _, rfl, rfl, Kx4, Ax4_0⟩
 unfold laws_toDeedS.b0
 refine sq ?_
 refine sr ?_
 refine pu rfl rfl rfl rfl rfl ?_
 refine mv w0_0 rfl rfl rfl rfl rfl rfl ?_
 have A8 := (A0_0.kp Kx4)
 refine ln A8 Try.underlying22 rfl rfl rfl rfl rfl rfl ?_
 refine pu rfl rfl rfl rfl rfl ?_
 refine dn ?_
 refine cd rfl (fun h9 => ?_) (fun h9 => ?_)
 ·
  refine sk ?_
  refine sq ?_
  refine bl ?_
  refine rg ?_
  refine mv v2 rfl rfl rfl rfl rfl rfl ?_
  refine pu rfl rfl rfl rfl rfl ?_
  refine mv w0_0 rfl rfl rfl rfl rfl rfl ?_
  refine pu rfl rfl rfl rfl rfl ?_
  refine ix A8 Try.underlying22 z89 rfl rfl rfl rfl rfl rfl rfl rfl (fun ad10 es10 h0_10 h1_10 he10 ce10 ia10 => ?_)
  obtain ⟨v10_0, v10_1, rfl, A10_0, A10_1⟩ := op89 he10
  refine lca ce10 Try.underlying89 z89 rfl rfl rfl rfl rfl rfl rfl ?_
  refine cl rfl rfl rfl rfl rfl Try.func51 rfl rfl rfl (fun r14 m14 => laws_toDeed.calls (at_ a0 x4.2) s6.w (fun b => memb [0] (s6.g b) = true) v10_0 v10_1 A10_0 A10_1 r14 m14) ?_
  rintro r14 _ w14 m14 ⟨v14_0, v14_1, rfl, f14_0, ky14⟩
  obtain ⟨s15, rfl, p15, n15⟩ := nwx s6 w14 41 ky14
  have A14_0 := f14_0.c n15
  obtain ⟨os14_0, ho14_0, hn14_0, hc14_0⟩ := A14_0
  obtain ⟨u14_0_0, u14_0_1, qu14_0_0, qu14_0_1, e14_0, eo14_0, hu14_0_0, hu14_0_1⟩ := po99 ho14_0
  have yu14_0_0 : v14_0 = u14_0_0 := congrArg (fun l => (List.drop 3 l).headD undef) e14_0
  have yu14_0_1 : v14_1 = u14_0_1 := congrArg (fun l => (List.drop 4 l).headD undef) e14_0
  subst yu14_0_0
  subst yu14_0_1
  subst eo14_0
  obtain ⟨s16, hw16, p16, Au14_0_0, hn16, hc16⟩ := sp2 42 hu14_0_0 hn14_0 hc14_0 rfl
  rw [hw16]
  have Au14_0_1 : OwF (Kd.sl 48 kd48) s16 [v14_1] r14.Writes 42 := sp1 (hw16 ▸ hu14_0_1) hn16 hc16
  have A19 := ((Ax4_0.st p15 rfl).st p16 rfl)
  refine ix A19.rd Try.underlying26 z99 rfl rfl rfl rfl rfl rfl rfl rfl (fun ad20 es20 h0_20 h1_20 he20 ce20 ia20 => ?_)
  obtain ⟨v20_0, v20_1, rfl, A20_0, A20_1⟩ := op99 he20
  obtain ⟨s24, hw24, p24, A24⟩ := ow_2 Au14_0_0 Au14_0_1 rfl rfl
  rw [hw24]
  have A26 : OwF kd99 s24 [(.int .i64 r14.Xid), (.int .i64 r14.Begun), (.int .i64 r14.Ended), v14_0, v14_1] r14 41 := (ow_isoz (fun x : Deed => (x.Xid, x.Begun, x.Ended, x.Reads, x.Writes)) r14 (ow_l (fz_int .i64 r14.Xid) (ow_l (fz_int .i64 r14.Begun) (ow_l (fz_int .i64 r14.Ended) A24))))
  have A28 := (A19.st p24 rfl)
  refine som (x' := r14) A28 ia20 h0_20 h1_20 A26 rfl rfl z99 rfl rfl rfl rfl rfl rfl (fun s29 p29 A29 => ?_)
  refine dn ?_
  refine ib ?_
  refine rg ?_
  refine pu rfl rfl rfl rfl rfl ?_
  refine pu rfl rfl rfl rfl rfl ?_
  refine pu rfl rfl rfl rfl rfl ?_
  refine dn ?_
  have K31 := ((((Kx4.st p15 rfl).st p16 rfl).st p24 rfl).st p29 rfl)
  exact lb ih4 ⟨s29, _, rfl, (ue (ue (ue rfl rfl) rfl) rfl), K31, A29⟩
 ·
  refine xt rfl ?_
  refine sgb ?_
  refine sr ?_
  refine mv v2 rfl rfl rfl rfl rfl rfl ?_
  refine asg v2 rfl rfl rfl rfl rfl rfl ?_
  refine dn ?_
  exact re rfl Try.func10 rfl (r_t rfl r_nil) rfl ⟨_, rfl, Ax4_0.fo Kx4 rfl z.l, z.ky Kx4⟩
noncomputable def spec_FloatBits.b1 (y8 : Int × Nat) (x19 : Nat × Int) : Option ((Nat × Int) ⊕ Int) :=
 (if ((fcmp .f64 x19.1 (4607182418800017408 : Nat) == some .lt) && (decide (x19.2 > (-1022 : Int)))) = true then (some (Sum.inl ((far .mul x19.1 (4611686018427387904 : Nat)), (IntKind.wrap .i64 (x19.2 - (1 : Int)))))) else ((if (fcmp .f64 x19.1 (4607182418800017408 : Nat) == some .lt) = true then ((floatToIntVal .f64 (far .mul x19.1 (4841369599423283200 : Nat)) .u64).bind fun r27 => (some (ior .u64 y8.1 r27))) else ((floatToIntVal .f64 (far .mul (far .sub x19.1 (4607182418800017408 : Nat)) (4841369599423283200 : Nat)) .u64).bind fun r31 => (some (ior .u64 (ior .u64 y8.1 (ishl .u64 (IntKind.wrap .u64 (IntKind.wrap .i64 (x19.2 + (1023 : Int)))) (52 : Int))) r31)))).bind fun o => some (Sum.inr o)))
noncomputable def spec_FloatBits.b0 (y8 : Int × Nat) (x14 : Nat × Int) : Option ((Nat × Int) ⊕ Int) :=
 (if (fcmp .f64 x14.1 (4611686018427387904 : Nat) == some .gt || fcmp .f64 x14.1 (4611686018427387904 : Nat) == some .eq) = true then (some (Sum.inl ((far .quo x14.1 (4611686018427387904 : Nat)), (IntKind.wrap .i64 (x14.2 + (1 : Int)))))) else ((iter (spec_FloatBits.b1 y8) (x14.1, x14.2)).bind fun o => some (Sum.inr o)))
noncomputable def spec_FloatBits.f (a0 : Nat) : Option (Int) :=
 (if (fcmp .f64 a0 a0 != some .eq) = true then (some (9221120237041090560 : Int)) else ((if (fcmp .f64 a0 (0 : Nat) == some .lt) = true then (some true) else ((if (fcmp .f64 a0 (0 : Nat) == some .eq) = true then (some (fcmp .f64 (far .quo (4607182418800017408 : Nat) a0) (0 : Nat) == some .lt)) else (some false)).bind fun y3 => (some y3))).bind fun y2 => ((if y2 = true then (some ((9223372036854775808 : Int), (fneg a0))) else (some ((0 : Int), a0))).bind fun y8 => (if (fcmp .f64 y8.2 (0 : Nat) == some .eq) = true then (some y8.1) else (if (fcmp .f64 y8.2 (9218868437227405311 : Nat) == some .gt) = true then (some (ior .u64 y8.1 (9218868437227405312 : Int))) else (iter (spec_FloatBits.b0 y8) (y8.2, (0 : Int))))))))
def spec_FloatBits.Q (w : World) (F : Nat → Prop) (r : Int) (v : Value) (w' : World) : Prop :=
 v = (.int .u64 r) ∧ Ky [] w w'
set_option maxHeartbeats 4000000 in
set_option maxRecDepth 100000 in
theorem spec_FloatBits.calls (a0 : Nat) (w : World) (F : Nat → Prop) (w0_0 : Value) (h0_0 : Kd.flt.rd w [w0_0] a0 F) (r : Int) (m : spec_FloatBits.f a0 = some r) :
  Calls Try.prog 175 #[w0_0] w fun en w' => ∃ v, en = .returned v ∧ spec_FloatBits.Q w F r v w' := by
 obtain ⟨s0, rfl, kp0, z⟩ := start0 w F
 have A0_0 := fl_of h0_0
 refine calls_of_TM (args := [w0_0]) (R := fun r en w' => ∃ v, en = .returned v ∧ spec_FloatBits.Q s0.w F r v w') Try.func175 Try.ntmps175 rfl rfl m ?_
 unfold spec_FloatBits.f
 refine sr ?_
 refine pu rfl rfl rfl rfl rfl ?_
 refine dn ?_
 refine sq ?_
 refine sr ?_
 refine mv w0_0 rfl rfl rfl rfl rfl rfl ?_
 refine mv w0_0 rfl rfl rfl rfl rfl rfl ?_
 refine fq_ A0_0 A0_0 rfl rfl rfl rfl rfl rfl rfl rfl ?_
 refine dn ?_
 refine cd rfl (fun h1 => ?_) (fun h1 => ?_)
 ·
  refine sr ?_
  refine pu rfl rfl rfl rfl rfl ?_
  refine dn ?_
  exact re rfl Try.func175 rfl (r_t rfl r_nil) rfl ⟨_, rfl, rfl, z.ky kp0⟩
 ·
  refine sk ?_
  refine sr ?_
  refine pu rfl rfl rfl rfl rfl ?_
  refine dn ?_
  refine sr ?_
  refine mv w0_0 rfl rfl rfl rfl rfl rfl ?_
  refine asg w0_0 rfl rfl rfl rfl rfl rfl ?_
  refine dn ?_
  refine sq ?_
  refine sr ?_
  refine mv w0_0 rfl rfl rfl rfl rfl rfl ?_
  refine fq_ A0_0 (fl_c rfl) rfl rfl rfl rfl rfl rfl rfl rfl ?_
  refine pu rfl rfl rfl rfl rfl ?_
  refine ji [] (fun (y2 : Bool) (e : Env) (w : World) => ∃ (s : St) (e0 : Env), w = s.w ∧ e = upd (upd (upd (upd e0 0 w0_0) 3 (.int .u64 (0 : Int))) 4 w0_0) 20 (.bool y2) ∧ Kp s0 s) (fun Gj2 Kj2 => ?_) ?_
  ·
   rcases Bool.eq_false_or_eq_true (fcmp .f64 a0 (0 : Nat) == some .lt) with hb2 | hb2
   ·
    refine sbT hb2 ?_
    rw [if_pos hb2]
    refine uw rfl rfl rfl rfl ?_
    refine uw rfl rfl rfl rfl ?_
    refine uw rfl rfl rfl rfl ?_
    refine uw rfl rfl rfl rfl ?_
    refine uw rfl rfl rfl rfl ?_
    refine uw rfl rfl rfl rfl ?_
    refine uw rfl rfl rfl rfl ?_
    refine pu rfl rfl rfl rfl rfl ?_
    exact Kj2 _ _ _ ⟨s0, _, rfl, (ue (ue (ue (ue rfl rfl) rfl) rfl) rfl), kp0⟩
   ·
    refine sbT hb2 ?_
    rw [if_neg (by rw [hb2]; decide)]
    refine mv w0_0 rfl rfl rfl rfl rfl rfl ?_
    refine fq_ A0_0 (fl_c rfl) rfl rfl rfl rfl rfl rfl rfl rfl ?_
    refine pu rfl rfl rfl rfl rfl ?_
    refine ji [10] (fun (y3 : Bool) (e : Env) (w : World) => ∃ (s : St) (e0 : Env), w = s.w ∧ e = upd (upd (upd (upd (upd e0 0 w0_0) 3 (.int .u64 (0 : Int))) 4 w0_0) 12 (.bool false)) 19 (.bool y3) ∧ Kp s0 s) (fun Gj3 Kj3 => ?_) ?_
    ·
     rcases Bool.eq_false_or_eq_true (fcmp .f64 a0 (0 : Nat) == some .eq) with hb3 | hb3
     ·
      refine sbT hb3 ?_
      rw [if_pos hb3]
      refine mv w0_0 rfl rfl rfl rfl rfl rfl ?_
      refine fa_ (fl_c rfl) A0_0 (by simp) rfl rfl rfl rfl rfl rfl rfl (fun v4 s4 p4 A4 => ?_)
      refine fq_ A4 (fl_c rfl) rfl rfl rfl rfl rfl rfl rfl rfl ?_
      refine pu rfl rfl rfl rfl rfl ?_
      have K5 := (kp0.st p4 rfl)
      exact Kj3 _ _ _ ⟨s4, _, rfl, (ue (ue (ue (ue (ue rfl rfl) rfl) rfl) rfl) rfl), K5⟩
     ·
      refine sbT hb3 ?_
      rw [if_neg (by rw [hb3]; decide)]
      refine uw rfl rfl rfl rfl ?_
      refine uw rfl rfl rfl rfl ?_
      refine uw rfl rfl rfl rfl ?_
      refine pu rfl rfl rfl rfl rfl ?_
      exact Kj3 _ _ _ ⟨s0, _, rfl, (ue (ue (ue (ue (ue rfl rfl) rfl) rfl) rfl) rfl), kp0⟩
    rintro y3 _ _ ⟨s6, _, rfl, rfl, Ky3⟩
    refine pu rfl rfl rfl rfl rfl ?_
    exact Kj2 _ _ _ ⟨s6, _, rfl, (ue (ue (ue (ue rfl rfl) rfl) rfl) rfl), Ky3⟩
  rintro y2 _ _ ⟨s7, _, rfl, rfl, Ky2⟩
  refine dn ?_
  refine jc (fun (y8 : Int × Nat) (e : Env) (w : World) => ∃ (s : St) (e0 : Env) (uy8_0 : Value), w = s.w ∧ e = upd (upd e0 3 (.int .u64 y8.1)) 4 uy8_0 ∧ Kp s0 s ∧ FL uy8_0 y8.2) (fun Gj8 Kj8 => ?_) ?_
  ·
   refine cd rfl (fun h9 => ?_) (fun h9 => ?_)
   ·
    refine sr ?_
    refine pu rfl rfl rfl rfl rfl ?_
    refine dn ?_
    refine rg ?_
    refine mv w0_0 rfl rfl rfl rfl rfl rfl ?_
    refine fng_ A0_0 rfl rfl rfl rfl rfl rfl (fun v10 A10 => ?_)
    refine asg v10 rfl rfl rfl rfl rfl rfl ?_
    refine dn ?_
    exact Kj8 _ _ _ ⟨s7, _, v10, rfl, (ue (ue rfl rfl) rfl), Ky2, A10⟩
   ·
    refine sk ?_
    exact Kj8 _ _ _ ⟨s7, _, w0_0, rfl, (ue (ue rfl rfl) rfl), Ky2, A0_0⟩
  rintro y8 _ _ ⟨s11, _, uy8_0, rfl, rfl, Ky8, Fy8_0⟩
  refine sq ?_
  refine sr ?_
  refine mv uy8_0 rfl rfl rfl rfl rfl rfl ?_
  refine fq_ Fy8_0 (fl_c rfl) rfl rfl rfl rfl rfl rfl rfl rfl ?_
  refine dn ?_
  refine cd rfl (fun h12 => ?_) (fun h12 => ?_)
  ·
   refine sr ?_
   refine pu rfl rfl rfl rfl rfl ?_
   refine pu rfl rfl rfl rfl rfl ?_
   refine dn ?_
   exact re rfl Try.func175 rfl (r_t rfl r_nil) rfl ⟨_, rfl, rfl, z.ky Ky8⟩
  ·
   refine sk ?_
   refine sq ?_
   refine sr ?_
   refine mv uy8_0 rfl rfl rfl rfl rfl rfl ?_
   refine fq_ Fy8_0 (fl_c rfl) rfl rfl rfl rfl rfl rfl rfl rfl ?_
   refine dn ?_
   refine cd rfl (fun h13 => ?_) (fun h13 => ?_)
   ·
    refine sr ?_
    refine pu rfl rfl rfl rfl rfl ?_
    refine pu rfl rfl rfl rfl rfl ?_
    refine pu rfl rfl rfl rfl rfl ?_
    refine dn ?_
    exact re rfl Try.func175 rfl (r_t rfl r_nil) rfl ⟨_, rfl, rfl, z.ky Ky8⟩
   ·
    refine sk ?_
    refine sr ?_
    refine pu rfl rfl rfl rfl rfl ?_
    refine dn ?_
    refine sq ?_
    refine bl ?_
    refine lpI (fun (x14 : Nat × Int) (e : Env) (w : World) => ∃ (s : St) (e0 : Env) (ux14_0 : Value), w = s.w ∧ e = upd (upd (upd e0 3 (.int .u64 y8.1)) 4 ux14_0) 5 (.int .i64 x14.2) ∧ Kp s0 s ∧ FL ux14_0 x14.1) ⟨s11, _, uy8_0, rfl, (ue (ue (ue rfl rfl) rfl) rfl), Ky8, Fy8_0⟩ (fun g14 ih14 => ?_)
    rintro x14 _ _ ⟨s15, _, ux14_0, rfl, rfl, Kx14, Fx14_0⟩
    unfold spec_FloatBits.b0
    refine sq ?_
    refine sr ?_
    refine mv ux14_0 rfl rfl rfl rfl rfl rfl ?_
    refine fq_ Fx14_0 (fl_c rfl) rfl rfl rfl rfl rfl rfl rfl rfl ?_
    refine dn ?_
    refine cd rfl (fun h16 => ?_) (fun h16 => ?_)
    ·
     refine sk ?_
     refine bl ?_
     refine sr ?_
     refine mv ux14_0 rfl rfl rfl rfl rfl rfl ?_
     refine fa_ Fx14_0 (fl_c rfl) (by simp) rfl rfl rfl rfl rfl rfl rfl (fun v17 s17 p17 A17 => ?_)
     refine asg v17 rfl rfl rfl rfl rfl rfl ?_
     refine dn ?_
     refine rg ?_
     refine pu rfl rfl rfl rfl rfl ?_
     refine pu rfl rfl rfl rfl rfl ?_
     refine pu rfl rfl rfl rfl rfl ?_
     refine dn ?_
     refine ib ?_
     have K18 := (Kx14.st p17 rfl)
     exact lb ih14 ⟨s17, _, v17, rfl, (ue (ue (ue rfl rfl) rfl) rfl), K18, A17⟩
    ·
     refine xt rfl ?_
     refine sgb ?_
     refine sq ?_
     refine bl ?_
     refine lpI (fun (x19 : Nat × Int) (e : Env) (w : World) => ∃ (s : St) (e0 : Env) (ux19_0 : Value), w = s.w ∧ e = upd (upd (upd e0 3 (.int .u64 y8.1)) 4 ux19_0) 5 (.int .i64 x19.2) ∧ Kp s0 s ∧ FL ux19_0 x19.1) ⟨s15, _, ux14_0, rfl, (ue (ue (ue rfl rfl) rfl) rfl), Kx14, Fx14_0⟩ (fun g19 ih19 => ?_)
     rintro x19 _ _ ⟨s20, _, ux19_0, rfl, rfl, Kx19, Fx19_0⟩
     unfold spec_FloatBits.b1
     refine sq ?_
     refine sr ?_
     refine mv ux19_0 rfl rfl rfl rfl rfl rfl ?_
     refine fq_ Fx19_0 (fl_c rfl) rfl rfl rfl rfl rfl rfl rfl rfl ?_
     refine pu rfl rfl rfl rfl rfl ?_
     refine jy [38, 39, 40, 41] [] 41 (.bool ((fcmp .f64 x19.1 (4607182418800017408 : Nat) == some .lt) && (decide (x19.2 > (-1022 : Int))))) rfl (fun Kg21 => ?_) (fun j21 => ?_)
     ·
      rcases Bool.eq_false_or_eq_true (fcmp .f64 x19.1 (4607182418800017408 : Nat) == some .lt) with hb21 | hb21
      ·
       refine sbT hb21 ?_
       refine pu rfl rfl rfl rfl rfl ?_
       refine pu rfl rfl rfl rfl rfl ?_
       refine pu rfl rfl rfl rfl rfl ?_
       exact Kg21 _ (Ag.put ((Ag.put ((Ag.put (Ag.base rfl) rfl)) rfl)) rfl) (by rw [hb21]; rfl)
      ·
       refine sbT hb21 ?_
       refine uw rfl rfl rfl rfl ?_
       refine uw rfl rfl rfl rfl ?_
       refine pu rfl rfl rfl rfl rfl ?_
       exact Kg21 _ (Ag.put ((Ag.put ((Ag.put (Ag.base rfl) rfl)) rfl)) rfl) (by rw [hb21]; rfl)
     refine dn ?_
     refine cd rfl (fun h22 => ?_) (fun h22 => ?_)
     ·
      refine sk ?_
      refine bl ?_
      refine sr ?_
      refine mv ux19_0 rfl rfl rfl rfl rfl rfl ?_
      refine fa_ Fx19_0 (fl_c rfl) (by simp) rfl rfl rfl rfl rfl rfl rfl (fun v23 s23 p23 A23 => ?_)
      refine asg v23 rfl rfl rfl rfl rfl rfl ?_
      refine dn ?_
      refine rg ?_
      refine pu rfl rfl rfl rfl rfl ?_
      refine pu rfl rfl rfl rfl rfl ?_
      refine pu rfl rfl rfl rfl rfl ?_
      refine dn ?_
      refine ib ?_
      have K24 := (Kx19.st p23 rfl)
      exact lb ih19 ⟨s23, _, v23, rfl, (ue (ue (ue rfl rfl) rfl) rfl), K24, A23⟩
     ·
      refine xt rfl ?_
      refine sgb ?_
      refine sq ?_
      refine sr ?_
      refine mv ux19_0 rfl rfl rfl rfl rfl rfl ?_
      refine fq_ Fx19_0 (fl_c rfl) rfl rfl rfl rfl rfl rfl rfl rfl ?_
      refine dn ?_
      refine cd rfl (fun h25 => ?_) (fun h25 => ?_)
      ·
       refine sr ?_
       refine pu rfl rfl rfl rfl rfl ?_
       refine mv ux19_0 rfl rfl rfl rfl rfl rfl ?_
       refine fa_ Fx19_0 (fl_c rfl) (by simp) rfl rfl rfl rfl rfl rfl rfl (fun v26 s26 p26 A26 => ?_)
       refine f2i A26 Try.underlying210 Try.underlying36 rfl rfl rfl rfl rfl rfl (fun r27 m27 => ?_)
       refine pu rfl rfl rfl rfl rfl ?_
       refine pu rfl rfl rfl rfl rfl ?_
       refine dn ?_
       have K28 := (Kx19.st p26 rfl)
       exact re rfl Try.func175 rfl (r_t rfl r_nil) rfl ⟨_, rfl, rfl, z.ky K28⟩
      ·
       refine sk ?_
       refine sr ?_
       refine pu rfl rfl rfl rfl rfl ?_
       refine pu rfl rfl rfl rfl rfl ?_
       refine pu rfl rfl rfl rfl rfl ?_
       refine cv Try.underlying210 Try.underlying3 rfl rfl rfl rfl rfl rfl ?_
       refine shlK rfl rfl rfl rfl rfl rfl rfl rfl ?_
       refine pu rfl rfl rfl rfl rfl ?_
       refine mv ux19_0 rfl rfl rfl rfl rfl rfl ?_
       refine fa_ Fx19_0 (fl_c rfl) (by simp) rfl rfl rfl rfl rfl rfl rfl (fun v29 s29 p29 A29 => ?_)
       refine fa_ A29 (fl_c rfl) (by simp) rfl rfl rfl rfl rfl rfl rfl (fun v30 s30 p30 A30 => ?_)
       refine f2i A30 Try.underlying210 Try.underlying36 rfl rfl rfl rfl rfl rfl (fun r31 m31 => ?_)
       refine pu rfl rfl rfl rfl rfl ?_
       refine pu rfl rfl rfl rfl rfl ?_
       refine dn ?_
       have K32 := ((Kx19.st p29 rfl).st p30 rfl)
       exact re rfl Try.func175 rfl (r_t rfl r_nil) rfl ⟨_, rfl, rfl, z.ky K32⟩
noncomputable def spec_ItemOk.f (a0 : Item) : Option (Bool) :=
 (if (((decide (a0.Kind < (0 : Int))) || (decide (a0.Kind > (3 : Int)))) || (decide ((a0.T.length : Int) > (40 : Int)))) = true then (some false) else (if ((a0.Kind != (1 : Int)) && (a0.N != (0 : Int))) = true then (some false) else ((if (a0.Kind != (2 : Int)) = true then ((spec_FloatBits.f a0.F).bind fun r14 => (some (r14 != (0 : Int)))) else (some false)).bind fun y13 => (if y13 = true then (some false) else (some ((a0.Kind == (3 : Int)) || ((a0.T.length : Int) == (0 : Int))))))))
def spec_ItemOk.Q (w : World) (F : Nat → Prop) (r : Bool) (v : Value) (w' : World) : Prop :=
 v = (.bool r) ∧ Ky [] w w'
set_option maxHeartbeats 4000000 in
set_option maxRecDepth 100000 in
theorem spec_ItemOk.calls (a0 : Item) (w : World) (F : Nat → Prop) (w0_0 : Value) (w0_1 : Value) (h0_0 : Kd.flt.rd w [w0_0] a0.F F) (h0_1 : (Kd.sl 5 (Kd.int .u8)).rd w [w0_1] a0.T F) (r : Bool) (m : spec_ItemOk.f a0 = some r) :
  Calls Try.prog 174 #[(.agg #[(.int .i64 a0.Kind), (.int .i64 a0.N), w0_0, w0_1])] w fun en w' => ∃ v, en = .returned v ∧ spec_ItemOk.Q w F r v w' := by
 obtain ⟨s0, rfl, kp0, z⟩ := start0 w F
 have A0_0 := fl_of h0_0
 have A0_1 := z.rd h0_1
 refine calls_of_TM (args := [(.agg #[(.int .i64 a0.Kind), (.int .i64 a0.N), w0_0, w0_1])]) (R := fun r en w' => ∃ v, en = .returned v ∧ spec_ItemOk.Q s0.w F r v w') Try.func174 Try.ntmps174 rfl rfl m ?_
 unfold spec_ItemOk.f
 refine sr ?_
 refine bx (cs := [(.int .i64 a0.Kind), (.int .i64 a0.N), w0_0, w0_1]) 40 rfl rfl rfl rfl rfl rfl (fun b2 s2 p2 B2 => ?_)
 refine pu rfl rfl rfl rfl rfl ?_
 refine dn ?_
 refine sq ?_
 refine sr ?_
 refine fa fa48_0 rfl rfl rfl rfl rfl rfl ?_
 refine ld B2 Try.underlying3 rfl rfl rfl rfl rfl rfl rfl rfl ?_
 refine pu rfl rfl rfl rfl rfl ?_
 refine pu rfl rfl rfl rfl rfl ?_
 refine jy [6, 7, 8, 9, 10] [8, 9, 10, 11, 12, 13] 10 (.bool ((decide (a0.Kind < (0 : Int))) || (decide (a0.Kind > (3 : Int))))) rfl (fun Kg4 => ?_) (fun j4 => ?_)
 ·
  rcases Bool.eq_false_or_eq_true (decide (a0.Kind < (0 : Int))) with hb4 | hb4
  ·
   refine sbT hb4 ?_
   refine uw rfl rfl rfl rfl ?_
   refine uw rfl rfl rfl rfl ?_
   refine uw rfl rfl rfl rfl ?_
   refine pu rfl rfl rfl rfl rfl ?_
   exact Kg4 _ (Ag.put ((Ag.put ((Ag.put ((Ag.put (Ag.base rfl) rfl)) rfl)) rfl)) rfl) (by rw [hb4]; rfl)
  ·
   refine sbT hb4 ?_
   refine fa fa48_0 rfl rfl rfl rfl rfl rfl ?_
   refine ld B2 Try.underlying3 rfl rfl rfl rfl rfl rfl rfl rfl ?_
   refine pu rfl rfl rfl rfl rfl ?_
   refine pu rfl rfl rfl rfl rfl ?_
   exact Kg4 _ (Ag.put ((Ag.put ((Ag.put ((Ag.put (Ag.base rfl) rfl)) rfl)) rfl)) rfl) (by rw [hb4]; rfl)
 refine pu rfl rfl rfl rfl rfl ?_
 refine jy [11, 12, 13, 14, 15, 16] [] 16 (.bool (((decide (a0.Kind < (0 : Int))) || (decide (a0.Kind > (3 : Int)))) || (decide ((a0.T.length : Int) > (40 : Int))))) rfl (fun Kg5 => ?_) (fun j5 => ?_)
 ·
  rcases Bool.eq_false_or_eq_true ((decide (a0.Kind < (0 : Int))) || (decide (a0.Kind > (3 : Int)))) with hb5 | hb5
  ·
   refine sbT hb5 ?_
   refine uw rfl rfl rfl rfl ?_
   refine uw rfl rfl rfl rfl ?_
   refine uw rfl rfl rfl rfl ?_
   refine uw rfl rfl rfl rfl ?_
   refine pu rfl rfl rfl rfl rfl ?_
   exact Kg5 _ (Ag.put ((Ag.put ((Ag.put ((Ag.put ((Ag.put (Ag.base rfl) rfl)) rfl)) rfl)) rfl)) rfl) (by rw [hb5]; rfl)
  ·
   refine sbT hb5 ?_
   refine fa fa48_3 rfl rfl rfl rfl rfl rfl ?_
   refine ld B2 Try.underlying37 rfl rfl rfl rfl rfl rfl rfl rfl ?_
   have K6 := (kp0.st p2 rfl)
   have A7 := (A0_1.kp K6)
   refine ln A7 Try.underlying37 rfl rfl rfl rfl rfl rfl ?_
   refine pu rfl rfl rfl rfl rfl ?_
   refine pu rfl rfl rfl rfl rfl ?_
   exact Kg5 _ (Ag.put ((Ag.put ((Ag.put ((Ag.put ((Ag.put (Ag.base rfl) rfl)) rfl)) rfl)) rfl)) rfl) (by rw [hb5]; rfl)
 refine dn ?_
 refine cd rfl (fun h8 => ?_) (fun h8 => ?_)
 ·
  refine sr ?_
  refine pu rfl rfl rfl rfl rfl ?_
  refine dn ?_
  have K9 := (kp0.st p2 rfl)
  exact re rfl Try.func174 rfl (r_t rfl r_nil) rfl ⟨_, rfl, rfl, z.ky K9⟩
 ·
  refine sk ?_
  refine sq ?_
  refine sr ?_
  refine fa fa48_0 rfl rfl rfl rfl rfl rfl ?_
  refine ld B2 Try.underlying3 rfl rfl rfl rfl rfl rfl rfl rfl ?_
  refine pu rfl rfl rfl rfl rfl ?_
  refine pu rfl rfl rfl rfl rfl ?_
  refine jy [20, 21, 22, 23, 24] [] 24 (.bool ((a0.Kind != (1 : Int)) && (a0.N != (0 : Int)))) rfl (fun Kg10 => ?_) (fun j10 => ?_)
  ·
   rcases Bool.eq_false_or_eq_true (a0.Kind != (1 : Int)) with hb10 | hb10
   ·
    refine sbT hb10 ?_
    refine fa fa48_1 rfl rfl rfl rfl rfl rfl ?_
    refine ld B2 Try.underlying3 rfl rfl rfl rfl rfl rfl rfl rfl ?_
    refine pu rfl rfl rfl rfl rfl ?_
    refine pu rfl rfl rfl rfl rfl ?_
    exact Kg10 _ (Ag.put ((Ag.put ((Ag.put ((Ag.put (Ag.base rfl) rfl)) rfl)) rfl)) rfl) (by rw [hb10]; rfl)
   ·
    refine sbT hb10 ?_
    refine uw rfl rfl rfl rfl ?_
    refine uw rfl rfl rfl rfl ?_
    refine uw rfl rfl rfl rfl ?_
    refine pu rfl rfl rfl rfl rfl ?_
    exact Kg10 _ (Ag.put ((Ag.put ((Ag.put ((Ag.put (Ag.base rfl) rfl)) rfl)) rfl)) rfl) (by rw [hb10]; rfl)
  refine dn ?_
  refine cd rfl (fun h11 => ?_) (fun h11 => ?_)
  ·
   refine sr ?_
   refine pu rfl rfl rfl rfl rfl ?_
   refine dn ?_
   have K12 := (kp0.st p2 rfl)
   exact re rfl Try.func174 rfl (r_t rfl r_nil) rfl ⟨_, rfl, rfl, z.ky K12⟩
  ·
   refine sk ?_
   refine sq ?_
   refine sr ?_
   refine fa fa48_0 rfl rfl rfl rfl rfl rfl ?_
   refine ld B2 Try.underlying3 rfl rfl rfl rfl rfl rfl rfl rfl ?_
   refine pu rfl rfl rfl rfl rfl ?_
   refine pu rfl rfl rfl rfl rfl ?_
   refine ji [] (fun (y13 : Bool) (e : Env) (w : World) => ∃ (s : St) (e0 : Env), w = s.w ∧ e = upd (upd e0 1 (.pointer (some ⟨b2, 0, none⟩))) 33 (.bool y13) ∧ Kp s0 s ∧ BlF s b2 48 [(.int .i64 a0.Kind), (.int .i64 a0.N), w0_0, w0_1] 40) (fun Gj13 Kj13 => ?_) ?_
   ·
    rcases Bool.eq_false_or_eq_true (a0.Kind != (2 : Int)) with hb13 | hb13
    ·
     refine sbT hb13 ?_
     rw [if_pos hb13]
     refine fa fa48_2 rfl rfl rfl rfl rfl rfl ?_
     refine ld B2 Try.underlying36 rfl rfl rfl rfl rfl rfl rfl rfl ?_
     refine cl rfl rfl rfl rfl rfl Try.func175 rfl rfl rfl (fun r14 m14 => spec_FloatBits.calls a0.F s2.w (fun b => memb [] (s2.g b) = true) w0_0 (fl_rdf (s := s2) A0_0) r14 m14) ?_
     rintro r14 _ w14 m14 ⟨rfl, ky14⟩
     obtain ⟨s15, rfl, p15, n15⟩ := nwx s2 w14 41 ky14
     refine pu rfl rfl rfl rfl rfl ?_
     refine pu rfl rfl rfl rfl rfl ?_
     have A16 := (BlF.st B2 p15 rfl)
     have K17 := ((kp0.st p2 rfl).st p15 rfl)
     exact Kj13 _ _ _ ⟨s15, _, rfl, (ue (ue rfl rfl) rfl), K17, A16⟩
    ·
     refine sbT hb13 ?_
     rw [if_neg (by rw [hb13]; decide)]
     refine uw rfl rfl rfl rfl ?_
     refine uw rfl rfl rfl rfl ?_
     refine uw rfl rfl rfl rfl ?_
     refine uw rfl rfl rfl rfl ?_
     refine pu rfl rfl rfl rfl rfl ?_
     have K18 := (kp0.st p2 rfl)
     exact Kj13 _ _ _ ⟨s2, _, rfl, (ue (ue rfl rfl) rfl), K18, B2⟩
   rintro y13 _ _ ⟨s19, _, rfl, rfl, Ky13, By13_b2⟩
   refine dn ?_
   refine cd rfl (fun h21 => ?_) (fun h21 => ?_)
   ·
    refine sr ?_
    refine pu rfl rfl rfl rfl rfl ?_
    refine dn ?_
    exact re rfl Try.func174 rfl (r_t rfl r_nil) rfl ⟨_, rfl, rfl, z.ky Ky13⟩
   ·
    refine sk ?_
    refine sr ?_
    refine fa fa48_0 rfl rfl rfl rfl rfl rfl ?_
    refine ld By13_b2 Try.underlying3 rfl rfl rfl rfl rfl rfl rfl rfl ?_
    refine pu rfl rfl rfl rfl rfl ?_
    refine pu rfl rfl rfl rfl rfl ?_
    refine jy [37, 38, 39, 40, 41, 42] [9] 42 (.bool ((a0.Kind == (3 : Int)) || ((a0.T.length : Int) == (0 : Int)))) rfl (fun Kg22 => ?_) (fun j22 => ?_)
    ·
     rcases Bool.eq_false_or_eq_true (a0.Kind == (3 : Int)) with hb22 | hb22
     ·
      refine sbT hb22 ?_
      refine uw rfl rfl rfl rfl ?_
      refine uw rfl rfl rfl rfl ?_
      refine uw rfl rfl rfl rfl ?_
      refine uw rfl rfl rfl rfl ?_
      refine pu rfl rfl rfl rfl rfl ?_
      exact Kg22 _ (Ag.put ((Ag.put ((Ag.put ((Ag.put ((Ag.put (Ag.base rfl) rfl)) rfl)) rfl)) rfl)) rfl) (by rw [hb22]; rfl)
     ·
      refine sbT hb22 ?_
      refine fa fa48_3 rfl rfl rfl rfl rfl rfl ?_
      refine ld By13_b2 Try.underlying37 rfl rfl rfl rfl rfl rfl rfl rfl ?_
      have A23 := (A0_1.kp Ky13)
      refine ln A23 Try.underlying37 rfl rfl rfl rfl rfl rfl ?_
      refine pu rfl rfl rfl rfl rfl ?_
      refine pu rfl rfl rfl rfl rfl ?_
      exact Kg22 _ (Ag.put ((Ag.put ((Ag.put ((Ag.put ((Ag.put (Ag.base rfl) rfl)) rfl)) rfl)) rfl)) rfl) (by rw [hb22]; rfl)
    refine pu rfl rfl rfl rfl rfl ?_
    refine dn ?_
    exact re rfl Try.func174 rfl (r_t rfl r_nil) rfl ⟨_, rfl, rfl, z.ky Ky13⟩
noncomputable def spec_KeyOk.f (a0 : Item) : Option (Bool) :=
 ((spec_ItemOk.f a0).bind fun r6 => ((if (r6 && (a0.Kind != (0 : Int))) = true then ((if (fcmp .f64 a0.F (0 : Nat) == some .eq) = true then ((spec_FloatBits.f a0.F).bind fun r13 => (some (r13 != (0 : Int)))) else (some false)).bind fun y12 => (some (!y12))) else (some false)).bind fun y10 => (some y10)))
def spec_KeyOk.Q (w : World) (F : Nat → Prop) (r : Bool) (v : Value) (w' : World) : Prop :=
 v = (.bool r) ∧ Ky [] w w'
set_option maxHeartbeats 4000000 in
set_option maxRecDepth 100000 in
theorem spec_KeyOk.calls (a0 : Item) (w : World) (F : Nat → Prop) (w0_0 : Value) (w0_1 : Value) (h0_0 : Kd.flt.rd w [w0_0] a0.F F) (h0_1 : (Kd.sl 5 (Kd.int .u8)).rd w [w0_1] a0.T F) (r : Bool) (m : spec_KeyOk.f a0 = some r) :
  Calls Try.prog 120 #[(.agg #[(.int .i64 a0.Kind), (.int .i64 a0.N), w0_0, w0_1])] w fun en w' => ∃ v, en = .returned v ∧ spec_KeyOk.Q w F r v w' := by
 obtain ⟨s0, rfl, kp0, z⟩ := start0 w F
 have A0_0 := fl_of h0_0
 have A0_1 := z.rd h0_1
 refine calls_of_TM (args := [(.agg #[(.int .i64 a0.Kind), (.int .i64 a0.N), w0_0, w0_1])]) (R := fun r en w' => ∃ v, en = .returned v ∧ spec_KeyOk.Q s0.w F r v w') Try.func120 Try.ntmps120 rfl rfl m ?_
 unfold spec_KeyOk.f
 refine sr ?_
 refine bx (cs := [(.int .i64 a0.Kind), (.int .i64 a0.N), w0_0, w0_1]) 40 rfl rfl rfl rfl rfl rfl (fun b2 s2 p2 B2 => ?_)
 refine pu rfl rfl rfl rfl rfl ?_
 refine dn ?_
 refine sr ?_
 refine lda (es := [(.int .i64 a0.Kind), (.int .i64 a0.N), w0_0, w0_1]) B2 Try.underlying48 z48 rfl rfl rfl rfl rfl rfl rfl rfl ?_
 have K4 := (kp0.st p2 rfl)
 have A5 := (A0_1.kp K4)
 refine cl rfl rfl rfl rfl rfl Try.func174 rfl rfl rfl (fun r6 m6 => spec_ItemOk.calls a0 s2.w (fun b => memb [0] (s2.g b) = true) w0_0 w0_1 ((fl_rdf (s := s2) A0_0).sub (D := [0]) rfl) A5 r6 m6) ?_
 rintro r6 _ w6 m6 ⟨rfl, ky6⟩
 obtain ⟨s7, rfl, p7, n7⟩ := nwx s2 w6 41 ky6
 refine pu rfl rfl rfl rfl rfl ?_
 refine jy [5, 6, 7, 8, 9] [7, 8, 9, 10, 11, 12, 13, 14, 15, 16, 17, 18, 19] 9 (.bool (r6 && (a0.Kind != (0 : Int)))) rfl (fun Kg8 => ?_) (fun j8 => ?_)
 ·
  rcases Bool.eq_false_or_eq_true r6 with hb8 | hb8
  ·
   refine sbT hb8 ?_
   refine fa fa48_0 rfl rfl rfl rfl rfl rfl ?_
   have A9 := (BlF.st B2 p7 rfl)
   refine ld A9 Try.underlying3 rfl rfl rfl rfl rfl rfl rfl rfl ?_
   refine pu rfl rfl rfl rfl rfl ?_
   refine pu rfl rfl rfl rfl rfl ?_
   exact Kg8 _ (Ag.put ((Ag.put ((Ag.put ((Ag.put (Ag.base rfl) rfl)) rfl)) rfl)) rfl) (by rw [hb8]; rfl)
  ·
   refine sbT hb8 ?_
   refine uw rfl rfl rfl rfl ?_
   refine uw rfl rfl rfl rfl ?_
   refine uw rfl rfl rfl rfl ?_
   refine pu rfl rfl rfl rfl rfl ?_
   exact Kg8 _ (Ag.put ((Ag.put ((Ag.put ((Ag.put (Ag.base rfl) rfl)) rfl)) rfl)) rfl) (by rw [hb8]; rfl)
 refine pu rfl rfl rfl rfl rfl ?_
 refine ji [19] (fun (y10 : Bool) (e : Env) (w : World) => ∃ (s : St) (e0 : Env), w = s.w ∧ e = upd e0 21 (.bool y10) ∧ Kp s0 s) (fun Gj10 Kj10 => ?_) ?_
 ·
  rcases Bool.eq_false_or_eq_true (r6 && (a0.Kind != (0 : Int))) with hb10 | hb10
  ·
   refine sbT hb10 ?_
   rw [if_pos hb10]
   refine fa fa48_2 rfl rfl rfl rfl rfl rfl ?_
   have A11 := (BlF.st B2 p7 rfl)
   refine ld A11 Try.underlying36 rfl rfl rfl rfl rfl rfl rfl rfl ?_
   refine fq_ A0_0 (fl_c rfl) rfl rfl rfl rfl rfl rfl rfl rfl ?_
   refine pu rfl rfl rfl rfl rfl ?_
   refine ji [17, 18, 19] (fun (y12 : Bool) (e : Env) (w : World) => ∃ (s : St) (e0 : Env), w = s.w ∧ e = upd (upd e0 10 (.bool true)) 19 (.bool y12) ∧ Kp s0 s) (fun Gj12 Kj12 => ?_) ?_
   ·
    rcases Bool.eq_false_or_eq_true (fcmp .f64 a0.F (0 : Nat) == some .eq) with hb12 | hb12
    ·
     refine sbT hb12 ?_
     rw [if_pos hb12]
     refine fa fa48_2 rfl rfl rfl rfl rfl rfl ?_
     refine ld A11 Try.underlying36 rfl rfl rfl rfl rfl rfl rfl rfl ?_
     refine cl rfl rfl rfl rfl rfl Try.func175 rfl rfl rfl (fun r13 m13 => spec_FloatBits.calls a0.F s7.w (fun b => memb [] (s7.g b) = true) w0_0 (fl_rdf (s := s7) A0_0) r13 m13) ?_
     rintro r13 _ w13 m13 ⟨rfl, ky13⟩
     obtain ⟨s14, rfl, p14, n14⟩ := nwx s7 w13 42 ky13
     refine pu rfl rfl rfl rfl rfl ?_
     refine pu rfl rfl rfl rfl rfl ?_
     have K15 := ((K4.st p7 rfl).st p14 rfl)
     exact Kj12 _ _ _ ⟨s14, _, rfl, (ue (ue rfl rfl) rfl), K15⟩
    ·
     refine sbT hb12 ?_
     rw [if_neg (by rw [hb12]; decide)]
     refine uw rfl rfl rfl rfl ?_
     refine uw rfl rfl rfl rfl ?_
     refine uw rfl rfl rfl rfl ?_
     refine uw rfl rfl rfl rfl ?_
     refine pu rfl rfl rfl rfl rfl ?_
     have K16 := (K4.st p7 rfl)
     exact Kj12 _ _ _ ⟨s7, _, rfl, (ue (ue rfl rfl) rfl), K16⟩
   rintro y12 _ _ ⟨s17, _, rfl, rfl, Ky12⟩
   refine pu rfl rfl rfl rfl rfl ?_
   refine pu rfl rfl rfl rfl rfl ?_
   exact Kj10 _ _ _ ⟨s17, _, rfl, (ue rfl rfl), Ky12⟩
  ·
   refine sbT hb10 ?_
   rw [if_neg (by rw [hb10]; decide)]
   refine uw rfl rfl rfl rfl ?_
   refine uw rfl rfl rfl rfl ?_
   refine uw rfl rfl rfl rfl ?_
   refine uw rfl rfl rfl rfl ?_
   refine uw rfl rfl rfl rfl ?_
   refine uw rfl rfl rfl rfl ?_
   refine uw rfl rfl rfl rfl ?_
   refine uw rfl rfl rfl rfl ?_
   refine uw rfl rfl rfl rfl ?_
   refine uw rfl rfl rfl rfl ?_
   refine pu rfl rfl rfl rfl rfl ?_
   have K18 := (K4.st p7 rfl)
   exact Kj10 _ _ _ ⟨s7, _, rfl, (ue rfl rfl), K18⟩
 rintro y10 _ _ ⟨s19, _, rfl, rfl, Ky10⟩
 refine pu rfl rfl rfl rfl rfl ?_
 refine dn ?_
 exact re rfl Try.func120 rfl (r_t rfl r_nil) rfl ⟨_, rfl, rfl, z.ky Ky10⟩
noncomputable def spec_FloatRank.f (a0 : Nat) : Option (Int) :=
 ((spec_FloatBits.f a0).bind fun r1 => (if (r1 == (9221120237041090560 : Int)) = true then (some (18446744073709551615 : Int)) else (if (fcmp .f64 a0 (0 : Nat) == some .eq) = true then (some (9223372036854775808 : Int)) else (if ((ishr .u64 r1 (63 : Int)) == (1 : Int)) = true then (some (ixor .u64 (IntKind.max .u64) r1)) else (some (ior .u64 r1 (9223372036854775808 : Int)))))))
def spec_FloatRank.Q (w : World) (F : Nat → Prop) (r : Int) (v : Value) (w' : World) : Prop :=
 v = (.int .u64 r) ∧ Ky [] w w'
set_option maxHeartbeats 4000000 in
set_option maxRecDepth 100000 in
theorem spec_FloatRank.calls (a0 : Nat) (w : World) (F : Nat → Prop) (w0_0 : Value) (h0_0 : Kd.flt.rd w [w0_0] a0 F) (r : Int) (m : spec_FloatRank.f a0 = some r) :
  Calls Try.prog 213 #[w0_0] w fun en w' => ∃ v, en = .returned v ∧ spec_FloatRank.Q w F r v w' := by
 obtain ⟨s0, rfl, kp0, z⟩ := start0 w F
 have A0_0 := fl_of h0_0
 refine calls_of_TM (args := [w0_0]) (R := fun r en w' => ∃ v, en = .returned v ∧ spec_FloatRank.Q s0.w F r v w') Try.func213 Try.ntmps213 rfl rfl m ?_
 unfold spec_FloatRank.f
 refine sr ?_
 refine pu rfl rfl rfl rfl rfl ?_
 refine dn ?_
 refine sr ?_
 refine mv w0_0 rfl rfl rfl rfl rfl rfl ?_
 refine cl rfl rfl rfl rfl rfl Try.func175 rfl rfl rfl (fun r1 m1 => spec_FloatBits.calls a0 s0.w (fun b => memb [] (s0.g b) = true) w0_0 (fl_rdf (s := s0) A0_0) r1 m1) ?_
 rintro r1 _ w1 m1 ⟨rfl, ky1⟩
 obtain ⟨s2, rfl, p2, n2⟩ := nwx s0 w1 40 ky1
 refine pu rfl rfl rfl rfl rfl ?_
 refine dn ?_
 refine sq ?_
 refine sr ?_
 refine pu rfl rfl rfl rfl rfl ?_
 refine pu rfl rfl rfl rfl rfl ?_
 refine dn ?_
 refine cd rfl (fun h3 => ?_) (fun h3 => ?_)
 ·
  refine sr ?_
  refine pu rfl rfl rfl rfl rfl ?_
  refine dn ?_
  have K4 := (kp0.st p2 rfl)
  exact re rfl Try.func213 rfl (r_t rfl r_nil) rfl ⟨_, rfl, rfl, z.ky K4⟩
 ·
  refine sk ?_
  refine sq ?_
  refine sr ?_
  refine mv w0_0 rfl rfl rfl rfl rfl rfl ?_
  refine fq_ A0_0 (fl_c rfl) rfl rfl rfl rfl rfl rfl rfl rfl ?_
  refine dn ?_
  refine cd rfl (fun h5 => ?_) (fun h5 => ?_)
  ·
   refine sr ?_
   refine pu rfl rfl rfl rfl rfl ?_
   refine dn ?_
   have K6 := (kp0.st p2 rfl)
   exact re rfl Try.func213 rfl (r_t rfl r_nil) rfl ⟨_, rfl, rfl, z.ky K6⟩
  ·
   refine sk ?_
   refine sq ?_
   refine sr ?_
   refine pu rfl rfl rfl rfl rfl ?_
   refine shrK rfl rfl rfl rfl rfl rfl rfl rfl ?_
   refine pu rfl rfl rfl rfl rfl ?_
   refine dn ?_
   refine cd rfl (fun h7 => ?_) (fun h7 => ?_)
   ·
    refine sr ?_
    refine pu rfl rfl rfl rfl rfl ?_
    refine pu rfl rfl rfl rfl rfl ?_
    refine pu rfl rfl rfl rfl rfl ?_
    refine dn ?_
    have K8 := (kp0.st p2 rfl)
    exact re rfl Try.func213 rfl (r_t rfl r_nil) rfl ⟨_, rfl, rfl, z.ky K8⟩
   ·
    refine sk ?_
    refine sr ?_
    refine pu rfl rfl rfl rfl rfl ?_
    refine pu rfl rfl rfl rfl rfl ?_
    refine pu rfl rfl rfl rfl rfl ?_
    refine dn ?_
    have K9 := (kp0.st p2 rfl)
    exact re rfl Try.func213 rfl (r_t rfl r_nil) rfl ⟨_, rfl, rfl, z.ky K9⟩
noncomputable def spec_FloatCompare.f (a0 : Nat) (a1 : Nat) : Option (Int) :=
 ((spec_FloatRank.f a0).bind fun r1 => ((spec_FloatRank.f a1).bind fun r3 => (if (decide (r1 < r3)) = true then (some (-1 : Int)) else (if (decide (r1 > r3)) = true then (some (1 : Int)) else (some (0 : Int))))))
def spec_FloatCompare.Q (w : World) (F : Nat → Prop) (r : Int) (v : Value) (w' : World) : Prop :=
 v = (.int .i64 r) ∧ Ky [] w w'
set_option maxHeartbeats 4000000 in
set_option maxRecDepth 100000 in
theorem spec_FloatCompare.calls (a0 : Nat) (a1 : Nat) (w : World) (F : Nat → Prop) (w0_0 : Value) (w1_0 : Value) (h0_0 : Kd.flt.rd w [w0_0] a0 F) (h1_0 : Kd.flt.rd w [w1_0] a1 F) (r : Int) (m : spec_FloatCompare.f a0 a1 = some r) :
  Calls Try.prog 187 #[w0_0, w1_0] w fun en w' => ∃ v, en = .returned v ∧ spec_FloatCompare.Q w F r v w' := by
 obtain ⟨s0, rfl, kp0, z⟩ := start0 w F
 have A0_0 := fl_of h0_0
 have A1_0 := fl_of h1_0
 refine calls_of_TM (args := [w0_0, w1_0]) (R := fun r en w' => ∃ v, en = .returned v ∧ spec_FloatCompare.Q s0.w F r v w') Try.func187 Try.ntmps187 rfl rfl m ?_
 unfold spec_FloatCompare.f
 refine sr ?_
 refine pu rfl rfl rfl rfl rfl ?_
 refine dn ?_
 refine sr ?_
 refine mv w0_0 rfl rfl rfl rfl rfl rfl ?_
 refine cl rfl rfl rfl rfl rfl Try.func213 rfl rfl rfl (fun r1 m1 => spec_FloatRank.calls a0 s0.w (fun b => memb [] (s0.g b) = true) w0_0 (fl_rdf (s := s0) A0_0) r1 m1) ?_
 rintro r1 _ w1 m1 ⟨rfl, ky1⟩
 obtain ⟨s2, rfl, p2, n2⟩ := nwx s0 w1 40 ky1
 refine pu rfl rfl rfl rfl rfl ?_
 refine dn ?_
 refine sr ?_
 refine mv w1_0 rfl rfl rfl rfl rfl rfl ?_
 refine cl rfl rfl rfl rfl rfl Try.func213 rfl rfl rfl (fun r3 m3 => spec_FloatRank.calls a1 s2.w (fun b => memb [] (s2.g b) = true) w1_0 (fl_rdf (s := s2) A1_0) r3 m3) ?_
 rintro r3 _ w3 m3 ⟨rfl, ky3⟩
 obtain ⟨s4, rfl, p4, n4⟩ := nwx s2 w3 41 ky3
 refine pu rfl rfl rfl rfl rfl ?_
 refine dn ?_
 refine sq ?_
 refine sr ?_
 refine pu rfl rfl rfl rfl rfl ?_
 refine pu rfl rfl rfl rfl rfl ?_
 refine pu rfl rfl rfl rfl rfl ?_
 refine dn ?_
 refine cd rfl (fun h5 => ?_) (fun h5 => ?_)
 ·
  refine sr ?_
  refine pu rfl rfl rfl rfl rfl ?_
  refine dn ?_
  have K6 := ((kp0.st p2 rfl).st p4 rfl)
  exact re rfl Try.func187 rfl (r_t rfl r_nil) rfl ⟨_, rfl, rfl, z.ky K6⟩
 ·
  refine sk ?_
  refine sq ?_
  refine sr ?_
  refine pu rfl rfl rfl rfl rfl ?_
  refine pu rfl rfl rfl rfl rfl ?_
  refine pu rfl rfl rfl rfl rfl ?_
  refine dn ?_
  refine cd rfl (fun h7 => ?_) (fun h7 => ?_)
  ·
   refine sr ?_
   refine pu rfl rfl rfl rfl rfl ?_
   refine dn ?_
   have K8 := ((kp0.st p2 rfl).st p4 rfl)
   exact re rfl Try.func187 rfl (r_t rfl r_nil) rfl ⟨_, rfl, rfl, z.ky K8⟩
  ·
   refine sk ?_
   refine sr ?_
   refine pu rfl rfl rfl rfl rfl ?_
   refine dn ?_
   have K9 := ((kp0.st p2 rfl).st p4 rfl)
   exact re rfl Try.func187 rfl (r_t rfl r_nil) rfl ⟨_, rfl, rfl, z.ky K9⟩
noncomputable def spec_l3texts.b0 (a0 : (List Int)) (a1 : (List Int)) (x3 : Int) : Option (Int ⊕ Int) :=
 (if ((decide (x3 < (a0.length : Int))) && (decide (x3 < (a1.length : Int)))) = true then (if 0 ≤ x3 ∧ x3 < (a0.length : Int) then (if 0 ≤ x3 ∧ x3 < (a1.length : Int) then (if (decide ((at_ a0 x3) < (at_ a1 x3))) = true then (some (Sum.inr (-1 : Int))) else (if 0 ≤ x3 ∧ x3 < (a0.length : Int) then (if 0 ≤ x3 ∧ x3 < (a1.length : Int) then (if (decide ((at_ a0 x3) > (at_ a1 x3))) = true then (some (Sum.inr (1 : Int))) else (some (Sum.inl (IntKind.wrap .i64 (x3 + (1 : Int)))))) else none) else none)) else none) else none) else ((if (decide ((a0.length : Int) < (a1.length : Int))) = true then (some (-1 : Int)) else (if (decide ((a0.length : Int) > (a1.length : Int))) = true then (some (1 : Int)) else (some (0 : Int)))).bind fun o => some (Sum.inr o)))
noncomputable def spec_l3texts.f (a0 : (List Int)) (a1 : (List Int)) : Option (Int) :=
 (iter (spec_l3texts.b0 a0 a1) (0 : Int))
def spec_l3texts.Q (w : World) (F : Nat → Prop) (r : Int) (v : Value) (w' : World) : Prop :=
 v = (.int .i64 r) ∧ Ky [] w w'
set_option maxHeartbeats 4000000 in
set_option maxRecDepth 100000 in
theorem spec_l3texts.calls (a0 : (List Int)) (a1 : (List Int)) (w : World) (F : Nat → Prop) (w0_0 : Value) (w1_0 : Value) (h0_0 : (Kd.sl 5 (Kd.int .u8)).rd w [w0_0] a0 F) (h1_0 : (Kd.sl 5 (Kd.int .u8)).rd w [w1_0] a1 F) (r : Int) (m : spec_l3texts.f a0 a1 = some r) :
  Calls Try.prog 188 #[w0_0, w1_0] w fun en w' => ∃ v, en = .returned v ∧ spec_l3texts.Q w F r v w' := by
 obtain ⟨s0, rfl, kp0, z⟩ := start0 w F
 have A0_0 := z.rd h0_0
 have A1_0 := z.rd h1_0
 refine calls_of_TM (args := [w0_0, w1_0]) (R := fun r en w' => ∃ v, en = .returned v ∧ spec_l3texts.Q s0.w F r v w') Try.func188 Try.ntmps188 rfl rfl m ?_
 unfold spec_l3texts.f
 refine sr ?_
 refine pu rfl rfl rfl rfl rfl ?_
 refine dn ?_
 refine sq ?_
 refine sr ?_
 refine pu rfl rfl rfl rfl rfl ?_
 refine dn ?_
 refine bl ?_
 refine lpI (fun (x3 : Int) (e : Env) (w : World) => ∃ (s : St) (e0 : Env), w = s.w ∧ e = upd (upd (upd e0 0 w0_0) 1 w1_0) 5 (.int .i64 x3) ∧ Kp s0 s) ⟨s0, _, rfl, (ue (ue (ue rfl rfl) rfl) rfl), kp0⟩ (fun g3 ih3 => ?_)
 rintro x3 _ _ ⟨s4, _, rfl, rfl, Kx3⟩
 unfold spec_l3texts.b0
 refine sq ?_
 refine sr ?_
 refine pu rfl rfl rfl rfl rfl ?_
 refine mv w0_0 rfl rfl rfl rfl rfl rfl ?_
 have A5 := (A0_0.kp Kx3)
 refine ln A5 Try.underlying37 rfl rfl rfl rfl rfl rfl ?_
 refine pu rfl rfl rfl rfl rfl ?_
 refine pu rfl rfl rfl rfl rfl ?_
 refine jy [10, 11, 12, 13, 14, 15] [] 15 (.bool ((decide (x3 < (a0.length : Int))) && (decide (x3 < (a1.length : Int))))) rfl (fun Kg6 => ?_) (fun j6 => ?_)
 ·
  rcases Bool.eq_false_or_eq_true (decide (x3 < (a0.length : Int))) with hb6 | hb6
  ·
   refine sbT hb6 ?_
   refine pu rfl rfl rfl rfl rfl ?_
   refine mv w1_0 rfl rfl rfl rfl rfl rfl ?_
   have A7 := (A1_0.kp Kx3)
   refine ln A7 Try.underlying37 rfl rfl rfl rfl rfl rfl ?_
   refine pu rfl rfl rfl rfl rfl ?_
   refine pu rfl rfl rfl rfl rfl ?_
   exact Kg6 _ (Ag.put ((Ag.put ((Ag.put ((Ag.put ((Ag.put (Ag.base rfl) rfl)) rfl)) rfl)) rfl)) rfl) (by rw [hb6]; rfl)
  ·
   refine sbT hb6 ?_
   refine uw rfl rfl rfl rfl ?_
   refine uw rfl rfl rfl rfl ?_
   refine uw rfl rfl rfl rfl ?_
   refine uw rfl rfl rfl rfl ?_
   refine pu rfl rfl rfl rfl rfl ?_
   exact Kg6 _ (Ag.put ((Ag.put ((Ag.put ((Ag.put ((Ag.put (Ag.base rfl) rfl)) rfl)) rfl)) rfl)) rfl) (by rw [hb6]; rfl)
 refine dn ?_
 refine cd rfl (fun h8 => ?_) (fun h8 => ?_)
 ·
  refine sk ?_
  refine sq ?_
  refine bl ?_
  refine sq ?_
  refine sq ?_
  refine zdraw [[], [], [0, 1], [2], [], [], [4, 5], [6], [3, 7]] [some 18, some 19, some 20, some 21, some 22, some 23, some 24, some 25, some 26] [[0], [5], [18, 19], [20], [1], [5], [22, 23], [24], [21, 25]] [0, 1, 2, 3, 4, 5, 6, 7, 8] ⟨by kernel_rfl, by kernel_rfl, by kernel_rfl⟩ (by kernel_rfl) (fun s9 p9 l9 tb9 zd9 => ?_)
  have zd10 := zd9.add 0 18 w0_0 rfl
  have zd11 := zd10.add 1 19 (.int .i64 x3) rfl
  have K12 := (Kx3.st p9 rfl)
  have A13 := (A0_0.kp K12)
  refine mg fun hg14 => ?_
  obtain ⟨ad14, es14, he14, ce14, ia14⟩ := ix_e A13 rfl hg14.1 hg14.2
  have h0_14 := hg14.1
  have h1_14 := hg14.2
  obtain rfl := he14
  have zd16 := zd11.add 2 20 (.pointer (some ad14)) rfl
  have zd17 := zd16.add 3 21 (.int .u8 (at_ a0 x3)) rfl
  have zd18 := zd17.add 4 22 w1_0 rfl
  have zd19 := zd18.add 5 23 (.int .i64 x3) rfl
  have A20 := (A1_0.kp K12)
  refine mg fun hg21 => ?_
  obtain ⟨ad21, es21, he21, ce21, ia21⟩ := ix_e A20 rfl hg21.1 hg21.2
  have h0_21 := hg21.1
  have h1_21 := hg21.2
  obtain rfl := he21
  have zd23 := zd19.add 6 24 (.pointer (some ad21)) rfl
  have zd24 := zd23.add 7 25 (.int .u8 (at_ a1 x3)) rfl
  refine zfin [8] tb9 zd24 (pq_cons (lc0_q ce21 Try.underlying5 rfl rfl rfl rfl rfl rfl rfl rfl) rfl (pq_cons (ix_q A20 Try.underlying37 z5 hg21.1 hg21.2 ia21 rfl rfl rfl rfl rfl rfl rfl) rfl (pq_cons (pu_q rfl rfl rfl rfl rfl rfl) rfl (pq_cons (mv_q w1_0 rfl rfl rfl rfl rfl rfl) rfl (pq_cons (lc0_q ce14 Try.underlying5 rfl rfl rfl rfl rfl rfl rfl rfl) rfl (pq_cons (ix_q A13 Try.underlying37 z5 hg14.1 hg14.2 ia14 rfl rfl rfl rfl rfl rfl rfl) rfl (pq_cons (pu_q rfl rfl rfl rfl rfl rfl) rfl (pq_cons (mv_q w0_0 rfl rfl rfl rfl rfl rfl) rfl pq_nil)))))))) (by kernel_rfl) (by decide) ?_
  refine pu rfl rfl rfl rfl rfl ?_
  refine dn ?_
  refine cd rfl (fun h25 => ?_) (fun h25 => ?_)
  ·
   refine sr ?_
   refine pu rfl rfl rfl rfl rfl ?_
   refine dn ?_
   refine sgi ?_
   exact re rfl Try.func188 rfl (r_t rfl r_nil) rfl ⟨_, rfl, rfl, z.ky K12⟩
  ·
   refine sk ?_
   refine sq ?_
   refine zdraw [[], [], [0, 1], [2], [], [], [4, 5], [6], [3, 7]] [some 27, some 28, some 29, some 30, some 31, some 32, some 33, some 34, some 35] [[0], [5], [27, 28], [29], [1], [5], [31, 32], [33], [30, 34]] [0, 1, 2, 3, 4, 5, 6, 7, 8] ⟨by kernel_rfl, by kernel_rfl, by kernel_rfl⟩ (by kernel_rfl) (fun s26 p26 l26 tb26 zd26 => ?_)
   have zd27 := zd26.add 0 27 w0_0 rfl
   have zd28 := zd27.add 1 28 (.int .i64 x3) rfl
   have K29 := (K12.st p26 rfl)
   have A30 := (A0_0.kp K29)
   refine mg fun hg31 => ?_
   obtain ⟨ad31, es31, he31, ce31, ia31⟩ := ix_e A30 rfl hg31.1 hg31.2
   have h0_31 := hg31.1
   have h1_31 := hg31.2
   obtain rfl := he31
   have zd33 := zd28.add 2 29 (.pointer (some ad31)) rfl
   have zd34 := zd33.add 3 30 (.int .u8 (at_ a0 x3)) rfl
   have zd35 := zd34.add 4 31 w1_0 rfl
   have zd36 := zd35.add 5 32 (.int .i64 x3) rfl
   have A37 := (A1_0.kp K29)
   refine mg fun hg38 => ?_
   obtain ⟨ad38, es38, he38, ce38, ia38⟩ := ix_e A37 rfl hg38.1 hg38.2
   have h0_38 := hg38.1
   have h1_38 := hg38.2
   obtain rfl := he38
   have zd40 := zd36.add 6 33 (.pointer (some ad38)) rfl
   have zd41 := zd40.add 7 34 (.int .u8 (at_ a1 x3)) rfl
   refine zfin [8] tb26 zd41 (pq_cons (lc0_q ce38 Try.underlying5 rfl rfl rfl rfl rfl rfl rfl rfl) rfl (pq_cons (ix_q A37 Try.underlying37 z5 hg38.1 hg38.2 ia38 rfl rfl rfl rfl rfl rfl rfl) rfl (pq_cons (pu_q rfl rfl rfl rfl rfl rfl) rfl (pq_cons (mv_q w1_0 rfl rfl rfl rfl rfl rfl) rfl (pq_cons (lc0_q ce31 Try.underlying5 rfl rfl rfl rfl rfl rfl rfl rfl) rfl (pq_cons (ix_q A30 Try.underlying37 z5 hg31.1 hg31.2 ia31 rfl rfl rfl rfl rfl rfl rfl) rfl (pq_cons (pu_q rfl rfl rfl rfl rfl rfl) rfl (pq_cons (mv_q w0_0 rfl rfl rfl rfl rfl rfl) rfl pq_nil)))))))) (by kernel_rfl) (by decide) ?_
   refine pu rfl rfl rfl rfl rfl ?_
   refine dn ?_
   refine cd rfl (fun h42 => ?_) (fun h42 => ?_)
   ·
    refine sr ?_
    refine pu rfl rfl rfl rfl rfl ?_
    refine dn ?_
    refine sgi ?_
    exact re rfl Try.func188 rfl (r_t rfl r_nil) rfl ⟨_, rfl, rfl, z.ky K29⟩
   ·
    refine sk ?_
    refine ib ?_
    refine rg ?_
    refine pu rfl rfl rfl rfl rfl ?_
    refine pu rfl rfl rfl rfl rfl ?_
    refine pu rfl rfl rfl rfl rfl ?_
    refine dn ?_
    exact lb ih3 ⟨s26, _, rfl, (ue (ue (ue rfl rfl) rfl) rfl), K29⟩
 ·
  refine xt rfl ?_
  refine sgb ?_
  refine sq ?_
  refine sr ?_
  refine mv w0_0 rfl rfl rfl rfl rfl rfl ?_
  refine ln A5 Try.underlying37 rfl rfl rfl rfl rfl rfl ?_
  refine mv w1_0 rfl rfl rfl rfl rfl rfl ?_
  have A43 := (A1_0.kp Kx3)
  refine ln A43 Try.underlying37 rfl rfl rfl rfl rfl rfl ?_
  refine pu rfl rfl rfl rfl rfl ?_
  refine dn ?_
  refine cd rfl (fun h44 => ?_) (fun h44 => ?_)
  ·
   refine sr ?_
   refine pu rfl rfl rfl rfl rfl ?_
   refine dn ?_
   exact re rfl Try.func188 rfl (r_t rfl r_nil) rfl ⟨_, rfl, rfl, z.ky Kx3⟩
  ·
   refine sk ?_
   refine sq ?_
   refine sr ?_
   refine mv w0_0 rfl rfl rfl rfl rfl rfl ?_
   refine ln A5 Try.underlying37 rfl rfl rfl rfl rfl rfl ?_
   refine mv w1_0 rfl rfl rfl rfl rfl rfl ?_
   refine ln A43 Try.underlying37 rfl rfl rfl rfl rfl rfl ?_
   refine pu rfl rfl rfl rfl rfl ?_
   refine dn ?_
   refine cd rfl (fun h45 => ?_) (fun h45 => ?_)
   ·
    refine sr ?_
    refine pu rfl rfl rfl rfl rfl ?_
    refine dn ?_
    exact re rfl Try.func188 rfl (r_t rfl r_nil) rfl ⟨_, rfl, rfl, z.ky Kx3⟩
   ·
    refine sk ?_
    refine sr ?_
    refine pu rfl rfl rfl rfl rfl ?_
    refine dn ?_
    exact re rfl Try.func188 rfl (r_t rfl r_nil) rfl ⟨_, rfl, rfl, z.ky Kx3⟩
noncomputable def spec_ItemCompare.f (a0 : Item) (a1 : Item) : Option (Int) :=
 ((spec_ItemOk.f a0).bind fun r10 => ((if (!r10) = true then (some true) else ((spec_ItemOk.f a1).bind fun r19 => (some (!r19)))).bind fun y12 => (if y12 = true then (some (-2 : Int)) else (if (a0.Kind != a1.Kind) = true then (if (decide (a0.Kind < a1.Kind)) = true then (some (-1 : Int)) else (some (1 : Int))) else (if (a0.N != a1.N) = true then (if (decide (a0.N < a1.N)) = true then (some (-1 : Int)) else (some (1 : Int))) else ((spec_FloatCompare.f a0.F a1.F).bind fun r32 => (if (r32 != (0 : Int)) = true then (some r32) else ((spec_l3texts.f a0.T a1.T).bind fun r41 => (some r41)))))))))
def spec_ItemCompare.Q (w : World) (F : Nat → Prop) (r : Int) (v : Value) (w' : World) : Prop :=
 v = (.int .i64 r) ∧ Ky [] w w'
set_option maxHeartbeats 4000000 in
set_option maxRecDepth 100000 in
theorem spec_ItemCompare.calls (a0 : Item) (a1 : Item) (w : World) (F : Nat → Prop) (w0_0 : Value) (w0_1 : Value) (w1_0 : Value) (w1_1 : Value) (h0_0 : Kd.flt.rd w [w0_0] a0.F F) (h0_1 : (Kd.sl 5 (Kd.int .u8)).rd w [w0_1] a0.T F) (h1_0 : Kd.flt.rd w [w1_0] a1.F F) (h1_1 : (Kd.sl 5 (Kd.int .u8)).rd w [w1_1] a1.T F) (r : Int) (m : spec_ItemCompare.f a0 a1 = some r) :
  Calls Try.prog 137 #[(.agg #[(.int .i64 a0.Kind), (.int .i64 a0.N), w0_0, w0_1]), (.agg #[(.int .i64 a1.Kind), (.int .i64 a1.N), w1_0, w1_1])] w fun en w' => ∃ v, en = .returned v ∧ spec_ItemCompare.Q w F r v w' := by
 obtain ⟨s0, rfl, kp0, z⟩ := start0 w F
 have A0_0 := fl_of h0_0
 have A0_1 := z.rd h0_1
 have A1_0 := fl_of h1_0
 have A1_1 := z.rd h1_1
 refine calls_of_TM (args := [(.agg #[(.int .i64 a0.Kind), (.int .i64 a0.N), w0_0, w0_1]), (.agg #[(.int .i64 a1.Kind), (.int .i64 a1.N), w1_0, w1_1])]) (R := fun r en w' => ∃ v, en = .returned v ∧ spec_ItemCompare.Q s0.w F r v w') Try.func137 Try.ntmps137 rfl rfl m ?_
 unfold spec_ItemCompare.f
 refine sr ?_
 refine bx (cs := [(.int .i64 a0.Kind), (.int .i64 a0.N), w0_0, w0_1]) 40 rfl rfl rfl rfl rfl rfl (fun b3 s3 p3 B3 => ?_)
 refine bx (cs := [(.int .i64 a1.Kind), (.int .i64 a1.N), w1_0, w1_1]) 41 rfl rfl rfl rfl rfl rfl (fun b5 s5 p5 B5 => ?_)
 refine pu rfl rfl rfl rfl rfl ?_
 refine dn ?_
 refine sq ?_
 refine sr ?_
 have A7 := (BlF.st B3 p5 rfl)
 refine lda (es := [(.int .i64 a0.Kind), (.int .i64 a0.N), w0_0, w0_1]) A7 Try.underlying48 z48 rfl rfl rfl rfl rfl rfl rfl rfl ?_
 have K8 := ((kp0.st p3 rfl).st p5 rfl)
 have A9 := (A0_1.kp K8)
 refine cl rfl rfl rfl rfl rfl Try.func174 rfl rfl rfl (fun r10 m10 => spec_ItemOk.calls a0 s5.w (fun b => memb [0] (s5.g b) = true) w0_0 w0_1 ((fl_rdf (s := s5) A0_0).sub (D := [0]) rfl) A9 r10 m10) ?_
 rintro r10 _ w10 m10 ⟨rfl, ky10⟩
 obtain ⟨s11, rfl, p11, n11⟩ := nwx s5 w10 42 ky10
 refine pu rfl rfl rfl rfl rfl ?_
 refine pu rfl rfl rfl rfl rfl ?_
 refine ji [] (fun (y12 : Bool) (e : Env) (w : World) => ∃ (s : St) (e0 : Env), w = s.w ∧ e = upd (upd (upd e0 2 (.pointer (some ⟨b3, 0, none⟩))) 3 (.pointer (some ⟨b5, 0, none⟩))) 13 (.bool y12) ∧ Kp s0 s ∧ BlF s b5 48 [(.int .i64 a1.Kind), (.int .i64 a1.N), w1_0, w1_1] 41 ∧ BlF s b3 48 [(.int .i64 a0.Kind), (.int .i64 a0.N), w0_0, w0_1] 40) (fun Gj12 Kj12 => ?_) ?_
 ·
  rcases Bool.eq_false_or_eq_true (!r10) with hb12 | hb12
  ·
   refine sbT hb12 ?_
   rw [if_pos hb12]
   refine uw rfl rfl rfl rfl ?_
   refine uw rfl rfl rfl rfl ?_
   refine uw rfl rfl rfl rfl ?_
   refine pu rfl rfl rfl rfl rfl ?_
   have A13 := (BlF.st B5 p11 rfl)
   have A14 := (BlF.st A7 p11 rfl)
   have K15 := (K8.st p11 rfl)
   exact Kj12 _ _ _ ⟨s11, _, rfl, (ue (ue (ue rfl rfl) rfl) rfl), K15, A13, A14⟩
  ·
   refine sbT hb12 ?_
   rw [if_neg (by rw [hb12]; decide)]
   have A16 := (BlF.st B5 p11 rfl)
   refine lda (es := [(.int .i64 a1.Kind), (.int .i64 a1.N), w1_0, w1_1]) A16 Try.underlying48 z48 rfl rfl rfl rfl rfl rfl rfl rfl ?_
   have K17 := (K8.st p11 rfl)
   have A18 := (A1_1.kp K17)
   refine cl rfl rfl rfl rfl rfl Try.func174 rfl rfl rfl (fun r19 m19 => spec_ItemOk.calls a1 s11.w (fun b => memb [0] (s11.g b) = true) w1_0 w1_1 ((fl_rdf (s := s11) A1_0).sub (D := [0]) rfl) A18 r19 m19) ?_
   rintro r19 _ w19 m19 ⟨rfl, ky19⟩
   obtain ⟨s20, rfl, p20, n20⟩ := nwx s11 w19 43 ky19
   refine pu rfl rfl rfl rfl rfl ?_
   refine pu rfl rfl rfl rfl rfl ?_
   have A21 := (BlF.st A16 p20 rfl)
   have A22 := (BlF.st (BlF.st A7 p11 rfl) p20 rfl)
   have K23 := (K17.st p20 rfl)
   exact Kj12 _ _ _ ⟨s20, _, rfl, (ue (ue (ue rfl rfl) rfl) rfl), K23, A21, A22⟩
 rintro y12 _ _ ⟨s24, _, rfl, rfl, Ky12, By12_b5, By12_b3⟩
 refine dn ?_
 refine cd rfl (fun h27 => ?_) (fun h27 => ?_)
 ·
  refine sr ?_
  refine pu rfl rfl rfl rfl rfl ?_
  refine dn ?_
  exact re rfl Try.func137 rfl (r_t rfl r_nil) rfl ⟨_, rfl, rfl, z.ky Ky12⟩
 ·
  refine sk ?_
  refine sq ?_
  refine sr ?_
  refine fa fa48_0 rfl rfl rfl rfl rfl rfl ?_
  refine ld By12_b3 Try.underlying3 rfl rfl rfl rfl rfl rfl rfl rfl ?_
  refine fa fa48_0 rfl rfl rfl rfl rfl rfl ?_
  refine ld By12_b5 Try.underlying3 rfl rfl rfl rfl rfl rfl rfl rfl ?_
  refine pu rfl rfl rfl rfl rfl ?_
  refine dn ?_
  refine cd rfl (fun h28 => ?_) (fun h28 => ?_)
  ·
   refine sq ?_
   refine sr ?_
   refine fa fa48_0 rfl rfl rfl rfl rfl rfl ?_
   refine ld By12_b3 Try.underlying3 rfl rfl rfl rfl rfl rfl rfl rfl ?_
   refine fa fa48_0 rfl rfl rfl rfl rfl rfl ?_
   refine ld By12_b5 Try.underlying3 rfl rfl rfl rfl rfl rfl rfl rfl ?_
   refine pu rfl rfl rfl rfl rfl ?_
   refine dn ?_
   refine cd rfl (fun h29 => ?_) (fun h29 => ?_)
   ·
    refine sr ?_
    refine pu rfl rfl rfl rfl rfl ?_
    refine dn ?_
    exact re rfl Try.func137 rfl (r_t rfl r_nil) rfl ⟨_, rfl, rfl, z.ky Ky12⟩
   ·
    refine sk ?_
    refine sr ?_
    refine pu rfl rfl rfl rfl rfl ?_
    refine dn ?_
    exact re rfl Try.func137 rfl (r_t rfl r_nil) rfl ⟨_, rfl, rfl, z.ky Ky12⟩
  ·
   refine sk ?_
   refine sq ?_
   refine sr ?_
   refine fa fa48_1 rfl rfl rfl rfl rfl rfl ?_
   refine ld By12_b3 Try.underlying3 rfl rfl rfl rfl rfl rfl rfl rfl ?_
   refine fa fa48_1 rfl rfl rfl rfl rfl rfl ?_
   refine ld By12_b5 Try.underlying3 rfl rfl rfl rfl rfl rfl rfl rfl ?_
   refine pu rfl rfl rfl rfl rfl ?_
   refine dn ?_
   refine cd rfl (fun h30 => ?_) (fun h30 => ?_)
   ·
    refine sq ?_
    refine sr ?_
    refine fa fa48_1 rfl rfl rfl rfl rfl rfl ?_
    refine ld By12_b3 Try.underlying3 rfl rfl rfl rfl rfl rfl rfl rfl ?_
    refine fa fa48_1 rfl rfl rfl rfl rfl rfl ?_
    refine ld By12_b5 Try.underlying3 rfl rfl rfl rfl rfl rfl rfl rfl ?_
    refine pu rfl rfl rfl rfl rfl ?_
    refine dn ?_
    refine cd rfl (fun h31 => ?_) (fun h31 => ?_)
    ·
     refine sr ?_
     refine pu rfl rfl rfl rfl rfl ?_
     refine dn ?_
     exact re rfl Try.func137 rfl (r_t rfl r_nil) rfl ⟨_, rfl, rfl, z.ky Ky12⟩
    ·
     refine sk ?_
     refine sr ?_
     refine pu rfl rfl rfl rfl rfl ?_
     refine dn ?_
     exact re rfl Try.func137 rfl (r_t rfl r_nil) rfl ⟨_, rfl, rfl, z.ky Ky12⟩
   ·
    refine sk ?_
    refine sr ?_
    refine fa fa48_2 rfl rfl rfl rfl rfl rfl ?_
    refine ld By12_b3 Try.underlying36 rfl rfl rfl rfl rfl rfl rfl rfl ?_
    refine fa fa48_2 rfl rfl rfl rfl rfl rfl ?_
    refine ld By12_b5 Try.underlying36 rfl rfl rfl rfl rfl rfl rfl rfl ?_
    refine cl rfl rfl rfl rfl rfl Try.func187 rfl rfl rfl (fun r32 m32 => spec_FloatCompare.calls a0.F a1.F s24.w (fun b => memb [] (s24.g b) = true) w0_0 w1_0 (fl_rdf (s := s24) A0_0) (fl_rdf (s := s24) A1_0) r32 m32) ?_
    rintro r32 _ w32 m32 ⟨rfl, ky32⟩
    obtain ⟨s33, rfl, p33, n33⟩ := nwx s24 w32 44 ky32
    refine pu rfl rfl rfl rfl rfl ?_
    refine dn ?_
    refine sq ?_
    refine sr ?_
    refine pu rfl rfl rfl rfl rfl ?_
    refine pu rfl rfl rfl rfl rfl ?_
    refine dn ?_
    refine cd rfl (fun h34 => ?_) (fun h34 => ?_)
    ·
     refine sr ?_
     refine pu rfl rfl rfl rfl rfl ?_
     refine pu rfl rfl rfl rfl rfl ?_
     refine dn ?_
     have K35 := (Ky12.st p33 rfl)
     exact re rfl Try.func137 rfl (r_t rfl r_nil) rfl ⟨_, rfl, rfl, z.ky K35⟩
    ·
     refine sk ?_
     refine sr ?_
     refine fa fa48_3 rfl rfl rfl rfl rfl rfl ?_
     have A36 := (BlF.st By12_b3 p33 rfl)
     refine ld A36 Try.underlying37 rfl rfl rfl rfl rfl rfl rfl rfl ?_
     refine fa fa48_3 rfl rfl rfl rfl rfl rfl ?_
     have A37 := (BlF.st By12_b5 p33 rfl)
     refine ld A37 Try.underlying37 rfl rfl rfl rfl rfl rfl rfl rfl ?_
     have K38 := (Ky12.st p33 rfl)
     have A39 := (A0_1.kp K38)
     have A40 := (A1_1.kp K38)
     refine cl rfl rfl rfl rfl rfl Try.func188 rfl rfl rfl (fun r41 m41 => spec_l3texts.calls a0.T a1.T s33.w (fun b => memb [0] (s33.g b) = true) w0_1 w1_1 A39 A40 r41 m41) ?_
     rintro r41 _ w41 m41 ⟨rfl, ky41⟩
     obtain ⟨s42, rfl, p42, n42⟩ := nwx s33 w41 45 ky41
     refine pu rfl rfl rfl rfl rfl ?_
     refine dn ?_
     have K43 := (K38.st p42 rfl)
     exact re rfl Try.func137 rfl (r_t rfl r_nil) rfl ⟨_, rfl, rfl, z.ky K43⟩
noncomputable def spec_SpanOk.f (a0 : Span) : Option (Bool) :=
 ((spec_KeyOk.f a0.From).bind fun r7 => ((if r7 = true then ((spec_KeyOk.f a0.To).bind fun r13 => (some r13)) else (some false)).bind fun y9 => ((if y9 = true then ((spec_ItemCompare.f a0.From a0.To).bind fun r24 => (some (decide (r24 ≤ (0 : Int))))) else (some false)).bind fun y21 => (some y21))))
def spec_SpanOk.Q (w : World) (F : Nat → Prop) (r : Bool) (v : Value) (w' : World) : Prop :=
 v = (.bool r) ∧ Ky [] w w'
set_option maxHeartbeats 4000000 in
set_option maxRecDepth 100000 in
theorem spec_SpanOk.calls (a0 : Span) (w : World) (F : Nat → Prop) (w0_0 : Value) (w0_1 : Value) (w0_2 : Value) (w0_3 : Value) (h0_0 : Kd.flt.rd w [w0_0] a0.From.F F) (h0_1 : (Kd.sl 5 (Kd.int .u8)).rd w [w0_1] a0.From.T F) (h0_2 : Kd.flt.rd w [w0_2] a0.To.F F) (h0_3 : (Kd.sl 5 (Kd.int .u8)).rd w [w0_3] a0.To.T F) (r : Bool) (m : spec_SpanOk.f a0 = some r) :
  Calls Try.prog 107 #[(.agg #[(.int .i64 a0.From.Kind), (.int .i64 a0.From.N), w0_0, w0_1, (.int .i64 a0.To.Kind), (.int .i64 a0.To.N), w0_2, w0_3])] w fun en w' => ∃ v, en = .returned v ∧ spec_SpanOk.Q w F r v w' := by
 obtain ⟨s0, rfl, kp0, z⟩ := start0 w F
 have A0_0 := fl_of h0_0
 have A0_1 := z.rd h0_1
 have A0_2 := fl_of h0_2
 have A0_3 := z.rd h0_3
 refine calls_of_TM (args := [(.agg #[(.int .i64 a0.From.Kind), (.int .i64 a0.From.N), w0_0, w0_1, (.int .i64 a0.To.Kind), (.int .i64 a0.To.N), w0_2, w0_3])]) (R := fun r en w' => ∃ v, en = .returned v ∧ spec_SpanOk.Q s0.w F r v w') Try.func107 Try.ntmps107 rfl rfl m ?_
 unfold spec_SpanOk.f
 refine sr ?_
 refine bx (cs := [(.int .i64 a0.From.Kind), (.int .i64 a0.From.N), w0_0, w0_1, (.int .i64 a0.To.Kind), (.int .i64 a0.To.N), w0_2, w0_3]) 40 rfl rfl rfl rfl rfl rfl (fun b3 s3 p3 B3 => ?_)
 refine pu rfl rfl rfl rfl rfl ?_
 refine dn ?_
 refine sr ?_
 refine fa fa80_0 rfl rfl rfl rfl rfl rfl ?_
 refine lda (es := [(.int .i64 a0.From.Kind), (.int .i64 a0.From.N), w0_0, w0_1]) B3 Try.underlying48 z48 rfl rfl rfl rfl rfl rfl rfl rfl ?_
 have K5 := (kp0.st p3 rfl)
 have A6 := (A0_1.kp K5)
 refine cl rfl rfl rfl rfl rfl Try.func120 rfl rfl rfl (fun r7 m7 => spec_KeyOk.calls a0.From s3.w (fun b => memb [0] (s3.g b) = true) w0_0 w0_1 ((fl_rdf (s := s3) A0_0).sub (D := [0]) rfl) A6 r7 m7) ?_
 rintro r7 _ w7 m7 ⟨rfl, ky7⟩
 obtain ⟨s8, rfl, p8, n8⟩ := nwx s3 w7 41 ky7
 refine pu rfl rfl rfl rfl rfl ?_
 refine ji [8, 9, 10, 11, 12, 13, 14, 15, 16] (fun (y9 : Bool) (e : Env) (w : World) => ∃ (s : St) (e0 : Env), w = s.w ∧ e = upd (upd e0 1 (.pointer (some ⟨b3, 0, none⟩))) 10 (.bool y9) ∧ Kp s0 s ∧ BlF s b3 80 [(.int .i64 a0.From.Kind), (.int .i64 a0.From.N), w0_0, w0_1, (.int .i64 a0.To.Kind), (.int .i64 a0.To.N), w0_2, w0_3] 40) (fun Gj9 Kj9 => ?_) ?_
 ·
  rcases Bool.eq_false_or_eq_true r7 with hb9 | hb9
  ·
   refine sbT hb9 ?_
   rw [if_pos hb9]
   refine fa fa80_1 rfl rfl rfl rfl rfl rfl ?_
   have A10 := (BlF.st B3 p8 rfl)
   refine lda (es := [(.int .i64 a0.To.Kind), (.int .i64 a0.To.N), w0_2, w0_3]) A10 Try.underlying48 z48 rfl rfl rfl rfl rfl rfl rfl rfl ?_
   have K11 := (K5.st p8 rfl)
   have A12 := (A0_3.kp K11)
   refine cl rfl rfl rfl rfl rfl Try.func120 rfl rfl rfl (fun r13 m13 => spec_KeyOk.calls a0.To s8.w (fun b => memb [0] (s8.g b) = true) w0_2 w0_3 ((fl_rdf (s := s8) A0_2).sub (D := [0]) rfl) A12 r13 m13) ?_
   rintro r13 _ w13 m13 ⟨rfl, ky13⟩
   obtain ⟨s14, rfl, p14, n14⟩ := nwx s8 w13 42 ky13
   refine pu rfl rfl rfl rfl rfl ?_
   have A15 := (BlF.st A10 p14 rfl)
   have K16 := (K11.st p14 rfl)
   exact Kj9 _ _ _ ⟨s14, _, rfl, (ue (ue rfl rfl) rfl), K16, A15⟩
  ·
   refine sbT hb9 ?_
   rw [if_neg (by rw [hb9]; decide)]
   refine uw rfl rfl rfl rfl ?_
   refine uw rfl rfl rfl rfl ?_
   refine uw rfl rfl rfl rfl ?_
   refine pu rfl rfl rfl rfl rfl ?_
   have A17 := (BlF.st B3 p8 rfl)
   have K18 := (K5.st p8 rfl)
   exact Kj9 _ _ _ ⟨s8, _, rfl, (ue (ue rfl rfl) rfl), K18, A17⟩
 rintro y9 _ _ ⟨s19, _, rfl, rfl, Ky9, By9_b3⟩
 refine pu rfl rfl rfl rfl rfl ?_
 refine ji [16] (fun (y21 : Bool) (e : Env) (w : World) => ∃ (s : St) (e0 : Env), w = s.w ∧ e = upd e0 18 (.bool y21) ∧ Kp s0 s) (fun Gj21 Kj21 => ?_) ?_
 ·
  rcases Bool.eq_false_or_eq_true y9 with hb21 | hb21
  ·
   refine sbT hb21 ?_
   rw [if_pos hb21]
   refine fa fa80_0 rfl rfl rfl rfl rfl rfl ?_
   refine lda (es := [(.int .i64 a0.From.Kind), (.int .i64 a0.From.N), w0_0, w0_1]) By9_b3 Try.underlying48 z48 rfl rfl rfl rfl rfl rfl rfl rfl ?_
   refine fa fa80_1 rfl rfl rfl rfl rfl rfl ?_
   refine lda (es := [(.int .i64 a0.To.Kind), (.int .i64 a0.To.N), w0_2, w0_3]) By9_b3 Try.underlying48 z48 rfl rfl rfl rfl rfl rfl rfl rfl ?_
   have A22 := (A0_1.kp Ky9)
   have A23 := (A0_3.kp Ky9)
   refine cl rfl rfl rfl rfl rfl Try.func137 rfl rfl rfl (fun r24 m24 => spec_ItemCompare.calls a0.From a0.To s19.w (fun b => memb [0] (s19.g b) = true) w0_0 w0_1 w0_2 w0_3 ((fl_rdf (s := s19) A0_0).sub (D := [0]) rfl) A22 ((fl_rdf (s := s19) A0_2).sub (D := [0]) rfl) A23 r24 m24) ?_
   rintro r24 _ w24 m24 ⟨rfl, ky24⟩
   obtain ⟨s25, rfl, p25, n25⟩ := nwx s19 w24 43 ky24
   refine pu rfl rfl rfl rfl rfl ?_
   refine pu rfl rfl rfl rfl rfl ?_
   have K26 := (Ky9.st p25 rfl)
   exact Kj21 _ _ _ ⟨s25, _, rfl, (ue rfl rfl), K26⟩
  ·
   refine sbT hb21 ?_
   rw [if_neg (by rw [hb21]; decide)]
   refine uw rfl rfl rfl rfl ?_
   refine uw rfl rfl rfl rfl ?_
   refine uw rfl rfl rfl rfl ?_
   refine uw rfl rfl rfl rfl ?_
   refine uw rfl rfl rfl rfl ?_
   refine uw rfl rfl rfl rfl ?_
   refine pu rfl rfl rfl rfl rfl ?_
   exact Kj21 _ _ _ ⟨s19, _, rfl, (ue rfl rfl), Ky9⟩
 rintro y21 _ _ ⟨s27, _, rfl, rfl, Ky21⟩
 refine pu rfl rfl rfl rfl rfl ?_
 refine dn ?_
 exact re rfl Try.func107 rfl (r_t rfl r_nil) rfl ⟨_, rfl, rfl, z.ky Ky21⟩
noncomputable def spec_DeedsOk.b3 (a0 : (List Deed)) (x3 : (List Int) × Int) (x62 : Int) : Option (Int ⊕ ((List Int) × Int ⊕ Bool)) :=
 (if (decide (x62 < (x3.1.length : Int))) = true then (if 0 ≤ x62 ∧ x62 < (x3.1.length : Int) then ((if ((at_ x3.1 x62) == (at_ a0 x3.2).Begun) = true then (some true) else (if 0 ≤ x62 ∧ x62 < (x3.1.length : Int) then (some ((at_ x3.1 x62) == (at_ a0 x3.2).Ended)) else none)).bind fun y79 => (if y79 = true then (some (Sum.inr (Sum.inr false))) else (some (Sum.inl (IntKind.wrap .i64 (x62 + (1 : Int))))))) else none) else ((if x3.1.length + ([(at_ a0 x3.2).Begun]).length ≤ Lim then (if (x3.1 ++ [(at_ a0 x3.2).Begun]).length + ([(at_ a0 x3.2).Ended]).length ≤ Lim then (some (Sum.inl (((x3.1 ++ [(at_ a0 x3.2).Begun]) ++ [(at_ a0 x3.2).Ended]), (IntKind.wrap .i64 (x3.2 + (1 : Int)))))) else none) else none).bind fun o => some (Sum.inr o)))
noncomputable def spec_DeedsOk.b2 (a0 : (List Deed)) (x3 : (List Int) × Int) (x46 : Int) : Option (Int ⊕ ((List Int) × Int ⊕ Bool)) :=
 (if (decide (x46 < (((at_ a0 x3.2).Writes).length : Int))) = true then (if 0 ≤ x46 ∧ x46 < (((at_ a0 x3.2).Writes).length : Int) then ((spec_KeyOk.f (at_ ((at_ a0 x3.2).Writes) x46)).bind fun r53 => (if (!r53) = true then (some (Sum.inr (Sum.inr false))) else (some (Sum.inl (IntKind.wrap .i64 (x46 + (1 : Int))))))) else none) else ((iter (spec_DeedsOk.b3 a0 x3) (0 : Int)).bind fun o => some (Sum.inr o)))
noncomputable def spec_DeedsOk.b1 (a0 : (List Deed)) (x3 : (List Int) × Int) (x25 : Int) : Option (Int ⊕ ((List Int) × Int ⊕ Bool)) :=
 (if (decide (x25 < (((at_ a0 x3.2).Reads).length : Int))) = true then (if 0 ≤ x25 ∧ x25 < (((at_ a0 x3.2).Reads).length : Int) then ((spec_SpanOk.f (Span.mk ((at_ ((at_ a0 x3.2).Reads) x25).From) ((at_ ((at_ a0 x3.2).Reads) x25).To))).bind fun r37 => (if (!r37) = true then (some (Sum.inr (Sum.inr false))) else (some (Sum.inl (IntKind.wrap .i64 (x25 + (1 : Int))))))) else none) else ((iter (spec_DeedsOk.b2 a0 x3) (0 : Int)).bind fun o => some (Sum.inr o)))
noncomputable def spec_DeedsOk.b0 (a0 : (List Deed)) (x3 : (List Int) × Int) : Option (((List Int) × Int) ⊕ Bool) :=
 (if (decide (x3.2 < (a0.length : Int))) = true then (if 0 ≤ x3.2 ∧ x3.2 < (a0.length : Int) then (if ((((decide ((at_ a0 x3.2).Begun < (1 : Int))) || (decide ((at_ a0 x3.2).Ended ≤ (at_ a0 x3.2).Begun))) || (decide ((((at_ a0 x3.2).Reads).length : Int) > (200 : Int)))) || (decide ((((at_ a0 x3.2).Writes).length : Int) > (200 : Int)))) = true then (some (Sum.inr false)) else (iter (spec_DeedsOk.b1 a0 x3) (0 : Int))) else none) else ((some true).bind fun o => some (Sum.inr o)))
noncomputable def spec_DeedsOk.f (a0 : (List Deed)) : Option (Bool) :=
 (if (decide ((a0.length : Int) > (100 : Int))) = true then (some false) else (iter (spec_DeedsOk.b0 a0) (([] : (List Int)), (0 : Int))))
def spec_DeedsOk.Q (w : World) (F : Nat → Prop) (r : Bool) (v : Value) (w' : World) : Prop :=
 v = (.bool r) ∧ Ky [] w w'
set_option maxHeartbeats 4000000 in
set_option maxRecDepth 100000 in
theorem spec_DeedsOk.calls (a0 : (List Deed)) (w : World) (F : Nat → Prop) (w0_0 : Value) (h0_0 : (Kd.sl 99 kd99).rd w [w0_0] a0 F) (r : Bool) (m : spec_DeedsOk.f a0 = some r) :
  Calls Try.prog 47 #[w0_0] w fun en w' => ∃ v, en = .returned v ∧ spec_DeedsOk.Q w F r v w' := by
 obtain ⟨s0, rfl, kp0, z⟩ := start0 w F
 have A0_0 := z.rd h0_0
 refine calls_of_TM (args := [w0_0]) (R := fun r en w' => ∃ v, en = .returned v ∧ spec_DeedsOk.Q s0.w F r v w') Try.func47 Try.ntmps47 rfl rfl m ?_
 unfold spec_DeedsOk.f
 refine sr ?_
 refine pu rfl rfl rfl rfl rfl ?_
 refine dn ?_
 refine sq ?_
 refine sr ?_
 refine mv w0_0 rfl rfl rfl rfl rfl rfl ?_
 refine ln A0_0 Try.underlying26 rfl rfl rfl rfl rfl rfl ?_
 refine pu rfl rfl rfl rfl rfl ?_
 refine dn ?_
 refine cd rfl (fun h2 => ?_) (fun h2 => ?_)
 ·
  refine sr ?_
  refine pu rfl rfl rfl rfl rfl ?_
  refine dn ?_
  exact re rfl Try.func47 rfl (r_t rfl r_nil) rfl ⟨_, rfl, rfl, z.ky kp0⟩
 ·
  refine sk ?_
  refine sr ?_
  refine pu rfl rfl rfl rfl rfl ?_
  refine dn ?_
  refine sq ?_
  refine sr ?_
  refine pu rfl rfl rfl rfl rfl ?_
  refine dn ?_
  refine bl ?_
  refine lpI (fun (x3 : (List Int) × Int) (e : Env) (w : World) => ∃ (s : St) (e0 : Env) (vx3_0 : Value), w = s.w ∧ e = upd (upd (upd e0 0 w0_0) 3 vx3_0) 4 (.int .i64 x3.2) ∧ Kp s0 s ∧ OwF (Kd.sl 3 (Kd.int .i64)) s [vx3_0] x3.1 40) ⟨s0, _, (.slice none 0 0), rfl, (ue (ue (ue rfl rfl) rfl) rfl), kp0, (ow_nil 3 (Kd.int .i64) _ 40)⟩ (fun g3 ih3 => ?_)
  rintro x3 _ _ ⟨s4, _, vx3_0, rfl, rfl, Kx3, Ax3_0⟩
  unfold spec_DeedsOk.b0
  refine sq ?_
  refine sr ?_
  refine pu rfl rfl rfl rfl rfl ?_
  refine mv w0_0 rfl rfl rfl rfl rfl rfl ?_
  have A6 := (A0_0.kp Kx3)
  refine ln A6 Try.underlying26 rfl rfl rfl rfl rfl rfl ?_
  refine pu rfl rfl rfl rfl rfl ?_
  refine dn ?_
  refine cd rfl (fun h7 => ?_) (fun h7 => ?_)
  ·
   refine sk ?_
   refine sq ?_
   refine bl ?_
   refine sr ?_
   refine mv w0_0 rfl rfl rfl rfl rfl rfl ?_
   refine pu rfl rfl rfl rfl rfl ?_
   refine ix A6 Try.underlying26 z99 rfl rfl rfl rfl rfl rfl rfl rfl (fun ad8 es8 h0_8 h1_8 he8 ce8 ia8 => ?_)
   obtain ⟨v8_0, v8_1, rfl, A8_0, A8_1⟩ := op99 he8
   refine lca ce8 Try.underlying99 z99 rfl rfl rfl rfl rfl rfl rfl ?_
   refine al (cs := [(.int .i64 (0 : Int)), (.int .i64 (0 : Int)), (.int .i64 (0 : Int)), (.slice none 0 0), (.slice none 0 0)]) 41 rfl rfl rfl rfl rfl o99 rfl (fun b12 s12 p12 B12 => ?_)
   have A14 := (A8_1.st p12 rfl)
   have A15 := (A8_0.st p12 rfl)
   refine sva (vs := [(.int .i64 ((at_ a0 x3.2).Xid)), (.int .i64 ((at_ a0 x3.2).Begun)), (.int .i64 ((at_ a0 x3.2).Ended)), v8_0, v8_1]) B12 z99 rfl rfl rfl rfl rfl rfl (on_cons rfl (on_cons rfl (on_cons rfl (on_cons A15.one (on_cons A14.one on_nil))))) rfl (fun s16 p16 B16 => ?_)
   refine dn ?_
   refine sq ?_
   refine sr ?_
   refine fa fa99_1 rfl rfl rfl rfl rfl rfl ?_
   refine ld B16 Try.underlying3 rfl rfl rfl rfl rfl rfl rfl rfl ?_
   refine pu rfl rfl rfl rfl rfl ?_
   refine pu rfl rfl rfl rfl rfl ?_
   refine jy [25, 26, 27, 28, 29, 30, 31] [10, 11, 12, 13, 14, 15, 16, 17, 18, 19, 20, 21] 31 (.bool ((decide ((at_ a0 x3.2).Begun < (1 : Int))) || (decide ((at_ a0 x3.2).Ended ≤ (at_ a0 x3.2).Begun)))) rfl (fun Kg18 => ?_) (fun j18 => ?_)
   ·
    rcases Bool.eq_false_or_eq_true (decide ((at_ a0 x3.2).Begun < (1 : Int))) with hb18 | hb18
    ·
     refine sbT hb18 ?_
     refine uw rfl rfl rfl rfl ?_
     refine uw rfl rfl rfl rfl ?_
     refine uw rfl rfl rfl rfl ?_
     refine uw rfl rfl rfl rfl ?_
     refine uw rfl rfl rfl rfl ?_
     refine pu rfl rfl rfl rfl rfl ?_
     exact Kg18 _ (Ag.put ((Ag.put ((Ag.put ((Ag.put ((Ag.put ((Ag.put (Ag.base rfl) rfl)) rfl)) rfl)) rfl)) rfl)) rfl) (by rw [hb18]; rfl)
    ·
     refine sbT hb18 ?_
     refine fa fa99_2 rfl rfl rfl rfl rfl rfl ?_
     refine ld B16 Try.underlying3 rfl rfl rfl rfl rfl rfl rfl rfl ?_
     refine fa fa99_1 rfl rfl rfl rfl rfl rfl ?_
     refine ld B16 Try.underlying3 rfl rfl rfl rfl rfl rfl rfl rfl ?_
     refine pu rfl rfl rfl rfl rfl ?_
     refine pu rfl rfl rfl rfl rfl ?_
     exact Kg18 _ (Ag.put ((Ag.put ((Ag.put ((Ag.put ((Ag.put ((Ag.put (Ag.base rfl) rfl)) rfl)) rfl)) rfl)) rfl)) rfl) (by rw [hb18]; rfl)
   refine pu rfl rfl rfl rfl rfl ?_
   refine jy [32, 33, 34, 35, 36, 37] [16, 17, 18, 19, 20, 21] 37 (.bool (((decide ((at_ a0 x3.2).Begun < (1 : Int))) || (decide ((at_ a0 x3.2).Ended ≤ (at_ a0 x3.2).Begun))) || (decide ((((at_ a0 x3.2).Reads).length : Int) > (200 : Int))))) rfl (fun Kg19 => ?_) (fun j19 => ?_)
   ·
    rcases Bool.eq_false_or_eq_true ((decide ((at_ a0 x3.2).Begun < (1 : Int))) || (decide ((at_ a0 x3.2).Ended ≤ (at_ a0 x3.2).Begun))) with hb19 | hb19
    ·
     refine sbT hb19 ?_
     refine uw rfl rfl rfl rfl ?_
     refine uw rfl rfl rfl rfl ?_
     refine uw rfl rfl rfl rfl ?_
     refine uw rfl rfl rfl rfl ?_
     refine pu rfl rfl rfl rfl rfl ?_
     exact Kg19 _ (Ag.put ((Ag.put ((Ag.put ((Ag.put ((Ag.put (Ag.base rfl) rfl)) rfl)) rfl)) rfl)) rfl) (by rw [hb19]; rfl)
    ·
     refine sbT hb19 ?_
     refine fa fa99_3 rfl rfl rfl rfl rfl rfl ?_
     refine ld B16 Try.underlying56 rfl rfl rfl rfl rfl rfl rfl rfl ?_
     have A20 := (A15.st p16 rfl)
     refine ln A20 Try.underlying56 rfl rfl rfl rfl rfl rfl ?_
     refine pu rfl rfl rfl rfl rfl ?_
     refine pu rfl rfl rfl rfl rfl ?_
     exact Kg19 _ (Ag.put ((Ag.put ((Ag.put ((Ag.put ((Ag.put (Ag.base rfl) rfl)) rfl)) rfl)) rfl)) rfl) (by rw [hb19]; rfl)
   refine pu rfl rfl rfl rfl rfl ?_
   refine jy [38, 39, 40, 41, 42, 43] [] 43 (.bool ((((decide ((at_ a0 x3.2).Begun < (1 : Int))) || (decide ((at_ a0 x3.2).Ended ≤ (at_ a0 x3.2).Begun))) || (decide ((((at_ a0 x3.2).Reads).length : Int) > (200 : Int)))) || (decide ((((at_ a0 x3.2).Writes).length : Int) > (200 : Int))))) rfl (fun Kg21 => ?_) (fun j21 => ?_)
   ·
    rcases Bool.eq_false_or_eq_true (((decide ((at_ a0 x3.2).Begun < (1 : Int))) || (decide ((at_ a0 x3.2).Ended ≤ (at_ a0 x3.2).Begun))) || (decide ((((at_ a0 x3.2).Reads).length : Int) > (200 : Int)))) with hb21 | hb21
    ·
     refine sbT hb21 ?_
     refine uw rfl rfl rfl rfl ?_
     refine uw rfl rfl rfl rfl ?_
     refine uw rfl rfl rfl rfl ?_
     refine uw rfl rfl rfl rfl ?_
     refine pu rfl rfl rfl rfl rfl ?_
     exact Kg21 _ (Ag.put ((Ag.put ((Ag.put ((Ag.put ((Ag.put (Ag.base rfl) rfl)) rfl)) rfl)) rfl)) rfl) (by rw [hb21]; rfl)
    ·
     refine sbT hb21 ?_
     refine fa fa99_4 rfl rfl rfl rfl rfl rfl ?_
     refine ld B16 Try.underlying57 rfl rfl rfl rfl rfl rfl rfl rfl ?_
     have A22 := (A14.st p16 rfl)
     refine ln A22 Try.underlying57 rfl rfl rfl rfl rfl rfl ?_
     refine pu rfl rfl rfl rfl rfl ?_
     refine pu rfl rfl rfl rfl rfl ?_
     exact Kg21 _ (Ag.put ((Ag.put ((Ag.put ((Ag.put ((Ag.put (Ag.base rfl) rfl)) rfl)) rfl)) rfl)) rfl) (by rw [hb21]; rfl)
   refine dn ?_
   refine cd rfl (fun h23 => ?_) (fun h23 => ?_)
   ·
    refine sr ?_
    refine pu rfl rfl rfl rfl rfl ?_
    refine dn ?_
    refine sgi ?_
    have K24 := ((Kx3.st p12 rfl).st p16 rfl)
    exact re rfl Try.func47 rfl (r_t rfl r_nil) rfl ⟨_, rfl, rfl, z.ky K24⟩
   ·
    refine sk ?_
    refine sq ?_
    refine sr ?_
    refine pu rfl rfl rfl rfl rfl ?_
    refine dn ?_
    refine bl ?_
    have A26 := ((Ax3_0.st p12 rfl).st p16 rfl)
    have A27 := (A15.st p16 rfl)
    have A28 := (A14.st p16 rfl)
    have K29 := ((Kx3.st p12 rfl).st p16 rfl)
    refine lpI (fun (x25 : Int) (e : Env) (w : World) => ∃ (s : St) (e0 : Env), w = s.w ∧ e = upd (upd (upd (upd (upd e0 0 w0_0) 3 vx3_0) 4 (.int .i64 x3.2)) 5 (.pointer (some ⟨b12, 0, none⟩))) 6 (.int .i64 x25) ∧ Kp s0 s ∧ BlF s b12 99 [(.int .i64 ((at_ a0 x3.2).Xid)), (.int .i64 ((at_ a0 x3.2).Begun)), (.int .i64 ((at_ a0 x3.2).Ended)), v8_0, v8_1] 41 ∧ OwF (Kd.sl 3 (Kd.int .i64)) s [vx3_0] x3.1 40 ∧ RdF (Kd.sl 80 kd80) s [v8_0] ((at_ a0 x3.2).Reads) [0] ∧ RdF (Kd.sl 48 kd48) s [v8_1] ((at_ a0 x3.2).Writes) [0]) ⟨s16, _, rfl, (ue (ue (ue (ue (ue rfl rfl) rfl) rfl) rfl) rfl), K29, B16, A26, A27, A28⟩ (fun g25 ih25 => ?_)
    rintro x25 _ _ ⟨s30, _, rfl, rfl, Kx25, Bx25_b12, Cx25_5, Cx25_9, Cx25_10⟩
    unfold spec_DeedsOk.b1
    refine sq ?_
    refine sr ?_
    refine pu rfl rfl rfl rfl rfl ?_
    refine fa fa99_3 rfl rfl rfl rfl rfl rfl ?_
    refine ld Bx25_b12 Try.underlying56 rfl rfl rfl rfl rfl rfl rfl rfl ?_
    refine ln Cx25_9 Try.underlying56 rfl rfl rfl rfl rfl rfl ?_
    refine pu rfl rfl rfl rfl rfl ?_
    refine dn ?_
    refine cd rfl (fun h32 => ?_) (fun h32 => ?_)
    ·
     refine sk ?_
     refine sq ?_
     refine bl ?_
     refine sr ?_
     refine fa fa99_3 rfl rfl rfl rfl rfl rfl ?_
     refine ld Bx25_b12 Try.underlying56 rfl rfl rfl rfl rfl rfl rfl rfl ?_
     refine pu rfl rfl rfl rfl rfl ?_
     refine ix Cx25_9 Try.underlying56 z80 rfl rfl rfl rfl rfl rfl rfl rfl (fun ad33 es33 h0_33 h1_33 he33 ce33 ia33 => ?_)
     obtain ⟨v33_0, v33_1, v33_2, v33_3, rfl, A33_0, A33_1, A33_2, A33_3⟩ := op80 he33
     refine lca ce33 Try.underlying80 z80 rfl rfl rfl rfl rfl rfl rfl ?_
     refine cl rfl rfl rfl rfl rfl Try.func107 rfl rfl rfl (fun r37 m37 => spec_SpanOk.calls (Span.mk ((at_ ((at_ a0 x3.2).Reads) x25).From) ((at_ ((at_ a0 x3.2).Reads) x25).To)) s30.w (fun b => memb [0] (s30.g b) = true) v33_0 v33_1 v33_2 v33_3 ((fl_rdf (s := s30) A33_0).sub (D := [0]) rfl) A33_1 ((fl_rdf (s := s30) A33_2).sub (D := [0]) rfl) A33_3 r37 m37) ?_
     rintro r37 _ w37 m37 ⟨rfl, ky37⟩
     obtain ⟨s38, rfl, p38, n38⟩ := nwx s30 w37 42 ky37
     refine pu rfl rfl rfl rfl rfl ?_
     refine dn ?_
     refine cd rfl (fun h39 => ?_) (fun h39 => ?_)
     ·
      refine sr ?_
      refine pu rfl rfl rfl rfl rfl ?_
      refine dn ?_
      refine sgi ?_
      refine sgi ?_
      have K40 := (Kx25.st p38 rfl)
      exact re rfl Try.func47 rfl (r_t rfl r_nil) rfl ⟨_, rfl, rfl, z.ky K40⟩
     ·
      refine sk ?_
      refine ib ?_
      refine rg ?_
      refine pu rfl rfl rfl rfl rfl ?_
      refine pu rfl rfl rfl rfl rfl ?_
      refine pu rfl rfl rfl rfl rfl ?_
      refine dn ?_
      have A41 := (BlF.st Bx25_b12 p38 rfl)
      have A42 := (Cx25_5.st p38 rfl)
      have A43 := (Cx25_9.st p38 rfl)
      have A44 := (Cx25_10.st p38 rfl)
      have K45 := (Kx25.st p38 rfl)
      exact lb ih25 ⟨s38, _, rfl, (ue (ue (ue (ue (ue rfl rfl) rfl) rfl) rfl) rfl), K45, A41, A42, A43, A44⟩
    ·
     refine xt rfl ?_
     refine sgb ?_
     refine sq ?_
     refine sr ?_
     refine pu rfl rfl rfl rfl rfl ?_
     refine dn ?_
     refine bl ?_
     refine lpI (fun (x46 : Int) (e : Env) (w : World) => ∃ (s : St) (e0 : Env), w = s.w ∧ e = upd (upd (upd (upd (upd e0 0 w0_0) 3 vx3_0) 4 (.int .i64 x3.2)) 5 (.pointer (some ⟨b12, 0, none⟩))) 7 (.int .i64 x46) ∧ Kp s0 s ∧ BlF s b12 99 [(.int .i64 ((at_ a0 x3.2).Xid)), (.int .i64 ((at_ a0 x3.2).Begun)), (.int .i64 ((at_ a0 x3.2).Ended)), v8_0, v8_1] 41 ∧ OwF (Kd.sl 3 (Kd.int .i64)) s [vx3_0] x3.1 40 ∧ RdF (Kd.sl 80 kd80) s [v8_0] ((at_ a0 x3.2).Reads) [0] ∧ RdF (Kd.sl 48 kd48) s [v8_1] ((at_ a0 x3.2).Writes) [0]) ⟨s30, _, rfl, (ue (ue (ue (ue (ue rfl rfl) rfl) rfl) rfl) rfl), Kx25, Bx25_b12, Cx25_5, Cx25_9, Cx25_10⟩ (fun g46 ih46 => ?_)
     rintro x46 _ _ ⟨s47, _, rfl, rfl, Kx46, Bx46_b12, Cx46_5, Cx46_9, Cx46_10⟩
     unfold spec_DeedsOk.b2
     refine sq ?_
     refine sr ?_
     refine pu rfl rfl rfl rfl rfl ?_
     refine fa fa99_4 rfl rfl rfl rfl rfl rfl ?_
     refine ld Bx46_b12 Try.underlying57 rfl rfl rfl rfl rfl rfl rfl rfl ?_
     refine ln Cx46_10 Try.underlying57 rfl rfl rfl rfl rfl rfl ?_
     refine pu rfl rfl rfl rfl rfl ?_
     refine dn ?_
     refine cd rfl (fun h49 => ?_) (fun h49 => ?_)
     ·
      refine sk ?_
      refine sq ?_
      refine bl ?_
      refine sr ?_
      refine fa fa99_4 rfl rfl rfl rfl rfl rfl ?_
      refine ld Bx46_b12 Try.underlying57 rfl rfl rfl rfl rfl rfl rfl rfl ?_
      refine pu rfl rfl rfl rfl rfl ?_
      refine ix Cx46_10 Try.underlying57 z48 rfl rfl rfl rfl rfl rfl rfl rfl (fun ad50 es50 h0_50 h1_50 he50 ce50 ia50 => ?_)
      obtain ⟨v50_0, v50_1, rfl, A50_0, A50_1⟩ := op48 he50
      refine lca ce50 Try.underlying48 z48 rfl rfl rfl rfl rfl rfl rfl ?_
      refine cl rfl rfl rfl rfl rfl Try.func120 rfl rfl rfl (fun r53 m53 => spec_KeyOk.calls (at_ ((at_ a0 x3.2).Writes) x46) s47.w (fun b => memb [0] (s47.g b) = true) v50_0 v50_1 ((fl_rdf (s := s47) A50_0).sub (D := [0]) rfl) A50_1 r53 m53) ?_
      rintro r53 _ w53 m53 ⟨rfl, ky53⟩
      obtain ⟨s54, rfl, p54, n54⟩ := nwx s47 w53 43 ky53
      refine pu rfl rfl rfl rfl rfl ?_
      refine dn ?_
      refine cd rfl (fun h55 => ?_) (fun h55 => ?_)
      ·
       refine sr ?_
       refine pu rfl rfl rfl rfl rfl ?_
       refine dn ?_
       refine sgi ?_
       refine sgi ?_
       have K56 := (Kx46.st p54 rfl)
       exact re rfl Try.func47 rfl (r_t rfl r_nil) rfl ⟨_, rfl, rfl, z.ky K56⟩
      ·
       refine sk ?_
       refine ib ?_
       refine rg ?_
       refine pu rfl rfl rfl rfl rfl ?_
       refine pu rfl rfl rfl rfl rfl ?_
       refine pu rfl rfl rfl rfl rfl ?_
       refine dn ?_
       have A57 := (BlF.st Bx46_b12 p54 rfl)
       have A58 := (Cx46_5.st p54 rfl)
       have A59 := (Cx46_9.st p54 rfl)
       have A60 := (Cx46_10.st p54 rfl)
       have K61 := (Kx46.st p54 rfl)
       exact lb ih46 ⟨s54, _, rfl, (ue (ue (ue (ue (ue rfl rfl) rfl) rfl) rfl) rfl), K61, A57, A58, A59, A60⟩
     ·
      refine xt rfl ?_
      refine sgb ?_
      refine sq ?_
      refine sr ?_
      refine pu rfl rfl rfl rfl rfl ?_
      refine dn ?_
      refine bl ?_
      refine lpI (fun (x62 : Int) (e : Env) (w : World) => ∃ (s : St) (e0 : Env), w = s.w ∧ e = upd (upd (upd (upd (upd e0 0 w0_0) 3 vx3_0) 4 (.int .i64 x3.2)) 5 (.pointer (some ⟨b12, 0, none⟩))) 8 (.int .i64 x62) ∧ Kp s0 s ∧ BlF s b12 99 [(.int .i64 ((at_ a0 x3.2).Xid)), (.int .i64 ((at_ a0 x3.2).Begun)), (.int .i64 ((at_ a0 x3.2).Ended)), v8_0, v8_1] 41 ∧ OwF (Kd.sl 3 (Kd.int .i64)) s [vx3_0] x3.1 40 ∧ RdF (Kd.sl 80 kd80) s [v8_0] ((at_ a0 x3.2).Reads) [0] ∧ RdF (Kd.sl 48 kd48) s [v8_1] ((at_ a0 x3.2).Writes) [0]) ⟨s47, _, rfl, (ue (ue (ue (ue (ue rfl rfl) rfl) rfl) rfl) rfl), Kx46, Bx46_b12, Cx46_5, Cx46_9, Cx46_10⟩ (fun g62 ih62 => ?_)
      rintro x62 _ _ ⟨s63, _, rfl, rfl, Kx62, Bx62_b12, Cx62_5, Cx62_9, Cx62_10⟩
      unfold spec_DeedsOk.b3
      refine sq ?_
      refine sr ?_
      refine pu rfl rfl rfl rfl rfl ?_
      refine mv vx3_0 rfl rfl rfl rfl rfl rfl ?_
      refine ln Cx62_5.rd Try.underlying24 rfl rfl rfl rfl rfl rfl ?_
      refine pu rfl rfl rfl rfl rfl ?_
      refine dn ?_
      refine cd rfl (fun h65 => ?_) (fun h65 => ?_)
      ·
       refine sk ?_
       refine sq ?_
       refine bl ?_
       refine sq ?_
       refine zdraw [[], [], [0, 1], [2], [], [4], [3, 5], [6], [7], [7], [8, 9, 7], [10, 7], [7], [12, 7], [11, 13, 7], [7, 14]] [some 78, some 79, some 80, some 81, some 82, some 83, some 84, some 85, some 86, some 87, some 88, some 89, some 90, some 91, some 92, some 93] [[3], [8], [78, 79], [80], [5], [82], [81, 83], [84], [3, 85], [8, 85], [86, 87, 85], [88, 85], [5, 85], [90, 85], [89, 91, 85], [85, 92]] [0, 1, 2, 3, 4, 5, 6, 7, 8, 9, 10, 11, 12, 13, 14, 15] ⟨by kernel_rfl, by kernel_rfl, by kernel_rfl⟩ (by kernel_rfl) (fun s66 p66 l66 tb66 zd66 => ?_)
       have zd67 := zd66.add 0 78 vx3_0 rfl
       have zd68 := zd67.add 1 79 (.int .i64 x62) rfl
       have A69 := (Cx62_5.st p66 rfl)
       refine mg fun hg70 => ?_
       obtain ⟨ad70, es70, he70, ce70, ia70⟩ := ix_e A69.rd rfl hg70.1 hg70.2
       have h0_70 := hg70.1
       have h1_70 := hg70.2
       obtain rfl := he70
       have zd72 := zd68.add 2 80 (.pointer (some ad70)) rfl
       have zd73 := zd72.add 3 81 (.int .i64 (at_ x3.1 x62)) rfl
       have zd74 := zd73.add 4 82 (.pointer (some ⟨b12, 1, none⟩)) rfl
       have A75 := (BlF.st Bx62_b12 p66 rfl)
       have zd76 := zd74.add 5 83 (.int .i64 ((at_ a0 x3.2).Begun)) rfl
       have zd77 := zd76.add 6 84 (.bool ((at_ x3.1 x62) == (at_ a0 x3.2).Begun)) rfl
       have zd78 := zd77.add 7 85 (.bool ((at_ x3.1 x62) == (at_ a0 x3.2).Begun)) rfl
       refine ji [] (fun (y79 : Bool) (e : Env) (w : World) => ∃ (s : St) (e0 : Env), w = s.w ∧ e = upd (upd (upd (upd (upd (upd e0 0 w0_0) 3 vx3_0) 4 (.int .i64 x3.2)) 5 (.pointer (some ⟨b12, 0, none⟩))) 8 (.int .i64 x62)) 93 (.bool y79) ∧ Kp s0 s ∧ BlF s b12 99 [(.int .i64 ((at_ a0 x3.2).Xid)), (.int .i64 ((at_ a0 x3.2).Begun)), (.int .i64 ((at_ a0 x3.2).Ended)), v8_0, v8_1] 41 ∧ OwF (Kd.sl 3 (Kd.int .i64)) s [vx3_0] x3.1 40 ∧ RdF (Kd.sl 80 kd80) s [v8_0] ((at_ a0 x3.2).Reads) [0] ∧ RdF (Kd.sl 48 kd48) s [v8_1] ((at_ a0 x3.2).Writes) [0]) (fun Gj79 Kj79 => ?_) ?_
       ·
        rcases Bool.eq_false_or_eq_true ((at_ x3.1 x62) == (at_ a0 x3.2).Begun) with hb79 | hb79
        ·
         rw [if_pos hb79]
         rw [hb79] at zd78
         try rw [hb79]
         have zd80 := zd78.add 8 86 undef rfl
         have zd81 := zd80.add 9 87 undef rfl
         have zd82 := zd81.add 10 88 undef rfl
         have zd83 := zd82.add 11 89 undef rfl
         have zd84 := zd83.add 12 90 undef rfl
         have zd85 := zd84.add 13 91 undef rfl
         have A86 := (BlF.st Bx62_b12 p66 rfl)
         refine zfin [14, 15] tb66 zd85 (pq_cons (uw_q rfl rfl rfl rfl rfl) rfl (pq_cons (uw_q rfl rfl rfl rfl rfl) rfl (pq_cons (uw_q rfl rfl rfl rfl rfl) rfl (pq_cons (uw_q rfl rfl rfl rfl rfl) rfl (pq_cons (uw_q rfl rfl rfl rfl rfl) rfl (pq_cons (uw_q rfl rfl rfl rfl rfl) rfl (pq_cons (pu_q rfl rfl rfl rfl rfl rfl) rfl (pq_cons (qv_b (pu_q rfl rfl rfl rfl rfl rfl) hb79) rfl (pq_cons (ld_q A86 Try.underlying3 rfl rfl rfl rfl rfl rfl rfl rfl) rfl (pq_cons (fa_q fa99_1 rfl rfl rfl rfl rfl rfl) rfl (pq_cons (lc0_q ce70 Try.underlying3 rfl rfl rfl rfl rfl rfl rfl rfl) rfl (pq_cons (ix_q A69.rd Try.underlying24 z3 hg70.1 hg70.2 ia70 rfl rfl rfl rfl rfl rfl rfl) rfl (pq_cons (pu_q rfl rfl rfl rfl rfl rfl) rfl (pq_cons (mv_q vx3_0 rfl rfl rfl rfl rfl rfl) rfl pq_nil)))))))))))))) (by kernel_rfl) (by decide) ?_
         refine uw rfl rfl rfl rfl ?_
         refine pu rfl rfl rfl rfl rfl ?_
         have A87 := (BlF.st Bx62_b12 p66 rfl)
         have A88 := (Cx62_9.st p66 rfl)
         have A89 := (Cx62_10.st p66 rfl)
         have K90 := (Kx62.st p66 rfl)
         exact Kj79 _ _ _ ⟨s66, _, rfl, (ue (ue (ue (ue (ue (ue rfl rfl) rfl) rfl) rfl) rfl) rfl), K90, A87, A69, A88, A89⟩
        ·
         rw [if_neg (by rw [hb79]; decide)]
         rw [hb79] at zd78
         try rw [hb79]
         have zd91 := zd78.add 8 86 vx3_0 rfl
         have zd92 := zd91.add 9 87 (.int .i64 x62) rfl
         refine mg fun hg93 => ?_
         obtain ⟨ad93, es93, he93, ce93, ia93⟩ := ix_e A69.rd rfl hg93.1 hg93.2
         have h0_93 := hg93.1
         have h1_93 := hg93.2
         obtain rfl := he93
         have zd95 := zd92.add 10 88 (.pointer (some ad93)) rfl
         have zd96 := zd95.add 11 89 (.int .i64 (at_ x3.1 x62)) rfl
         have zd97 := zd96.add 12 90 (.pointer (some ⟨b12, 2, none⟩)) rfl
         have A98 := (BlF.st Bx62_b12 p66 rfl)
         have zd99 := zd97.add 13 91 (.int .i64 ((at_ a0 x3.2).Ended)) rfl
         have A100 := (BlF.st Bx62_b12 p66 rfl)
         have A101 := (BlF.st Bx62_b12 p66 rfl)
         refine zfin [14, 15] tb66 zd99 (pq_cons (ld_q A101 Try.underlying3 rfl rfl rfl rfl rfl rfl rfl rfl) rfl (pq_cons (fa_q fa99_2 rfl rfl rfl rfl rfl rfl) rfl (pq_cons (lc0_q ce93 Try.underlying3 rfl rfl rfl rfl rfl rfl rfl rfl) rfl (pq_cons (ix_q A69.rd Try.underlying24 z3 hg93.1 hg93.2 ia93 rfl rfl rfl rfl rfl rfl rfl) rfl (pq_cons (pu_q rfl rfl rfl rfl rfl rfl) rfl (pq_cons (mv_q vx3_0 rfl rfl rfl rfl rfl rfl) rfl (pq_cons (pu_q rfl rfl rfl rfl rfl rfl) rfl (pq_cons (qv_b (pu_q rfl rfl rfl rfl rfl rfl) hb79) rfl (pq_cons (ld_q A100 Try.underlying3 rfl rfl rfl rfl rfl rfl rfl rfl) rfl (pq_cons (fa_q fa99_1 rfl rfl rfl rfl rfl rfl) rfl (pq_cons (lc0_q ce70 Try.underlying3 rfl rfl rfl rfl rfl rfl rfl rfl) rfl (pq_cons (ix_q A69.rd Try.underlying24 z3 hg70.1 hg70.2 ia70 rfl rfl rfl rfl rfl rfl rfl) rfl (pq_cons (pu_q rfl rfl rfl rfl rfl rfl) rfl (pq_cons (mv_q vx3_0 rfl rfl rfl rfl rfl rfl) rfl pq_nil)))))))))))))) (by kernel_rfl) (by decide) ?_
         refine pu rfl rfl rfl rfl rfl ?_
         refine pu rfl rfl rfl rfl rfl ?_
         have A102 := (BlF.st Bx62_b12 p66 rfl)
         have A103 := (Cx62_9.st p66 rfl)
         have A104 := (Cx62_10.st p66 rfl)
         have K105 := (Kx62.st p66 rfl)
         exact Kj79 _ _ _ ⟨s66, _, rfl, (ue (ue (ue (ue (ue (ue rfl rfl) rfl) rfl) rfl) rfl) rfl), K105, A102, A69, A103, A104⟩
       rintro y79 _ _ ⟨s106, _, rfl, rfl, Ky79, By79_b12, Cy79_5, Cy79_9, Cy79_10⟩
       refine dn ?_
       refine cd rfl (fun h108 => ?_) (fun h108 => ?_)
       ·
        refine sr ?_
        refine pu rfl rfl rfl rfl rfl ?_
        refine dn ?_
        refine sgi ?_
        refine sgi ?_
        exact re rfl Try.func47 rfl (r_t rfl r_nil) rfl ⟨_, rfl, rfl, z.ky Ky79⟩
       ·
        refine sk ?_
        refine ib ?_
        refine rg ?_
        refine pu rfl rfl rfl rfl rfl ?_
        refine pu rfl rfl rfl rfl rfl ?_
        refine pu rfl rfl rfl rfl rfl ?_
        refine dn ?_
        exact lb ih62 ⟨s106, _, rfl, (ue (ue (ue (ue (ue rfl rfl) rfl) rfl) rfl) rfl), Ky79, By79_b12, Cy79_5, Cy79_9, Cy79_10⟩
      ·
       refine xt rfl ?_
       refine sgb ?_
       refine sr ?_
       refine mv vx3_0 rfl rfl rfl rfl rfl rfl ?_
       refine fa fa99_1 rfl rfl rfl rfl rfl rfl ?_
       refine ld Bx62_b12 Try.underlying3 rfl rfl rfl rfl rfl rfl rfl rfl ?_
       refine ltF (K := (Kd.int .i64)) (cells := [(.int .i64 ((at_ a0 x3.2).Begun))]) [(at_ a0 x3.2).Begun] 44 fl_int Try.underlying24 z3 o3 (fun w => (els_flat _ _ _)) rfl rfl rfl rfl rfl rfl rfl rfl rfl rfl (fun v109 s109 p109 A109 => ?_)
       have A111 := (Cx62_5.st p109 rfl)
       refine apF fl_int sl24 A111 A109.rd rfl rfl rfl rfl rfl rfl rfl (fun v112 s112 p112 A112 => ?_)
       refine asg v112 rfl rfl rfl rfl rfl rfl ?_
       refine dn ?_
       refine rg ?_
       refine mv v112 rfl rfl rfl rfl rfl rfl ?_
       refine fa fa99_2 rfl rfl rfl rfl rfl rfl ?_
       have A114 := (BlF.st (BlF.st Bx62_b12 p109 rfl) p112 rfl)
       refine ld A114 Try.underlying3 rfl rfl rfl rfl rfl rfl rfl rfl ?_
       refine ltF (K := (Kd.int .i64)) (cells := [(.int .i64 ((at_ a0 x3.2).Ended))]) [(at_ a0 x3.2).Ended] 45 fl_int Try.underlying24 z3 o3 (fun w => (els_flat _ _ _)) rfl rfl rfl rfl rfl rfl rfl rfl rfl rfl (fun v115 s115 p115 A115 => ?_)
       have A117 := (A112.st p115 rfl)
       refine apF fl_int sl24 A117 A115.rd rfl rfl rfl rfl rfl rfl rfl (fun v118 s118 p118 A118 => ?_)
       refine asg v118 rfl rfl rfl rfl rfl rfl ?_
       refine dn ?_
       refine ib ?_
       refine rg ?_
       refine pu rfl rfl rfl rfl rfl ?_
       refine pu rfl rfl rfl rfl rfl ?_
       refine pu rfl rfl rfl rfl rfl ?_
       refine dn ?_
       have K120 := ((((Kx62.st p109 rfl).st p112 rfl).st p115 rfl).st p118 rfl)
       exact lb ih3 ⟨s118, _, v118, rfl, (ue (ue (ue rfl rfl) rfl) rfl), K120, A118⟩
  ·
   refine xt rfl ?_
   refine sgb ?_
   refine sr ?_
   refine pu rfl rfl rfl rfl rfl ?_
   refine dn ?_
   exact re rfl Try.func47 rfl (r_t rfl r_nil) rfl ⟨_, rfl, rfl, z.ky Kx3⟩
noncomputable def spec_l13has.b0 (a0 : (List Item)) (a1 : Item) (x5 : Int) : Option (Int ⊕ Bool) :=
 (if (decide (x5 < (a0.length : Int))) = true then (if 0 ≤ x5 ∧ x5 < (a0.length : Int) then ((spec_ItemCompare.f (at_ a0 x5) a1).bind fun r25 => (if (r25 == (0 : Int)) = true then (some (Sum.inr true)) else (some (Sum.inl (IntKind.wrap .i64 (x5 + (1 : Int))))))) else none) else ((some false).bind fun o => some (Sum.inr o)))
noncomputable def spec_l13has.f (a0 : (List Item)) (a1 : Item) : Option (Bool) :=
 (iter (spec_l13has.b0 a0 a1) (0 : Int))
def spec_l13has.Q (w : World) (F : Nat → Prop) (r : Bool) (v : Value) (w' : World) : Prop :=
 v = (.bool r) ∧ Ky [] w w'
set_option maxHeartbeats 4000000 in
set_option maxRecDepth 100000 in
theorem spec_l13has.calls (a0 : (List Item)) (a1 : Item) (w : World) (F : Nat → Prop) (w0_0 : Value) (w1_0 : Value) (w1_1 : Value) (h0_0 : (Kd.sl 48 kd48).rd w [w0_0] a0 F) (h1_0 : Kd.flt.rd w [w1_0] a1.F F) (h1_1 : (Kd.sl 5 (Kd.int .u8)).rd w [w1_1] a1.T F) (r : Bool) (m : spec_l13has.f a0 a1 = some r) :
  Calls Try.prog 176 #[w0_0, (.agg #[(.int .i64 a1.Kind), (.int .i64 a1.N), w1_0, w1_1])] w fun en w' => ∃ v, en = .returned v ∧ spec_l13has.Q w F r v w' := by
 obtain ⟨s0, rfl, kp0, z⟩ := start0 w F
 have A0_0 := z.rd h0_0
 have A1_0 := fl_of h1_0
 have A1_1 := z.rd h1_1
 refine calls_of_TM (args := [w0_0, (.agg #[(.int .i64 a1.Kind), (.int .i64 a1.N), w1_0, w1_1])]) (R := fun r en w' => ∃ v, en = .returned v ∧ spec_l13has.Q s0.w F r v w') Try.func176 Try.ntmps176 rfl rfl m ?_
 unfold spec_l13has.f
 refine sr ?_
 refine bx (cs := [(.int .i64 a1.Kind), (.int .i64 a1.N), w1_0, w1_1]) 40 rfl rfl rfl rfl rfl rfl (fun b3 s3 p3 B3 => ?_)
 refine pu rfl rfl rfl rfl rfl ?_
 refine dn ?_
 refine sq ?_
 refine sr ?_
 refine pu rfl rfl rfl rfl rfl ?_
 refine dn ?_
 refine bl ?_
 have K6 := (kp0.st p3 rfl)
 refine lpI (fun (x5 : Int) (e : Env) (w : World) => ∃ (s : St) (e0 : Env), w = s.w ∧ e = upd (upd (upd e0 0 w0_0) 3 (.pointer (some ⟨b3, 0, none⟩))) 5 (.int .i64 x5) ∧ Kp s0 s ∧ BlF s b3 48 [(.int .i64 a1.Kind), (.int .i64 a1.N), w1_0, w1_1] 40) ⟨s3, _, rfl, (ue (ue (ue rfl rfl) rfl) rfl), K6, B3⟩ (fun g5 ih5 => ?_)
 rintro x5 _ _ ⟨s7, _, rfl, rfl, Kx5, Bx5_b3⟩
 unfold spec_l13has.b0
 refine sq ?_
 refine sr ?_
 refine pu rfl rfl rfl rfl rfl ?_
 refine mv w0_0 rfl rfl rfl rfl rfl rfl ?_
 have A9 := (A0_0.kp Kx5)
 refine ln A9 Try.underlying57 rfl rfl rfl rfl rfl rfl ?_
 refine pu rfl rfl rfl rfl rfl ?_
 refine dn ?_
 refine cd rfl (fun h10 => ?_) (fun h10 => ?_)
 ·
  refine sk ?_
  refine sq ?_
  refine bl ?_
  refine sq ?_
  refine zdraw [[], [], [0, 1], [2], [], [3, 4], [5]] [some 12, some 13, some 14, some 15, some 16, some 17, some 18] [[0], [5], [12, 13], [14], [3], [15, 16], [17]] [0, 1, 2, 3, 4, 5, 6] ⟨by kernel_rfl, by kernel_rfl, by kernel_rfl⟩ (by kernel_rfl) (fun s11 p11 l11 tb11 zd11 => ?_)
  have zd12 := zd11.add 0 12 w0_0 rfl
  have zd13 := zd12.add 1 13 (.int .i64 x5) rfl
  have K14 := (Kx5.st p11 rfl)
  have A15 := (A0_0.kp K14)
  refine mg fun hg16 => ?_
  obtain ⟨ad16, es16, he16, ce16, ia16⟩ := ix_e A15 rfl hg16.1 hg16.2
  have h0_16 := hg16.1
  have h1_16 := hg16.2
  obtain ⟨v16_0, v16_1, rfl, A16_0, A16_1⟩ := op48 he16
  have zd19 := zd13.add 2 14 (.pointer (some ad16)) rfl
  have zd20 := zd19.add 3 15 (.agg #[(.int .i64 ((at_ a0 x5).Kind)), (.int .i64 ((at_ a0 x5).N)), v16_0, v16_1]) rfl
  have A21 := (BlF.st Bx5_b3 p11 rfl)
  have zd22 := zd20.add 4 16 (.agg #[(.int .i64 a1.Kind), (.int .i64 a1.N), w1_0, w1_1]) rfl
  have A23 := (BlF.st Bx5_b3 p11 rfl)
  refine zfin [5, 6] tb11 zd22 (pq_cons (lda_q (es := [(.int .i64 a1.Kind), (.int .i64 a1.N), w1_0, w1_1]) A23 Try.underlying48 z48 rfl rfl rfl rfl rfl rfl rfl rfl) rfl (pq_cons (lca_q ce16 Try.underlying48 z48 rfl rfl rfl rfl rfl rfl rfl) rfl (pq_cons (ix_q A15 Try.underlying57 z48 hg16.1 hg16.2 ia16 rfl rfl rfl rfl rfl rfl rfl) rfl (pq_cons (pu_q rfl rfl rfl rfl rfl rfl) rfl (pq_cons (mv_q w0_0 rfl rfl rfl rfl rfl rfl) rfl pq_nil))))) (by kernel_rfl) (by decide) ?_
  have A24 := (A1_1.kp K14)
  refine cl rfl rfl rfl rfl rfl Try.func137 rfl rfl rfl (fun r25 m25 => spec_ItemCompare.calls (at_ a0 x5) a1 s11.w (fun b => memb [0] (s11.g b) = true) v16_0 v16_1 w1_0 w1_1 ((fl_rdf (s := s11) A16_0).sub (D := [0]) rfl) A16_1 ((fl_rdf (s := s11) A1_0).sub (D := [0]) rfl) A24 r25 m25) ?_
  rintro r25 _ w25 m25 ⟨rfl, ky25⟩
  obtain ⟨s26, rfl, p26, n26⟩ := nwx s11 w25 41 ky25
  refine pu rfl rfl rfl rfl rfl ?_
  refine dn ?_
  refine cd rfl (fun h27 => ?_) (fun h27 => ?_)
  ·
   refine sr ?_
   refine pu rfl rfl rfl rfl rfl ?_
   refine dn ?_
   refine sgi ?_
   have K28 := (K14.st p26 rfl)
   exact re rfl Try.func176 rfl (r_t rfl r_nil) rfl ⟨_, rfl, rfl, z.ky K28⟩
  ·
   refine sk ?_
   refine ib ?_
   refine rg ?_
   refine pu rfl rfl rfl rfl rfl ?_
   refine pu rfl rfl rfl rfl rfl ?_
   refine pu rfl rfl rfl rfl rfl ?_
   refine dn ?_
   have A29 := (BlF.st (BlF.st Bx5_b3 p11 rfl) p26 rfl)
   have K30 := (K14.st p26 rfl)
   exact lb ih5 ⟨s26, _, rfl, (ue (ue (ue rfl rfl) rfl) rfl), K30, A29⟩
 ·
  refine xt rfl ?_
  refine sgb ?_
  refine sr ?_
  refine pu rfl rfl rfl rfl rfl ?_
  refine dn ?_
  exact re rfl Try.func176 rfl (r_t rfl r_nil) rfl ⟨_, rfl, rfl, z.ky Kx5⟩
noncomputable def spec_InSpan.f (a0 : Item) (a1 : Item) (a2 : Item) : Option (Bool) :=
 ((spec_KeyOk.f a0).bind fun r13 => ((if r13 = true then ((spec_KeyOk.f a1).bind fun r19 => (some r19)) else (some false)).bind fun y15 => ((if y15 = true then ((spec_KeyOk.f a2).bind fun r35 => (some r35)) else (some false)).bind fun y33 => ((if y33 = true then ((spec_ItemCompare.f a0 a2).bind fun r48 => (some (decide (r48 ≤ (0 : Int))))) else (some false)).bind fun y45 => ((if y45 = true then ((spec_ItemCompare.f a2 a1).bind fun r59 => (some (decide (r59 ≤ (0 : Int))))) else (some false)).bind fun y56 => (some y56))))))
def spec_InSpan.Q (w : World) (F : Nat → Prop) (r : Bool) (v : Value) (w' : World) : Prop :=
 v = (.bool r) ∧ Ky [] w w'
set_option maxHeartbeats 4000000 in
set_option maxRecDepth 100000 in
theorem spec_InSpan.calls (a0 : Item) (a1 : Item) (a2 : Item) (w : World) (F : Nat → Prop) (w0_0 : Value) (w0_1 : Value) (w1_0 : Value) (w1_1 : Value) (w2_0 : Value) (w2_1 : Value) (h0_0 : Kd.flt.rd w [w0_0] a0.F F) (h0_1 : (Kd.sl 5 (Kd.int .u8)).rd w [w0_1] a0.T F) (h1_0 : Kd.flt.rd w [w1_0] a1.F F) (h1_1 : (Kd.sl 5 (Kd.int .u8)).rd w [w1_1] a1.T F) (h2_0 : Kd.flt.rd w [w2_0] a2.F F) (h2_1 : (Kd.sl 5 (Kd.int .u8)).rd w [w2_1] a2.T F) (r : Bool) (m : spec_InSpan.f a0 a1 a2 = some r) :
  Calls Try.prog 109 #[(.agg #[(.int .i64 a0.Kind), (.int .i64 a0.N), w0_0, w0_1]), (.agg #[(.int .i64 a1.Kind), (.int .i64 a1.N), w1_0, w1_1]), (.agg #[(.int .i64 a2.Kind), (.int .i64 a2.N), w2_0, w2_1])] w fun en w' => ∃ v, en = .returned v ∧ spec_InSpan.Q w F r v w' := by
 obtain ⟨s0, rfl, kp0, z⟩ := start0 w F
 have A0_0 := fl_of h0_0
 have A0_1 := z.rd h0_1
 have A1_0 := fl_of h1_0
 have A1_1 := z.rd h1_1
 have A2_0 := fl_of h2_0
 have A2_1 := z.rd h2_1
 refine calls_of_TM (args := [(.agg #[(.int .i64 a0.Kind), (.int .i64 a0.N), w0_0, w0_1]), (.agg #[(.int .i64 a1.Kind), (.int .i64 a1.N), w1_0, w1_1]), (.agg #[(.int .i64 a2.Kind), (.int .i64 a2.N), w2_0, w2_1])]) (R := fun r en w' => ∃ v, en = .returned v ∧ spec_InSpan.Q s0.w F r v w') Try.func109 Try.ntmps109 rfl rfl m ?_
 unfold spec_InSpan.f
 refine sr ?_
 refine bx (cs := [(.int .i64 a0.Kind), (.int .i64 a0.N), w0_0, w0_1]) 40 rfl rfl rfl rfl rfl rfl (fun b4 s4 p4 B4 => ?_)
 refine bx (cs := [(.int .i64 a1.Kind), (.int .i64 a1.N), w1_0, w1_1]) 41 rfl rfl rfl rfl rfl rfl (fun b6 s6 p6 B6 => ?_)
 refine bx (cs := [(.int .i64 a2.Kind), (.int .i64 a2.N), w2_0, w2_1]) 42 rfl rfl rfl rfl rfl rfl (fun b8 s8 p8 B8 => ?_)
 refine pu rfl rfl rfl rfl rfl ?_
 refine dn ?_
 refine sr ?_
 have A10 := (BlF.st (BlF.st B4 p6 rfl) p8 rfl)
 refine lda (es := [(.int .i64 a0.Kind), (.int .i64 a0.N), w0_0, w0_1]) A10 Try.underlying48 z48 rfl rfl rfl rfl rfl rfl rfl rfl ?_
 have K11 := (((kp0.st p4 rfl).st p6 rfl).st p8 rfl)
 have A12 := (A0_1.kp K11)
 refine cl rfl rfl rfl rfl rfl Try.func120 rfl rfl rfl (fun r13 m13 => spec_KeyOk.calls a0 s8.w (fun b => memb [0] (s8.g b) = true) w0_0 w0_1 ((fl_rdf (s := s8) A0_0).sub (D := [0]) rfl) A12 r13 m13) ?_
 rintro r13 _ w13 m13 ⟨rfl, ky13⟩
 obtain ⟨s14, rfl, p14, n14⟩ := nwx s8 w13 43 ky13
 refine pu rfl rfl rfl rfl rfl ?_
 refine ji [6, 7, 8, 9, 10, 11, 12, 13, 14, 15, 16, 17, 18, 19, 20, 21, 22] (fun (y15 : Bool) (e : Env) (w : World) => ∃ (s : St) (e0 : Env), w = s.w ∧ e = upd (upd (upd (upd e0 3 (.pointer (some ⟨b4, 0, none⟩))) 4 (.pointer (some ⟨b6, 0, none⟩))) 5 (.pointer (some ⟨b8, 0, none⟩))) 12 (.bool y15) ∧ Kp s0 s ∧ BlF s b8 48 [(.int .i64 a2.Kind), (.int .i64 a2.N), w2_0, w2_1] 42 ∧ BlF s b6 48 [(.int .i64 a1.Kind), (.int .i64 a1.N), w1_0, w1_1] 41 ∧ BlF s b4 48 [(.int .i64 a0.Kind), (.int .i64 a0.N), w0_0, w0_1] 40) (fun Gj15 Kj15 => ?_) ?_
 ·
  rcases Bool.eq_false_or_eq_true r13 with hb15 | hb15
  ·
   refine sbT hb15 ?_
   rw [if_pos hb15]
   have A16 := (BlF.st (BlF.st B6 p8 rfl) p14 rfl)
   refine lda (es := [(.int .i64 a1.Kind), (.int .i64 a1.N), w1_0, w1_1]) A16 Try.underlying48 z48 rfl rfl rfl rfl rfl rfl rfl rfl ?_
   have K17 := (K11.st p14 rfl)
   have A18 := (A1_1.kp K17)
   refine cl rfl rfl rfl rfl rfl Try.func120 rfl rfl rfl (fun r19 m19 => spec_KeyOk.calls a1 s14.w (fun b => memb [0] (s14.g b) = true) w1_0 w1_1 ((fl_rdf (s := s14) A1_0).sub (D := [0]) rfl) A18 r19 m19) ?_
   rintro r19 _ w19 m19 ⟨rfl, ky19⟩
   obtain ⟨s20, rfl, p20, n20⟩ := nwx s14 w19 44 ky19
   refine pu rfl rfl rfl rfl rfl ?_
   have A21 := (BlF.st (BlF.st B8 p14 rfl) p20 rfl)
   have A22 := (BlF.st A16 p20 rfl)
   have A23 := (BlF.st (BlF.st A10 p14 rfl) p20 rfl)
   have K24 := (K17.st p20 rfl)
   exact Kj15 _ _ _ ⟨s20, _, rfl, (ue (ue (ue (ue rfl rfl) rfl) rfl) rfl), K24, A21, A22, A23⟩
  ·
   refine sbT hb15 ?_
   rw [if_neg (by rw [hb15]; decide)]
   refine uw rfl rfl rfl rfl ?_
   refine uw rfl rfl rfl rfl ?_
   refine pu rfl rfl rfl rfl rfl ?_
   have A25 := (BlF.st B8 p14 rfl)
   have A26 := (BlF.st (BlF.st B6 p8 rfl) p14 rfl)
   have A27 := (BlF.st A10 p14 rfl)
   have K28 := (K11.st p14 rfl)
   exact Kj15 _ _ _ ⟨s14, _, rfl, (ue (ue (ue (ue rfl rfl) rfl) rfl) rfl), K28, A25, A26, A27⟩
 rintro y15 _ _ ⟨s29, _, rfl, rfl, Ky15, By15_b8, By15_b6, By15_b4⟩
 refine pu rfl rfl rfl rfl rfl ?_
 refine ji [10, 11, 12, 13, 14, 15, 16, 17, 18, 19, 20, 21, 22] (fun (y33 : Bool) (e : Env) (w : World) => ∃ (s : St) (e0 : Env), w = s.w ∧ e = upd (upd (upd (upd e0 3 (.pointer (some ⟨b4, 0, none⟩))) 4 (.pointer (some ⟨b6, 0, none⟩))) 5 (.pointer (some ⟨b8, 0, none⟩))) 16 (.bool y33) ∧ Kp s0 s ∧ BlF s b8 48 [(.int .i64 a2.Kind), (.int .i64 a2.N), w2_0, w2_1] 42 ∧ BlF s b6 48 [(.int .i64 a1.Kind), (.int .i64 a1.N), w1_0, w1_1] 41 ∧ BlF s b4 48 [(.int .i64 a0.Kind), (.int .i64 a0.N), w0_0, w0_1] 40) (fun Gj33 Kj33 => ?_) ?_
 ·
  rcases Bool.eq_false_or_eq_true y15 with hb33 | hb33
  ·
   refine sbT hb33 ?_
   rw [if_pos hb33]
   refine lda (es := [(.int .i64 a2.Kind), (.int .i64 a2.N), w2_0, w2_1]) By15_b8 Try.underlying48 z48 rfl rfl rfl rfl rfl rfl rfl rfl ?_
   have A34 := (A2_1.kp Ky15)
   refine cl rfl rfl rfl rfl rfl Try.func120 rfl rfl rfl (fun r35 m35 => spec_KeyOk.calls a2 s29.w (fun b => memb [0] (s29.g b) = true) w2_0 w2_1 ((fl_rdf (s := s29) A2_0).sub (D := [0]) rfl) A34 r35 m35) ?_
   rintro r35 _ w35 m35 ⟨rfl, ky35⟩
   obtain ⟨s36, rfl, p36, n36⟩ := nwx s29 w35 45 ky35
   refine pu rfl rfl rfl rfl rfl ?_
   have A37 := (BlF.st By15_b8 p36 rfl)
   have A38 := (BlF.st By15_b6 p36 rfl)
   have A39 := (BlF.st By15_b4 p36 rfl)
   have K40 := (Ky15.st p36 rfl)
   exact Kj33 _ _ _ ⟨s36, _, rfl, (ue (ue (ue (ue rfl rfl) rfl) rfl) rfl), K40, A37, A38, A39⟩
  ·
   refine sbT hb33 ?_
   rw [if_neg (by rw [hb33]; decide)]
   refine uw rfl rfl rfl rfl ?_
   refine uw rfl rfl rfl rfl ?_
   refine pu rfl rfl rfl rfl rfl ?_
   exact Kj33 _ _ _ ⟨s29, _, rfl, (ue (ue (ue (ue rfl rfl) rfl) rfl) rfl), Ky15, By15_b8, By15_b6, By15_b4⟩
 rintro y33 _ _ ⟨s41, _, rfl, rfl, Ky33, By33_b8, By33_b6, By33_b4⟩
 refine pu rfl rfl rfl rfl rfl ?_
 refine ji [16, 17, 18, 19, 20, 21, 22] (fun (y45 : Bool) (e : Env) (w : World) => ∃ (s : St) (e0 : Env), w = s.w ∧ e = upd (upd (upd e0 4 (.pointer (some ⟨b6, 0, none⟩))) 5 (.pointer (some ⟨b8, 0, none⟩))) 22 (.bool y45) ∧ Kp s0 s ∧ BlF s b8 48 [(.int .i64 a2.Kind), (.int .i64 a2.N), w2_0, w2_1] 42 ∧ BlF s b6 48 [(.int .i64 a1.Kind), (.int .i64 a1.N), w1_0, w1_1] 41) (fun Gj45 Kj45 => ?_) ?_
 ·
  rcases Bool.eq_false_or_eq_true y33 with hb45 | hb45
  ·
   refine sbT hb45 ?_
   rw [if_pos hb45]
   refine lda (es := [(.int .i64 a0.Kind), (.int .i64 a0.N), w0_0, w0_1]) By33_b4 Try.underlying48 z48 rfl rfl rfl rfl rfl rfl rfl rfl ?_
   refine lda (es := [(.int .i64 a2.Kind), (.int .i64 a2.N), w2_0, w2_1]) By33_b8 Try.underlying48 z48 rfl rfl rfl rfl rfl rfl rfl rfl ?_
   have A46 := (A0_1.kp Ky33)
   have A47 := (A2_1.kp Ky33)
   refine cl rfl rfl rfl rfl rfl Try.func137 rfl rfl rfl (fun r48 m48 => spec_ItemCompare.calls a0 a2 s41.w (fun b => memb [0] (s41.g b) = true) w0_0 w0_1 w2_0 w2_1 ((fl_rdf (s := s41) A0_0).sub (D := [0]) rfl) A46 ((fl_rdf (s := s41) A2_0).sub (D := [0]) rfl) A47 r48 m48) ?_
   rintro r48 _ w48 m48 ⟨rfl, ky48⟩
   obtain ⟨s49, rfl, p49, n49⟩ := nwx s41 w48 46 ky48
   refine pu rfl rfl rfl rfl rfl ?_
   refine pu rfl rfl rfl rfl rfl ?_
   have A50 := (BlF.st By33_b8 p49 rfl)
   have A51 := (BlF.st By33_b6 p49 rfl)
   have K52 := (Ky33.st p49 rfl)
   exact Kj45 _ _ _ ⟨s49, _, rfl, (ue (ue (ue rfl rfl) rfl) rfl), K52, A50, A51⟩
  ·
   refine sbT hb45 ?_
   rw [if_neg (by rw [hb45]; decide)]
   refine uw rfl rfl rfl rfl ?_
   refine uw rfl rfl rfl rfl ?_
   refine uw rfl rfl rfl rfl ?_
   refine uw rfl rfl rfl rfl ?_
   refine pu rfl rfl rfl rfl rfl ?_
   exact Kj45 _ _ _ ⟨s41, _, rfl, (ue (ue (ue rfl rfl) rfl) rfl), Ky33, By33_b8, By33_b6⟩
 rintro y45 _ _ ⟨s53, _, rfl, rfl, Ky45, By45_b8, By45_b6⟩
 refine pu rfl rfl rfl rfl rfl ?_
 refine ji [22] (fun (y56 : Bool) (e : Env) (w : World) => ∃ (s : St) (e0 : Env), w = s.w ∧ e = upd e0 28 (.bool y56) ∧ Kp s0 s) (fun Gj56 Kj56 => ?_) ?_
 ·
  rcases Bool.eq_false_or_eq_true y45 with hb56 | hb56
  ·
   refine sbT hb56 ?_
   rw [if_pos hb56]
   refine lda (es := [(.int .i64 a2.Kind), (.int .i64 a2.N), w2_0, w2_1]) By45_b8 Try.underlying48 z48 rfl rfl rfl rfl rfl rfl rfl rfl ?_
   refine lda (es := [(.int .i64 a1.Kind), (.int .i64 a1.N), w1_0, w1_1]) By45_b6 Try.underlying48 z48 rfl rfl rfl rfl rfl rfl rfl rfl ?_
   have A57 := (A2_1.kp Ky45)
   have A58 := (A1_1.kp Ky45)
   refine cl rfl rfl rfl rfl rfl Try.func137 rfl rfl rfl (fun r59 m59 => spec_ItemCompare.calls a2 a1 s53.w (fun b => memb [0] (s53.g b) = true) w2_0 w2_1 w1_0 w1_1 ((fl_rdf (s := s53) A2_0).sub (D := [0]) rfl) A57 ((fl_rdf (s := s53) A1_0).sub (D := [0]) rfl) A58 r59 m59) ?_
   rintro r59 _ w59 m59 ⟨rfl, ky59⟩
   obtain ⟨s60, rfl, p60, n60⟩ := nwx s53 w59 47 ky59
   refine pu rfl rfl rfl rfl rfl ?_
   refine pu rfl rfl rfl rfl rfl ?_
   have K61 := (Ky45.st p60 rfl)
   exact Kj56 _ _ _ ⟨s60, _, rfl, (ue rfl rfl), K61⟩
  ·
   refine sbT hb56 ?_
   rw [if_neg (by rw [hb56]; decide)]
   refine uw rfl rfl rfl rfl ?_
   refine uw rfl rfl rfl rfl ?_
   refine uw rfl rfl rfl rfl ?_
   refine uw rfl rfl rfl rfl ?_
   refine pu rfl rfl rfl rfl rfl ?_
   exact Kj56 _ _ _ ⟨s53, _, rfl, (ue rfl rfl), Ky45⟩
 rintro y56 _ _ ⟨s62, _, rfl, rfl, Ky56⟩
 refine pu rfl rfl rfl rfl rfl ?_
 refine dn ?_
 exact re rfl Try.func109 rfl (r_t rfl r_nil) rfl ⟨_, rfl, rfl, z.ky Ky56⟩
noncomputable def spec_l14reads.b0 (a0 : Deed) (a1 : Item) (x8 : Int) : Option (Int ⊕ Bool) :=
 (if (decide (x8 < (a0.Reads.length : Int))) = true then (if 0 ≤ x8 ∧ x8 < (a0.Reads.length : Int) then (if 0 ≤ x8 ∧ x8 < (a0.Reads.length : Int) then ((spec_InSpan.f ((at_ a0.Reads x8).From) ((at_ a0.Reads x8).To) a1).bind fun r47 => (if r47 = true then (some (Sum.inr true)) else (some (Sum.inl (IntKind.wrap .i64 (x8 + (1 : Int))))))) else none) else none) else ((some false).bind fun o => some (Sum.inr o)))
noncomputable def spec_l14reads.f (a0 : Deed) (a1 : Item) : Option (Bool) :=
 (iter (spec_l14reads.b0 a0 a1) (0 : Int))
def spec_l14reads.Q (w : World) (F : Nat → Prop) (r : Bool) (v : Value) (w' : World) : Prop :=
 v = (.bool r) ∧ Ky [] w w'
set_option maxHeartbeats 4000000 in
set_option maxRecDepth 100000 in
theorem spec_l14reads.calls (a0 : Deed) (a1 : Item) (w : World) (F : Nat → Prop) (w0_0 : Value) (w0_1 : Value) (w1_0 : Value) (w1_1 : Value) (h0_0 : (Kd.sl 80 kd80).rd w [w0_0] a0.Reads F) (h0_1 : (Kd.sl 48 kd48).rd w [w0_1] a0.Writes F) (h1_0 : Kd.flt.rd w [w1_0] a1.F F) (h1_1 : (Kd.sl 5 (Kd.int .u8)).rd w [w1_1] a1.T F) (r : Bool) (m : spec_l14reads.f a0 a1 = some r) :
  Calls Try.prog 177 #[(.agg #[(.int .i64 a0.Xid), (.int .i64 a0.Begun), (.int .i64 a0.Ended), w0_0, w0_1]), (.agg #[(.int .i64 a1.Kind), (.int .i64 a1.N), w1_0, w1_1])] w fun en w' => ∃ v, en = .returned v ∧ spec_l14reads.Q w F r v w' := by
 obtain ⟨s0, rfl, kp0, z⟩ := start0 w F
 have A0_0 := z.rd h0_0
 have A0_1 := z.rd h0_1
 have A1_0 := fl_of h1_0
 have A1_1 := z.rd h1_1
 refine calls_of_TM (args := [(.agg #[(.int .i64 a0.Xid), (.int .i64 a0.Begun), (.int .i64 a0.Ended), w0_0, w0_1]), (.agg #[(.int .i64 a1.Kind), (.int .i64 a1.N), w1_0, w1_1])]) (R := fun r en w' => ∃ v, en = .returned v ∧ spec_l14reads.Q s0.w F r v w') Try.func177 Try.ntmps177 rfl rfl m ?_
 unfold spec_l14reads.f
 refine sr ?_
 refine bx (cs := [(.int .i64 a0.Xid), (.int .i64 a0.Begun), (.int .i64 a0.Ended), w0_0, w0_1]) 40 rfl rfl rfl rfl rfl rfl (fun b4 s4 p4 B4 => ?_)
 refine bx (cs := [(.int .i64 a1.Kind), (.int .i64 a1.N), w1_0, w1_1]) 41 rfl rfl rfl rfl rfl rfl (fun b6 s6 p6 B6 => ?_)
 refine pu rfl rfl rfl rfl rfl ?_
 refine dn ?_
 refine sq ?_
 refine sr ?_
 refine pu rfl rfl rfl rfl rfl ?_
 refine dn ?_
 refine bl ?_
 have A9 := (BlF.st B4 p6 rfl)
 have K10 := ((kp0.st p4 rfl).st p6 rfl)
 refine lpI (fun (x8 : Int) (e : Env) (w : World) => ∃ (s : St) (e0 : Env), w = s.w ∧ e = upd (upd (upd e0 2 (.pointer (some ⟨b4, 0, none⟩))) 3 (.pointer (some ⟨b6, 0, none⟩))) 5 (.int .i64 x8) ∧ Kp s0 s ∧ BlF s b6 48 [(.int .i64 a1.Kind), (.int .i64 a1.N), w1_0, w1_1] 41 ∧ BlF s b4 99 [(.int .i64 a0.Xid), (.int .i64 a0.Begun), (.int .i64 a0.Ended), w0_0, w0_1] 40) ⟨s6, _, rfl, (ue (ue (ue rfl rfl) rfl) rfl), K10, B6, A9⟩ (fun g8 ih8 => ?_)
 rintro x8 _ _ ⟨s11, _, rfl, rfl, Kx8, Bx8_b6, Bx8_b4⟩
 unfold spec_l14reads.b0
 refine sq ?_
 refine sr ?_
 refine pu rfl rfl rfl rfl rfl ?_
 refine fa fa99_3 rfl rfl rfl rfl rfl rfl ?_
 refine ld Bx8_b4 Try.underlying56 rfl rfl rfl rfl rfl rfl rfl rfl ?_
 have A14 := (A0_0.kp Kx8)
 refine ln A14 Try.underlying56 rfl rfl rfl rfl rfl rfl ?_
 refine pu rfl rfl rfl rfl rfl ?_
 refine dn ?_
 refine cd rfl (fun h15 => ?_) (fun h15 => ?_)
 ·
  refine sk ?_
  refine sq ?_
  refine bl ?_
  refine sq ?_
  refine zdraw [[], [0], [], [1, 2], [3], [4], [], [6], [], [7, 8], [9], [10], [], [5, 11, 12]] [some 13, some 14, some 15, some 16, some 17, some 18, some 19, some 20, some 21, some 22, some 23, some 24, some 25, some 26] [[2], [13], [5], [14, 15], [16], [17], [2], [19], [5], [20, 21], [22], [23], [3], [18, 24, 25]] [0, 1, 2, 3, 4, 5, 6, 7, 8, 9, 10, 11, 12, 13] ⟨by kernel_rfl, by kernel_rfl, by kernel_rfl⟩ (by kernel_rfl) (fun s16 p16 l16 tb16 zd16 => ?_)
  have zd17 := zd16.add 0 13 (.pointer (some ⟨b4, 3, none⟩)) rfl
  have A18 := (BlF.st Bx8_b4 p16 rfl)
  have zd19 := zd17.add 1 14 w0_0 rfl
  have zd20 := zd19.add 2 15 (.int .i64 x8) rfl
  have K21 := (Kx8.st p16 rfl)
  have A22 := (A0_0.kp K21)
  refine mg fun hg23 => ?_
  obtain ⟨ad23, es23, he23, ce23, ia23⟩ := ix_e A22 rfl hg23.1 hg23.2
  have h0_23 := hg23.1
  have h1_23 := hg23.2
  obtain ⟨v23_0, v23_1, v23_2, v23_3, rfl, A23_0, A23_1, A23_2, A23_3⟩ := op80 he23
  have zd27 := zd20.add 3 16 (.pointer (some ad23)) rfl
  have zd28 := zd27.add 4 17 (.pointer (some ad23)) rfl
  have zd29 := zd28.add 5 18 (.agg #[(.int .i64 (((at_ a0.Reads x8).From).Kind)), (.int .i64 (((at_ a0.Reads x8).From).N)), v23_0, v23_1]) rfl
  have zd30 := zd29.add 6 19 (.pointer (some ⟨b4, 3, none⟩)) rfl
  have A31 := (BlF.st Bx8_b4 p16 rfl)
  have zd32 := zd30.add 7 20 w0_0 rfl
  have zd33 := zd32.add 8 21 (.int .i64 x8) rfl
  refine mg fun hg34 => ?_
  obtain ⟨ad34, es34, he34, ce34, ia34⟩ := ix_e A22 rfl hg34.1 hg34.2
  have h0_34 := hg34.1
  have h1_34 := hg34.2
  obtain ⟨v34_0, v34_1, v34_2, v34_3, rfl, A34_0, A34_1, A34_2, A34_3⟩ := op80 he34
  have zd38 := zd33.add 9 22 (.pointer (some ad34)) rfl
  have zd39 := zd38.add 10 23 (.pointer (some (ad34.add 4))) rfl
  have zd40 := zd39.add 11 24 (.agg #[(.int .i64 (((at_ a0.Reads x8).To).Kind)), (.int .i64 (((at_ a0.Reads x8).To).N)), v34_2, v34_3]) rfl
  have A41 := (BlF.st Bx8_b6 p16 rfl)
  have zd42 := zd40.add 12 25 (.agg #[(.int .i64 a1.Kind), (.int .i64 a1.N), w1_0, w1_1]) rfl
  have A43 := (BlF.st Bx8_b4 p16 rfl)
  have A44 := (BlF.st Bx8_b4 p16 rfl)
  have A45 := (BlF.st Bx8_b6 p16 rfl)
  refine zfin [13] tb16 zd42 (pq_cons (lda_q (es := [(.int .i64 a1.Kind), (.int .i64 a1.N), w1_0, w1_1]) A45 Try.underlying48 z48 rfl rfl rfl rfl rfl rfl rfl rfl) rfl (pq_cons (lcq_q (q := 4) (es' := [(.int .i64 (((at_ a0.Reads x8).To).Kind)), (.int .i64 (((at_ a0.Reads x8).To).N)), v34_2, v34_3]) ce34 Try.underlying48 z48 rfl rfl rfl rfl rfl rfl rfl rfl) rfl (pq_cons (fa_q fa80_1 rfl rfl rfl rfl rfl rfl) rfl (pq_cons (ix_q A22 Try.underlying56 z80 hg34.1 hg34.2 ia34 rfl rfl rfl rfl rfl rfl rfl) rfl (pq_cons (pu_q rfl rfl rfl rfl rfl rfl) rfl (pq_cons (ld_q A44 Try.underlying56 rfl rfl rfl rfl rfl rfl rfl rfl) rfl (pq_cons (fa_q fa99_3 rfl rfl rfl rfl rfl rfl) rfl (pq_cons (lcq_q (q := 0) (es' := [(.int .i64 (((at_ a0.Reads x8).From).Kind)), (.int .i64 (((at_ a0.Reads x8).From).N)), v23_0, v23_1]) ce23 Try.underlying48 z48 rfl rfl rfl rfl rfl rfl rfl rfl) rfl (pq_cons (fa_q fa80_0 rfl rfl rfl rfl rfl rfl) rfl (pq_cons (ix_q A22 Try.underlying56 z80 hg23.1 hg23.2 ia23 rfl rfl rfl rfl rfl rfl rfl) rfl (pq_cons (pu_q rfl rfl rfl rfl rfl rfl) rfl (pq_cons (ld_q A43 Try.underlying56 rfl rfl rfl rfl rfl rfl rfl rfl) rfl (pq_cons (fa_q fa99_3 rfl rfl rfl rfl rfl rfl) rfl pq_nil))))))))))))) (by kernel_rfl) (by decide) ?_
  have A46 := (A1_1.kp K21)
  refine cl rfl rfl rfl rfl rfl Try.func109 rfl rfl rfl (fun r47 m47 => spec_InSpan.calls ((at_ a0.Reads x8).From) ((at_ a0.Reads x8).To) a1 s16.w (fun b => memb [0] (s16.g b) = true) v23_0 v23_1 v34_2 v34_3 w1_0 w1_1 ((fl_rdf (s := s16) A23_0).sub (D := [0]) rfl) A23_1 ((fl_rdf (s := s16) A34_2).sub (D := [0]) rfl) A34_3 ((fl_rdf (s := s16) A1_0).sub (D := [0]) rfl) A46 r47 m47) ?_
  rintro r47 _ w47 m47 ⟨rfl, ky47⟩
  obtain ⟨s48, rfl, p48, n48⟩ := nwx s16 w47 42 ky47
  refine dn ?_
  refine cd rfl (fun h49 => ?_) (fun h49 => ?_)
  ·
   refine sr ?_
   refine pu rfl rfl rfl rfl rfl ?_
   refine dn ?_
   refine sgi ?_
   have K50 := (K21.st p48 rfl)
   exact re rfl Try.func177 rfl (r_t rfl r_nil) rfl ⟨_, rfl, rfl, z.ky K50⟩
  ·
   refine sk ?_
   refine ib ?_
   refine rg ?_
   refine pu rfl rfl rfl rfl rfl ?_
   refine pu rfl rfl rfl rfl rfl ?_
   refine pu rfl rfl rfl rfl rfl ?_
   refine dn ?_
   have A51 := (BlF.st (BlF.st Bx8_b6 p16 rfl) p48 rfl)
   have A52 := (BlF.st (BlF.st Bx8_b4 p16 rfl) p48 rfl)
   have K53 := (K21.st p48 rfl)
   exact lb ih8 ⟨s48, _, rfl, (ue (ue (ue rfl rfl) rfl) rfl), K53, A51, A52⟩
 ·
  refine xt rfl ?_
  refine sgb ?_
  refine sr ?_
  refine pu rfl rfl rfl rfl rfl ?_
  refine dn ?_
  exact re rfl Try.func177 rfl (r_t rfl r_nil) rfl ⟨_, rfl, rfl, z.ky Kx8⟩
noncomputable def spec_l14edge.b1 (a0 : Deed) (a1 : Deed) (x116 : Int) : Option (Int ⊕ Bool) :=
 (if (decide (x116 < (a1.Writes.length : Int))) = true then ((if (decide (a1.Ended > a0.Begun)) = true then (if 0 ≤ x116 ∧ x116 < (a1.Writes.length : Int) then ((spec_l14reads.f a0 (at_ a1.Writes x116)).bind fun r151 => (some r151)) else none) else (some false)).bind fun y131 => (if y131 = true then (some (Sum.inr true)) else (some (Sum.inl (IntKind.wrap .i64 (x116 + (1 : Int))))))) else ((some false).bind fun o => some (Sum.inr o)))
noncomputable def spec_l14edge.b0 (a0 : Deed) (a1 : Deed) (x9 : Int) : Option (Int ⊕ Bool) :=
 (if (decide (x9 < (a0.Writes.length : Int))) = true then ((if (decide (a0.Ended < a1.Ended)) = true then (if 0 ≤ x9 ∧ x9 < (a0.Writes.length : Int) then ((spec_l13has.f a1.Writes (at_ a0.Writes x9)).bind fun r46 => (some r46)) else none) else (some false)).bind fun y26 => (if y26 = true then (some (Sum.inr true)) else ((if (decide (a0.Ended < a1.Begun)) = true then (if 0 ≤ x9 ∧ x9 < (a0.Writes.length : Int) then ((spec_l14reads.f a1 (at_ a0.Writes x9)).bind fun r96 => (some r96)) else none) else (some false)).bind fun y76 => (if y76 = true then (some (Sum.inr true)) else (some (Sum.inl (IntKind.wrap .i64 (x9 + (1 : Int))))))))) else ((iter (spec_l14edge.b1 a0 a1) (0 : Int)).bind fun o => some (Sum.inr o)))
noncomputable def spec_l14edge.f (a0 : Deed) (a1 : Deed) : Option (Bool) :=
 (iter (spec_l14edge.b0 a0 a1) (0 : Int))
def spec_l14edge.Q (w : World) (F : Nat → Prop) (r : Bool) (v : Value) (w' : World) : Prop :=
 v = (.bool r) ∧ Ky [] w w'
set_option maxHeartbeats 4000000 in
set_option maxRecDepth 100000 in
theorem spec_l14edge.calls (a0 : Deed) (a1 : Deed) (w : World) (F : Nat → Prop) (w0_0 : Value) (w0_1 : Value) (w1_0 : Value) (w1_1 : Value) (h0_0 : (Kd.sl 80 kd80).rd w [w0_0] a0.Reads F) (h0_1 : (Kd.sl 48 kd48).rd w [w0_1] a0.Writes F) (h1_0 : (Kd.sl 80 kd80).rd w [w1_0] a1.Reads F) (h1_1 : (Kd.sl 48 kd48).rd w [w1_1] a1.Writes F) (r : Bool) (m : spec_l14edge.f a0 a1 = some r) :
  Calls Try.prog 121 #[(.agg #[(.int .i64 a0.Xid), (.int .i64 a0.Begun), (.int .i64 a0.Ended), w0_0, w0_1]), (.agg #[(.int .i64 a1.Xid), (.int .i64 a1.Begun), (.int .i64 a1.Ended), w1_0, w1_1])] w fun en w' => ∃ v, en = .returned v ∧ spec_l14edge.Q w F r v w' := by
 obtain ⟨s0, rfl, kp0, z⟩ := start0 w F
 have A0_0 := z.rd h0_0
 have A0_1 := z.rd h0_1
 have A1_0 := z.rd h1_0
 have A1_1 := z.rd h1_1
 refine calls_of_TM (args := [(.agg #[(.int .i64 a0.Xid), (.int .i64 a0.Begun), (.int .i64 a0.Ended), w0_0, w0_1]), (.agg #[(.int .i64 a1.Xid), (.int .i64 a1.Begun), (.int .i64 a1.Ended), w1_0, w1_1])]) (R := fun r en w' => ∃ v, en = .returned v ∧ spec_l14edge.Q s0.w F r v w') Try.func121 Try.ntmps121 rfl rfl m ?_
 unfold spec_l14edge.f
 refine sr ?_
 refine bx (cs := [(.int .i64 a0.Xid), (.int .i64 a0.Begun), (.int .i64 a0.Ended), w0_0, w0_1]) 40 rfl rfl rfl rfl rfl rfl (fun b5 s5 p5 B5 => ?_)
 refine bx (cs := [(.int .i64 a1.Xid), (.int .i64 a1.Begun), (.int .i64 a1.Ended), w1_0, w1_1]) 41 rfl rfl rfl rfl rfl rfl (fun b7 s7 p7 B7 => ?_)
 refine pu rfl rfl rfl rfl rfl ?_
 refine dn ?_
 refine sq ?_
 refine sr ?_
 refine pu rfl rfl rfl rfl rfl ?_
 refine dn ?_
 refine bl ?_
 have A10 := (BlF.st B5 p7 rfl)
 have K11 := ((kp0.st p5 rfl).st p7 rfl)
 refine lpI (fun (x9 : Int) (e : Env) (w : World) => ∃ (s : St) (e0 : Env), w = s.w ∧ e = upd (upd (upd e0 2 (.pointer (some ⟨b5, 0, none⟩))) 3 (.pointer (some ⟨b7, 0, none⟩))) 5 (.int .i64 x9) ∧ Kp s0 s ∧ BlF s b7 99 [(.int .i64 a1.Xid), (.int .i64 a1.Begun), (.int .i64 a1.Ended), w1_0, w1_1] 41 ∧ BlF s b5 99 [(.int .i64 a0.Xid), (.int .i64 a0.Begun), (.int .i64 a0.Ended), w0_0, w0_1] 40) ⟨s7, _, rfl, (ue (ue (ue rfl rfl) rfl) rfl), K11, B7, A10⟩ (fun g9 ih9 => ?_)
 rintro x9 _ _ ⟨s12, _, rfl, rfl, Kx9, Bx9_b7, Bx9_b5⟩
 unfold spec_l14edge.b0
 refine sq ?_
 refine sr ?_
 refine pu rfl rfl rfl rfl rfl ?_
 refine fa fa99_4 rfl rfl rfl rfl rfl rfl ?_
 refine ld Bx9_b5 Try.underlying57 rfl rfl rfl rfl rfl rfl rfl rfl ?_
 have A15 := (A0_1.kp Kx9)
 refine ln A15 Try.underlying57 rfl rfl rfl rfl rfl rfl ?_
 refine pu rfl rfl rfl rfl rfl ?_
 refine dn ?_
 refine cd rfl (fun h16 => ?_) (fun h16 => ?_)
 ·
  refine sk ?_
  refine sq ?_
  refine bl ?_
  refine sq ?_
  refine sq ?_
  refine zdraw [[], [0], [], [2], [1, 3], [4], [5], [6, 5], [5], [8, 5], [5], [9, 10, 5], [11, 5], [7, 12, 5, 5], [5, 13]] [some 14, some 15, some 16, some 17, some 18, some 19, some 20, some 21, some 22, some 23, some 24, some 25, some 26, some 27, some 28] [[2], [14], [3], [16], [15, 17], [18], [3, 19], [20, 19], [2, 19], [22, 19], [5, 19], [23, 24, 19], [25, 19], [21, 26, 19], [19, 27]] [0, 1, 2, 3, 4, 5, 6, 7, 8, 9, 10, 11, 12, 13, 14] ⟨by kernel_rfl, by kernel_rfl, by kernel_rfl⟩ (by kernel_rfl) (fun s17 p17 l17 tb17 zd17 => ?_)
  have zd18 := zd17.add 0 14 (.pointer (some ⟨b5, 2, none⟩)) rfl
  have A19 := (BlF.st Bx9_b5 p17 rfl)
  have zd20 := zd18.add 1 15 (.int .i64 a0.Ended) rfl
  have zd21 := zd20.add 2 16 (.pointer (some ⟨b7, 2, none⟩)) rfl
  have A22 := (BlF.st Bx9_b7 p17 rfl)
  have zd23 := zd21.add 3 17 (.int .i64 a1.Ended) rfl
  have zd24 := zd23.add 4 18 (.bool (decide (a0.Ended < a1.Ended))) rfl
  have zd25 := zd24.add 5 19 (.bool (decide (a0.Ended < a1.Ended))) rfl
  refine ji [] (fun (y26 : Bool) (e : Env) (w : World) => ∃ (s : St) (e0 : Env), w = s.w ∧ e = upd (upd (upd (upd e0 2 (.pointer (some ⟨b5, 0, none⟩))) 3 (.pointer (some ⟨b7, 0, none⟩))) 5 (.int .i64 x9)) 28 (.bool y26) ∧ Kp s0 s ∧ BlF s b7 99 [(.int .i64 a1.Xid), (.int .i64 a1.Begun), (.int .i64 a1.Ended), w1_0, w1_1] 41 ∧ BlF s b5 99 [(.int .i64 a0.Xid), (.int .i64 a0.Begun), (.int .i64 a0.Ended), w0_0, w0_1] 40) (fun Gj26 Kj26 => ?_) ?_
  ·
   rcases Bool.eq_false_or_eq_true (decide (a0.Ended < a1.Ended)) with hb26 | hb26
   ·
    rw [if_pos hb26]
    rw [hb26] at zd25
    try rw [hb26]
    have zd27 := zd25.add 6 20 (.pointer (some ⟨b7, 4, none⟩)) rfl
    have A28 := (BlF.st Bx9_b7 p17 rfl)
    have zd29 := zd27.add 7 21 w1_1 rfl
    have zd30 := zd29.add 8 22 (.pointer (some ⟨b5, 4, none⟩)) rfl
    have A31 := (BlF.st Bx9_b5 p17 rfl)
    have zd32 := zd30.add 9 23 w0_1 rfl
    have zd33 := zd32.add 10 24 (.int .i64 x9) rfl
    have K34 := (Kx9.st p17 rfl)
    have A35 := (A0_1.kp K34)
    refine mg fun hg36 => ?_
    obtain ⟨ad36, es36, he36, ce36, ia36⟩ := ix_e A35 rfl hg36.1 hg36.2
    have h0_36 := hg36.1
    have h1_36 := hg36.2
    obtain ⟨v36_0, v36_1, rfl, A36_0, A36_1⟩ := op48 he36
    have zd39 := zd33.add 11 25 (.pointer (some ad36)) rfl
    have zd40 := zd39.add 12 26 (.agg #[(.int .i64 ((at_ a0.Writes x9).Kind)), (.int .i64 ((at_ a0.Writes x9).N)), v36_0, v36_1]) rfl
    have A41 := (BlF.st Bx9_b5 p17 rfl)
    have A42 := (BlF.st Bx9_b7 p17 rfl)
    have A43 := (BlF.st Bx9_b7 p17 rfl)
    have A44 := (BlF.st Bx9_b5 p17 rfl)
    refine zfin [13, 14] tb17 zd40 (pq_cons (lca_q ce36 Try.underlying48 z48 rfl rfl rfl rfl rfl rfl rfl) rfl (pq_cons (ix_q A35 Try.underlying57 z48 hg36.1 hg36.2 ia36 rfl rfl rfl rfl rfl rfl rfl) rfl (pq_cons (pu_q rfl rfl rfl rfl rfl rfl) rfl (pq_cons (ld_q A44 Try.underlying57 rfl rfl rfl rfl rfl rfl rfl rfl) rfl (pq_cons (fa_q fa99_4 rfl rfl rfl rfl rfl rfl) rfl (pq_cons (ld_q A43 Try.underlying57 rfl rfl rfl rfl rfl rfl rfl rfl) rfl (pq_cons (fa_q fa99_4 rfl rfl rfl rfl rfl rfl) rfl (pq_cons (pu_q rfl rfl rfl rfl rfl rfl) rfl (pq_cons (qv_b (pu_q rfl rfl rfl rfl rfl rfl) hb26) rfl (pq_cons (ld_q A42 Try.underlying3 rfl rfl rfl rfl rfl rfl rfl rfl) rfl (pq_cons (fa_q fa99_2 rfl rfl rfl rfl rfl rfl) rfl (pq_cons (ld_q A41 Try.underlying3 rfl rfl rfl rfl rfl rfl rfl rfl) rfl (pq_cons (fa_q fa99_2 rfl rfl rfl rfl rfl rfl) rfl pq_nil))))))))))))) (by kernel_rfl) (by decide) ?_
    have A45 := (A1_1.kp K34)
    refine cl rfl rfl rfl rfl rfl Try.func176 rfl rfl rfl (fun r46 m46 => spec_l13has.calls a1.Writes (at_ a0.Writes x9) s17.w (fun b => memb [0] (s17.g b) = true) w1_1 v36_0 v36_1 A45 ((fl_rdf (s := s17) A36_0).sub (D := [0]) rfl) A36_1 r46 m46) ?_
    rintro r46 _ w46 m46 ⟨rfl, ky46⟩
    obtain ⟨s47, rfl, p47, n47⟩ := nwx s17 w46 42 ky46
    refine pu rfl rfl rfl rfl rfl ?_
    have A48 := (BlF.st (BlF.st Bx9_b7 p17 rfl) p47 rfl)
    have A49 := (BlF.st (BlF.st Bx9_b5 p17 rfl) p47 rfl)
    have K50 := (K34.st p47 rfl)
    exact Kj26 _ _ _ ⟨s47, _, rfl, (ue (ue (ue (ue rfl rfl) rfl) rfl) rfl), K50, A48, A49⟩
   ·
    rw [if_neg (by rw [hb26]; decide)]
    rw [hb26] at zd25
    try rw [hb26]
    have zd51 := zd25.add 6 20 undef rfl
    have zd52 := zd51.add 7 21 undef rfl
    have zd53 := zd52.add 8 22 undef rfl
    have zd54 := zd53.add 9 23 undef rfl
    have zd55 := zd54.add 10 24 undef rfl
    have zd56 := zd55.add 11 25 undef rfl
    have zd57 := zd56.add 12 26 undef rfl
    have A58 := (BlF.st Bx9_b5 p17 rfl)
    have A59 := (BlF.st Bx9_b7 p17 rfl)
    refine zfin [13, 14] tb17 zd57 (pq_cons (uw_q rfl rfl rfl rfl rfl) rfl (pq_cons (uw_q rfl rfl rfl rfl rfl) rfl (pq_cons (uw_q rfl rfl rfl rfl rfl) rfl (pq_cons (uw_q rfl rfl rfl rfl rfl) rfl (pq_cons (uw_q rfl rfl rfl rfl rfl) rfl (pq_cons (uw_q rfl rfl rfl rfl rfl) rfl (pq_cons (uw_q rfl rfl rfl rfl rfl) rfl (pq_cons (pu_q rfl rfl rfl rfl rfl rfl) rfl (pq_cons (qv_b (pu_q rfl rfl rfl rfl rfl rfl) hb26) rfl (pq_cons (ld_q A59 Try.underlying3 rfl rfl rfl rfl rfl rfl rfl rfl) rfl (pq_cons (fa_q fa99_2 rfl rfl rfl rfl rfl rfl) rfl (pq_cons (ld_q A58 Try.underlying3 rfl rfl rfl rfl rfl rfl rfl rfl) rfl (pq_cons (fa_q fa99_2 rfl rfl rfl rfl rfl rfl) rfl pq_nil))))))))))))) (by kernel_rfl) (by decide) ?_
    refine uw rfl rfl rfl rfl ?_
    refine pu rfl rfl rfl rfl rfl ?_
    have A60 := (BlF.st Bx9_b7 p17 rfl)
    have A61 := (BlF.st Bx9_b5 p17 rfl)
    have K62 := (Kx9.st p17 rfl)
    exact Kj26 _ _ _ ⟨s17, _, rfl, (ue (ue (ue (ue rfl rfl) rfl) rfl) rfl), K62, A60, A61⟩
  rintro y26 _ _ ⟨s63, _, rfl, rfl, Ky26, By26_b7, By26_b5⟩
  refine dn ?_
  refine cd rfl (fun h66 => ?_) (fun h66 => ?_)
  ·
   refine sr ?_
   refine pu rfl rfl rfl rfl rfl ?_
   refine dn ?_
   refine sgi ?_
   exact re rfl Try.func121 rfl (r_t rfl r_nil) rfl ⟨_, rfl, rfl, z.ky Ky26⟩
  ·
   refine sk ?_
   refine sq ?_
   refine zdraw [[], [0], [], [2], [1, 3], [4], [5], [5], [7, 5], [5], [8, 9, 5], [10, 5], [6, 11, 5, 5], [5, 12]] [some 29, some 30, some 31, some 32, some 33, some 34, some 35, some 36, some 37, some 38, some 39, some 40, some 41, some 42] [[2], [29], [3], [31], [30, 32], [33], [3, 34], [2, 34], [36, 34], [5, 34], [37, 38, 34], [39, 34], [35, 40, 34], [34, 41]] [0, 1, 2, 3, 4, 5, 6, 7, 8, 9, 10, 11, 12, 13] ⟨by kernel_rfl, by kernel_rfl, by kernel_rfl⟩ (by kernel_rfl) (fun s67 p67 l67 tb67 zd67 => ?_)
   have zd68 := zd67.add 0 29 (.pointer (some ⟨b5, 2, none⟩)) rfl
   have A69 := (BlF.st By26_b5 p67 rfl)
   have zd70 := zd68.add 1 30 (.int .i64 a0.Ended) rfl
   have zd71 := zd70.add 2 31 (.pointer (some ⟨b7, 1, none⟩)) rfl
   have A72 := (BlF.st By26_b7 p67 rfl)
   have zd73 := zd71.add 3 32 (.int .i64 a1.Begun) rfl
   have zd74 := zd73.add 4 33 (.bool (decide (a0.Ended < a1.Begun))) rfl
   have zd75 := zd74.add 5 34 (.bool (decide (a0.Ended < a1.Begun))) rfl
   refine ji [] (fun (y76 : Bool) (e : Env) (w : World) => ∃ (s : St) (e0 : Env), w = s.w ∧ e = upd (upd (upd (upd e0 2 (.pointer (some ⟨b5, 0, none⟩))) 3 (.pointer (some ⟨b7, 0, none⟩))) 5 (.int .i64 x9)) 42 (.bool y76) ∧ Kp s0 s ∧ BlF s b7 99 [(.int .i64 a1.Xid), (.int .i64 a1.Begun), (.int .i64 a1.Ended), w1_0, w1_1] 41 ∧ BlF s b5 99 [(.int .i64 a0.Xid), (.int .i64 a0.Begun), (.int .i64 a0.Ended), w0_0, w0_1] 40) (fun Gj76 Kj76 => ?_) ?_
   ·
    rcases Bool.eq_false_or_eq_true (decide (a0.Ended < a1.Begun)) with hb76 | hb76
    ·
     rw [if_pos hb76]
     rw [hb76] at zd75
     try rw [hb76]
     have A77 := (BlF.st By26_b7 p67 rfl)
     have zd78 := zd75.add 6 35 (.agg #[(.int .i64 a1.Xid), (.int .i64 a1.Begun), (.int .i64 a1.Ended), w1_0, w1_1]) rfl
     have zd79 := zd78.add 7 36 (.pointer (some ⟨b5, 4, none⟩)) rfl
     have A80 := (BlF.st By26_b5 p67 rfl)
     have zd81 := zd79.add 8 37 w0_1 rfl
     have zd82 := zd81.add 9 38 (.int .i64 x9) rfl
     have K83 := (Ky26.st p67 rfl)
     have A84 := (A0_1.kp K83)
     refine mg fun hg85 => ?_
     obtain ⟨ad85, es85, he85, ce85, ia85⟩ := ix_e A84 rfl hg85.1 hg85.2
     have h0_85 := hg85.1
     have h1_85 := hg85.2
     obtain ⟨v85_0, v85_1, rfl, A85_0, A85_1⟩ := op48 he85
     have zd88 := zd82.add 10 39 (.pointer (some ad85)) rfl
     have zd89 := zd88.add 11 40 (.agg #[(.int .i64 ((at_ a0.Writes x9).Kind)), (.int .i64 ((at_ a0.Writes x9).N)), v85_0, v85_1]) rfl
     have A90 := (BlF.st By26_b5 p67 rfl)
     have A91 := (BlF.st By26_b7 p67 rfl)
     have A92 := (BlF.st By26_b7 p67 rfl)
     have A93 := (BlF.st By26_b5 p67 rfl)
     refine zfin [12, 13] tb67 zd89 (pq_cons (lca_q ce85 Try.underlying48 z48 rfl rfl rfl rfl rfl rfl rfl) rfl (pq_cons (ix_q A84 Try.underlying57 z48 hg85.1 hg85.2 ia85 rfl rfl rfl rfl rfl rfl rfl) rfl (pq_cons (pu_q rfl rfl rfl rfl rfl rfl) rfl (pq_cons (ld_q A93 Try.underlying57 rfl rfl rfl rfl rfl rfl rfl rfl) rfl (pq_cons (fa_q fa99_4 rfl rfl rfl rfl rfl rfl) rfl (pq_cons (lda_q (es := [(.int .i64 a1.Xid), (.int .i64 a1.Begun), (.int .i64 a1.Ended), w1_0, w1_1]) A92 Try.underlying99 z99 rfl rfl rfl rfl rfl rfl rfl rfl) rfl (pq_cons (pu_q rfl rfl rfl rfl rfl rfl) rfl (pq_cons (qv_b (pu_q rfl rfl rfl rfl rfl rfl) hb76) rfl (pq_cons (ld_q A91 Try.underlying3 rfl rfl rfl rfl rfl rfl rfl rfl) rfl (pq_cons (fa_q fa99_1 rfl rfl rfl rfl rfl rfl) rfl (pq_cons (ld_q A90 Try.underlying3 rfl rfl rfl rfl rfl rfl rfl rfl) rfl (pq_cons (fa_q fa99_2 rfl rfl rfl rfl rfl rfl) rfl pq_nil)))))))))))) (by kernel_rfl) (by decide) ?_
     have A94 := (A1_0.kp K83)
     have A95 := (A1_1.kp K83)
     refine cl rfl rfl rfl rfl rfl Try.func177 rfl rfl rfl (fun r96 m96 => spec_l14reads.calls a1 (at_ a0.Writes x9) s67.w (fun b => memb [0] (s67.g b) = true) w1_0 w1_1 v85_0 v85_1 A94 A95 ((fl_rdf (s := s67) A85_0).sub (D := [0]) rfl) A85_1 r96 m96) ?_
     rintro r96 _ w96 m96 ⟨rfl, ky96⟩
     obtain ⟨s97, rfl, p97, n97⟩ := nwx s67 w96 43 ky96
     refine pu rfl rfl rfl rfl rfl ?_
     have A98 := (BlF.st (BlF.st By26_b7 p67 rfl) p97 rfl)
     have A99 := (BlF.st (BlF.st By26_b5 p67 rfl) p97 rfl)
     have K100 := (K83.st p97 rfl)
     exact Kj76 _ _ _ ⟨s97, _, rfl, (ue (ue (ue (ue rfl rfl) rfl) rfl) rfl), K100, A98, A99⟩
    ·
     rw [if_neg (by rw [hb76]; decide)]
     rw [hb76] at zd75
     try rw [hb76]
     have zd101 := zd75.add 6 35 undef rfl
     have zd102 := zd101.add 7 36 undef rfl
     have zd103 := zd102.add 8 37 undef rfl
     have zd104 := zd103.add 9 38 undef rfl
     have zd105 := zd104.add 10 39 undef rfl
     have zd106 := zd105.add 11 40 undef rfl
     have A107 := (BlF.st By26_b5 p67 rfl)
     have A108 := (BlF.st By26_b7 p67 rfl)
     refine zfin [12, 13] tb67 zd106 (pq_cons (uw_q rfl rfl rfl rfl rfl) rfl (pq_cons (uw_q rfl rfl rfl rfl rfl) rfl (pq_cons (uw_q rfl rfl rfl rfl rfl) rfl (pq_cons (uw_q rfl rfl rfl rfl rfl) rfl (pq_cons (uw_q rfl rfl rfl rfl rfl) rfl (pq_cons (uw_q rfl rfl rfl rfl rfl) rfl (pq_cons (pu_q rfl rfl rfl rfl rfl rfl) rfl (pq_cons (qv_b (pu_q rfl rfl rfl rfl rfl rfl) hb76) rfl (pq_cons (ld_q A108 Try.underlying3 rfl rfl rfl rfl rfl rfl rfl rfl) rfl (pq_cons (fa_q fa99_1 rfl rfl rfl rfl rfl rfl) rfl (pq_cons (ld_q A107 Try.underlying3 rfl rfl rfl rfl rfl rfl rfl rfl) rfl (pq_cons (fa_q fa99_2 rfl rfl rfl rfl rfl rfl) rfl pq_nil)))))))))))) (by kernel_rfl) (by decide) ?_
     refine uw rfl rfl rfl rfl ?_
     refine pu rfl rfl rfl rfl rfl ?_
     have A109 := (BlF.st By26_b7 p67 rfl)
     have A110 := (BlF.st By26_b5 p67 rfl)
     have K111 := (Ky26.st p67 rfl)
     exact Kj76 _ _ _ ⟨s67, _, rfl, (ue (ue (ue (ue rfl rfl) rfl) rfl) rfl), K111, A109, A110⟩
   rintro y76 _ _ ⟨s112, _, rfl, rfl, Ky76, By76_b7, By76_b5⟩
   refine dn ?_
   refine cd rfl (fun h115 => ?_) (fun h115 => ?_)
   ·
    refine sr ?_
    refine pu rfl rfl rfl rfl rfl ?_
    refine dn ?_
    refine sgi ?_
    exact re rfl Try.func121 rfl (r_t rfl r_nil) rfl ⟨_, rfl, rfl, z.ky Ky76⟩
   ·
    refine sk ?_
    refine ib ?_
    refine rg ?_
    refine pu rfl rfl rfl rfl rfl ?_
    refine pu rfl rfl rfl rfl rfl ?_
    refine pu rfl rfl rfl rfl rfl ?_
    refine dn ?_
    exact lb ih9 ⟨s112, _, rfl, (ue (ue (ue rfl rfl) rfl) rfl), Ky76, By76_b7, By76_b5⟩
 ·
  refine xt rfl ?_
  refine sgb ?_
  refine sq ?_
  refine sr ?_
  refine pu rfl rfl rfl rfl rfl ?_
  refine dn ?_
  refine bl ?_
  refine lpI (fun (x116 : Int) (e : Env) (w : World) => ∃ (s : St) (e0 : Env), w = s.w ∧ e = upd (upd (upd e0 2 (.pointer (some ⟨b5, 0, none⟩))) 3 (.pointer (some ⟨b7, 0, none⟩))) 6 (.int .i64 x116) ∧ Kp s0 s ∧ BlF s b7 99 [(.int .i64 a1.Xid), (.int .i64 a1.Begun), (.int .i64 a1.Ended), w1_0, w1_1] 41 ∧ BlF s b5 99 [(.int .i64 a0.Xid), (.int .i64 a0.Begun), (.int .i64 a0.Ended), w0_0, w0_1] 40) ⟨s12, _, rfl, (ue (ue (ue rfl rfl) rfl) rfl), Kx9, Bx9_b7, Bx9_b5⟩ (fun g116 ih116 => ?_)
  rintro x116 _ _ ⟨s117, _, rfl, rfl, Kx116, Bx116_b7, Bx116_b5⟩
  unfold spec_l14edge.b1
  refine sq ?_
  refine sr ?_
  refine pu rfl rfl rfl rfl rfl ?_
  refine fa fa99_4 rfl rfl rfl rfl rfl rfl ?_
  refine ld Bx116_b7 Try.underlying57 rfl rfl rfl rfl rfl rfl rfl rfl ?_
  have A120 := (A1_1.kp Kx116)
  refine ln A120 Try.underlying57 rfl rfl rfl rfl rfl rfl ?_
  refine pu rfl rfl rfl rfl rfl ?_
  refine dn ?_
  refine cd rfl (fun h121 => ?_) (fun h121 => ?_)
  ·
   refine sk ?_
   refine sq ?_
   refine bl ?_
   refine sq ?_
   refine zdraw [[], [0], [], [2], [1, 3], [4], [5], [5], [7, 5], [5], [8, 9, 5], [10, 5], [6, 11, 5, 5], [5, 12]] [some 50, some 51, some 52, some 53, some 54, some 55, some 56, some 57, some 58, some 59, some 60, some 61, some 62, some 63] [[3], [50], [2], [52], [51, 53], [54], [2, 55], [3, 55], [57, 55], [6, 55], [58, 59, 55], [60, 55], [56, 61, 55], [55, 62]] [0, 1, 2, 3, 4, 5, 6, 7, 8, 9, 10, 11, 12, 13] ⟨by kernel_rfl, by kernel_rfl, by kernel_rfl⟩ (by kernel_rfl) (fun s122 p122 l122 tb122 zd122 => ?_)
   have zd123 := zd122.add 0 50 (.pointer (some ⟨b7, 2, none⟩)) rfl
   have A124 := (BlF.st Bx116_b7 p122 rfl)
   have zd125 := zd123.add 1 51 (.int .i64 a1.Ended) rfl
   have zd126 := zd125.add 2 52 (.pointer (some ⟨b5, 1, none⟩)) rfl
   have A127 := (BlF.st Bx116_b5 p122 rfl)
   have zd128 := zd126.add 3 53 (.int .i64 a0.Begun) rfl
   have zd129 := zd128.add 4 54 (.bool (decide (a1.Ended > a0.Begun))) rfl
   have zd130 := zd129.add 5 55 (.bool (decide (a1.Ended > a0.Begun))) rfl
   refine ji [] (fun (y131 : Bool) (e : Env) (w : World) => ∃ (s : St) (e0 : Env), w = s.w ∧ e = upd (upd (upd (upd e0 2 (.pointer (some ⟨b5, 0, none⟩))) 3 (.pointer (some ⟨b7, 0, none⟩))) 6 (.int .i64 x116)) 63 (.bool y131) ∧ Kp s0 s ∧ BlF s b7 99 [(.int .i64 a1.Xid), (.int .i64 a1.Begun), (.int .i64 a1.Ended), w1_0, w1_1] 41 ∧ BlF s b5 99 [(.int .i64 a0.Xid), (.int .i64 a0.Begun), (.int .i64 a0.Ended), w0_0, w0_1] 40) (fun Gj131 Kj131 => ?_) ?_
   ·
    rcases Bool.eq_false_or_eq_true (decide (a1.Ended > a0.Begun)) with hb131 | hb131
    ·
     rw [if_pos hb131]
     rw [hb131] at zd130
     try rw [hb131]
     have A132 := (BlF.st Bx116_b5 p122 rfl)
     have zd133 := zd130.add 6 56 (.agg #[(.int .i64 a0.Xid), (.int .i64 a0.Begun), (.int .i64 a0.Ended), w0_0, w0_1]) rfl
     have zd134 := zd133.add 7 57 (.pointer (some ⟨b7, 4, none⟩)) rfl
     have A135 := (BlF.st Bx116_b7 p122 rfl)
     have zd136 := zd134.add 8 58 w1_1 rfl
     have zd137 := zd136.add 9 59 (.int .i64 x116) rfl
     have K138 := (Kx116.st p122 rfl)
     have A139 := (A1_1.kp K138)
     refine mg fun hg140 => ?_
     obtain ⟨ad140, es140, he140, ce140, ia140⟩ := ix_e A139 rfl hg140.1 hg140.2
     have h0_140 := hg140.1
     have h1_140 := hg140.2
     obtain ⟨v140_0, v140_1, rfl, A140_0, A140_1⟩ := op48 he140
     have zd143 := zd137.add 10 60 (.pointer (some ad140)) rfl
     have zd144 := zd143.add 11 61 (.agg #[(.int .i64 ((at_ a1.Writes x116).Kind)), (.int .i64 ((at_ a1.Writes x116).N)), v140_0, v140_1]) rfl
     have A145 := (BlF.st Bx116_b7 p122 rfl)
     have A146 := (BlF.st Bx116_b5 p122 rfl)
     have A147 := (BlF.st Bx116_b5 p122 rfl)
     have A148 := (BlF.st Bx116_b7 p122 rfl)
     refine zfin [12, 13] tb122 zd144 (pq_cons (lca_q ce140 Try.underlying48 z48 rfl rfl rfl rfl rfl rfl rfl) rfl (pq_cons (ix_q A139 Try.underlying57 z48 hg140.1 hg140.2 ia140 rfl rfl rfl rfl rfl rfl rfl) rfl (pq_cons (pu_q rfl rfl rfl rfl rfl rfl) rfl (pq_cons (ld_q A148 Try.underlying57 rfl rfl rfl rfl rfl rfl rfl rfl) rfl (pq_cons (fa_q fa99_4 rfl rfl rfl rfl rfl rfl) rfl (pq_cons (lda_q (es := [(.int .i64 a0.Xid), (.int .i64 a0.Begun), (.int .i64 a0.Ended), w0_0, w0_1]) A147 Try.underlying99 z99 rfl rfl rfl rfl rfl rfl rfl rfl) rfl (pq_cons (pu_q rfl rfl rfl rfl rfl rfl) rfl (pq_cons (qv_b (pu_q rfl rfl rfl rfl rfl rfl) hb131) rfl (pq_cons (ld_q A146 Try.underlying3 rfl rfl rfl rfl rfl rfl rfl rfl) rfl (pq_cons (fa_q fa99_1 rfl rfl rfl rfl rfl rfl) rfl (pq_cons (ld_q A145 Try.underlying3 rfl rfl rfl rfl rfl rfl rfl rfl) rfl (pq_cons (fa_q fa99_2 rfl rfl rfl rfl rfl rfl) rfl pq_nil)))))))))))) (by kernel_rfl) (by decide) ?_
     have A149 := (A0_0.kp K138)
     have A150 := (A0_1.kp K138)
     refine cl rfl rfl rfl rfl rfl Try.func177 rfl rfl rfl (fun r151 m151 => spec_l14reads.calls a0 (at_ a1.Writes x116) s122.w (fun b => memb [0] (s122.g b) = true) w0_0 w0_1 v140_0 v140_1 A149 A150 ((fl_rdf (s := s122) A140_0).sub (D := [0]) rfl) A140_1 r151 m151) ?_
     rintro r151 _ w151 m151 ⟨rfl, ky151⟩
     obtain ⟨s152, rfl, p152, n152⟩ := nwx s122 w151 44 ky151
     refine pu rfl rfl rfl rfl rfl ?_
     have A153 := (BlF.st (BlF.st Bx116_b7 p122 rfl) p152 rfl)
     have A154 := (BlF.st (BlF.st Bx116_b5 p122 rfl) p152 rfl)
     have K155 := (K138.st p152 rfl)
     exact Kj131 _ _ _ ⟨s152, _, rfl, (ue (ue (ue (ue rfl rfl) rfl) rfl) rfl), K155, A153, A154⟩
    ·
     rw [if_neg (by rw [hb131]; decide)]
     rw [hb131] at zd130
     try rw [hb131]
     have zd156 := zd130.add 6 56 undef rfl
     have zd157 := zd156.add 7 57 undef rfl
     have zd158 := zd157.add 8 58 undef rfl
     have zd159 := zd158.add 9 59 undef rfl
     have zd160 := zd159.add 10 60 undef rfl
     have zd161 := zd160.add 11 61 undef rfl
     have A162 := (BlF.st Bx116_b7 p122 rfl)
     have A163 := (BlF.st Bx116_b5 p122 rfl)
     refine zfin [12, 13] tb122 zd161 (pq_cons (uw_q rfl rfl rfl rfl rfl) rfl (pq_cons (uw_q rfl rfl rfl rfl rfl) rfl (pq_cons (uw_q rfl rfl rfl rfl rfl) rfl (pq_cons (uw_q rfl rfl rfl rfl rfl) rfl (pq_cons (uw_q rfl rfl rfl rfl rfl) rfl (pq_cons (uw_q rfl rfl rfl rfl rfl) rfl (pq_cons (pu_q rfl rfl rfl rfl rfl rfl) rfl (pq_cons (qv_b (pu_q rfl rfl rfl rfl rfl rfl) hb131) rfl (pq_cons (ld_q A163 Try.underlying3 rfl rfl rfl rfl rfl rfl rfl rfl) rfl (pq_cons (fa_q fa99_1 rfl rfl rfl rfl rfl rfl) rfl (pq_cons (ld_q A162 Try.underlying3 rfl rfl rfl rfl rfl rfl rfl rfl) rfl (pq_cons (fa_q fa99_2 rfl rfl rfl rfl rfl rfl) rfl pq_nil)))))))))))) (by kernel_rfl) (by decide) ?_
     refine uw rfl rfl rfl rfl ?_
     refine pu rfl rfl rfl rfl rfl ?_
     have A164 := (BlF.st Bx116_b7 p122 rfl)
     have A165 := (BlF.st Bx116_b5 p122 rfl)
     have K166 := (Kx116.st p122 rfl)
     exact Kj131 _ _ _ ⟨s122, _, rfl, (ue (ue (ue (ue rfl rfl) rfl) rfl) rfl), K166, A164, A165⟩
   rintro y131 _ _ ⟨s167, _, rfl, rfl, Ky131, By131_b7, By131_b5⟩
   refine dn ?_
   refine cd rfl (fun h170 => ?_) (fun h170 => ?_)
   ·
    refine sr ?_
    refine pu rfl rfl rfl rfl rfl ?_
    refine dn ?_
    refine sgi ?_
    exact re rfl Try.func121 rfl (r_t rfl r_nil) rfl ⟨_, rfl, rfl, z.ky Ky131⟩
   ·
    refine sk ?_
    refine ib ?_
    refine rg ?_
    refine pu rfl rfl rfl rfl rfl ?_
    refine pu rfl rfl rfl rfl rfl ?_
    refine pu rfl rfl rfl rfl rfl ?_
    refine dn ?_
    exact lb ih116 ⟨s167, _, rfl, (ue (ue (ue rfl rfl) rfl) rfl), Ky131, By131_b7, By131_b5⟩
  ·
   refine xt rfl ?_
   refine sgb ?_
   refine sr ?_
   refine pu rfl rfl rfl rfl rfl ?_
   refine dn ?_
   exact re rfl Try.func121 rfl (r_t rfl r_nil) rfl ⟨_, rfl, rfl, z.ky Kx116⟩
noncomputable def spec_GraphEdges.b1 (a0 : (List Deed)) (x6 : (List A2Int) × Int) (x12 : (List A2Int) × Int) : Option (((List A2Int) × Int) ⊕ ((List A2Int) × Int ⊕ (List A2Int))) :=
 (if (decide (x12.2 < (a0.length : Int))) = true then ((if (x6.2 != x12.2) = true then (if 0 ≤ x6.2 ∧ x6.2 < (a0.length : Int) then (if 0 ≤ x12.2 ∧ x12.2 < (a0.length : Int) then ((spec_l14edge.f (at_ a0 x6.2) (at_ a0 x12.2)).bind fun r41 => (some r41)) else none) else none) else (some false)).bind fun y22 => ((if y22 = true then (if x12.1.length + ([(A2Int.mk x6.2 x12.2)]).length ≤ Lim then (some (x12.1 ++ [(A2Int.mk x6.2 x12.2)])) else none) else (some x12.1)).bind fun y56 => (some (Sum.inl (y56, (IntKind.wrap .i64 (x12.2 + (1 : Int)))))))) else ((some (Sum.inl (x12.1, (IntKind.wrap .i64 (x6.2 + (1 : Int)))))).bind fun o => some (Sum.inr o)))
noncomputable def spec_GraphEdges.b0 (a0 : (List Deed)) (x6 : (List A2Int) × Int) : Option (((List A2Int) × Int) ⊕ (List A2Int)) :=
 (if (decide (x6.2 < (a0.length : Int))) = true then (iter (spec_GraphEdges.b1 a0 x6) (x6.1, (0 : Int))) else ((some x6.1).bind fun o => some (Sum.inr o)))
noncomputable def spec_GraphEdges.f (a0 : (List Deed)) : Option ((List A2Int)) :=
 ((spec_DeedsOk.f a0).bind fun r2 => (if (!r2) = true then (some ([] : (List A2Int))) else (iter (spec_GraphEdges.b0 a0) (([] : (List A2Int)), (0 : Int)))))
def spec_GraphEdges.Q (w : World) (F : Nat → Prop) (r : (List A2Int)) (v : Value) (w' : World) : Prop :=
 FO (Kd.sl 162 kd162) w w' [v] r ∧ Ky [] w w'
set_option maxHeartbeats 4000000 in
set_option maxRecDepth 100000 in
theorem spec_GraphEdges.calls (a0 : (List Deed)) (w : World) (F : Nat → Prop) (w0_0 : Value) (h0_0 : (Kd.sl 99 kd99).rd w [w0_0] a0 F) (r : (List A2Int)) (m : spec_GraphEdges.f a0 = some r) :
  Calls Try.prog 48 #[w0_0] w fun en w' => ∃ v, en = .returned v ∧ spec_GraphEdges.Q w F r v w' := by
 obtain ⟨s0, rfl, kp0, z⟩ := start0 w F
 have A0_0 := z.rd h0_0
 refine calls_of_TM (args := [w0_0]) (R := fun r en w' => ∃ v, en = .returned v ∧ spec_GraphEdges.Q s0.w F r v w') Try.func48 Try.ntmps48 rfl rfl m ?_
 unfold spec_GraphEdges.f
 refine sr ?_
 refine pu rfl rfl rfl rfl rfl ?_
 refine dn ?_
 refine sr ?_
 refine pu rfl rfl rfl rfl rfl ?_
 refine dn ?_
 refine sq ?_
 refine sr ?_
 refine mv w0_0 rfl rfl rfl rfl rfl rfl ?_
 refine cl rfl rfl rfl rfl rfl Try.func47 rfl rfl rfl (fun r2 m2 => spec_DeedsOk.calls a0 s0.w (fun b => memb [0] (s0.g b) = true) w0_0 A0_0 r2 m2) ?_
 rintro r2 _ w2 m2 ⟨rfl, ky2⟩
 obtain ⟨s3, rfl, p3, n3⟩ := nwx s0 w2 40 ky2
 refine pu rfl rfl rfl rfl rfl ?_
 refine dn ?_
 refine cd rfl (fun h4 => ?_) (fun h4 => ?_)
 ·
  refine sr ?_
  refine pu rfl rfl rfl rfl rfl ?_
  refine pu rfl rfl rfl rfl rfl ?_
  refine dn ?_
  have K5 := (kp0.st p3 rfl)
  exact re rfl Try.func48 rfl (r_t rfl r_nil) rfl ⟨_, rfl, (ow_nil 162 kd162 s3 40).fo K5 rfl z.l, z.ky K5⟩
 ·
  refine sk ?_
  refine sq ?_
  refine sr ?_
  refine pu rfl rfl rfl rfl rfl ?_
  refine dn ?_
  refine bl ?_
  have K7 := (kp0.st p3 rfl)
  refine lpI (fun (x6 : (List A2Int) × Int) (e : Env) (w : World) => ∃ (s : St) (e0 : Env) (vx6_0 : Value), w = s.w ∧ e = upd (upd (upd e0 0 w0_0) 3 vx6_0) 4 (.int .i64 x6.2) ∧ Kp s0 s ∧ OwF (Kd.sl 162 kd162) s [vx6_0] x6.1 41) ⟨s3, _, (.slice none 0 0), rfl, (ue (ue (ue rfl rfl) rfl) rfl), K7, (ow_nil 162 kd162 _ 41)⟩ (fun g6 ih6 => ?_)
  rintro x6 _ _ ⟨s8, _, vx6_0, rfl, rfl, Kx6, Ax6_0⟩
  unfold spec_GraphEdges.b0
  refine sq ?_
  refine sr ?_
  refine pu rfl rfl rfl rfl rfl ?_
  refine mv w0_0 rfl rfl rfl rfl rfl rfl ?_
  have A10 := (A0_0.kp Kx6)
  refine ln A10 Try.underlying26 rfl rfl rfl rfl rfl rfl ?_
  refine pu rfl rfl rfl rfl rfl ?_
  refine dn ?_
  refine cd rfl (fun h11 => ?_) (fun h11 => ?_)
  ·
   refine sk ?_
   refine sq ?_
   refine bl ?_
   refine sr ?_
   refine pu rfl rfl rfl rfl rfl ?_
   refine dn ?_
   refine bl ?_
   refine lpI (fun (x12 : (List A2Int) × Int) (e : Env) (w : World) => ∃ (s : St) (e0 : Env) (vx12_0 : Value), w = s.w ∧ e = upd (upd (upd (upd e0 0 w0_0) 3 vx12_0) 4 (.int .i64 x6.2)) 5 (.int .i64 x12.2) ∧ Kp s0 s ∧ OwF (Kd.sl 162 kd162) s [vx12_0] x12.1 41) ⟨s8, _, vx6_0, rfl, (ue (ue (ue (ue rfl rfl) rfl) rfl) rfl), Kx6, Ax6_0⟩ (fun g12 ih12 => ?_)
   rintro x12 _ _ ⟨s13, _, vx12_0, rfl, rfl, Kx12, Ax12_0⟩
   unfold spec_GraphEdges.b1
   refine sq ?_
   refine sr ?_
   refine pu rfl rfl rfl rfl rfl ?_
   refine mv w0_0 rfl rfl rfl rfl rfl rfl ?_
   have A15 := (A0_0.kp Kx12)
   refine ln A15 Try.underlying26 rfl rfl rfl rfl rfl rfl ?_
   refine pu rfl rfl rfl rfl rfl ?_
   refine dn ?_
   refine cd rfl (fun h16 => ?_) (fun h16 => ?_)
   ·
    refine sk ?_
    refine sq ?_
    refine bl ?_
    refine sq ?_
    refine zdraw [[], [], [0, 1], [2], [3], [3], [4, 5, 3], [6, 3], [3], [3], [8, 9, 3], [10, 3], [7, 11, 3, 3], [3, 12]] [some 22, some 23, some 24, some 25, some 26, some 27, some 28, some 29, some 30, some 31, some 32, some 33, some 34, some 35] [[4], [5], [22, 23], [24], [0, 25], [4, 25], [26, 27, 25], [28, 25], [0, 25], [5, 25], [30, 31, 25], [32, 25], [29, 33, 25], [25, 34]] [0, 1, 2, 3, 4, 5, 6, 7, 8, 9, 10, 11, 12, 13] ⟨by kernel_rfl, by kernel_rfl, by kernel_rfl⟩ (by kernel_rfl) (fun s17 p17 l17 tb17 zd17 => ?_)
    have zd18 := zd17.add 0 22 (.int .i64 x6.2) rfl
    have zd19 := zd18.add 1 23 (.int .i64 x12.2) rfl
    have zd20 := zd19.add 2 24 (.bool (x6.2 != x12.2)) rfl
    have zd21 := zd20.add 3 25 (.bool (x6.2 != x12.2)) rfl
    refine ji [] (fun (y22 : Bool) (e : Env) (w : World) => ∃ (s : St) (e0 : Env), w = s.w ∧ e = upd (upd (upd (upd (upd e0 0 w0_0) 3 vx12_0) 4 (.int .i64 x6.2)) 5 (.int .i64 x12.2)) 35 (.bool y22) ∧ Kp s0 s ∧ OwF (Kd.sl 162 kd162) s [vx12_0] x12.1 41) (fun Gj22 Kj22 => ?_) ?_
    ·
     rcases Bool.eq_false_or_eq_true (x6.2 != x12.2) with hb22 | hb22
     ·
      rw [if_pos hb22]
      rw [hb22] at zd21
      try rw [hb22]
      have zd23 := zd21.add 4 26 w0_0 rfl
      have zd24 := zd23.add 5 27 (.int .i64 x6.2) rfl
      have K25 := (Kx12.st p17 rfl)
      have A26 := (A0_0.kp K25)
      refine mg fun hg27 => ?_
      obtain ⟨ad27, es27, he27, ce27, ia27⟩ := ix_e A26 rfl hg27.1 hg27.2
      have h0_27 := hg27.1
      have h1_27 := hg27.2
      obtain ⟨v27_0, v27_1, rfl, A27_0, A27_1⟩ := op99 he27
      have zd31 := zd24.add 6 28 (.pointer (some ad27)) rfl
      have zd32 := zd31.add 7 29 (.agg #[(.int .i64 ((at_ a0 x6.2).Xid)), (.int .i64 ((at_ a0 x6.2).Begun)), (.int .i64 ((at_ a0 x6.2).Ended)), v27_0, v27_1]) rfl
      have zd33 := zd32.add 8 30 w0_0 rfl
      have zd34 := zd33.add 9 31 (.int .i64 x12.2) rfl
      refine mg fun hg35 => ?_
      obtain ⟨ad35, es35, he35, ce35, ia35⟩ := ix_e A26 rfl hg35.1 hg35.2
      have h0_35 := hg35.1
      have h1_35 := hg35.2
      obtain ⟨v35_0, v35_1, rfl, A35_0, A35_1⟩ := op99 he35
      have zd39 := zd34.add 10 32 (.pointer (some ad35)) rfl
      have zd40 := zd39.add 11 33 (.agg #[(.int .i64 ((at_ a0 x12.2).Xid)), (.int .i64 ((at_ a0 x12.2).Begun)), (.int .i64 ((at_ a0 x12.2).Ended)), v35_0, v35_1]) rfl
      refine zfin [12, 13] tb17 zd40 (pq_cons (lca_q ce35 Try.underlying99 z99 rfl rfl rfl rfl rfl rfl rfl) rfl (pq_cons (ix_q A26 Try.underlying26 z99 hg35.1 hg35.2 ia35 rfl rfl rfl rfl rfl rfl rfl) rfl (pq_cons (pu_q rfl rfl rfl rfl rfl rfl) rfl (pq_cons (mv_q w0_0 rfl rfl rfl rfl rfl rfl) rfl (pq_cons (lca_q ce27 Try.underlying99 z99 rfl rfl rfl rfl rfl rfl rfl) rfl (pq_cons (ix_q A26 Try.underlying26 z99 hg27.1 hg27.2 ia27 rfl rfl rfl rfl rfl rfl rfl) rfl (pq_cons (pu_q rfl rfl rfl rfl rfl rfl) rfl (pq_cons (mv_q w0_0 rfl rfl rfl rfl rfl rfl) rfl (pq_cons (pu_q rfl rfl rfl rfl rfl rfl) rfl (pq_cons (qv_b (pu_q rfl rfl rfl rfl rfl rfl) hb22) rfl (pq_cons (pu_q rfl rfl rfl rfl rfl rfl) rfl (pq_cons (pu_q rfl rfl rfl rfl rfl rfl) rfl pq_nil)))))))))))) (by kernel_rfl) (by decide) ?_
      refine cl rfl rfl rfl rfl rfl Try.func121 rfl rfl rfl (fun r41 m41 => spec_l14edge.calls (at_ a0 x6.2) (at_ a0 x12.2) s17.w (fun b => memb [0] (s17.g b) = true) v27_0 v27_1 v35_0 v35_1 A27_0 A27_1 A35_0 A35_1 r41 m41) ?_
      rintro r41 _ w41 m41 ⟨rfl, ky41⟩
      obtain ⟨s42, rfl, p42, n42⟩ := nwx s17 w41 42 ky41
      refine pu rfl rfl rfl rfl rfl ?_
      have A43 := ((Ax12_0.st p17 rfl).st p42 rfl)
      have K44 := (K25.st p42 rfl)
      exact Kj22 _ _ _ ⟨s42, _, rfl, (ue (ue (ue (ue (ue rfl rfl) rfl) rfl) rfl) rfl), K44, A43⟩
     ·
      rw [if_neg (by rw [hb22]; decide)]
      rw [hb22] at zd21
      try rw [hb22]
      have zd45 := zd21.add 4 26 undef rfl
      have zd46 := zd45.add 5 27 undef rfl
      have zd47 := zd46.add 6 28 undef rfl
      have zd48 := zd47.add 7 29 undef rfl
      have zd49 := zd48.add 8 30 undef rfl
      have zd50 := zd49.add 9 31 undef rfl
      have zd51 := zd50.add 10 32 undef rfl
      have zd52 := zd51.add 11 33 undef rfl
      refine zfin [12, 13] tb17 zd52 (pq_cons (uw_q rfl rfl rfl rfl rfl) rfl (pq_cons (uw_q rfl rfl rfl rfl rfl) rfl (pq_cons (uw_q rfl rfl rfl rfl rfl) rfl (pq_cons (uw_q rfl rfl rfl rfl rfl) rfl (pq_cons (uw_q rfl rfl rfl rfl rfl) rfl (pq_cons (uw_q rfl rfl rfl rfl rfl) rfl (pq_cons (uw_q rfl rfl rfl rfl rfl) rfl (pq_cons (uw_q rfl rfl rfl rfl rfl) rfl (pq_cons (pu_q rfl rfl rfl rfl rfl rfl) rfl (pq_cons (qv_b (pu_q rfl rfl rfl rfl rfl rfl) hb22) rfl (pq_cons (pu_q rfl rfl rfl rfl rfl rfl) rfl (pq_cons (pu_q rfl rfl rfl rfl rfl rfl) rfl pq_nil)))))))))))) (by kernel_rfl) (by decide) ?_
      refine uw rfl rfl rfl rfl ?_
      refine pu rfl rfl rfl rfl rfl ?_
      have A53 := (Ax12_0.st p17 rfl)
      have K54 := (Kx12.st p17 rfl)
      exact Kj22 _ _ _ ⟨s17, _, rfl, (ue (ue (ue (ue (ue rfl rfl) rfl) rfl) rfl) rfl), K54, A53⟩
    rintro y22 _ _ ⟨s55, _, rfl, rfl, Ky22, Cy22_14⟩
    refine dn ?_
    refine jc (fun (y56 : (List A2Int)) (e : Env) (w : World) => ∃ (s : St) (e0 : Env) (vy56_0 : Value), w = s.w ∧ e = upd (upd (upd (upd e0 0 w0_0) 3 vy56_0) 4 (.int .i64 x6.2)) 5 (.int .i64 x12.2) ∧ Kp s0 s ∧ OwF (Kd.sl 162 kd162) s [vy56_0] y56 41) (fun Gj56 Kj56 => ?_) ?_
    ·
     refine cd rfl (fun h57 => ?_) (fun h57 => ?_)
     ·
      refine rg ?_
      refine mv vx12_0 rfl rfl rfl rfl rfl rfl ?_
      refine pu rfl rfl rfl rfl rfl ?_
      refine pu rfl rfl rfl rfl rfl ?_
      refine bdA (cells := [(.int .i64 x6.2), (.int .i64 x12.2)]) Try.underlying162 z3 o162 rfl rfl rfl rfl rfl rfl ?_
      refine ltF (K := kd162) (cells := [(.int .i64 x6.2), (.int .i64 x12.2)]) [(A2Int.mk x6.2 x12.2)] 43 (fl_iso (fl_pair fl_int fl_int)) Try.underlying91 z162 o162 (fun w => ⟨[(.int .i64 x6.2), (.int .i64 x12.2)], [], rfl, ⟨[(.int .i64 x6.2)], [(.int .i64 x12.2)], rfl, rfl, rfl⟩, rfl⟩) rfl rfl rfl rfl rfl rfl rfl rfl rfl rfl (fun v58 s58 p58 A58 => ?_)
      have A60 := (Cy22_14.st p58 rfl)
      refine apF (fl_iso (fl_pair fl_int fl_int)) sl91 A60 A58.rd rfl rfl rfl rfl rfl rfl rfl (fun v61 s61 p61 A61 => ?_)
      refine asg v61 rfl rfl rfl rfl rfl rfl ?_
      refine dn ?_
      have K63 := ((Ky22.st p58 rfl).st p61 rfl)
      exact Kj56 _ _ _ ⟨s61, _, v61, rfl, (ue (ue (ue (ue rfl rfl) rfl) rfl) rfl), K63, A61⟩
     ·
      refine sk ?_
      exact Kj56 _ _ _ ⟨s55, _, vx12_0, rfl, (ue (ue (ue (ue rfl rfl) rfl) rfl) rfl), Ky22, Cy22_14⟩
    rintro y56 _ _ ⟨s64, _, vy56_0, rfl, rfl, Ky56, Ay56_0⟩
    refine ib ?_
    refine rg ?_
    refine pu rfl rfl rfl rfl rfl ?_
    refine pu rfl rfl rfl rfl rfl ?_
    refine pu rfl rfl rfl rfl rfl ?_
    refine dn ?_
    exact lb ih12 ⟨s64, _, vy56_0, rfl, (ue (ue (ue (ue rfl rfl) rfl) rfl) rfl), Ky56, Ay56_0⟩
   ·
    refine xt rfl ?_
    refine sgb ?_
    refine ib ?_
    refine rg ?_
    refine pu rfl rfl rfl rfl rfl ?_
    refine pu rfl rfl rfl rfl rfl ?_
    refine pu rfl rfl rfl rfl rfl ?_
    refine dn ?_
    exact lb ih6 ⟨s13, _, vx12_0, rfl, (ue (ue (ue rfl rfl) rfl) rfl), Kx12, Ax12_0⟩
  ·
   refine xt rfl ?_
   refine sgb ?_
   refine sr ?_
   refine mv vx6_0 rfl rfl rfl rfl rfl rfl ?_
   refine asg vx6_0 rfl rfl rfl rfl rfl rfl ?_
   refine dn ?_
   exact re rfl Try.func48 rfl (r_t rfl r_nil) rfl ⟨_, rfl, Ax6_0.fo Kx6 rfl z.l, z.ky Kx6⟩
noncomputable def spec_l14ahead.b0 (a0 : (List A2Int)) (a1 : (List Bool)) (a2 : Int) (x3 : Int) : Option (Int ⊕ (Int × Bool)) :=
 (if (decide (x3 < (a0.length : Int))) = true then (if 0 ≤ x3 ∧ x3 < (a0.length : Int) then ((if ((at_ a0 x3).e1 == a2) = true then (if 0 ≤ x3 ∧ x3 < (a0.length : Int) then (if 0 ≤ (at_ a0 x3).e0 ∧ (at_ a0 x3).e0 < (a1.length : Int) then (some (at_ a1 ((at_ a0 x3).e0))) else none) else none) else (some false)).bind fun y9 => (if y9 = true then (if 0 ≤ x3 ∧ x3 < (a0.length : Int) then (some (Sum.inr ((at_ a0 x3).e0, true))) else none) else (some (Sum.inl (IntKind.wrap .i64 (x3 + (1 : Int))))))) else none) else ((some ((0 : Int), false)).bind fun o => some (Sum.inr o)))
noncomputable def spec_l14ahead.f (a0 : (List A2Int)) (a1 : (List Bool)) (a2 : Int) : Option (Int × Bool) :=
 (iter (spec_l14ahead.b0 a0 a1 a2) (0 : Int))
def spec_l14ahead.Q (w : World) (F : Nat → Prop) (r : Int × Bool) (v : Value) (w' : World) : Prop :=
 v = .tuple #[(.int .i64 r.1), (.bool r.2)] ∧ Ky [] w w'
set_option maxHeartbeats 4000000 in
set_option maxRecDepth 100000 in
theorem spec_l14ahead.calls (a0 : (List A2Int)) (a1 : (List Bool)) (a2 : Int) (w : World) (F : Nat → Prop) (w0_0 : Value) (w1_0 : Value) (h0_0 : (Kd.sl 162 kd162).rd w [w0_0] a0 F) (h1_0 : (Kd.sl 4 Kd.bool).rd w [w1_0] a1 F) (r : Int × Bool) (m : spec_l14ahead.f a0 a1 a2 = some r) :
  Calls Try.prog 50 #[w0_0, w1_0, (.int .i64 a2)] w fun en w' => ∃ v, en = .returned v ∧ spec_l14ahead.Q w F r v w' := by
 obtain ⟨s0, rfl, kp0, z⟩ := start0 w F
 have A0_0 := z.rd h0_0
 have A1_0 := z.rd h1_0
 refine calls_of_TM (args := [w0_0, w1_0, (.int .i64 a2)]) (R := fun r en w' => ∃ v, en = .returned v ∧ spec_l14ahead.Q s0.w F r v w') Try.func50 Try.ntmps50 rfl rfl m ?_
 unfold spec_l14ahead.f
 refine sr ?_
 refine pu rfl rfl rfl rfl rfl ?_
 refine pu rfl rfl rfl rfl rfl ?_
 refine dn ?_
 refine sq ?_
 refine sr ?_
 refine pu rfl rfl rfl rfl rfl ?_
 refine dn ?_
 refine bl ?_
 refine lpI (fun (x3 : Int) (e : Env) (w : World) => ∃ (s : St) (e0 : Env), w = s.w ∧ e = upd (upd (upd (upd e0 0 w0_0) 1 w1_0) 2 (.int .i64 a2)) 8 (.int .i64 x3) ∧ Kp s0 s) ⟨s0, _, rfl, (ue (ue (ue (ue rfl rfl) rfl) rfl) rfl), kp0⟩ (fun g3 ih3 => ?_)
 rintro x3 _ _ ⟨s4, _, rfl, rfl, Kx3⟩
 unfold spec_l14ahead.b0
 refine sq ?_
 refine sr ?_
 refine pu rfl rfl rfl rfl rfl ?_
 refine mv w0_0 rfl rfl rfl rfl rfl rfl ?_
 have A5 := (A0_0.kp Kx3)
 refine ln A5 Try.underlying91 rfl rfl rfl rfl rfl rfl ?_
 refine pu rfl rfl rfl rfl rfl ?_
 refine dn ?_
 refine cd rfl (fun h6 => ?_) (fun h6 => ?_)
 ·
  refine sk ?_
  refine sq ?_
  refine bl ?_
  refine sr ?_
  refine mv w0_0 rfl rfl rfl rfl rfl rfl ?_
  refine pu rfl rfl rfl rfl rfl ?_
  refine ix A5 Try.underlying91 z162 rfl rfl rfl rfl rfl rfl rfl rfl (fun ad7 es7 h0_7 h1_7 he7 ce7 ia7 => ?_)
  obtain ⟨rfl⟩ := op162 he7
  refine ixc (q := 1) Try.underlying162 z3 rfl rfl rfl rfl rfl rfl rfl rfl rfl ?_
  refine lc ce7 Try.underlying3 rfl rfl rfl rfl rfl rfl rfl rfl ?_
  refine pu rfl rfl rfl rfl rfl ?_
  refine pu rfl rfl rfl rfl rfl ?_
  refine pu rfl rfl rfl rfl rfl ?_
  refine ji [] (fun (y9 : Bool) (e : Env) (w : World) => ∃ (s : St) (e0 : Env), w = s.w ∧ e = upd (upd (upd (upd (upd e0 0 w0_0) 1 w1_0) 2 (.int .i64 a2)) 8 (.int .i64 x3)) 31 (.bool y9) ∧ Kp s0 s) (fun Gj9 Kj9 => ?_) ?_
  ·
   rcases Bool.eq_false_or_eq_true ((at_ a0 x3).e1 == a2) with hb9 | hb9
   ·
    refine sbT hb9 ?_
    rw [if_pos hb9]
    refine mv w1_0 rfl rfl rfl rfl rfl rfl ?_
    refine mv w0_0 rfl rfl rfl rfl rfl rfl ?_
    refine pu rfl rfl rfl rfl rfl ?_
    refine ix A5 Try.underlying91 z162 rfl rfl rfl rfl rfl rfl rfl rfl (fun ad10 es10 h0_10 h1_10 he10 ce10 ia10 => ?_)
    obtain ⟨rfl⟩ := op162 he10
    refine ixc (q := 0) Try.underlying162 z3 rfl rfl rfl rfl rfl rfl rfl rfl rfl ?_
    refine lc0 ce10 Try.underlying3 rfl rfl rfl rfl rfl rfl rfl rfl ?_
    have A12 := (A1_0.kp Kx3)
    refine ix A12 Try.underlying93 z4 rfl rfl rfl rfl rfl rfl rfl rfl (fun ad13 es13 h0_13 h1_13 he13 ce13 ia13 => ?_)
    obtain rfl := he13
    refine lc0 ce13 Try.underlying4 rfl rfl rfl rfl rfl rfl rfl rfl ?_
    refine pu rfl rfl rfl rfl rfl ?_
    exact Kj9 _ _ _ ⟨s4, _, rfl, (ue (ue (ue (ue (ue rfl rfl) rfl) rfl) rfl) rfl), Kx3⟩
   ·
    refine sbT hb9 ?_
    rw [if_neg (by rw [hb9]; decide)]
    refine uw rfl rfl rfl rfl ?_
    refine uw rfl rfl rfl rfl ?_
    refine uw rfl rfl rfl rfl ?_
    refine uw rfl rfl rfl rfl ?_
    refine uw rfl rfl rfl rfl ?_
    refine uw rfl rfl rfl rfl ?_
    refine uw rfl rfl rfl rfl ?_
    refine uw rfl rfl rfl rfl ?_
    refine pu rfl rfl rfl rfl rfl ?_
    exact Kj9 _ _ _ ⟨s4, _, rfl, (ue (ue (ue (ue (ue rfl rfl) rfl) rfl) rfl) rfl), Kx3⟩
  rintro y9 _ _ ⟨s15, _, rfl, rfl, Ky9⟩
  refine dn ?_
  refine cd rfl (fun h16 => ?_) (fun h16 => ?_)
  ·
   refine sr ?_
   refine mv w0_0 rfl rfl rfl rfl rfl rfl ?_
   refine pu rfl rfl rfl rfl rfl ?_
   have A17 := (A0_0.kp Ky9)
   refine ix A17 Try.underlying91 z162 rfl rfl rfl rfl rfl rfl rfl rfl (fun ad18 es18 h0_18 h1_18 he18 ce18 ia18 => ?_)
   obtain ⟨rfl⟩ := op162 he18
   refine ixc (q := 0) Try.underlying162 z3 rfl rfl rfl rfl rfl rfl rfl rfl rfl ?_
   refine lc0 ce18 Try.underlying3 rfl rfl rfl rfl rfl rfl rfl rfl ?_
   refine pu rfl rfl rfl rfl rfl ?_
   refine pu rfl rfl rfl rfl rfl ?_
   refine dn ?_
   refine sgi ?_
   exact re rfl Try.func50 rfl (r_t rfl (r_t rfl r_nil)) rfl ⟨_, rfl, rfl, z.ky Ky9⟩
  ·
   refine sk ?_
   refine ib ?_
   refine rg ?_
   refine pu rfl rfl rfl rfl rfl ?_
   refine pu rfl rfl rfl rfl rfl ?_
   refine pu rfl rfl rfl rfl rfl ?_
   refine dn ?_
   exact lb ih3 ⟨s15, _, rfl, (ue (ue (ue (ue rfl rfl) rfl) rfl) rfl), Ky9⟩
 ·
  refine xt rfl ?_
  refine sgb ?_
  refine sr ?_
  refine pu rfl rfl rfl rfl rfl ?_
  refine pu rfl rfl rfl rfl rfl ?_
  refine dn ?_
  exact re rfl Try.func50 rfl (r_t rfl (r_t rfl r_nil)) rfl ⟨_, rfl, rfl, z.ky Kx3⟩
noncomputable def spec_l14take.b2 (a0 : (List Deed)) (a1 : (List A2Int)) (x16 : (List Int) × (List Bool) × Int) (x22 : Int × Int) : Option ((Int × Int) ⊕ ((List Int) × (List Bool) × Int ⊕ (List Int) × (List Bool))) :=
 (if ((decide (x22.2 < (a0.length : Int))) && (decide (x22.1 < (0 : Int)))) = true then ((spec_l14ahead.f a1 x16.2.1 x22.2).bind fun r28 => (if 0 ≤ x22.2 ∧ x22.2 < (x16.2.1.length : Int) then ((if ((at_ x16.2.1 x22.2) && (!r28.2)) = true then (some x22.2) else (some x22.1)).bind fun y34 => (some (Sum.inl (y34, (IntKind.wrap .i64 (x22.2 + (1 : Int))))))) else none)) else ((if (decide (x22.1 < (0 : Int))) = true then (some (Sum.inr (x16.1, x16.2.1))) else (if x16.1.length + ([x22.1]).length ≤ Lim then (if 0 ≤ x22.1 ∧ x22.1 < (x16.2.1.length : Int) then (some (Sum.inl ((x16.1 ++ [x22.1]), (x16.2.1.set (x22.1).toNat false), (IntKind.wrap .i64 (x16.2.2 + (1 : Int)))))) else none) else none)).bind fun o => some (Sum.inr o)))
noncomputable def spec_l14take.b1 (a0 : (List Deed)) (a1 : (List A2Int)) (x16 : (List Int) × (List Bool) × Int) : Option (((List Int) × (List Bool) × Int) ⊕ ((List Int) × (List Bool))) :=
 (if (decide (x16.2.2 < (a0.length : Int))) = true then (iter (spec_l14take.b2 a0 a1 x16) ((-1 : Int), (0 : Int))) else ((some (x16.1, x16.2.1)).bind fun o => some (Sum.inr o)))
noncomputable def spec_l14take.b0 (a0 : (List Deed)) (a1 : (List A2Int)) (x5 : (List Bool) × Int) : Option (((List Bool) × Int) ⊕ ((List Int) × (List Bool))) :=
 (if (decide (x5.2 < (a0.length : Int))) = true then (if 0 ≤ x5.2 ∧ x5.2 < (x5.1.length : Int) then (some (Sum.inl ((x5.1.set (x5.2).toNat true), (IntKind.wrap .i64 (x5.2 + (1 : Int)))))) else none) else ((iter (spec_l14take.b1 a0 a1) (([] : (List Int)), x5.1, (0 : Int))).bind fun o => some (Sum.inr o)))
noncomputable def spec_l14take.f (a0 : (List Deed)) (a1 : (List A2Int)) : Option ((List Int) × (List Bool)) :=
 (if 0 ≤ (a0.length : Int) ∧ (a0.length : Int) ≤ (Lim : Int) then (iter (spec_l14take.b0 a0 a1) ((List.replicate ((a0.length : Int)).toNat false), (0 : Int))) else none)
def spec_l14take.Q (w : World) (F : Nat → Prop) (r : (List Int) × (List Bool)) (v : Value) (w' : World) : Prop :=
 ∃ (v0 : Value) (v1 : Value), v = .tuple #[v0, v1] ∧ FO (Kd.sl 3 (Kd.int .i64)) w w' [v0] r.1 ∧ FO (Kd.sl 4 Kd.bool) w w' [v1] r.2 ∧ Ky [] w w'
set_option maxHeartbeats 4000000 in
set_option maxRecDepth 100000 in
theorem spec_l14take.calls (a0 : (List Deed)) (a1 : (List A2Int)) (w : World) (F : Nat → Prop) (w0_0 : Value) (w1_0 : Value) (h0_0 : (Kd.sl 99 kd99).rd w [w0_0] a0 F) (h1_0 : (Kd.sl 162 kd162).rd w [w1_0] a1 F) (r : (List Int) × (List Bool)) (m : spec_l14take.f a0 a1 = some r) :
  Calls Try.prog 49 #[w0_0, w1_0] w fun en w' => ∃ v, en = .returned v ∧ spec_l14take.Q w F r v w' := by
 obtain ⟨s0, rfl, kp0, z⟩ := start0 w F
 have A0_0 := z.rd h0_0
 have A1_0 := z.rd h1_0
 refine calls_of_TM (args := [w0_0, w1_0]) (R := fun r en w' => ∃ v, en = .returned v ∧ spec_l14take.Q s0.w F r v w') Try.func49 Try.ntmps49 rfl rfl m ?_
 unfold spec_l14take.f
 refine sr ?_
 refine pu rfl rfl rfl rfl rfl ?_
 refine pu rfl rfl rfl rfl rfl ?_
 refine dn ?_
 refine sr ?_
 refine pu rfl rfl rfl rfl rfl ?_
 refine dn ?_
 refine sr ?_
 refine mv w0_0 rfl rfl rfl rfl rfl rfl ?_
 refine ln A0_0 Try.underlying26 rfl rfl rfl rfl rfl rfl ?_
 refine mk (x0 := false) (K := Kd.bool) 40 sl93 o4 (fun _ => ⟨rfl, rfl⟩) rfl rfl rfl rfl rfl rfl rfl (fun v3 s3 p3 A3 => ?_)
 refine asg v3 rfl rfl rfl rfl rfl rfl ?_
 refine dn ?_
 refine sq ?_
 refine sr ?_
 refine pu rfl rfl rfl rfl rfl ?_
 refine dn ?_
 refine bl ?_
 have K6 := (kp0.st p3 rfl)
 refine lpI (fun (x5 : (List Bool) × Int) (e : Env) (w : World) => ∃ (s : St) (e0 : Env), w = s.w ∧ e = upd (upd (upd (upd (upd e0 0 w0_0) 1 w1_0) 6 (.slice none 0 0)) 7 v3) 8 (.int .i64 x5.2) ∧ Kp s0 s ∧ OwF (Kd.sl 4 Kd.bool) s [v3] x5.1 40) ⟨s3, _, rfl, (ue (ue (ue (ue (ue rfl rfl) rfl) rfl) rfl) rfl), K6, A3⟩ (fun g5 ih5 => ?_)
 rintro x5 _ _ ⟨s7, _, rfl, rfl, Kx5, Ax5_0⟩
 unfold spec_l14take.b0
 refine sq ?_
 refine sr ?_
 refine pu rfl rfl rfl rfl rfl ?_
 refine mv w0_0 rfl rfl rfl rfl rfl rfl ?_
 have A9 := (A0_0.kp Kx5)
 refine ln A9 Try.underlying26 rfl rfl rfl rfl rfl rfl ?_
 refine pu rfl rfl rfl rfl rfl ?_
 refine dn ?_
 refine cd rfl (fun h10 => ?_) (fun h10 => ?_)
 ·
  refine sk ?_
  refine sq ?_
  refine bl ?_
  refine rg ?_
  refine mv v3 rfl rfl rfl rfl rfl rfl ?_
  refine pu rfl rfl rfl rfl rfl ?_
  refine ix Ax5_0.rd Try.underlying93 z4 rfl rfl rfl rfl rfl rfl rfl rfl (fun ad11 es11 h0_11 h1_11 he11 ce11 ia11 => ?_)
  obtain rfl := he11
  refine so (x' := true) Ax5_0 ia11 h0_11 h1_11 cs_flat z4 rfl rfl rfl rfl rfl rfl (fun s13 p13 A13 => ?_)
  refine dn ?_
  refine ib ?_
  refine rg ?_
  refine pu rfl rfl rfl rfl rfl ?_
  refine pu rfl rfl rfl rfl rfl ?_
  refine pu rfl rfl rfl rfl rfl ?_
  refine dn ?_
  have K15 := (Kx5.st p13 rfl)
  exact lb ih5 ⟨s13, _, rfl, (ue (ue (ue (ue (ue rfl rfl) rfl) rfl) rfl) rfl), K15, A13⟩
 ·
  refine xt rfl ?_
  refine sgb ?_
  refine sq ?_
  refine sr ?_
  refine pu rfl rfl rfl rfl rfl ?_
  refine dn ?_
  refine bl ?_
  refine lpI (fun (x16 : (List Int) × (List Bool) × Int) (e : Env) (w : World) => ∃ (s : St) (e0 : Env) (vx16_0 : Value), w = s.w ∧ e = upd (upd (upd (upd (upd e0 0 w0_0) 1 w1_0) 6 vx16_0) 7 v3) 9 (.int .i64 x16.2.2) ∧ Kp s0 s ∧ OwF (Kd.sl 3 (Kd.int .i64)) s [vx16_0] x16.1 42 ∧ OwF (Kd.sl 4 Kd.bool) s [v3] x16.2.1 40) ⟨s7, _, (.slice none 0 0), rfl, (ue (ue (ue (ue (ue rfl rfl) rfl) rfl) rfl) rfl), Kx5, (ow_nil 3 (Kd.int .i64) _ 42), Ax5_0⟩ (fun g16 ih16 => ?_)
  rintro x16 _ _ ⟨s17, _, vx16_0, rfl, rfl, Kx16, Ax16_0, Ax16_1⟩
  unfold spec_l14take.b1
  refine sq ?_
  refine sr ?_
  refine pu rfl rfl rfl rfl rfl ?_
  refine mv w0_0 rfl rfl rfl rfl rfl rfl ?_
  have A20 := (A0_0.kp Kx16)
  refine ln A20 Try.underlying26 rfl rfl rfl rfl rfl rfl ?_
  refine pu rfl rfl rfl rfl rfl ?_
  refine dn ?_
  refine cd rfl (fun h21 => ?_) (fun h21 => ?_)
  ·
   refine sk ?_
   refine sq ?_
   refine bl ?_
   refine sr ?_
   refine pu rfl rfl rfl rfl rfl ?_
   refine dn ?_
   refine sq ?_
   refine sr ?_
   refine pu rfl rfl rfl rfl rfl ?_
   refine dn ?_
   refine bl ?_
   refine lpI (fun (x22 : Int × Int) (e : Env) (w : World) => ∃ (s : St) (e0 : Env), w = s.w ∧ e = upd (upd (upd (upd (upd (upd (upd e0 0 w0_0) 1 w1_0) 6 vx16_0) 7 v3) 9 (.int .i64 x16.2.2)) 10 (.int .i64 x22.1)) 11 (.int .i64 x22.2) ∧ Kp s0 s ∧ OwF (Kd.sl 3 (Kd.int .i64)) s [vx16_0] x16.1 42 ∧ OwF (Kd.sl 4 Kd.bool) s [v3] x16.2.1 40) ⟨s17, _, rfl, (ue (ue (ue (ue (ue (ue (ue rfl rfl) rfl) rfl) rfl) rfl) rfl) rfl), Kx16, Ax16_0, Ax16_1⟩ (fun g22 ih22 => ?_)
   rintro x22 _ _ ⟨s23, _, rfl, rfl, Kx22, Cx22_18, Cx22_19⟩
   unfold spec_l14take.b2
   refine sq ?_
   refine sr ?_
   refine pu rfl rfl rfl rfl rfl ?_
   refine mv w0_0 rfl rfl rfl rfl rfl rfl ?_
   have A24 := (A0_0.kp Kx22)
   refine ln A24 Try.underlying26 rfl rfl rfl rfl rfl rfl ?_
   refine pu rfl rfl rfl rfl rfl ?_
   refine pu rfl rfl rfl rfl rfl ?_
   refine jy [36, 37, 38, 39] [] 39 (.bool ((decide (x22.2 < (a0.length : Int))) && (decide (x22.1 < (0 : Int))))) rfl (fun Kg25 => ?_) (fun j25 => ?_)
   ·
    rcases Bool.eq_false_or_eq_true (decide (x22.2 < (a0.length : Int))) with hb25 | hb25
    ·
     refine sbT hb25 ?_
     refine pu rfl rfl rfl rfl rfl ?_
     refine pu rfl rfl rfl rfl rfl ?_
     refine pu rfl rfl rfl rfl rfl ?_
     exact Kg25 _ (Ag.put ((Ag.put ((Ag.put (Ag.base rfl) rfl)) rfl)) rfl) (by rw [hb25]; rfl)
    ·
     refine sbT hb25 ?_
     refine uw rfl rfl rfl rfl ?_
     refine uw rfl rfl rfl rfl ?_
     refine pu rfl rfl rfl rfl rfl ?_
     exact Kg25 _ (Ag.put ((Ag.put ((Ag.put (Ag.base rfl) rfl)) rfl)) rfl) (by rw [hb25]; rfl)
   refine dn ?_
   refine cd rfl (fun h26 => ?_) (fun h26 => ?_)
   ·
    refine sk ?_
    refine sq ?_
    refine bl ?_
    refine sr ?_
    refine mv w1_0 rfl rfl rfl rfl rfl rfl ?_
    refine mv v3 rfl rfl rfl rfl rfl rfl ?_
    refine pu rfl rfl rfl rfl rfl ?_
    have A27 := (A1_0.kp Kx22)
    refine cl rfl rfl rfl rfl rfl Try.func50 rfl rfl rfl (fun r28 m28 => spec_l14ahead.calls a1 x16.2.1 x22.2 s23.w (fun b => memb [0, 40] (s23.g b) = true) w1_0 v3 (A27.sub (D := [0, 40]) rfl) (Cx22_19.rd.sub (D := [0, 40]) rfl) r28 m28) ?_
    rintro r28 _ w28 m28 ⟨rfl, ky28⟩
    obtain ⟨s29, rfl, p29, n29⟩ := nwx s23 w28 43 ky28
    refine pu rfl rfl rfl rfl rfl ?_
    refine pu (v := (.int .i64 r28.1)) rfl rfl rfl rfl rfl ?_
    refine pu (v := (.bool r28.2)) rfl rfl rfl rfl rfl ?_
    refine pu rfl rfl rfl rfl rfl ?_
    refine pu rfl rfl rfl rfl rfl ?_
    refine dn ?_
    refine sr ?_
    refine mv v3 rfl rfl rfl rfl rfl rfl ?_
    refine pu rfl rfl rfl rfl rfl ?_
    have A30 := (Cx22_19.st p29 rfl)
    refine ix A30.rd Try.underlying93 z4 rfl rfl rfl rfl rfl rfl rfl rfl (fun ad31 es31 h0_31 h1_31 he31 ce31 ia31 => ?_)
    obtain rfl := he31
    refine lc0 ce31 Try.underlying4 rfl rfl rfl rfl rfl rfl rfl rfl ?_
    refine pu rfl rfl rfl rfl rfl ?_
    refine jy [53, 54, 55, 56] [] 56 (.bool ((at_ x16.2.1 x22.2) && (!r28.2))) rfl (fun Kg33 => ?_) (fun j33 => ?_)
    ·
     rcases Bool.eq_false_or_eq_true (at_ x16.2.1 x22.2) with hb33 | hb33
     ·
      refine sbT hb33 ?_
      refine pu rfl rfl rfl rfl rfl ?_
      refine pu rfl rfl rfl rfl rfl ?_
      refine pu rfl rfl rfl rfl rfl ?_
      exact Kg33 _ (Ag.put ((Ag.put ((Ag.put (Ag.base rfl) rfl)) rfl)) rfl) (by rw [hb33]; rfl)
     ·
      refine sbT hb33 ?_
      refine uw rfl rfl rfl rfl ?_
      refine uw rfl rfl rfl rfl ?_
      refine pu rfl rfl rfl rfl rfl ?_
      exact Kg33 _ (Ag.put ((Ag.put ((Ag.put (Ag.base rfl) rfl)) rfl)) rfl) (by rw [hb33]; rfl)
    refine dn ?_
    refine jc (fun (y34 : Int) (e : Env) (w : World) => ∃ (s : St) (e0 : Env), w = s.w ∧ e = upd (upd (upd (upd (upd (upd (upd e0 0 w0_0) 1 w1_0) 6 vx16_0) 7 v3) 9 (.int .i64 x16.2.2)) 10 (.int .i64 y34)) 11 (.int .i64 x22.2) ∧ Kp s0 s ∧ OwF (Kd.sl 3 (Kd.int .i64)) s [vx16_0] x16.1 42 ∧ OwF (Kd.sl 4 Kd.bool) s [v3] x16.2.1 40) (fun Gj34 Kj34 => ?_) ?_
    ·
     refine cd rfl (fun h35 => ?_) (fun h35 => ?_)
     ·
      refine rg ?_
      refine pu rfl rfl rfl rfl rfl ?_
      refine pu rfl rfl rfl rfl rfl ?_
      refine dn ?_
      have A36 := (Cx22_18.st p29 rfl)
      have K37 := (Kx22.st p29 rfl)
      exact Kj34 _ _ _ ⟨s29, _, rfl, (ue (ue (ue (ue (ue (ue (ue rfl rfl) rfl) rfl) rfl) rfl) rfl) rfl), K37, A36, A30⟩
     ·
      refine sk ?_
      have A38 := (Cx22_18.st p29 rfl)
      have K39 := (Kx22.st p29 rfl)
      exact Kj34 _ _ _ ⟨s29, _, rfl, (ue (ue (ue (ue (ue (ue (ue rfl rfl) rfl) rfl) rfl) rfl) rfl) rfl), K39, A38, A30⟩
    rintro y34 _ _ ⟨s40, _, rfl, rfl, Ky34, Cy34_18, Cy34_19⟩
    refine ib ?_
    refine rg ?_
    refine pu rfl rfl rfl rfl rfl ?_
    refine pu rfl rfl rfl rfl rfl ?_
    refine pu rfl rfl rfl rfl rfl ?_
    refine dn ?_
    exact lb ih22 ⟨s40, _, rfl, (ue (ue (ue (ue (ue (ue (ue rfl rfl) rfl) rfl) rfl) rfl) rfl) rfl), Ky34, Cy34_18, Cy34_19⟩
   ·
    refine xt rfl ?_
    refine sgb ?_
    refine sq ?_
    refine sr ?_
    refine pu rfl rfl rfl rfl rfl ?_
    refine pu rfl rfl rfl rfl rfl ?_
    refine dn ?_
    refine cd rfl (fun h41 => ?_) (fun h41 => ?_)
    ·
     refine sr ?_
     refine mv vx16_0 rfl rfl rfl rfl rfl rfl ?_
     refine mv v3 rfl rfl rfl rfl rfl rfl ?_
     refine asg vx16_0 rfl rfl rfl rfl rfl rfl ?_
     refine asg v3 rfl rfl rfl rfl rfl rfl ?_
     refine dn ?_
     refine sgi ?_
     exact re rfl Try.func49 rfl (r_t rfl (r_t rfl r_nil)) rfl ⟨_, rfl, vx16_0, v3, rfl, Cx22_18.fo Kx22 rfl z.l, Cx22_19.fo Kx22 rfl z.l, z.ky Kx22⟩
    ·
     refine sk ?_
     refine sr ?_
     refine mv vx16_0 rfl rfl rfl rfl rfl rfl ?_
     refine pu rfl rfl rfl rfl rfl ?_
     refine ltF (K := (Kd.int .i64)) (cells := [(.int .i64 x22.1)]) [x22.1] 44 fl_int Try.underlying24 z3 o3 (fun w => (els_flat _ _ _)) rfl rfl rfl rfl rfl rfl rfl rfl rfl rfl (fun v42 s42 p42 A42 => ?_)
     have A44 := (Cx22_18.st p42 rfl)
     refine apF fl_int sl24 A44 A42.rd rfl rfl rfl rfl rfl rfl rfl (fun v45 s45 p45 A45 => ?_)
     refine asg v45 rfl rfl rfl rfl rfl rfl ?_
     refine dn ?_
     refine rg ?_
     refine mv v3 rfl rfl rfl rfl rfl rfl ?_
     refine pu rfl rfl rfl rfl rfl ?_
     have A47 := ((Cx22_19.st p42 rfl).st p45 rfl)
     refine ix A47.rd Try.underlying93 z4 rfl rfl rfl rfl rfl rfl rfl rfl (fun ad48 es48 h0_48 h1_48 he48 ce48 ia48 => ?_)
     obtain rfl := he48
     refine so (x' := false) A47 ia48 h0_48 h1_48 cs_flat z4 rfl rfl rfl rfl rfl rfl (fun s50 p50 A50 => ?_)
     refine dn ?_
     refine ib ?_
     refine rg ?_
     refine pu rfl rfl rfl rfl rfl ?_
     refine pu rfl rfl rfl rfl rfl ?_
     refine pu rfl rfl rfl rfl rfl ?_
     refine dn ?_
     have A52 := (A45.st p50 rfl)
     have K53 := (((Kx22.st p42 rfl).st p45 rfl).st p50 rfl)
     exact lb ih16 ⟨s50, _, v45, rfl, (ue (ue (ue (ue (ue rfl rfl) rfl) rfl) rfl) rfl), K53, A52, A50⟩
  ·
   refine xt rfl ?_
   refine sgb ?_
   refine sr ?_
   refine mv vx16_0 rfl rfl rfl rfl rfl rfl ?_
   refine mv v3 rfl rfl rfl rfl rfl rfl ?_
   refine asg vx16_0 rfl rfl rfl rfl rfl rfl ?_
   refine asg v3 rfl rfl rfl rfl rfl rfl ?_
   refine dn ?_
   exact re rfl Try.func49 rfl (r_t rfl (r_t rfl r_nil)) rfl ⟨_, rfl, vx16_0, v3, rfl, Ax16_0.fo Kx16 rfl z.l, Ax16_1.fo Kx16 rfl z.l, z.ky Kx16⟩
noncomputable def spec_GraphRing.b2 (r8 : (List A2Int)) (r13 : (List Int) × (List Bool)) (x29 : Int × (List Int) × Int) (x34 : Int) : Option (Int ⊕ (Int × (List Int) × Int ⊕ (List Int))) :=
 (if (decide (x34 < (x29.2.1.length : Int))) = true then (if 0 ≤ x34 ∧ x34 < (x29.2.1.length : Int) then (if ((at_ x29.2.1 x34) == x29.1) = true then (if 0 ≤ x34 ∧ x34 ≤ (x29.2.1.length : Int) then (if ([] : (List Int)).length + (x29.2.1.drop (x34).toNat).length ≤ Lim then (some (Sum.inr (Sum.inr (([] : (List Int)) ++ (x29.2.1.drop (x34).toNat))))) else none) else none) else (some (Sum.inl (IntKind.wrap .i64 (x34 + (1 : Int)))))) else none) else ((if x29.2.1.length + ([x29.1]).length ≤ Lim then ((spec_l14ahead.f r8 r13.2 x29.1).bind fun r55 => (some (Sum.inl (r55.1, (x29.2.1 ++ [x29.1]), (IntKind.wrap .i64 (x29.2.2 + (1 : Int))))))) else none).bind fun o => some (Sum.inr o)))
noncomputable def spec_GraphRing.b1 (a0 : (List Deed)) (r8 : (List A2Int)) (r13 : (List Int) × (List Bool)) (x29 : Int × (List Int) × Int) : Option ((Int × (List Int) × Int) ⊕ (List Int)) :=
 (if (decide (x29.2.2 ≤ (a0.length : Int))) = true then (iter (spec_GraphRing.b2 r8 r13 x29) (0 : Int)) else ((some ([] : (List Int))).bind fun o => some (Sum.inr o)))
noncomputable def spec_GraphRing.b0 (a0 : (List Deed)) (r8 : (List A2Int)) (r13 : (List Int) × (List Bool)) (x20 : Int) : Option (Int ⊕ (List Int)) :=
 ((if (decide (x20 < (IntKind.wrap .i64 ((a0.length : Int) - (1 : Int))))) = true then (if 0 ≤ x20 ∧ x20 < (r13.2.length : Int) then (some (!(at_ r13.2 x20))) else none) else (some false)).bind fun y24 => (if y24 = true then (some (Sum.inl (IntKind.wrap .i64 (x20 + (1 : Int))))) else ((iter (spec_GraphRing.b1 a0 r8 r13) (x20, ([] : (List Int)), (0 : Int))).bind fun o => some (Sum.inr o))))
noncomputable def spec_GraphRing.f (a0 : (List Deed)) : Option ((List Int)) :=
 ((spec_DeedsOk.f a0).bind fun r2 => (if (!r2) = true then (some ([] : (List Int))) else ((spec_GraphEdges.f a0).bind fun r8 => ((spec_l14take.f a0 r8).bind fun r13 => (if ((r13.1.length : Int) == (a0.length : Int)) = true then (some ([] : (List Int))) else (iter (spec_GraphRing.b0 a0 r8 r13) (0 : Int)))))))
def spec_GraphRing.Q (w : World) (F : Nat → Prop) (r : (List Int)) (v : Value) (w' : World) : Prop :=
 FO (Kd.sl 3 (Kd.int .i64)) w w' [v] r ∧ Ky [] w w'
set_option maxHeartbeats 4000000 in
set_option maxRecDepth 100000 in
theorem spec_GraphRing.calls (a0 : (List Deed)) (w : World) (F : Nat → Prop) (w0_0 : Value) (h0_0 : (Kd.sl 99 kd99).rd w [w0_0] a0 F) (r : (List Int)) (m : spec_GraphRing.f a0 = some r) :
  Calls Try.prog 9 #[w0_0] w fun en w' => ∃ v, en = .returned v ∧ spec_GraphRing.Q w F r v w' := by
 obtain ⟨s0, rfl, kp0, z⟩ := start0 w F
 have A0_0 := z.rd h0_0
 refine calls_of_TM (args := [w0_0]) (R := fun r en w' => ∃ v, en = .returned v ∧ spec_GraphRing.Q s0.w F r v w') Try.func9 Try.ntmps9 rfl rfl m ?_
 unfold spec_GraphRing.f
 refine sr ?_
 refine pu rfl rfl rfl rfl rfl ?_
 refine dn ?_
 refine sq ?_
 refine sr ?_
 refine mv w0_0 rfl rfl rfl rfl rfl rfl ?_
 refine cl rfl rfl rfl rfl rfl Try.func47 rfl rfl rfl (fun r2 m2 => spec_DeedsOk.calls a0 s0.w (fun b => memb [0] (s0.g b) = true) w0_0 A0_0 r2 m2) ?_
 rintro r2 _ w2 m2 ⟨rfl, ky2⟩
 obtain ⟨s3, rfl, p3, n3⟩ := nwx s0 w2 40 ky2
 refine pu rfl rfl rfl rfl rfl ?_
 refine dn ?_
 refine cd rfl (fun h4 => ?_) (fun h4 => ?_)
 ·
  refine sr ?_
  refine pu rfl rfl rfl rfl rfl ?_
  refine dn ?_
  have K5 := (kp0.st p3 rfl)
  exact re rfl Try.func9 rfl (r_t rfl r_nil) rfl ⟨_, rfl, (ow_nil 3 (Kd.int .i64) s3 40).fo K5 rfl z.l, z.ky K5⟩
 ·
  refine sk ?_
  refine sr ?_
  refine mv w0_0 rfl rfl rfl rfl rfl rfl ?_
  have K6 := (kp0.st p3 rfl)
  have A7 := (A0_0.kp K6)
  refine cl rfl rfl rfl rfl rfl Try.func48 rfl rfl rfl (fun r8 m8 => spec_GraphEdges.calls a0 s3.w (fun b => memb [0] (s3.g b) = true) w0_0 A7 r8 m8) ?_
  rintro r8 v8_0 w8 m8 ⟨f8_0, ky8⟩
  obtain ⟨s9, rfl, p9, n9⟩ := nwx s3 w8 41 ky8
  have A8_0 := f8_0.c n9
  refine asg v8_0 rfl rfl rfl rfl rfl rfl ?_
  refine dn ?_
  refine sr ?_
  refine mv w0_0 rfl rfl rfl rfl rfl rfl ?_
  refine mv v8_0 rfl rfl rfl rfl rfl rfl ?_
  have K11 := (K6.st p9 rfl)
  have A12 := (A0_0.kp K11)
  refine cl rfl rfl rfl rfl rfl Try.func49 rfl rfl rfl (fun r13 m13 => spec_l14take.calls a0 r8 s9.w (fun b => memb [0, 41] (s9.g b) = true) w0_0 v8_0 (A12.sub (D := [0, 41]) rfl) (A8_0.rd.sub (D := [0, 41]) rfl) r13 m13) ?_
  rintro r13 _ w13 m13 ⟨v13_0, v13_1, rfl, f13_0, f13_1, ky13⟩
  obtain ⟨s14, rfl, p14, n14⟩ := nwx s9 w13 42 ky13
  have A13_0 := f13_0.c n14
  have A13_1 := f13_1.c n14
  refine pu rfl rfl rfl rfl rfl ?_
  refine pu (v := v13_0) rfl rfl rfl rfl rfl ?_
  refine pu (v := v13_1) rfl rfl rfl rfl rfl ?_
  refine asg v13_0 rfl rfl rfl rfl rfl rfl ?_
  refine asg v13_1 rfl rfl rfl rfl rfl rfl ?_
  refine dn ?_
  refine sq ?_
  refine sr ?_
  refine mv v13_0 rfl rfl rfl rfl rfl rfl ?_
  refine ln A13_0.rd Try.underlying24 rfl rfl rfl rfl rfl rfl ?_
  refine mv w0_0 rfl rfl rfl rfl rfl rfl ?_
  have K17 := (K11.st p14 rfl)
  have A18 := (A0_0.kp K17)
  refine ln A18 Try.underlying26 rfl rfl rfl rfl rfl rfl ?_
  refine pu rfl rfl rfl rfl rfl ?_
  refine dn ?_
  refine cd rfl (fun h19 => ?_) (fun h19 => ?_)
  ·
   refine sr ?_
   refine pu rfl rfl rfl rfl rfl ?_
   refine dn ?_
   exact re rfl Try.func9 rfl (r_t rfl r_nil) rfl ⟨_, rfl, (ow_nil 3 (Kd.int .i64) s14 40).fo K17 rfl z.l, z.ky K17⟩
  ·
   refine sk ?_
   refine sr ?_
   refine pu rfl rfl rfl rfl rfl ?_
   refine dn ?_
   refine sq ?_
   refine bl ?_
   have A21 := (A8_0.st p14 rfl)
   refine lpI (fun (x20 : Int) (e : Env) (w : World) => ∃ (s : St) (e0 : Env), w = s.w ∧ e = upd (upd (upd (upd e0 0 w0_0) 3 v8_0) 5 v13_1) 6 (.int .i64 x20) ∧ Kp s0 s ∧ OwF (Kd.sl 162 kd162) s [v8_0] r8 41 ∧ OwF (Kd.sl 4 Kd.bool) s [v13_1] r13.2 42) ⟨s14, _, rfl, (ue (ue (ue (ue rfl rfl) rfl) rfl) rfl), K17, A21, A13_1⟩ (fun g20 ih20 => ?_)
   rintro x20 _ _ ⟨s22, _, rfl, rfl, Kx20, Cx20_10, Cx20_16⟩
   unfold spec_GraphRing.b0
   refine sq ?_
   refine sr ?_
   refine pu rfl rfl rfl rfl rfl ?_
   refine mv w0_0 rfl rfl rfl rfl rfl rfl ?_
   have A23 := (A0_0.kp Kx20)
   refine ln A23 Try.underlying26 rfl rfl rfl rfl rfl rfl ?_
   refine pu rfl rfl rfl rfl rfl ?_
   refine pu rfl rfl rfl rfl rfl ?_
   refine pu rfl rfl rfl rfl rfl ?_
   refine ji [] (fun (y24 : Bool) (e : Env) (w : World) => ∃ (s : St) (e0 : Env), w = s.w ∧ e = upd (upd (upd (upd (upd e0 0 w0_0) 3 v8_0) 5 v13_1) 6 (.int .i64 x20)) 37 (.bool y24) ∧ Kp s0 s ∧ OwF (Kd.sl 162 kd162) s [v8_0] r8 41 ∧ OwF (Kd.sl 4 Kd.bool) s [v13_1] r13.2 42) (fun Gj24 Kj24 => ?_) ?_
   ·
    rcases Bool.eq_false_or_eq_true (decide (x20 < (IntKind.wrap .i64 ((a0.length : Int) - (1 : Int))))) with hb24 | hb24
    ·
     refine sbT hb24 ?_
     rw [if_pos hb24]
     refine mv v13_1 rfl rfl rfl rfl rfl rfl ?_
     refine pu rfl rfl rfl rfl rfl ?_
     refine ix Cx20_16.rd Try.underlying93 z4 rfl rfl rfl rfl rfl rfl rfl rfl (fun ad25 es25 h0_25 h1_25 he25 ce25 ia25 => ?_)
     obtain rfl := he25
     refine lc0 ce25 Try.underlying4 rfl rfl rfl rfl rfl rfl rfl rfl ?_
     refine pu rfl rfl rfl rfl rfl ?_
     refine pu rfl rfl rfl rfl rfl ?_
     exact Kj24 _ _ _ ⟨s22, _, rfl, (ue (ue (ue (ue (ue rfl rfl) rfl) rfl) rfl) rfl), Kx20, Cx20_10, Cx20_16⟩
    ·
     refine sbT hb24 ?_
     rw [if_neg (by rw [hb24]; decide)]
     refine uw rfl rfl rfl rfl ?_
     refine uw rfl rfl rfl rfl ?_
     refine uw rfl rfl rfl rfl ?_
     refine uw rfl rfl rfl rfl ?_
     refine uw rfl rfl rfl rfl ?_
     refine pu rfl rfl rfl rfl rfl ?_
     exact Kj24 _ _ _ ⟨s22, _, rfl, (ue (ue (ue (ue (ue rfl rfl) rfl) rfl) rfl) rfl), Kx20, Cx20_10, Cx20_16⟩
   rintro y24 _ _ ⟨s27, _, rfl, rfl, Ky24, Cy24_10, Cy24_16⟩
   refine dn ?_
   refine cd rfl (fun h28 => ?_) (fun h28 => ?_)
   ·
    refine sk ?_
    refine bl ?_
    refine rg ?_
    refine pu rfl rfl rfl rfl rfl ?_
    refine pu rfl rfl rfl rfl rfl ?_
    refine pu rfl rfl rfl rfl rfl ?_
    refine dn ?_
    refine ib ?_
    exact lb ih20 ⟨s27, _, rfl, (ue (ue (ue (ue rfl rfl) rfl) rfl) rfl), Ky24, Cy24_10, Cy24_16⟩
   ·
    refine xt rfl ?_
    refine sgb ?_
    refine sr ?_
    refine pu rfl rfl rfl rfl rfl ?_
    refine dn ?_
    refine sq ?_
    refine sr ?_
    refine pu rfl rfl rfl rfl rfl ?_
    refine dn ?_
    refine bl ?_
    refine lpI (fun (x29 : Int × (List Int) × Int) (e : Env) (w : World) => ∃ (s : St) (e0 : Env) (vx29_0 : Value), w = s.w ∧ e = upd (upd (upd (upd (upd (upd e0 0 w0_0) 3 v8_0) 5 v13_1) 6 (.int .i64 x29.1)) 7 vx29_0) 8 (.int .i64 x29.2.2) ∧ Kp s0 s ∧ OwF (Kd.sl 3 (Kd.int .i64)) s [vx29_0] x29.2.1 43 ∧ OwF (Kd.sl 162 kd162) s [v8_0] r8 41 ∧ OwF (Kd.sl 4 Kd.bool) s [v13_1] r13.2 42) ⟨s27, _, (.slice none 0 0), rfl, (ue (ue (ue (ue (ue (ue rfl rfl) rfl) rfl) rfl) rfl) rfl), Ky24, (ow_nil 3 (Kd.int .i64) _ 43), Cy24_10, Cy24_16⟩ (fun g29 ih29 => ?_)
    rintro x29 _ _ ⟨s30, _, vx29_0, rfl, rfl, Kx29, Ax29_0, Cx29_10, Cx29_16⟩
    unfold spec_GraphRing.b1
    refine sq ?_
    refine sr ?_
    refine pu rfl rfl rfl rfl rfl ?_
    refine mv w0_0 rfl rfl rfl rfl rfl rfl ?_
    have A32 := (A0_0.kp Kx29)
    refine ln A32 Try.underlying26 rfl rfl rfl rfl rfl rfl ?_
    refine pu rfl rfl rfl rfl rfl ?_
    refine dn ?_
    refine cd rfl (fun h33 => ?_) (fun h33 => ?_)
    ·
     refine sk ?_
     refine sq ?_
     refine bl ?_
     refine sq ?_
     refine sr ?_
     refine pu rfl rfl rfl rfl rfl ?_
     refine dn ?_
     refine bl ?_
     refine lpI (fun (x34 : Int) (e : Env) (w : World) => ∃ (s : St) (e0 : Env), w = s.w ∧ e = upd (upd (upd (upd (upd (upd (upd e0 0 w0_0) 3 v8_0) 5 v13_1) 6 (.int .i64 x29.1)) 7 vx29_0) 8 (.int .i64 x29.2.2)) 9 (.int .i64 x34) ∧ Kp s0 s ∧ OwF (Kd.sl 162 kd162) s [v8_0] r8 41 ∧ OwF (Kd.sl 4 Kd.bool) s [v13_1] r13.2 42 ∧ OwF (Kd.sl 3 (Kd.int .i64)) s [vx29_0] x29.2.1 43) ⟨s30, _, rfl, (ue (ue (ue (ue (ue (ue (ue rfl rfl) rfl) rfl) rfl) rfl) rfl) rfl), Kx29, Cx29_10, Cx29_16, Ax29_0⟩ (fun g34 ih34 => ?_)
     rintro x34 _ _ ⟨s35, _, rfl, rfl, Kx34, Cx34_10, Cx34_16, Cx34_31⟩
     unfold spec_GraphRing.b2
     refine sq ?_
     refine sr ?_
     refine pu rfl rfl rfl rfl rfl ?_
     refine mv vx29_0 rfl rfl rfl rfl rfl rfl ?_
     refine ln Cx34_31.rd Try.underlying24 rfl rfl rfl rfl rfl rfl ?_
     refine pu rfl rfl rfl rfl rfl ?_
     refine dn ?_
     refine cd rfl (fun h36 => ?_) (fun h36 => ?_)
     ·
      refine sk ?_
      refine sq ?_
      refine bl ?_
      refine sr ?_
      refine mv vx29_0 rfl rfl rfl rfl rfl rfl ?_
      refine pu rfl rfl rfl rfl rfl ?_
      refine ix Cx34_31.rd Try.underlying24 z3 rfl rfl rfl rfl rfl rfl rfl rfl (fun ad37 es37 h0_37 h1_37 he37 ce37 ia37 => ?_)
      obtain rfl := he37
      refine lc0 ce37 Try.underlying3 rfl rfl rfl rfl rfl rfl rfl rfl ?_
      refine pu rfl rfl rfl rfl rfl ?_
      refine pu rfl rfl rfl rfl rfl ?_
      refine dn ?_
      refine cd rfl (fun h39 => ?_) (fun h39 => ?_)
      ·
       refine sr ?_
       refine lt0 (K := (Kd.int .i64)) 44 Try.underlying24 z3 rfl rfl rfl rfl rfl (fun v40 s40 p40 A40 => ?_)
       refine mv vx29_0 rfl rfl rfl rfl rfl rfl ?_
       refine pu rfl rfl rfl rfl rfl ?_
       have A42 := (Cx34_31.st p40 rfl)
       refine sla A42.rd Try.underlying24 z3 rfl rfl rfl rfl rfl rfl rfl (fun v43 A43 => ?_)
       refine apF fl_int sl24 A40 A43 rfl rfl rfl rfl rfl rfl rfl (fun v45 s45 p45 A45 => ?_)
       refine asg v45 rfl rfl rfl rfl rfl rfl ?_
       refine dn ?_
       refine sgi ?_
       refine sgi ?_
       have K47 := ((Kx34.st p40 rfl).st p45 rfl)
       exact re rfl Try.func9 rfl (r_t rfl r_nil) rfl ⟨_, rfl, A45.fo K47 rfl z.l, z.ky K47⟩
      ·
       refine sk ?_
       refine ib ?_
       refine rg ?_
       refine pu rfl rfl rfl rfl rfl ?_
       refine pu rfl rfl rfl rfl rfl ?_
       refine pu rfl rfl rfl rfl rfl ?_
       refine dn ?_
       exact lb ih34 ⟨s35, _, rfl, (ue (ue (ue (ue (ue (ue (ue rfl rfl) rfl) rfl) rfl) rfl) rfl) rfl), Kx34, Cx34_10, Cx34_16, Cx34_31⟩
     ·
      refine xt rfl ?_
      refine sgb ?_
      refine sr ?_
      refine mv vx29_0 rfl rfl rfl rfl rfl rfl ?_
      refine pu rfl rfl rfl rfl rfl ?_
      refine ltF (K := (Kd.int .i64)) (cells := [(.int .i64 x29.1)]) [x29.1] 45 fl_int Try.underlying24 z3 o3 (fun w => (els_flat _ _ _)) rfl rfl rfl rfl rfl rfl rfl rfl rfl rfl (fun v48 s48 p48 A48 => ?_)
      have A50 := (Cx34_31.st p48 rfl)
      refine apF fl_int sl24 A50 A48.rd rfl rfl rfl rfl rfl rfl rfl (fun v51 s51 p51 A51 => ?_)
      refine asg v51 rfl rfl rfl rfl rfl rfl ?_
      refine dn ?_
      refine rg ?_
      refine mv v8_0 rfl rfl rfl rfl rfl rfl ?_
      refine mv v13_1 rfl rfl rfl rfl rfl rfl ?_
      refine pu rfl rfl rfl rfl rfl ?_
      have A53 := ((Cx34_10.st p48 rfl).st p51 rfl)
      have A54 := ((Cx34_16.st p48 rfl).st p51 rfl)
      refine cl rfl rfl rfl rfl rfl Try.func50 rfl rfl rfl (fun r55 m55 => spec_l14ahead.calls r8 r13.2 x29.1 s51.w (fun b => memb [41, 42] (s51.g b) = true) v8_0 v13_1 (A53.rd.sub (D := [41, 42]) rfl) (A54.rd.sub (D := [41, 42]) rfl) r55 m55) ?_
      rintro r55 _ w55 m55 ⟨rfl, ky55⟩
      obtain ⟨s56, rfl, p56, n56⟩ := nwx s51 w55 46 ky55
      refine pu rfl rfl rfl rfl rfl ?_
      refine pu (v := (.int .i64 r55.1)) rfl rfl rfl rfl rfl ?_
      refine pu (v := (.bool r55.2)) rfl rfl rfl rfl rfl ?_
      refine pu rfl rfl rfl rfl rfl ?_
      refine dn ?_
      refine ib ?_
      refine rg ?_
      refine pu rfl rfl rfl rfl rfl ?_
      refine pu rfl rfl rfl rfl rfl ?_
      refine pu rfl rfl rfl rfl rfl ?_
      refine dn ?_
      have A57 := (A51.st p56 rfl)
      have A58 := (A53.st p56 rfl)
      have A59 := (A54.st p56 rfl)
      have K60 := (((Kx34.st p48 rfl).st p51 rfl).st p56 rfl)
      exact lb ih29 ⟨s56, _, v51, rfl, (ue (ue (ue (ue (ue (ue rfl rfl) rfl) rfl) rfl) rfl) rfl), K60, A57, A58, A59⟩
    ·
     refine xt rfl ?_
     refine sgb ?_
     refine sr ?_
     refine pu rfl rfl rfl rfl rfl ?_
     refine dn ?_
     exact re rfl Try.func9 rfl (r_t rfl r_nil) rfl ⟨_, rfl, (ow_nil 3 (Kd.int .i64) s30 40).fo Kx29 rfl z.l, z.ky Kx29⟩
noncomputable def impl_areAll_impl_Deed_1.f (a0 : Deed) (a1 : (Deed → Option Bool)) : Option (Bool) :=
 ((a1 a0).bind fun r10 => (some (!r10)))
def impl_areAll_impl_Deed_1.Q (w : World) (F : Nat → Prop) (r : Bool) (v : Value) (w' : World) : Prop :=
 v = (.bool r) ∧ Ky [] w w'
set_option maxHeartbeats 4000000 in
set_option maxRecDepth 100000 in
theorem impl_areAll_impl_Deed_1.calls (a0 : Deed) (a1 : (Deed → Option Bool)) (w : World) (F : Nat → Prop) (w0_0 : Value) (w0_1 : Value) (c1 : Nat) (f1 : Value) (h0_0 : (Kd.sl 80 kd80).rd w [w0_0] a0.Reads F) (h0_1 : (Kd.sl 48 kd48).rd w [w0_1] a0.Writes F) (hf1 : ∀ (x0 : Deed) (u0_0 u0_1 : Value) (w' : World), Ky [] w w' → (Kd.sl 80 kd80).rd w' [u0_0] x0.Reads (fun _ => True) → (Kd.sl 48 kd48).rd w' [u0_1] x0.Writes (fun _ => True) → ∀ r, a1 x0 = some r → CallV Try.prog f1 [(.agg #[(.int .i64 x0.Xid), (.int .i64 x0.Begun), (.int .i64 x0.Ended), u0_0, u0_1])] w' fun en w'' => ∃ v, en = .returned v ∧ v = (.bool r) ∧ Ky [] w' w'') (ho1 : f1.cells = #[f1]) (hb1 : BlW w c1 166 [f1]) (hp1 : F c1) (r : Bool) (m : impl_areAll_impl_Deed_1.f a0 a1 = some r) :
  Calls Try.prog 179 #[(.agg #[(.int .i64 a0.Xid), (.int .i64 a0.Begun), (.int .i64 a0.Ended), w0_0, w0_1]), (.pointer (some ⟨c1, 0, none⟩))] w fun en w' => ∃ v, en = .returned v ∧ impl_areAll_impl_Deed_1.Q w F r v w' := by
 obtain ⟨s0, rfl, kp0, z⟩ := start0 w F
 have A0_0 := z.rd h0_0
 have A0_1 := z.rd h0_1
 have B1 := z.b0 hb1 hp1
 refine calls_of_TM (args := [(.agg #[(.int .i64 a0.Xid), (.int .i64 a0.Begun), (.int .i64 a0.Ended), w0_0, w0_1]), (.pointer (some ⟨c1, 0, none⟩))]) (R := fun r en w' => ∃ v, en = .returned v ∧ impl_areAll_impl_Deed_1.Q s0.w F r v w') Try.func179 Try.ntmps179 rfl rfl m ?_
 unfold impl_areAll_impl_Deed_1.f
 refine sr ?_
 refine bx (cs := [(.int .i64 a0.Xid), (.int .i64 a0.Begun), (.int .i64 a0.Ended), w0_0, w0_1]) 40 rfl rfl rfl rfl rfl rfl (fun b4 s4 p4 B4 => ?_)
 refine pu rfl rfl rfl rfl rfl ?_
 refine dn ?_
 refine sr ?_
 have A6 := (BlF.st B1 p4 rfl)
 refine ld A6 Try.underlying166 rfl rfl rfl rfl rfl rfl rfl rfl ?_
 refine lda (es := [(.int .i64 a0.Xid), (.int .i64 a0.Begun), (.int .i64 a0.Ended), w0_0, w0_1]) B4 Try.underlying99 z99 rfl rfl rfl rfl rfl rfl rfl rfl ?_
 have K7 := (kp0.st p4 rfl)
 have A8 := (A0_0.kp K7)
 have A9 := (A0_1.kp K7)
 refine clv rfl rfl rfl rfl rfl rfl rfl (fun r10 m10 => hf1 a0 w0_0 w0_1 s4.w (z.ky K7) (RdF.top A8) (RdF.top A9) r10 m10) ?_
 rintro r10 _ w10 m10 ⟨rfl, ky10⟩
 obtain ⟨s11, rfl, p11, n11⟩ := nwx s4 w10 41 ky10
 refine pu rfl rfl rfl rfl rfl ?_
 refine pu rfl rfl rfl rfl rfl ?_
 refine dn ?_
 have K12 := (K7.st p11 rfl)
 exact re rfl Try.func179 rfl (r_t rfl r_nil) rfl ⟨_, rfl, rfl, z.ky K12⟩
noncomputable def slices_IndexFunc_impl_Deed_impl_Deed.b0 (a0 : (List Deed)) (a1 : (Deed → Option Bool)) (x2 : Int) : Option (Int ⊕ Int) :=
 (if (decide (x2 < (a0.length : Int))) = true then (if 0 ≤ x2 ∧ x2 < (a0.length : Int) then ((a1 (at_ a0 x2)).bind fun r10 => (if r10 = true then (some (Sum.inr x2)) else (some (Sum.inl (IntKind.wrap .i64 (x2 + (1 : Int))))))) else none) else ((some (-1 : Int)).bind fun o => some (Sum.inr o)))
noncomputable def slices_IndexFunc_impl_Deed_impl_Deed.f (a0 : (List Deed)) (a1 : (Deed → Option Bool)) : Option (Int) :=
 (iter (slices_IndexFunc_impl_Deed_impl_Deed.b0 a0 a1) (0 : Int))
def slices_IndexFunc_impl_Deed_impl_Deed.Q (w : World) (F : Nat → Prop) (r : Int) (v : Value) (w' : World) : Prop :=
 v = (.int .i64 r) ∧ Ky [] w w'
set_option maxHeartbeats 4000000 in
set_option maxRecDepth 100000 in
theorem slices_IndexFunc_impl_Deed_impl_Deed.calls (a0 : (List Deed)) (a1 : (Deed → Option Bool)) (w : World) (F : Nat → Prop) (w0_0 : Value) (f1 : Value) (h0_0 : (Kd.sl 99 kd99).rd w [w0_0] a0 F) (hf1 : ∀ (x0 : Deed) (u0_0 u0_1 : Value) (w' : World), Ky [] w w' → (Kd.sl 80 kd80).rd w' [u0_0] x0.Reads (fun _ => True) → (Kd.sl 48 kd48).rd w' [u0_1] x0.Writes (fun _ => True) → ∀ r, a1 x0 = some r → CallV Try.prog f1 [(.agg #[(.int .i64 x0.Xid), (.int .i64 x0.Begun), (.int .i64 x0.Ended), u0_0, u0_1])] w' fun en w'' => ∃ v, en = .returned v ∧ v = (.bool r) ∧ Ky [] w' w'') (ho1 : f1.cells = #[f1]) (r : Int) (m : slices_IndexFunc_impl_Deed_impl_Deed.f a0 a1 = some r) :
  Calls Try.prog 208 #[w0_0, f1] w fun en w' => ∃ v, en = .returned v ∧ slices_IndexFunc_impl_Deed_impl_Deed.Q w F r v w' := by
 obtain ⟨s0, rfl, kp0, z⟩ := start0 w F
 have A0_0 := z.rd h0_0
 refine calls_of_TM (args := [w0_0, f1]) (R := fun r en w' => ∃ v, en = .returned v ∧ slices_IndexFunc_impl_Deed_impl_Deed.Q s0.w F r v w') Try.func208 Try.ntmps208 rfl rfl m ?_
 unfold slices_IndexFunc_impl_Deed_impl_Deed.f
 refine sr ?_
 refine pu rfl rfl rfl rfl rfl ?_
 refine dn ?_
 refine sq ?_
 refine sr ?_
 refine mv w0_0 rfl rfl rfl rfl rfl rfl ?_
 refine ln A0_0 Try.underlying26 rfl rfl rfl rfl rfl rfl ?_
 refine pu rfl rfl rfl rfl rfl ?_
 refine dn ?_
 refine bl ?_
 refine lpI (fun (x2 : Int) (e : Env) (w : World) => ∃ (s : St) (e0 : Env), w = s.w ∧ e = upd (upd (upd (upd e0 0 w0_0) 1 f1) 7 (.int .i64 (a0.length : Int))) 8 (.int .i64 x2) ∧ Kp s0 s) ⟨s0, _, rfl, (ue (ue (ue (ue rfl rfl) rfl) rfl) rfl), kp0⟩ (fun g2 ih2 => ?_)
 rintro x2 _ _ ⟨s3, _, rfl, rfl, Kx2⟩
 unfold slices_IndexFunc_impl_Deed_impl_Deed.b0
 refine sr ?_
 refine pu rfl rfl rfl rfl rfl ?_
 refine dn ?_
 refine sq ?_
 refine cd rfl (fun h4 => ?_) (fun h4 => ?_)
 ·
  refine sk ?_
  refine sq ?_
  refine bl ?_
  refine sr ?_
  refine pu rfl rfl rfl rfl rfl ?_
  refine pu rfl rfl rfl rfl rfl ?_
  refine dn ?_
  refine sr ?_
  refine mv f1 rfl rfl rfl rfl rfl rfl ?_
  refine mv w0_0 rfl rfl rfl rfl rfl rfl ?_
  refine pu rfl rfl rfl rfl rfl ?_
  have A5 := (A0_0.kp Kx2)
  refine ix A5 Try.underlying26 z99 rfl rfl rfl rfl rfl rfl rfl rfl (fun ad6 es6 h0_6 h1_6 he6 ce6 ia6 => ?_)
  obtain ⟨v6_0, v6_1, rfl, A6_0, A6_1⟩ := op99 he6
  refine lca ce6 Try.underlying99 z99 rfl rfl rfl rfl rfl rfl rfl ?_
  refine clv rfl rfl rfl rfl rfl rfl rfl (fun r10 m10 => hf1 (at_ a0 x2) v6_0 v6_1 s3.w (z.ky Kx2) (RdF.top A6_0) (RdF.top A6_1) r10 m10) ?_
  rintro r10 _ w10 m10 ⟨rfl, ky10⟩
  obtain ⟨s11, rfl, p11, n11⟩ := nwx s3 w10 40 ky10
  refine dn ?_
  refine cd rfl (fun h12 => ?_) (fun h12 => ?_)
  ·
   refine sr ?_
   refine pu rfl rfl rfl rfl rfl ?_
   refine pu rfl rfl rfl rfl rfl ?_
   refine dn ?_
   refine sgi ?_
   have K13 := (Kx2.st p11 rfl)
   exact re rfl Try.func208 rfl (r_t rfl r_nil) rfl ⟨_, rfl, rfl, z.ky K13⟩
  ·
   refine sk ?_
   refine ib ?_
   refine rg ?_
   refine pu rfl rfl rfl rfl rfl ?_
   refine pu rfl rfl rfl rfl rfl ?_
   refine dn ?_
   have K14 := (Kx2.st p11 rfl)
   exact lb ih2 ⟨s11, _, rfl, (ue (ue (ue (ue rfl rfl) rfl) rfl) rfl), K14⟩
 ·
  refine xt rfl ?_
  refine sgb ?_
  refine sr ?_
  refine pu rfl rfl rfl rfl rfl ?_
  refine dn ?_
  exact re rfl Try.func208 rfl (r_t rfl r_nil) rfl ⟨_, rfl, rfl, z.ky Kx2⟩
noncomputable def slices_ContainsFunc_impl_Deed_impl_Deed.f (a0 : (List Deed)) (a1 : (Deed → Option Bool)) : Option (Bool) :=
 ((slices_IndexFunc_impl_Deed_impl_Deed.f a0 a1).bind fun r2 => (some (decide (r2 ≥ (0 : Int)))))
def slices_ContainsFunc_impl_Deed_impl_Deed.Q (w : World) (F : Nat → Prop) (r : Bool) (v : Value) (w' : World) : Prop :=
 v = (.bool r) ∧ Ky [] w w'
set_option maxHeartbeats 4000000 in
set_option maxRecDepth 100000 in
theorem slices_ContainsFunc_impl_Deed_impl_Deed.calls (a0 : (List Deed)) (a1 : (Deed → Option Bool)) (w : World) (F : Nat → Prop) (w0_0 : Value) (f1 : Value) (h0_0 : (Kd.sl 99 kd99).rd w [w0_0] a0 F) (hf1 : ∀ (x0 : Deed) (u0_0 u0_1 : Value) (w' : World), Ky [] w w' → (Kd.sl 80 kd80).rd w' [u0_0] x0.Reads (fun _ => True) → (Kd.sl 48 kd48).rd w' [u0_1] x0.Writes (fun _ => True) → ∀ r, a1 x0 = some r → CallV Try.prog f1 [(.agg #[(.int .i64 x0.Xid), (.int .i64 x0.Begun), (.int .i64 x0.Ended), u0_0, u0_1])] w' fun en w'' => ∃ v, en = .returned v ∧ v = (.bool r) ∧ Ky [] w' w'') (ho1 : f1.cells = #[f1]) (r : Bool) (m : slices_ContainsFunc_impl_Deed_impl_Deed.f a0 a1 = some r) :
  Calls Try.prog 178 #[w0_0, f1] w fun en w' => ∃ v, en = .returned v ∧ slices_ContainsFunc_impl_Deed_impl_Deed.Q w F r v w' := by
 obtain ⟨s0, rfl, kp0, z⟩ := start0 w F
 have A0_0 := z.rd h0_0
 refine calls_of_TM (args := [w0_0, f1]) (R := fun r en w' => ∃ v, en = .returned v ∧ slices_ContainsFunc_impl_Deed_impl_Deed.Q s0.w F r v w') Try.func178 Try.ntmps178 rfl rfl m ?_
 unfold slices_ContainsFunc_impl_Deed_impl_Deed.f
 refine sr ?_
 refine pu rfl rfl rfl rfl rfl ?_
 refine dn ?_
 refine sr ?_
 refine mv w0_0 rfl rfl rfl rfl rfl rfl ?_
 refine mv f1 rfl rfl rfl rfl rfl rfl ?_
 refine cl rfl rfl rfl rfl rfl Try.func208 rfl rfl rfl (fun r2 m2 => slices_IndexFunc_impl_Deed_impl_Deed.calls a0 a1 s0.w (fun b => memb [0] (s0.g b) = true) w0_0 f1 A0_0 (fun x0 u0_0 u0_1 w' k h0 h1 r m =>  hf1 x0 u0_0 u0_1 w' (Ky.trans (z.ky kp0) k) h0 h1 r m) ho1 r2 m2) ?_
 rintro r2 _ w2 m2 ⟨rfl, ky2⟩
 obtain ⟨s3, rfl, p3, n3⟩ := nwx s0 w2 40 ky2
 refine pu rfl rfl rfl rfl rfl ?_
 refine pu rfl rfl rfl rfl rfl ?_
 refine dn ?_
 have K4 := (kp0.st p3 rfl)
 exact re rfl Try.func178 rfl (r_t rfl r_nil) rfl ⟨_, rfl, rfl, z.ky K4⟩
noncomputable def impl_areAll_impl_Deed.f (a0 : (List Deed)) (a1 : (Deed → Option Bool)) : Option (Bool) :=
 ((slices_ContainsFunc_impl_Deed_impl_Deed.f a0 (fun x0 => impl_areAll_impl_Deed_1.f x0 a1)).bind fun r6 => (some (!r6)))
def impl_areAll_impl_Deed.Q (w : World) (F : Nat → Prop) (r : Bool) (v : Value) (w' : World) : Prop :=
 v = (.bool r) ∧ Ky [] w w'
set_option maxHeartbeats 4000000 in
set_option maxRecDepth 100000 in
theorem impl_areAll_impl_Deed.calls (a0 : (List Deed)) (a1 : (Deed → Option Bool)) (w : World) (F : Nat → Prop) (w0_0 : Value) (f1 : Value) (h0_0 : (Kd.sl 99 kd99).rd w [w0_0] a0 F) (hf1 : ∀ (x0 : Deed) (u0_0 u0_1 : Value) (w' : World), Ky [] w w' → (Kd.sl 80 kd80).rd w' [u0_0] x0.Reads (fun _ => True) → (Kd.sl 48 kd48).rd w' [u0_1] x0.Writes (fun _ => True) → ∀ r, a1 x0 = some r → CallV Try.prog f1 [(.agg #[(.int .i64 x0.Xid), (.int .i64 x0.Begun), (.int .i64 x0.Ended), u0_0, u0_1])] w' fun en w'' => ∃ v, en = .returned v ∧ v = (.bool r) ∧ Ky [] w' w'') (ho1 : f1.cells = #[f1]) (r : Bool) (m : impl_areAll_impl_Deed.f a0 a1 = some r) :
  Calls Try.prog 124 #[w0_0, f1] w fun en w' => ∃ v, en = .returned v ∧ impl_areAll_impl_Deed.Q w F r v w' := by
 obtain ⟨s0, rfl, kp0, z⟩ := start0 w F
 have A0_0 := z.rd h0_0
 refine calls_of_TM (args := [w0_0, f1]) (R := fun r en w' => ∃ v, en = .returned v ∧ impl_areAll_impl_Deed.Q s0.w F r v w') Try.func124 Try.ntmps124 rfl rfl m ?_
 unfold impl_areAll_impl_Deed.f
 refine sr ?_
 refine bx (cs := [f1]) 40 rfl rfl rfl rfl rfl ho1 (fun b2 s2 p2 B2 => ?_)
 refine pu rfl rfl rfl rfl rfl ?_
 refine dn ?_
 refine sr ?_
 refine mv w0_0 rfl rfl rfl rfl rfl rfl ?_
 refine mkf (fs := []) (cs := [(.pointer (some ⟨b2, 0, none⟩))]) rfl rfl rfl rfl rfl rfl rfl ?_
 have K4 := (kp0.st p2 rfl)
 have A5 := (A0_0.kp K4)
 refine cl rfl rfl rfl rfl rfl Try.func178 rfl rfl rfl (fun r6 m6 => slices_ContainsFunc_impl_Deed_impl_Deed.calls a0 (fun x0 => impl_areAll_impl_Deed_1.f x0 a1) s2.w (fun b => memb [0] (s2.g b) = true) w0_0 (.func (.func 179) (List.toArray []) (List.toArray [(.pointer (some ⟨b2, 0, none⟩))])) A5 (fun x0 u0_0 u0_1 w' k h0 h1 r m =>  ⟨179, _, _, [], [(.pointer (some ⟨b2, 0, none⟩))], rfl, Try.func179, rfl, rfl, (impl_areAll_impl_Deed_1.calls x0 a1 w' (fun _ => True) u0_0 u0_1 b2 f1 h0 h1 (fun x0c u0_0c u0_1c w'c kc h0c h1c r m =>  hf1 x0c u0_0c u0_1c w'c (Ky.trans (z.ky K4) (Ky.trans k kc)) h0c h1c r m) ho1 (BlF.ky B2 k) trivial r m).mono fun en w2 hq => by obtain ⟨v, e, q⟩ := hq; exact ⟨v, e, q⟩⟩) rfl r6 m6) ?_
 rintro r6 _ w6 m6 ⟨rfl, ky6⟩
 obtain ⟨s7, rfl, p7, n7⟩ := nwx s2 w6 41 ky6
 refine pu rfl rfl rfl rfl rfl ?_
 refine pu rfl rfl rfl rfl rfl ?_
 refine dn ?_
 have K8 := (K4.st p7 rfl)
 exact re rfl Try.func124 rfl (r_t rfl r_nil) rfl ⟨_, rfl, rfl, z.ky K8⟩
noncomputable def impl_areAll_impl_Span_1.f (a0 : Span) (a1 : (Span → Option Bool)) : Option (Bool) :=
 ((a1 a0).bind fun r10 => (some (!r10)))
def impl_areAll_impl_Span_1.Q (w : World) (F : Nat → Prop) (r : Bool) (v : Value) (w' : World) : Prop :=
 v = (.bool r) ∧ Ky [] w w'
set_option maxHeartbeats 4000000 in
set_option maxRecDepth 100000 in
theorem impl_areAll_impl_Span_1.calls (a0 : Span) (a1 : (Span → Option Bool)) (w : World) (F : Nat → Prop) (w0_0 : Value) (w0_1 : Value) (w0_2 : Value) (w0_3 : Value) (c1 : Nat) (f1 : Value) (h0_0 : Kd.flt.rd w [w0_0] a0.From.F F) (h0_1 : (Kd.sl 5 (Kd.int .u8)).rd w [w0_1] a0.From.T F) (h0_2 : Kd.flt.rd w [w0_2] a0.To.F F) (h0_3 : (Kd.sl 5 (Kd.int .u8)).rd w [w0_3] a0.To.T F) (hf1 : ∀ (x0 : Span) (u0_0 u0_1 u0_2 u0_3 : Value) (w' : World), Ky [] w w' → Kd.flt.rd w' [u0_0] x0.From.F (fun _ => True) → (Kd.sl 5 (Kd.int .u8)).rd w' [u0_1] x0.From.T (fun _ => True) → Kd.flt.rd w' [u0_2] x0.To.F (fun _ => True) → (Kd.sl 5 (Kd.int .u8)).rd w' [u0_3] x0.To.T (fun _ => True) → ∀ r, a1 x0 = some r → CallV Try.prog f1 [(.agg #[(.int .i64 x0.From.Kind), (.int .i64 x0.From.N), u0_0, u0_1, (.int .i64 x0.To.Kind), (.int .i64 x0.To.N), u0_2, u0_3])] w' fun en w'' => ∃ v, en = .returned v ∧ v = (.bool r) ∧ Ky [] w' w'') (ho1 : f1.cells = #[f1]) (hb1 : BlW w c1 151 [f1]) (hp1 : F c1) (r : Bool) (m : impl_areAll_impl_Span_1.f a0 a1 = some r) :
  Calls Try.prog 203 #[(.agg #[(.int .i64 a0.From.Kind), (.int .i64 a0.From.N), w0_0, w0_1, (.int .i64 a0.To.Kind), (.int .i64 a0.To.N), w0_2, w0_3]), (.pointer (some ⟨c1, 0, none⟩))] w fun en w' => ∃ v, en = .returned v ∧ impl_areAll_impl_Span_1.Q w F r v w' := by
 obtain ⟨s0, rfl, kp0, z⟩ := start0 w F
 have A0_0 := fl_of h0_0
 have A0_1 := z.rd h0_1
 have A0_2 := fl_of h0_2
 have A0_3 := z.rd h0_3
 have B1 := z.b0 hb1 hp1
 refine calls_of_TM (args := [(.agg #[(.int .i64 a0.From.Kind), (.int .i64 a0.From.N), w0_0, w0_1, (.int .i64 a0.To.Kind), (.int .i64 a0.To.N), w0_2, w0_3]), (.pointer (some ⟨c1, 0, none⟩))]) (R := fun r en w' => ∃ v, en = .returned v ∧ impl_areAll_impl_Span_1.Q s0.w F r v w') Try.func203 Try.ntmps203 rfl rfl m ?_
 unfold impl_areAll_impl_Span_1.f
 refine sr ?_
 refine bx (cs := [(.int .i64 a0.From.Kind), (.int .i64 a0.From.N), w0_0, w0_1, (.int .i64 a0.To.Kind), (.int .i64 a0.To.N), w0_2, w0_3]) 40 rfl rfl rfl rfl rfl rfl (fun b4 s4 p4 B4 => ?_)
 refine pu rfl rfl rfl rfl rfl ?_
 refine dn ?_
 refine sr ?_
 have A6 := (BlF.st B1 p4 rfl)
 refine ld A6 Try.underlying151 rfl rfl rfl rfl rfl rfl rfl rfl ?_
 refine lda (es := [(.int .i64 a0.From.Kind), (.int .i64 a0.From.N), w0_0, w0_1, (.int .i64 a0.To.Kind), (.int .i64 a0.To.N), w0_2, w0_3]) B4 Try.underlying80 z80 rfl rfl rfl rfl rfl rfl rfl rfl ?_
 have K7 := (kp0.st p4 rfl)
 have A8 := (A0_1.kp K7)
 have A9 := (A0_3.kp K7)
 refine clv rfl rfl rfl rfl rfl rfl rfl (fun r10 m10 => hf1 a0 w0_0 w0_1 w0_2 w0_3 s4.w (z.ky K7) (fl_rd A0_0) (RdF.top A8) (fl_rd A0_2) (RdF.top A9) r10 m10) ?_
 rintro r10 _ w10 m10 ⟨rfl, ky10⟩
 obtain ⟨s11, rfl, p11, n11⟩ := nwx s4 w10 41 ky10
 refine pu rfl rfl rfl rfl rfl ?_
 refine pu rfl rfl rfl rfl rfl ?_
 refine dn ?_
 have K12 := (K7.st p11 rfl)
 exact re rfl Try.func203 rfl (r_t rfl r_nil) rfl ⟨_, rfl, rfl, z.ky K12⟩
end Go.Proofs.Ytcagjdngannneaa
