/- The functions as models, and that the calls come to what the models tell. -/
import Derived.Test.YtcagjdngannneaaXt
set_option linter.unusedVariables false
set_option linter.unusedSimpArgs false
namespace Go.Proofs.Ytcagjdngannneaa
open Go V
noncomputable def laws_szByteS.f (a0 : (List Int)) (a1 : Int) : Option (Int) :=
 (if (decide ((IntKind.wrap .i64 (a1 - (a0.length : Int))) < (0 : Int))) = true then (some (-1 : Int)) else (some (IntKind.wrap .i64 (a1 - (a0.length : Int)))))
def laws_szByteS.Q (w : World) (F : Nat → Prop) (r : Int) (v : Value) (w' : World) : Prop :=
 v = (.int .i64 r) ∧ Ky [] w w'
set_option maxHeartbeats 4000000 in
set_option maxRecDepth 100000 in
theorem laws_szByteS.calls (a0 : (List Int)) (a1 : Int) (w : World) (F : Nat → Prop) (w0_0 : Value) (h0_0 : (Kd.sl 5 (Kd.int .u8)).rd w [w0_0] a0 F) (r : Int) (m : laws_szByteS.f a0 a1 = some r) :
  Calls Try.prog 62 #[w0_0, (.int .i64 a1)] w (RT (laws_szByteS.Q w F) r) := by
 obtain ⟨s0, rfl, kp0, z⟩ := start0 w F
 have A0_0 := z.rd h0_0
 refine calls_of_TM (args := [w0_0, (.int .i64 a1)]) Try.func62 Try.ntmps62 rfl rfl m ?_
 unfold laws_szByteS.f
 refine sr (pu' rfl (dn (sr (pu' rfl (mv' w0_0 rfl (ln' A0_0 Try.underlying37 rfl (pu' rfl (pu' rfl (dn (sq (sr (pu' rfl (pu' rfl (dn ?_))))))))))))))
 refine cd rfl (fun h2 => ?_) (fun h2 => ?_)
 ·
  exact sr (pu' rfl (dn (re rfl Try.func62 rfl (r_t rfl r_nil) rfl ⟨_, rfl, rfl, z.ky kp0⟩)))
 ·
  exact sk (sr (pu' rfl (pu' rfl (dn (re rfl Try.func62 rfl (r_t rfl r_nil) rfl ⟨_, rfl, rfl, z.ky kp0⟩)))))
noncomputable def laws_szItem.f (a0 : Item) (a1 : Int) : Option (Int) :=
 ((laws_szByteS.f a0.T a1).bind fun r6 => (if (decide (r6 < (0 : Int))) = true then (some (-1 : Int)) else (some r6)))
def laws_szItem.Q (w : World) (F : Nat → Prop) (r : Int) (v : Value) (w' : World) : Prop :=
 v = (.int .i64 r) ∧ Ky [] w w'
set_option maxHeartbeats 4000000 in
set_option maxRecDepth 100000 in
theorem laws_szItem.calls (a0 : Item) (a1 : Int) (w : World) (F : Nat → Prop) (w0_0 : Value) (w0_1 : Value) (h0_0 : Kd.flt.rd w [w0_0] a0.F F) (h0_1 : (Kd.sl 5 (Kd.int .u8)).rd w [w0_1] a0.T F) (r : Int) (m : laws_szItem.f a0 a1 = some r) :
  Calls Try.prog 18 #[(.agg #[(.int .i64 a0.Kind), (.int .i64 a0.N), w0_0, w0_1]), (.int .i64 a1)] w (RT (laws_szItem.Q w F) r) := by
 obtain ⟨s0, rfl, kp0, z⟩ := start0 w F
 have A0_0 := fl_of h0_0
 have A0_1 := z.rd h0_1
 refine calls_of_TM (args := [(.agg #[(.int .i64 a0.Kind), (.int .i64 a0.N), w0_0, w0_1]), (.int .i64 a1)]) Try.func18 Try.ntmps18 rfl rfl m ?_
 unfold laws_szItem.f
 refine sr (bx' (cs := [(.int .i64 a0.Kind), (.int .i64 a0.N), w0_0, w0_1]) 40 rfl rfl (fun b2 s2 p2 B2 => ?_))
 refine pu' rfl (dn (sr (fa' fa39_3 rfl (ld' B2 Try.underlying37 rfl (pu' rfl ?_)))))
 have K4 := (kp0.st p2 rfl)
 have A5 := (A0_1.kp K4)
 refine cl' rfl Try.func62 rfl (fun r6 m6 => laws_szByteS.calls a0.T a1 s2.w (fun b => memb [0] (s2.g b) = true) w0_1 A5 r6 m6) ?_
 rintro r6 _ w6 m6 ⟨rfl, ky6⟩
 obtain ⟨s7, rfl, p7, n7⟩ := nwx s2 w6 41 ky6
 refine pu' rfl (dn (sq (sr (pu' rfl (pu' rfl (dn (cd rfl (fun h8 => ?_) (fun h8 => ?_))))))))
 ·
  refine sr (pu' rfl (dn ?_))
  have K9 := (K4.st p7 rfl)
  exact re rfl Try.func18 rfl (r_t rfl r_nil) rfl ⟨_, rfl, rfl, z.ky K9⟩
 ·
  refine sk (sr (pu' rfl (pu' rfl (dn ?_))))
  have K10 := (K4.st p7 rfl)
  exact re rfl Try.func18 rfl (r_t rfl r_nil) rfl ⟨_, rfl, rfl, z.ky K10⟩
noncomputable def laws_szSpan.f (a0 : Span) (a1 : Int) : Option (Int) :=
 ((laws_szItem.f a0.From a1).bind fun r7 => (if (decide (r7 < (0 : Int))) = true then (some (-1 : Int)) else ((laws_szItem.f a0.To r7).bind fun r14 => (if (decide (r14 < (0 : Int))) = true then (some (-1 : Int)) else (some r14)))))
def laws_szSpan.Q (w : World) (F : Nat → Prop) (r : Int) (v : Value) (w' : World) : Prop :=
 v = (.int .i64 r) ∧ Ky [] w w'
set_option maxHeartbeats 4000000 in
set_option maxRecDepth 100000 in
theorem laws_szSpan.calls (a0 : Span) (a1 : Int) (w : World) (F : Nat → Prop) (w0_0 : Value) (w0_1 : Value) (w0_2 : Value) (w0_3 : Value) (h0_0 : Kd.flt.rd w [w0_0] a0.From.F F) (h0_1 : (Kd.sl 5 (Kd.int .u8)).rd w [w0_1] a0.From.T F) (h0_2 : Kd.flt.rd w [w0_2] a0.To.F F) (h0_3 : (Kd.sl 5 (Kd.int .u8)).rd w [w0_3] a0.To.T F) (r : Int) (m : laws_szSpan.f a0 a1 = some r) :
  Calls Try.prog 40 #[(.agg #[(.int .i64 a0.From.Kind), (.int .i64 a0.From.N), w0_0, w0_1, (.int .i64 a0.To.Kind), (.int .i64 a0.To.N), w0_2, w0_3]), (.int .i64 a1)] w (RT (laws_szSpan.Q w F) r) := by
 obtain ⟨s0, rfl, kp0, z⟩ := start0 w F
 have A0_0 := fl_of h0_0
 have A0_1 := z.rd h0_1
 have A0_2 := fl_of h0_2
 have A0_3 := z.rd h0_3
 refine calls_of_TM (args := [(.agg #[(.int .i64 a0.From.Kind), (.int .i64 a0.From.N), w0_0, w0_1, (.int .i64 a0.To.Kind), (.int .i64 a0.To.N), w0_2, w0_3]), (.int .i64 a1)]) Try.func40 Try.ntmps40 rfl rfl m ?_
 unfold laws_szSpan.f
 refine sr (bx' (cs := [(.int .i64 a0.From.Kind), (.int .i64 a0.From.N), w0_0, w0_1, (.int .i64 a0.To.Kind), (.int .i64 a0.To.N), w0_2, w0_3]) 40 rfl rfl (fun b3 s3 p3 B3 => ?_))
 refine pu' rfl (dn (sr (fa' fa76_0 rfl (lda' (es := [(.int .i64 a0.From.Kind), (.int .i64 a0.From.N), w0_0, w0_1]) B3 Try.underlying39 z39 rfl (pu' rfl ?_)))))
 have K5 := (kp0.st p3 rfl)
 have A6 := (A0_1.kp K5)
 refine cl' rfl Try.func18 rfl (fun r7 m7 => laws_szItem.calls a0.From a1 s3.w (fun b => memb [0] (s3.g b) = true) w0_0 w0_1 ((fl_rdf (s := s3) A0_0).sub (D := [0]) rfl) A6 r7 m7) ?_
 rintro r7 _ w7 m7 ⟨rfl, ky7⟩
 obtain ⟨s8, rfl, p8, n8⟩ := nwx s3 w7 41 ky7
 refine pu' rfl (dn (sq (sr (pu' rfl (pu' rfl (dn (cd rfl (fun h9 => ?_) (fun h9 => ?_))))))))
 ·
  refine sr (pu' rfl (dn ?_))
  have K10 := (K5.st p8 rfl)
  exact re rfl Try.func40 rfl (r_t rfl r_nil) rfl ⟨_, rfl, rfl, z.ky K10⟩
 ·
  refine sk (sr (fa' fa76_1 rfl ?_))
  have A11 := (BlF.st B3 p8 rfl)
  refine lda' (es := [(.int .i64 a0.To.Kind), (.int .i64 a0.To.N), w0_2, w0_3]) A11 Try.underlying39 z39 rfl (pu' rfl ?_)
  have K12 := (K5.st p8 rfl)
  have A13 := (A0_3.kp K12)
  refine cl' rfl Try.func18 rfl (fun r14 m14 => laws_szItem.calls a0.To r7 s8.w (fun b => memb [0] (s8.g b) = true) w0_2 w0_3 ((fl_rdf (s := s8) A0_2).sub (D := [0]) rfl) A13 r14 m14) ?_
  rintro r14 _ w14 m14 ⟨rfl, ky14⟩
  obtain ⟨s15, rfl, p15, n15⟩ := nwx s8 w14 42 ky14
  refine pu' rfl (dn (sq (sr (pu' rfl (pu' rfl (dn (cd rfl (fun h16 => ?_) (fun h16 => ?_))))))))
  ·
   refine sr (pu' rfl (dn ?_))
   have K17 := (K12.st p15 rfl)
   exact re rfl Try.func40 rfl (r_t rfl r_nil) rfl ⟨_, rfl, rfl, z.ky K17⟩
  ·
   refine sk (sr (pu' rfl (pu' rfl (dn ?_))))
   have K18 := (K12.st p15 rfl)
   exact re rfl Try.func40 rfl (r_t rfl r_nil) rfl ⟨_, rfl, rfl, z.ky K18⟩
noncomputable def laws_szSpanS.b0 (a0 : (List Span)) (x3 : Int × Int) : Option ((Int × Int) ⊕ Int) :=
 (if (decide (x3.2 < (a0.length : Int))) = true then (if 0 ≤ x3.2 ∧ x3.2 < (a0.length : Int) then ((laws_szSpan.f (Span.mk ((at_ a0 x3.2).From) ((at_ a0 x3.2).To)) x3.1).bind fun r11 => (if (decide (r11 < (0 : Int))) = true then (some (Sum.inr (-1 : Int))) else (some (Sum.inl (r11, (IntKind.wrap .i64 (x3.2 + (1 : Int)))))))) else none) else ((some x3.1).bind fun o => some (Sum.inr o)))
noncomputable def laws_szSpanS.f (a0 : (List Span)) (a1 : Int) : Option (Int) :=
 (if (decide ((IntKind.wrap .i64 (a1 - (a0.length : Int))) < (0 : Int))) = true then (some (-1 : Int)) else (iter (laws_szSpanS.b0 a0) ((IntKind.wrap .i64 (a1 - (a0.length : Int))), (0 : Int))))
def laws_szSpanS.Q (w : World) (F : Nat → Prop) (r : Int) (v : Value) (w' : World) : Prop :=
 v = (.int .i64 r) ∧ Ky [] w w'
set_option maxHeartbeats 4000000 in
set_option maxRecDepth 100000 in
theorem laws_szSpanS.calls (a0 : (List Span)) (a1 : Int) (w : World) (F : Nat → Prop) (w0_0 : Value) (h0_0 : (Kd.sl 76 kd76).rd w [w0_0] a0 F) (r : Int) (m : laws_szSpanS.f a0 a1 = some r) :
  Calls Try.prog 118 #[w0_0, (.int .i64 a1)] w (RT (laws_szSpanS.Q w F) r) := by
 obtain ⟨s0, rfl, kp0, z⟩ := start0 w F
 have A0_0 := z.rd h0_0
 refine calls_of_TM (args := [w0_0, (.int .i64 a1)]) Try.func118 Try.ntmps118 rfl rfl m ?_
 unfold laws_szSpanS.f
 refine sr (pu' rfl (dn (sr (pu' rfl (mv' w0_0 rfl (ln' A0_0 Try.underlying86 rfl (pu' rfl (pu' rfl (dn (sq (sr (pu' rfl (pu' rfl (dn ?_))))))))))))))
 refine cd rfl (fun h2 => ?_) (fun h2 => ?_)
 ·
  exact sr (pu' rfl (dn (re rfl Try.func118 rfl (r_t rfl r_nil) rfl ⟨_, rfl, rfl, z.ky kp0⟩)))
 ·
  refine sk (sq (sr (pu' rfl (dn (bl (lpI (fun (x3 : Int × Int) (e : Env) (w : World) => ∃ (s : St) (e0 : Env), w = s.w ∧ e = upd (upd (upd e0 0 w0_0) 1 (.int .i64 x3.1)) 5 (.int .i64 x3.2) ∧ Kp s0 s) ⟨s0, _, rfl, (ue (ue (ue rfl rfl) rfl) rfl), kp0⟩ (fun g3 ih3 => ?_)))))))
  rintro x3 _ _ ⟨s4, _, rfl, rfl, Kx3⟩
  unfold laws_szSpanS.b0
  refine sq (sr (pu' rfl (mv' w0_0 rfl ?_)))
  have A5 := (A0_0.kp Kx3)
  refine ln' A5 Try.underlying86 rfl (pu' rfl (dn (cd rfl (fun h6 => ?_) (fun h6 => ?_))))
  ·
   refine sk (sq (bl (sr (mv' w0_0 rfl (pu' rfl (ix' A5 Try.underlying86 z76 rfl (fun ad7 es7 h0_7 h1_7 he7 ce7 ia7 => ?_)))))))
   obtain ⟨v7_0, v7_1, v7_2, v7_3, rfl, A7_0, A7_1, A7_2, A7_3⟩ := op76 he7
   refine lca' ce7 Try.underlying76 z76 rfl (pu' rfl (cl' rfl Try.func40 rfl (fun r11 m11 => laws_szSpan.calls (Span.mk ((at_ a0 x3.2).From) ((at_ a0 x3.2).To)) x3.1 s4.w (fun b => memb [0] (s4.g b) = true) v7_0 v7_1 v7_2 v7_3 ((fl_rdf (s := s4) A7_0).sub (D := [0]) rfl) A7_1 ((fl_rdf (s := s4) A7_2).sub (D := [0]) rfl) A7_3 r11 m11) ?_))
   rintro r11 _ w11 m11 ⟨rfl, ky11⟩
   obtain ⟨s12, rfl, p12, n12⟩ := nwx s4 w11 40 ky11
   refine pu' rfl (dn (sr (pu' rfl (pu' rfl (dn (cd rfl (fun h13 => ?_) (fun h13 => ?_)))))))
   ·
    refine sr (pu' rfl (dn (sgi ?_)))
    have K14 := (Kx3.st p12 rfl)
    exact re rfl Try.func118 rfl (r_t rfl r_nil) rfl ⟨_, rfl, rfl, z.ky K14⟩
   ·
    refine sk (ib (rg (pu' rfl (pu' rfl (pu' rfl (dn ?_))))))
    have K15 := (Kx3.st p12 rfl)
    exact lb ih3 ⟨s12, _, rfl, (ue (ue (ue rfl rfl) rfl) rfl), K15⟩
  ·
   exact xt rfl (sgb (sr (pu' rfl (pu' rfl (dn (re rfl Try.func118 rfl (r_t rfl r_nil) rfl ⟨_, rfl, rfl, z.ky Kx3⟩))))))
noncomputable def laws_szItemS.b0 (a0 : (List Item)) (x3 : Int × Int) : Option ((Int × Int) ⊕ Int) :=
 (if (decide (x3.2 < (a0.length : Int))) = true then (if 0 ≤ x3.2 ∧ x3.2 < (a0.length : Int) then ((laws_szItem.f (at_ a0 x3.2) x3.1).bind fun r10 => (if (decide (r10 < (0 : Int))) = true then (some (Sum.inr (-1 : Int))) else (some (Sum.inl (r10, (IntKind.wrap .i64 (x3.2 + (1 : Int)))))))) else none) else ((some x3.1).bind fun o => some (Sum.inr o)))
noncomputable def laws_szItemS.f (a0 : (List Item)) (a1 : Int) : Option (Int) :=
 (if (decide ((IntKind.wrap .i64 (a1 - (a0.length : Int))) < (0 : Int))) = true then (some (-1 : Int)) else (iter (laws_szItemS.b0 a0) ((IntKind.wrap .i64 (a1 - (a0.length : Int))), (0 : Int))))
def laws_szItemS.Q (w : World) (F : Nat → Prop) (r : Int) (v : Value) (w' : World) : Prop :=
 v = (.int .i64 r) ∧ Ky [] w w'
set_option maxHeartbeats 4000000 in
set_option maxRecDepth 100000 in
theorem laws_szItemS.calls (a0 : (List Item)) (a1 : Int) (w : World) (F : Nat → Prop) (w0_0 : Value) (h0_0 : (Kd.sl 39 kd39).rd w [w0_0] a0 F) (r : Int) (m : laws_szItemS.f a0 a1 = some r) :
  Calls Try.prog 119 #[w0_0, (.int .i64 a1)] w (RT (laws_szItemS.Q w F) r) := by
 obtain ⟨s0, rfl, kp0, z⟩ := start0 w F
 have A0_0 := z.rd h0_0
 refine calls_of_TM (args := [w0_0, (.int .i64 a1)]) Try.func119 Try.ntmps119 rfl rfl m ?_
 unfold laws_szItemS.f
 refine sr (pu' rfl (dn (sr (pu' rfl (mv' w0_0 rfl (ln' A0_0 Try.underlying87 rfl (pu' rfl (pu' rfl (dn (sq (sr (pu' rfl (pu' rfl (dn ?_))))))))))))))
 refine cd rfl (fun h2 => ?_) (fun h2 => ?_)
 ·
  exact sr (pu' rfl (dn (re rfl Try.func119 rfl (r_t rfl r_nil) rfl ⟨_, rfl, rfl, z.ky kp0⟩)))
 ·
  refine sk (sq (sr (pu' rfl (dn (bl (lpI (fun (x3 : Int × Int) (e : Env) (w : World) => ∃ (s : St) (e0 : Env), w = s.w ∧ e = upd (upd (upd e0 0 w0_0) 1 (.int .i64 x3.1)) 5 (.int .i64 x3.2) ∧ Kp s0 s) ⟨s0, _, rfl, (ue (ue (ue rfl rfl) rfl) rfl), kp0⟩ (fun g3 ih3 => ?_)))))))
  rintro x3 _ _ ⟨s4, _, rfl, rfl, Kx3⟩
  unfold laws_szItemS.b0
  refine sq (sr (pu' rfl (mv' w0_0 rfl ?_)))
  have A5 := (A0_0.kp Kx3)
  refine ln' A5 Try.underlying87 rfl (pu' rfl (dn (cd rfl (fun h6 => ?_) (fun h6 => ?_))))
  ·
   refine sk (sq (bl (sr (mv' w0_0 rfl (pu' rfl (ix' A5 Try.underlying87 z39 rfl (fun ad7 es7 h0_7 h1_7 he7 ce7 ia7 => ?_)))))))
   obtain ⟨v7_0, v7_1, rfl, A7_0, A7_1⟩ := op39 he7
   refine lca' ce7 Try.underlying39 z39 rfl (pu' rfl (cl' rfl Try.func18 rfl (fun r10 m10 => laws_szItem.calls (at_ a0 x3.2) x3.1 s4.w (fun b => memb [0] (s4.g b) = true) v7_0 v7_1 ((fl_rdf (s := s4) A7_0).sub (D := [0]) rfl) A7_1 r10 m10) ?_))
   rintro r10 _ w10 m10 ⟨rfl, ky10⟩
   obtain ⟨s11, rfl, p11, n11⟩ := nwx s4 w10 40 ky10
   refine pu' rfl (dn (sr (pu' rfl (pu' rfl (dn (cd rfl (fun h12 => ?_) (fun h12 => ?_)))))))
   ·
    refine sr (pu' rfl (dn (sgi ?_)))
    have K13 := (Kx3.st p11 rfl)
    exact re rfl Try.func119 rfl (r_t rfl r_nil) rfl ⟨_, rfl, rfl, z.ky K13⟩
   ·
    refine sk (ib (rg (pu' rfl (pu' rfl (pu' rfl (dn ?_))))))
    have K14 := (Kx3.st p11 rfl)
    exact lb ih3 ⟨s11, _, rfl, (ue (ue (ue rfl rfl) rfl) rfl), K14⟩
  ·
   exact xt rfl (sgb (sr (pu' rfl (pu' rfl (dn (re rfl Try.func119 rfl (r_t rfl r_nil) rfl ⟨_, rfl, rfl, z.ky Kx3⟩))))))
noncomputable def laws_toByteS.b0 (a0 : (List Int)) (x4 : (List Int) × Int) : Option (((List Int) × Int) ⊕ (List Int)) :=
 (if (decide (x4.2 < (a0.length : Int))) = true then (if 0 ≤ x4.2 ∧ x4.2 < (a0.length : Int) then (if 0 ≤ x4.2 ∧ x4.2 < (x4.1.length : Int) then (some (Sum.inl ((x4.1.set (x4.2).toNat (at_ a0 x4.2)), (IntKind.wrap .i64 (x4.2 + (1 : Int)))))) else none) else none) else ((some x4.1).bind fun o => some (Sum.inr o)))
noncomputable def laws_toByteS.f (a0 : (List Int)) : Option ((List Int)) :=
 (if 0 ≤ (a0.length : Int) ∧ (a0.length : Int) ≤ (Lim : Int) then (iter (laws_toByteS.b0 a0) ((List.replicate ((a0.length : Int)).toNat (0 : Int)), (0 : Int))) else none)
def laws_toByteS.Q (w : World) (F : Nat → Prop) (r : (List Int)) (v : Value) (w' : World) : Prop :=
 FO (Kd.sl 5 (Kd.int .u8)) w w' [v] r ∧ Ky [] w w'
set_option maxHeartbeats 4000000 in
set_option maxRecDepth 100000 in
theorem laws_toByteS.calls (a0 : (List Int)) (w : World) (F : Nat → Prop) (w0_0 : Value) (h0_0 : (Kd.sl 5 (Kd.int .u8)).rd w [w0_0] a0 F) (r : (List Int)) (m : laws_toByteS.f a0 = some r) :
  Calls Try.prog 71 #[w0_0] w (RT (laws_toByteS.Q w F) r) := by
 obtain ⟨s0, rfl, kp0, z⟩ := start0 w F
 have A0_0 := z.rd h0_0
 refine calls_of_TM (args := [w0_0]) Try.func71 Try.ntmps71 rfl rfl m ?_
 unfold laws_toByteS.f
 refine sr (pu' rfl (dn (sr (mv' w0_0 rfl (ln' A0_0 Try.underlying37 rfl (mk (x0 := (0 : Int)) (K := (Kd.int .u8)) 40 sl37 o5 (fun _ => ⟨rfl, rfl⟩) rfl rfl rfl rfl rfl rfl rfl (fun v2 s2 p2 A2 => ?_)))))))
 refine asg' v2 rfl (dn (sq (sr (pu' rfl (dn (bl ?_))))))
 have K5 := (kp0.st p2 rfl)
 refine lpI (fun (x4 : (List Int) × Int) (e : Env) (w : World) => ∃ (s : St) (e0 : Env), w = s.w ∧ e = upd (upd (upd e0 0 w0_0) 3 v2) 4 (.int .i64 x4.2) ∧ Kp s0 s ∧ OwF (Kd.sl 5 (Kd.int .u8)) s [v2] x4.1 40) ⟨s2, _, rfl, (ue (ue (ue rfl rfl) rfl) rfl), K5, A2⟩ (fun g4 ih4 => ?_)
 rintro x4 _ _ ⟨s6, _, rfl, rfl, Kx4, Ax4_0⟩
 unfold laws_toByteS.b0
 refine sq (sr (pu' rfl (mv' w0_0 rfl ?_)))
 have A8 := (A0_0.kp Kx4)
 refine ln' A8 Try.underlying37 rfl (pu' rfl (dn (cd rfl (fun h9 => ?_) (fun h9 => ?_))))
 ·
  refine sk (sq (bl (rg (mv' v2 rfl (pu' rfl (mv' w0_0 rfl (pu' rfl (ix' A8 Try.underlying37 z5 rfl (fun ad10 es10 h0_10 h1_10 he10 ce10 ia10 => ?_)))))))))
  obtain rfl := he10
  refine lc0 ce10 Try.underlying5 rfl rfl rfl rfl rfl rfl rfl rfl (ix' Ax4_0.rd Try.underlying37 z5 rfl (fun ad12 es12 h0_12 h1_12 he12 ce12 ia12 => ?_))
  obtain rfl := he12
  refine so (x' := (at_ a0 x4.2)) Ax4_0 ia12 h0_12 h1_12 cs_flat z5 rfl rfl rfl rfl rfl rfl (fun s14 p14 A14 => ?_)
  refine dn (ib (rg (pu' rfl (pu' rfl (pu' rfl (dn ?_))))))
  have K16 := (Kx4.st p14 rfl)
  exact lb ih4 ⟨s14, _, rfl, (ue (ue (ue rfl rfl) rfl) rfl), K16, A14⟩
 ·
  exact xt rfl (sgb (sr (mv' v2 rfl (asg' v2 rfl (dn (re rfl Try.func71 rfl (r_t rfl r_nil) rfl ⟨_, rfl, Ax4_0.fo Kx4 rfl z.l, z.ky Kx4⟩))))))
noncomputable def laws_toItem.f (a0 : Item) : Option (Item) :=
 ((laws_toByteS.f a0.T).bind fun r20 => (some (Item.mk a0.Kind a0.N a0.F r20)))
def laws_toItem.Q (w : World) (F : Nat → Prop) (r : Item) (v : Value) (w' : World) : Prop :=
 ∃ (v0 : Value) (v1 : Value), v = (.agg #[(.int .i64 r.Kind), (.int .i64 r.N), v0, v1]) ∧ FO kd48 w w' [(.int .i64 r.Kind), (.int .i64 r.N), v0, v1] r ∧ Ky [] w w'
set_option maxHeartbeats 4000000 in
set_option maxRecDepth 100000 in
theorem laws_toItem.calls (a0 : Item) (w : World) (F : Nat → Prop) (w0_0 : Value) (w0_1 : Value) (h0_0 : Kd.flt.rd w [w0_0] a0.F F) (h0_1 : (Kd.sl 5 (Kd.int .u8)).rd w [w0_1] a0.T F) (r : Item) (m : laws_toItem.f a0 = some r) :
  Calls Try.prog 21 #[(.agg #[(.int .i64 a0.Kind), (.int .i64 a0.N), w0_0, w0_1])] w (RT (laws_toItem.Q w F) r) := by
 obtain ⟨s0, rfl, kp0, z⟩ := start0 w F
 have A0_0 := fl_of h0_0
 have A0_1 := z.rd h0_1
 refine calls_of_TM (args := [(.agg #[(.int .i64 a0.Kind), (.int .i64 a0.N), w0_0, w0_1])]) Try.func21 Try.ntmps21 rfl rfl m ?_
 unfold laws_toItem.f
 refine sr (bx' (cs := [(.int .i64 a0.Kind), (.int .i64 a0.N), w0_0, w0_1]) 40 rfl rfl (fun b2 s2 p2 B2 => ?_))
 refine al (cs := [(.int .i64 (0 : Int)), (.int .i64 (0 : Int)), (.float .f64 0), (.slice none 0 0)]) 41 rfl rfl rfl rfl rfl o48 rfl (fun b4 s4 p4 B4 => ?_)
 refine dn (sr (al (cs := [(.int .i64 (0 : Int)), (.int .i64 (0 : Int)), (.float .f64 0), (.slice none 0 0)]) 42 rfl rfl rfl rfl rfl o48 rfl (fun b6 s6 p6 B6 => ?_)))
 refine dn (sr (fa' fa39_0 rfl ?_))
 have A8 := (BlF.st B2 (tr2 p4 p6) rfl)
 refine ld' A8 Try.underlying3 rfl (fa' fa48_0 rfl (sv B6 z3 rfl rfl rfl rfl rfl rfl rfl rfl (fun s9 p9 B9 => ?_)))
 refine dn (sr (fa' fa39_1 rfl ?_))
 have A11 := (BlF.st A8 p9 rfl)
 refine ld' A11 Try.underlying3 rfl (fa' fa48_1 rfl (sv B9 z3 rfl rfl rfl rfl rfl rfl rfl rfl (fun s12 p12 B12 => ?_)))
 refine dn (sr (fa' fa39_2 rfl ?_))
 have A14 := (BlF.st A11 p12 rfl)
 refine ld' A14 Try.underlying36 rfl (fa' fa48_2 rfl (sv B12 z36 rfl rfl rfl rfl rfl rfl (FL.one A0_0) rfl (fun s15 p15 B15 => ?_)))
 refine dn (sr (fa' fa39_3 rfl ?_))
 have A17 := (BlF.st A14 p15 rfl)
 refine ld' A17 Try.underlying37 rfl ?_
 have K18 := (kp0.st (tr6 p2 p4 p6 p9 p12 p15) rfl)
 have A19 := (A0_1.kp K18)
 refine cl' rfl Try.func71 rfl (fun r20 m20 => laws_toByteS.calls a0.T s15.w (fun b => memb [0] (s15.g b) = true) w0_1 A19 r20 m20) ?_
 rintro r20 v20_0 w20 m20 ⟨f20_0, ky20⟩
 obtain ⟨s21, rfl, p21, n21⟩ := nwx s15 w20 43 ky20
 have A20_0 := f20_0.c n21
 refine fa' fa48_3 rfl ?_
 have A23 := (BlF.st B15 p21 rfl)
 refine sv A23 z37 rfl rfl rfl rfl rfl rfl A20_0.rd.one rfl (fun s24 p24 B24 => ?_)
 refine dn (sr (lda' (es := [(.int .i64 a0.Kind), (.int .i64 a0.N), w0_0, v20_0]) B24 Try.underlying48 z48 rfl ?_))
 have A26 := (BlF.st B4 (tr6 p6 p9 p12 p15 p21 p24) rfl)
 have A27 := (A20_0.st p24 rfl)
 refine sva (vs := [(.int .i64 a0.Kind), (.int .i64 a0.N), w0_0, v20_0]) A26 z48 rfl rfl rfl rfl rfl rfl (on_cons rfl (on_cons rfl (on_cons (FL.one A0_0) (on_cons A27.rd.one on_nil)))) rfl (fun s28 p28 B28 => ?_)
 refine dn ?_
 have A31 := (A27.st p28 rfl)
 have A30 : OwF kd48 s28 [(.int .i64 a0.Kind), (.int .i64 a0.N), w0_0, v20_0] (Item.mk a0.Kind a0.N a0.F r20) 43 := (ow_isoz (fun x : Item => (x.Kind, x.N, x.F, x.T)) (Item.mk a0.Kind a0.N a0.F r20) (ow_l (fz_int .i64 a0.Kind) (ow_l (fz_int .i64 a0.N) (ow_l (fz_flt A0_0) A31))))
 have K33 := (K18.st (tr3 p21 p24 p28) rfl)
 exact re rfl Try.func21 rfl (r_b B28 Try.underlying48 rfl z48 rfl r_nil) rfl ⟨_, rfl, w0_0, v20_0, rfl, A30.fo K33 rfl z.l, z.ky K33⟩
noncomputable def laws_toSpan.f (a0 : Span) : Option (Span) :=
 ((laws_toItem.f a0.From).bind fun r12 => ((laws_toItem.f a0.To).bind fun r21 => (some (Span.mk r12 r21))))
def laws_toSpan.Q (w : World) (F : Nat → Prop) (r : Span) (v : Value) (w' : World) : Prop :=
 ∃ (v0 : Value) (v1 : Value) (v2 : Value) (v3 : Value), v = (.agg #[(.int .i64 r.From.Kind), (.int .i64 r.From.N), v0, v1, (.int .i64 r.To.Kind), (.int .i64 r.To.N), v2, v3]) ∧ FO kd80 w w' [(.int .i64 r.From.Kind), (.int .i64 r.From.N), v0, v1, (.int .i64 r.To.Kind), (.int .i64 r.To.N), v2, v3] r ∧ Ky [] w w'
set_option maxHeartbeats 4000000 in
set_option maxRecDepth 100000 in
theorem laws_toSpan.calls (a0 : Span) (w : World) (F : Nat → Prop) (w0_0 : Value) (w0_1 : Value) (w0_2 : Value) (w0_3 : Value) (h0_0 : Kd.flt.rd w [w0_0] a0.From.F F) (h0_1 : (Kd.sl 5 (Kd.int .u8)).rd w [w0_1] a0.From.T F) (h0_2 : Kd.flt.rd w [w0_2] a0.To.F F) (h0_3 : (Kd.sl 5 (Kd.int .u8)).rd w [w0_3] a0.To.T F) (r : Span) (m : laws_toSpan.f a0 = some r) :
  Calls Try.prog 42 #[(.agg #[(.int .i64 a0.From.Kind), (.int .i64 a0.From.N), w0_0, w0_1, (.int .i64 a0.To.Kind), (.int .i64 a0.To.N), w0_2, w0_3])] w (RT (laws_toSpan.Q w F) r) := by
 obtain ⟨s0, rfl, kp0, z⟩ := start0 w F
 have A0_0 := fl_of h0_0
 have A0_1 := z.rd h0_1
 have A0_2 := fl_of h0_2
 have A0_3 := z.rd h0_3
 refine calls_of_TM (args := [(.agg #[(.int .i64 a0.From.Kind), (.int .i64 a0.From.N), w0_0, w0_1, (.int .i64 a0.To.Kind), (.int .i64 a0.To.N), w0_2, w0_3])]) Try.func42 Try.ntmps42 rfl rfl m ?_
 unfold laws_toSpan.f
 refine sr (bx' (cs := [(.int .i64 a0.From.Kind), (.int .i64 a0.From.N), w0_0, w0_1, (.int .i64 a0.To.Kind), (.int .i64 a0.To.N), w0_2, w0_3]) 40 rfl rfl (fun b3 s3 p3 B3 => ?_))
 refine al (cs := [(.int .i64 (0 : Int)), (.int .i64 (0 : Int)), (.float .f64 0), (.slice none 0 0), (.int .i64 (0 : Int)), (.int .i64 (0 : Int)), (.float .f64 0), (.slice none 0 0)]) 41 rfl rfl rfl rfl rfl o80 rfl (fun b5 s5 p5 B5 => ?_)
 refine dn (sr (al (cs := [(.int .i64 (0 : Int)), (.int .i64 (0 : Int)), (.float .f64 0), (.slice none 0 0), (.int .i64 (0 : Int)), (.int .i64 (0 : Int)), (.float .f64 0), (.slice none 0 0)]) 42 rfl rfl rfl rfl rfl o80 rfl (fun b7 s7 p7 B7 => ?_)))
 refine dn (sr (fa' fa76_0 rfl ?_))
 have A9 := (BlF.st B3 (tr2 p5 p7) rfl)
 refine lda' (es := [(.int .i64 a0.From.Kind), (.int .i64 a0.From.N), w0_0, w0_1]) A9 Try.underlying39 z39 rfl ?_
 have K10 := (kp0.st (tr3 p3 p5 p7) rfl)
 have A11 := (A0_1.kp K10)
 refine cl' rfl Try.func21 rfl (fun r12 m12 => laws_toItem.calls a0.From s7.w (fun b => memb [0] (s7.g b) = true) w0_0 w0_1 ((fl_rdf (s := s7) A0_0).sub (D := [0]) rfl) A11 r12 m12) ?_
 rintro r12 _ w12 m12 ⟨v12_0, v12_1, rfl, f12_0, ky12⟩
 obtain ⟨s13, rfl, p13, n13⟩ := nwx s7 w12 43 ky12
 have A12_0 := f12_0.c n13
 obtain ⟨os12_0, ho12_0, hn12_0, hc12_0⟩ := A12_0
 obtain ⟨u12_0_0, u12_0_1, qu12_0_1, e12_0, eo12_0, hu12_0_0, hu12_0_1⟩ := po48 ho12_0
 have yu12_0_0 : v12_0 = u12_0_0 := congrArg (fun l => (List.drop 2 l).headD undef) e12_0
 have yu12_0_1 : v12_1 = u12_0_1 := congrArg (fun l => (List.drop 3 l).headD undef) e12_0
 subst yu12_0_0
 subst yu12_0_1
 subst eo12_0
 have Au12_0_1 : OwF (Kd.sl 5 (Kd.int .u8)) s13 [v12_1] r12.T 43 := sp1 hu12_0_1 hn12_0 hc12_0
 refine fa' fa80_0 rfl ?_
 have A15 := (BlF.st B7 p13 rfl)
 refine sva (vs := [(.int .i64 r12.Kind), (.int .i64 r12.N), v12_0, v12_1]) A15 z48 rfl rfl rfl rfl rfl rfl (on_cons rfl (on_cons rfl (on_cons (FL.one hu12_0_0) (on_cons Au12_0_1.rd.one on_nil)))) rfl (fun s16 p16 B16 => ?_)
 refine dn (sr (fa' fa76_1 rfl ?_))
 have A18 := (BlF.st A9 (tr2 p13 p16) rfl)
 refine lda' (es := [(.int .i64 a0.To.Kind), (.int .i64 a0.To.N), w0_2, w0_3]) A18 Try.underlying39 z39 rfl ?_
 have K19 := (K10.st (tr2 p13 p16) rfl)
 have A20 := (A0_3.kp K19)
 refine cl' rfl Try.func21 rfl (fun r21 m21 => laws_toItem.calls a0.To s16.w (fun b => memb [0] (s16.g b) = true) w0_2 w0_3 ((fl_rdf (s := s16) A0_2).sub (D := [0]) rfl) A20 r21 m21) ?_
 rintro r21 _ w21 m21 ⟨v21_0, v21_1, rfl, f21_0, ky21⟩
 obtain ⟨s22, rfl, p22, n22⟩ := nwx s16 w21 44 ky21
 have A21_0 := f21_0.c n22
 obtain ⟨os21_0, ho21_0, hn21_0, hc21_0⟩ := A21_0
 obtain ⟨u21_0_0, u21_0_1, qu21_0_1, e21_0, eo21_0, hu21_0_0, hu21_0_1⟩ := po48 ho21_0
 have yu21_0_0 : v21_0 = u21_0_0 := congrArg (fun l => (List.drop 2 l).headD undef) e21_0
 have yu21_0_1 : v21_1 = u21_0_1 := congrArg (fun l => (List.drop 3 l).headD undef) e21_0
 subst yu21_0_0
 subst yu21_0_1
 subst eo21_0
 have Au21_0_1 : OwF (Kd.sl 5 (Kd.int .u8)) s22 [v21_1] r21.T 44 := sp1 hu21_0_1 hn21_0 hc21_0
 refine fa' fa80_1 rfl ?_
 have A24 := (BlF.st B16 p22 rfl)
 refine sva (vs := [(.int .i64 r21.Kind), (.int .i64 r21.N), v21_0, v21_1]) A24 z48 rfl rfl rfl rfl rfl rfl (on_cons rfl (on_cons rfl (on_cons (FL.one hu21_0_0) (on_cons Au21_0_1.rd.one on_nil)))) rfl (fun s25 p25 B25 => ?_)
 refine dn (sr (lda' (es := [(.int .i64 r12.Kind), (.int .i64 r12.N), v12_0, v12_1, (.int .i64 r21.Kind), (.int .i64 r21.N), v21_0, v21_1]) B25 Try.underlying80 z80 rfl ?_))
 have A27 := (BlF.st B5 (tr5 p7 p13 p16 p22 p25) rfl)
 have A28 := (Au21_0_1.st p25 rfl)
 have A29 := (Au12_0_1.st (tr3 p16 p22 p25) rfl)
 refine sva (vs := [(.int .i64 r12.Kind), (.int .i64 r12.N), v12_0, v12_1, (.int .i64 r21.Kind), (.int .i64 r21.N), v21_0, v21_1]) A27 z80 rfl rfl rfl rfl rfl rfl (on_cons rfl (on_cons rfl (on_cons (FL.one hu12_0_0) (on_cons A29.rd.one (on_cons rfl (on_cons rfl (on_cons (FL.one hu21_0_0) (on_cons A28.rd.one on_nil)))))))) rfl (fun s30 p30 B30 => ?_)
 refine dn ?_
 have A32 := (A29.st p30 rfl)
 have A33 := (A28.st p30 rfl)
 obtain ⟨s34, hw34, p34, A34⟩ := ow_2 (ow_isoz (fun x : Item => (x.Kind, x.N, x.F, x.T)) r12 (ow_l (fz_int .i64 r12.Kind) (ow_l (fz_int .i64 r12.N) (ow_l (fz_flt hu12_0_0) A32)))) (ow_isoz (fun x : Item => (x.Kind, x.N, x.F, x.T)) r21 (ow_l (fz_int .i64 r21.Kind) (ow_l (fz_int .i64 r21.N) (ow_l (fz_flt hu21_0_0) A33)))) rfl rfl
 rw [hw34]
 have A36 : OwF kd80 s34 [(.int .i64 r12.Kind), (.int .i64 r12.N), v12_0, v12_1, (.int .i64 r21.Kind), (.int .i64 r21.N), v21_0, v21_1] (Span.mk r12 r21) 43 := (ow_isoz (fun x : Span => (x.From, x.To)) (Span.mk r12 r21) A34)
 have A38 := (BlF.st B30 p34 rfl)
 have K39 := (K19.st (tr4 p22 p25 p30 p34) rfl)
 exact re rfl Try.func42 rfl (r_b A38 Try.underlying80 rfl z80 rfl r_nil) rfl ⟨_, rfl, v12_0, v12_1, v21_0, v21_1, rfl, A36.fo K39 rfl z.l, z.ky K39⟩
noncomputable def laws_toSpanS.b0 (a0 : (List Span)) (x4 : (List Span) × Int) : Option (((List Span) × Int) ⊕ (List Span)) :=
 (if (decide (x4.2 < (a0.length : Int))) = true then (if 0 ≤ x4.2 ∧ x4.2 < (a0.length : Int) then ((laws_toSpan.f (Span.mk ((at_ a0 x4.2).From) ((at_ a0 x4.2).To))).bind fun r14 => (if 0 ≤ x4.2 ∧ x4.2 < (x4.1.length : Int) then (some (Sum.inl ((x4.1.set (x4.2).toNat r14), (IntKind.wrap .i64 (x4.2 + (1 : Int)))))) else none)) else none) else ((some x4.1).bind fun o => some (Sum.inr o)))
noncomputable def laws_toSpanS.f (a0 : (List Span)) : Option ((List Span)) :=
 (if 0 ≤ (a0.length : Int) ∧ (a0.length : Int) ≤ (Lim : Int) then (iter (laws_toSpanS.b0 a0) ((List.replicate ((a0.length : Int)).toNat (Span.mk (Item.mk (0 : Int) (0 : Int) (0 : Nat) ([] : (List Int))) (Item.mk (0 : Int) (0 : Int) (0 : Nat) ([] : (List Int))))), (0 : Int))) else none)
def laws_toSpanS.Q (w : World) (F : Nat → Prop) (r : (List Span)) (v : Value) (w' : World) : Prop :=
 FO (Kd.sl 80 kd80) w w' [v] r ∧ Ky [] w w'
set_option maxHeartbeats 4000000 in
set_option maxRecDepth 100000 in
theorem laws_toSpanS.calls (a0 : (List Span)) (w : World) (F : Nat → Prop) (w0_0 : Value) (h0_0 : (Kd.sl 76 kd76).rd w [w0_0] a0 F) (r : (List Span)) (m : laws_toSpanS.f a0 = some r) :
  Calls Try.prog 122 #[w0_0] w (RT (laws_toSpanS.Q w F) r) := by
 obtain ⟨s0, rfl, kp0, z⟩ := start0 w F
 have A0_0 := z.rd h0_0
 refine calls_of_TM (args := [w0_0]) Try.func122 Try.ntmps122 rfl rfl m ?_
 unfold laws_toSpanS.f
 refine sr (pu' rfl (dn (sr (mv' w0_0 rfl (ln' A0_0 Try.underlying86 rfl (mk (x0 := (Span.mk (Item.mk (0 : Int) (0 : Int) (0 : Nat) ([] : (List Int))) (Item.mk (0 : Int) (0 : Int) (0 : Nat) ([] : (List Int))))) (K := kd80) 40 sl56 o80 (fun _ => ⟨_, _, [], [], rfl, rfl, ⟨_, _, [], [], rfl, rfl, ⟨rfl, rfl⟩, ⟨_, _, [], [], rfl, rfl, ⟨rfl, rfl⟩, ⟨_, _, [], [], rfl, rfl, ⟨⟨_, rfl, fl_c rfl⟩, rfl⟩, ⟨_, rfl, [], [], [], rfl, ⟨by simp, .inl ⟨rfl, rfl, rfl⟩⟩, ⟨rfl, rfl⟩⟩⟩⟩⟩, ⟨_, _, [], [], rfl, rfl, ⟨rfl, rfl⟩, ⟨_, _, [], [], rfl, rfl, ⟨rfl, rfl⟩, ⟨_, _, [], [], rfl, rfl, ⟨⟨_, rfl, fl_c rfl⟩, rfl⟩, ⟨_, rfl, [], [], [], rfl, ⟨by simp, .inl ⟨rfl, rfl, rfl⟩⟩, ⟨rfl, rfl⟩⟩⟩⟩⟩⟩) rfl rfl rfl rfl rfl rfl rfl (fun v2 s2 p2 A2 => ?_)))))))
 refine asg' v2 rfl (dn (sq (sr (pu' rfl (dn (bl ?_))))))
 have K5 := (kp0.st p2 rfl)
 refine lpI (fun (x4 : (List Span) × Int) (e : Env) (w : World) => ∃ (s : St) (e0 : Env), w = s.w ∧ e = upd (upd (upd e0 0 w0_0) 3 v2) 4 (.int .i64 x4.2) ∧ Kp s0 s ∧ OwF (Kd.sl 80 kd80) s [v2] x4.1 40) ⟨s2, _, rfl, (ue (ue (ue rfl rfl) rfl) rfl), K5, A2⟩ (fun g4 ih4 => ?_)
 rintro x4 _ _ ⟨s6, _, rfl, rfl, Kx4, Ax4_0⟩
 unfold laws_toSpanS.b0
 refine sq (sr (pu' rfl (mv' w0_0 rfl ?_)))
 have A8 := (A0_0.kp Kx4)
 refine ln' A8 Try.underlying86 rfl (pu' rfl (dn (cd rfl (fun h9 => ?_) (fun h9 => ?_))))
 ·
  refine sk (sq (bl (rg (mv' v2 rfl (pu' rfl (mv' w0_0 rfl (pu' rfl (ix' A8 Try.underlying86 z76 rfl (fun ad10 es10 h0_10 h1_10 he10 ce10 ia10 => ?_)))))))))
  obtain ⟨v10_0, v10_1, v10_2, v10_3, rfl, A10_0, A10_1, A10_2, A10_3⟩ := op76 he10
  refine lca' ce10 Try.underlying76 z76 rfl (cl' rfl Try.func42 rfl (fun r14 m14 => laws_toSpan.calls (Span.mk ((at_ a0 x4.2).From) ((at_ a0 x4.2).To)) s6.w (fun b => memb [0] (s6.g b) = true) v10_0 v10_1 v10_2 v10_3 ((fl_rdf (s := s6) A10_0).sub (D := [0]) rfl) A10_1 ((fl_rdf (s := s6) A10_2).sub (D := [0]) rfl) A10_3 r14 m14) ?_)
  rintro r14 _ w14 m14 ⟨v14_0, v14_1, v14_2, v14_3, rfl, f14_0, ky14⟩
  obtain ⟨s15, rfl, p15, n15⟩ := nwx s6 w14 41 ky14
  have A14_0 := f14_0.c n15
  obtain ⟨os14_0, ho14_0, hn14_0, hc14_0⟩ := A14_0
  obtain ⟨u14_0_0, u14_0_1, u14_0_2, u14_0_3, qu14_0_1, qu14_0_3, e14_0, eo14_0, hu14_0_0, hu14_0_1, hu14_0_2, hu14_0_3⟩ := po80 ho14_0
  have yu14_0_0 : v14_0 = u14_0_0 := congrArg (fun l => (List.drop 2 l).headD undef) e14_0
  have yu14_0_1 : v14_1 = u14_0_1 := congrArg (fun l => (List.drop 3 l).headD undef) e14_0
  have yu14_0_2 : v14_2 = u14_0_2 := congrArg (fun l => (List.drop 6 l).headD undef) e14_0
  have yu14_0_3 : v14_3 = u14_0_3 := congrArg (fun l => (List.drop 7 l).headD undef) e14_0
  subst yu14_0_0
  subst yu14_0_1
  subst yu14_0_2
  subst yu14_0_3
  subst eo14_0
  obtain ⟨s16, hw16, p16, Au14_0_1, hn16, hc16⟩ := sp2 42 hu14_0_1 hn14_0 hc14_0 rfl
  rw [hw16]
  have Au14_0_3 : OwF (Kd.sl 5 (Kd.int .u8)) s16 [v14_3] r14.To.T 42 := sp1 (hw16 ▸ hu14_0_3) hn16 hc16
  have A19 := (Ax4_0.st (tr2 p15 p16) rfl)
  refine ix' A19.rd Try.underlying56 z80 rfl (fun ad20 es20 h0_20 h1_20 he20 ce20 ia20 => ?_)
  obtain ⟨v20_0, v20_1, v20_2, v20_3, rfl, A20_0, A20_1, A20_2, A20_3⟩ := op80 he20
  obtain ⟨s24, hw24, p24, A24⟩ := ow_2 (ow_isoz (fun x : Item => (x.Kind, x.N, x.F, x.T)) r14.From (ow_l (fz_int .i64 r14.From.Kind) (ow_l (fz_int .i64 r14.From.N) (ow_l (fz_flt hu14_0_0) Au14_0_1)))) (ow_isoz (fun x : Item => (x.Kind, x.N, x.F, x.T)) r14.To (ow_l (fz_int .i64 r14.To.Kind) (ow_l (fz_int .i64 r14.To.N) (ow_l (fz_flt hu14_0_2) Au14_0_3)))) rfl rfl
  rw [hw24]
  have A26 : OwF kd80 s24 [(.int .i64 r14.From.Kind), (.int .i64 r14.From.N), v14_0, v14_1, (.int .i64 r14.To.Kind), (.int .i64 r14.To.N), v14_2, v14_3] r14 41 := (ow_isoz (fun x : Span => (x.From, x.To)) r14 A24)
  have A28 := (A19.st p24 rfl)
  refine som (x' := r14) A28 ia20 h0_20 h1_20 A26 rfl rfl z80 rfl rfl rfl rfl rfl rfl (fun s29 p29 A29 => ?_)
  refine dn (ib (rg (pu' rfl (pu' rfl (pu' rfl (dn ?_))))))
  have K31 := (Kx4.st (tr4 p15 p16 p24 p29) rfl)
  exact lb ih4 ⟨s29, _, rfl, (ue (ue (ue rfl rfl) rfl) rfl), K31, A29⟩
 ·
  exact xt rfl (sgb (sr (mv' v2 rfl (asg' v2 rfl (dn (re rfl Try.func122 rfl (r_t rfl r_nil) rfl ⟨_, rfl, Ax4_0.fo Kx4 rfl z.l, z.ky Kx4⟩))))))
noncomputable def laws_toItemS.b0 (a0 : (List Item)) (x4 : (List Item) × Int) : Option (((List Item) × Int) ⊕ (List Item)) :=
 (if (decide (x4.2 < (a0.length : Int))) = true then (if 0 ≤ x4.2 ∧ x4.2 < (a0.length : Int) then ((laws_toItem.f (at_ a0 x4.2)).bind fun r13 => (if 0 ≤ x4.2 ∧ x4.2 < (x4.1.length : Int) then (some (Sum.inl ((x4.1.set (x4.2).toNat r13), (IntKind.wrap .i64 (x4.2 + (1 : Int)))))) else none)) else none) else ((some x4.1).bind fun o => some (Sum.inr o)))
noncomputable def laws_toItemS.f (a0 : (List Item)) : Option ((List Item)) :=
 (if 0 ≤ (a0.length : Int) ∧ (a0.length : Int) ≤ (Lim : Int) then (iter (laws_toItemS.b0 a0) ((List.replicate ((a0.length : Int)).toNat (Item.mk (0 : Int) (0 : Int) (0 : Nat) ([] : (List Int)))), (0 : Int))) else none)
def laws_toItemS.Q (w : World) (F : Nat → Prop) (r : (List Item)) (v : Value) (w' : World) : Prop :=
 FO (Kd.sl 48 kd48) w w' [v] r ∧ Ky [] w w'
set_option maxHeartbeats 4000000 in
set_option maxRecDepth 100000 in
theorem laws_toItemS.calls (a0 : (List Item)) (w : World) (F : Nat → Prop) (w0_0 : Value) (h0_0 : (Kd.sl 39 kd39).rd w [w0_0] a0 F) (r : (List Item)) (m : laws_toItemS.f a0 = some r) :
  Calls Try.prog 123 #[w0_0] w (RT (laws_toItemS.Q w F) r) := by
 obtain ⟨s0, rfl, kp0, z⟩ := start0 w F
 have A0_0 := z.rd h0_0
 refine calls_of_TM (args := [w0_0]) Try.func123 Try.ntmps123 rfl rfl m ?_
 unfold laws_toItemS.f
 refine sr (pu' rfl (dn (sr (mv' w0_0 rfl (ln' A0_0 Try.underlying87 rfl (mk (x0 := (Item.mk (0 : Int) (0 : Int) (0 : Nat) ([] : (List Int)))) (K := kd48) 40 sl57 o48 (fun _ => ⟨_, _, [], [], rfl, rfl, ⟨rfl, rfl⟩, ⟨_, _, [], [], rfl, rfl, ⟨rfl, rfl⟩, ⟨_, _, [], [], rfl, rfl, ⟨⟨_, rfl, fl_c rfl⟩, rfl⟩, ⟨_, rfl, [], [], [], rfl, ⟨by simp, .inl ⟨rfl, rfl, rfl⟩⟩, ⟨rfl, rfl⟩⟩⟩⟩⟩) rfl rfl rfl rfl rfl rfl rfl (fun v2 s2 p2 A2 => ?_)))))))
 refine asg' v2 rfl (dn (sq (sr (pu' rfl (dn (bl ?_))))))
 have K5 := (kp0.st p2 rfl)
 refine lpI (fun (x4 : (List Item) × Int) (e : Env) (w : World) => ∃ (s : St) (e0 : Env), w = s.w ∧ e = upd (upd (upd e0 0 w0_0) 3 v2) 4 (.int .i64 x4.2) ∧ Kp s0 s ∧ OwF (Kd.sl 48 kd48) s [v2] x4.1 40) ⟨s2, _, rfl, (ue (ue (ue rfl rfl) rfl) rfl), K5, A2⟩ (fun g4 ih4 => ?_)
 rintro x4 _ _ ⟨s6, _, rfl, rfl, Kx4, Ax4_0⟩
 unfold laws_toItemS.b0
 refine sq (sr (pu' rfl (mv' w0_0 rfl ?_)))
 have A8 := (A0_0.kp Kx4)
 refine ln' A8 Try.underlying87 rfl (pu' rfl (dn (cd rfl (fun h9 => ?_) (fun h9 => ?_))))
 ·
  refine sk (sq (bl (rg (mv' v2 rfl (pu' rfl (mv' w0_0 rfl (pu' rfl (ix' A8 Try.underlying87 z39 rfl (fun ad10 es10 h0_10 h1_10 he10 ce10 ia10 => ?_)))))))))
  obtain ⟨v10_0, v10_1, rfl, A10_0, A10_1⟩ := op39 he10
  refine lca' ce10 Try.underlying39 z39 rfl (cl' rfl Try.func21 rfl (fun r13 m13 => laws_toItem.calls (at_ a0 x4.2) s6.w (fun b => memb [0] (s6.g b) = true) v10_0 v10_1 ((fl_rdf (s := s6) A10_0).sub (D := [0]) rfl) A10_1 r13 m13) ?_)
  rintro r13 _ w13 m13 ⟨v13_0, v13_1, rfl, f13_0, ky13⟩
  obtain ⟨s14, rfl, p14, n14⟩ := nwx s6 w13 41 ky13
  have A13_0 := f13_0.c n14
  obtain ⟨os13_0, ho13_0, hn13_0, hc13_0⟩ := A13_0
  obtain ⟨u13_0_0, u13_0_1, qu13_0_1, e13_0, eo13_0, hu13_0_0, hu13_0_1⟩ := po48 ho13_0
  have yu13_0_0 : v13_0 = u13_0_0 := congrArg (fun l => (List.drop 2 l).headD undef) e13_0
  have yu13_0_1 : v13_1 = u13_0_1 := congrArg (fun l => (List.drop 3 l).headD undef) e13_0
  subst yu13_0_0
  subst yu13_0_1
  subst eo13_0
  have Au13_0_1 : OwF (Kd.sl 5 (Kd.int .u8)) s14 [v13_1] r13.T 41 := sp1 hu13_0_1 hn13_0 hc13_0
  have A16 := (Ax4_0.st p14 rfl)
  refine ix' A16.rd Try.underlying57 z48 rfl (fun ad17 es17 h0_17 h1_17 he17 ce17 ia17 => ?_)
  obtain ⟨v17_0, v17_1, rfl, A17_0, A17_1⟩ := op48 he17
  have A20 : OwF kd48 s14 [(.int .i64 r13.Kind), (.int .i64 r13.N), v13_0, v13_1] r13 41 := (ow_isoz (fun x : Item => (x.Kind, x.N, x.F, x.T)) r13 (ow_l (fz_int .i64 r13.Kind) (ow_l (fz_int .i64 r13.N) (ow_l (fz_flt hu13_0_0) Au13_0_1))))
  refine som (x' := r13) A16 ia17 h0_17 h1_17 A20 rfl rfl z48 rfl rfl rfl rfl rfl rfl (fun s22 p22 A22 => ?_)
  refine dn (ib (rg (pu' rfl (pu' rfl (pu' rfl (dn ?_))))))
  have K24 := (Kx4.st (tr2 p14 p22) rfl)
  exact lb ih4 ⟨s22, _, rfl, (ue (ue (ue rfl rfl) rfl) rfl), K24, A22⟩
 ·
  exact xt rfl (sgb (sr (mv' v2 rfl (asg' v2 rfl (dn (re rfl Try.func123 rfl (r_t rfl r_nil) rfl ⟨_, rfl, Ax4_0.fo Kx4 rfl z.l, z.ky Kx4⟩))))))
noncomputable def spec_FloatBits.b1 (y8 : Int × Nat) (x19 : Nat × Int) : Option ((Nat × Int) ⊕ Int) :=
 (if ((fcmp .f64 x19.1 (4607182418800017408 : Nat) == some .lt) && (decide (x19.2 > (-1022 : Int)))) = true then (some (Sum.inl ((far .mul x19.1 (4611686018427387904 : Nat)), (IntKind.wrap .i64 (x19.2 - (1 : Int)))))) else ((if (fcmp .f64 x19.1 (4607182418800017408 : Nat) == some .lt) = true then ((floatToIntVal .f64 (far .mul x19.1 (4841369599423283200 : Nat)) .u64).bind fun r27 => (some (ior .u64 y8.1 r27))) else ((floatToIntVal .f64 (far .mul (far .sub x19.1 (4607182418800017408 : Nat)) (4841369599423283200 : Nat)) .u64).bind fun r31 => (some (ior .u64 (ior .u64 y8.1 (ishl .u64 (IntKind.wrap .u64 (IntKind.wrap .i64 (x19.2 + (1023 : Int)))) (52 : Int))) r31)))).bind fun o => some (Sum.inr o)))
noncomputable def spec_FloatBits.b0 (y8 : Int × Nat) (x14 : Nat × Int) : Option ((Nat × Int) ⊕ Int) :=
 (if (fcmp .f64 x14.1 (4611686018427387904 : Nat) == some .gt || fcmp .f64 x14.1 (4611686018427387904 : Nat) == some .eq) = true then (some (Sum.inl ((far .quo x14.1 (4611686018427387904 : Nat)), (IntKind.wrap .i64 (x14.2 + (1 : Int)))))) else ((iter (spec_FloatBits.b1 y8) (x14.1, x14.2)).bind fun o => some (Sum.inr o)))
noncomputable def spec_FloatBits.f (a0 : Nat) : Option (Int) :=
 (if (fcmp .f64 a0 a0 != some .eq) = true then (some (9221120237041090560 : Int)) else ((if (fcmp .f64 a0 (0 : Nat) == some .lt) = true then (some true) else ((if (fcmp .f64 a0 (0 : Nat) == some .eq) = true then (some (fcmp .f64 (far .quo (4607182418800017408 : Nat) a0) (0 : Nat) == some .lt)) else (some false)).bind fun y3 => (some y3))).bind fun y2 => ((if y2 = true then (some ((9223372036854775808 : Int), (fneg a0))) else (some ((0 : Int), a0))).bind fun y8 => (if (fcmp .f64 y8.2 (0 : Nat) == some .eq) = true then (some y8.1) else (if (fcmp .f64 y8.2 (9218868437227405311 : Nat) == some .gt) = true then (some (ior .u64 y8.1 (9218868437227405312 : Int))) else (iter (spec_FloatBits.b0 y8) (y8.2, (0 : Int))))))))
def spec_FloatBits.Q (w : World) (F : Nat → Prop) (r : Int) (v : Value) (w' : World) : Prop :=
 v = (.int .u64 r) ∧ Ky [] w w'
set_option maxHeartbeats 4000000 in
set_option maxRecDepth 100000 in
theorem spec_FloatBits.calls (a0 : Nat) (w : World) (F : Nat → Prop) (w0_0 : Value) (h0_0 : Kd.flt.rd w [w0_0] a0 F) (r : Int) (m : spec_FloatBits.f a0 = some r) :
  Calls Try.prog 175 #[w0_0] w (RT (spec_FloatBits.Q w F) r) := by
 obtain ⟨s0, rfl, kp0, z⟩ := start0 w F
 have A0_0 := fl_of h0_0
 refine calls_of_TM (args := [w0_0]) Try.func175 Try.ntmps175 rfl rfl m ?_
 unfold spec_FloatBits.f
 refine sr (pu' rfl (dn (sq (sr (mv' w0_0 rfl (mv' w0_0 rfl (fq_' A0_0 A0_0 rfl (dn (cd rfl (fun h1 => ?_) (fun h1 => ?_))))))))))
 ·
  exact sr (pu' rfl (dn (re rfl Try.func175 rfl (r_t rfl r_nil) rfl ⟨_, rfl, rfl, z.ky kp0⟩)))
 ·
  refine sk (sr (pu' rfl (dn (sr (mv' w0_0 rfl (asg' w0_0 rfl (dn (sq (sr (mv' w0_0 rfl (fq_' A0_0 (fl_c rfl) rfl (pu' rfl (ji [] (fun (y2 : Bool) (e : Env) (w : World) => ∃ (s : St) (e0 : Env), w = s.w ∧ e = upd (upd (upd (upd e0 0 w0_0) 3 (.int .u64 (0 : Int))) 4 w0_0) 20 (.bool y2) ∧ Kp s0 s) (fun Gj2 Kj2 => ?_) ?_)))))))))))))
  ·
   rcases Bool.eq_false_or_eq_true (fcmp .f64 a0 (0 : Nat) == some .lt) with hb2 | hb2
   ·
    refine sbT hb2 ?_
    rw [if_pos hb2]
    exact uw' rfl (uw' rfl (uw' rfl (uw' rfl (uw' rfl (uw' rfl (uw' rfl (pu' rfl (Kj2 _ _ _ ⟨s0, _, rfl, (ue (ue (ue (ue rfl rfl) rfl) rfl) rfl), kp0⟩))))))))
   ·
    refine sbT hb2 ?_
    rw [if_neg (by rw [hb2]; decide)]
    refine mv' w0_0 rfl (fq_' A0_0 (fl_c rfl) rfl (pu' rfl (ji [10] (fun (y3 : Bool) (e : Env) (w : World) => ∃ (s : St) (e0 : Env), w = s.w ∧ e = upd (upd (upd (upd (upd e0 0 w0_0) 3 (.int .u64 (0 : Int))) 4 w0_0) 12 (.bool false)) 19 (.bool y3) ∧ Kp s0 s) (fun Gj3 Kj3 => ?_) ?_)))
    ·
     rcases Bool.eq_false_or_eq_true (fcmp .f64 a0 (0 : Nat) == some .eq) with hb3 | hb3
     ·
      refine sbT hb3 ?_
      rw [if_pos hb3]
      refine mv' w0_0 rfl (fa_ (fl_c rfl) A0_0 (by simp) rfl rfl rfl rfl rfl rfl rfl (fun v4 s4 p4 A4 => ?_))
      refine fq_' A4 (fl_c rfl) rfl (pu' rfl ?_)
      have K5 := (kp0.st p4 rfl)
      exact Kj3 _ _ _ ⟨s4, _, rfl, (ue (ue (ue (ue (ue rfl rfl) rfl) rfl) rfl) rfl), K5⟩
     ·
      refine sbT hb3 ?_
      rw [if_neg (by rw [hb3]; decide)]
      exact uw' rfl (uw' rfl (uw' rfl (pu' rfl (Kj3 _ _ _ ⟨s0, _, rfl, (ue (ue (ue (ue (ue rfl rfl) rfl) rfl) rfl) rfl), kp0⟩))))
    rintro y3 _ _ ⟨s6, _, rfl, rfl, Ky3⟩
    exact pu' rfl (Kj2 _ _ _ ⟨s6, _, rfl, (ue (ue (ue (ue rfl rfl) rfl) rfl) rfl), Ky3⟩)
  rintro y2 _ _ ⟨s7, _, rfl, rfl, Ky2⟩
  refine dn (jc (fun (y8 : Int × Nat) (e : Env) (w : World) => ∃ (s : St) (e0 : Env) (uy8_0 : Value), w = s.w ∧ e = upd (upd e0 3 (.int .u64 y8.1)) 4 uy8_0 ∧ Kp s0 s ∧ FL uy8_0 y8.2) (fun Gj8 Kj8 => ?_) ?_)
  ·
   refine cd rfl (fun h9 => ?_) (fun h9 => ?_)
   ·
    refine sr (pu' rfl (dn (rg (mv' w0_0 rfl (fng_ A0_0 rfl rfl rfl rfl rfl rfl (fun v10 A10 => ?_))))))
    exact asg' v10 rfl (dn (Kj8 _ _ _ ⟨s7, _, v10, rfl, (ue (ue rfl rfl) rfl), Ky2, A10⟩))
   ·
    exact sk (Kj8 _ _ _ ⟨s7, _, w0_0, rfl, (ue (ue rfl rfl) rfl), Ky2, A0_0⟩)
  rintro y8 _ _ ⟨s11, _, uy8_0, rfl, rfl, Ky8, Fy8_0⟩
  refine sq (sr (mv' uy8_0 rfl (fq_' Fy8_0 (fl_c rfl) rfl (dn (cd rfl (fun h12 => ?_) (fun h12 => ?_))))))
  ·
   exact sr (pu' rfl (pu' rfl (dn (re rfl Try.func175 rfl (r_t rfl r_nil) rfl ⟨_, rfl, rfl, z.ky Ky8⟩))))
  ·
   refine sk (sq (sr (mv' uy8_0 rfl (fq_' Fy8_0 (fl_c rfl) rfl (dn (cd rfl (fun h13 => ?_) (fun h13 => ?_)))))))
   ·
    exact sr (pu' rfl (pu' rfl (pu' rfl (dn (re rfl Try.func175 rfl (r_t rfl r_nil) rfl ⟨_, rfl, rfl, z.ky Ky8⟩)))))
   ·
    refine sk (sr (pu' rfl (dn (sq (bl (lpI (fun (x14 : Nat × Int) (e : Env) (w : World) => ∃ (s : St) (e0 : Env) (ux14_0 : Value), w = s.w ∧ e = upd (upd (upd e0 3 (.int .u64 y8.1)) 4 ux14_0) 5 (.int .i64 x14.2) ∧ Kp s0 s ∧ FL ux14_0 x14.1) ⟨s11, _, uy8_0, rfl, (ue (ue (ue rfl rfl) rfl) rfl), Ky8, Fy8_0⟩ (fun g14 ih14 => ?_)))))))
    rintro x14 _ _ ⟨s15, _, ux14_0, rfl, rfl, Kx14, Fx14_0⟩
    unfold spec_FloatBits.b0
    refine sq (sr (mv' ux14_0 rfl (fq_' Fx14_0 (fl_c rfl) rfl (dn (cd rfl (fun h16 => ?_) (fun h16 => ?_))))))
    ·
     refine sk (bl (sr (mv' ux14_0 rfl (fa_ Fx14_0 (fl_c rfl) (by simp) rfl rfl rfl rfl rfl rfl rfl (fun v17 s17 p17 A17 => ?_)))))
     refine asg' v17 rfl (dn (rg (pu' rfl (pu' rfl (pu' rfl (dn (ib ?_)))))))
     have K18 := (Kx14.st p17 rfl)
     exact lb ih14 ⟨s17, _, v17, rfl, (ue (ue (ue rfl rfl) rfl) rfl), K18, A17⟩
    ·
     refine xt rfl (sgb (sq (bl (lpI (fun (x19 : Nat × Int) (e : Env) (w : World) => ∃ (s : St) (e0 : Env) (ux19_0 : Value), w = s.w ∧ e = upd (upd (upd e0 3 (.int .u64 y8.1)) 4 ux19_0) 5 (.int .i64 x19.2) ∧ Kp s0 s ∧ FL ux19_0 x19.1) ⟨s15, _, ux14_0, rfl, (ue (ue (ue rfl rfl) rfl) rfl), Kx14, Fx14_0⟩ (fun g19 ih19 => ?_)))))
     rintro x19 _ _ ⟨s20, _, ux19_0, rfl, rfl, Kx19, Fx19_0⟩
     unfold spec_FloatBits.b1
     refine sq (sr (mv' ux19_0 rfl (fq_' Fx19_0 (fl_c rfl) rfl (pu' rfl (jy [38, 39, 40, 41] [] 41 (.bool ((fcmp .f64 x19.1 (4607182418800017408 : Nat) == some .lt) && (decide (x19.2 > (-1022 : Int))))) rfl (fun Kg21 => ?_) (fun j21 => ?_))))))
     ·
      rcases Bool.eq_false_or_eq_true (fcmp .f64 x19.1 (4607182418800017408 : Nat) == some .lt) with hb21 | hb21
      ·
       exact sbT hb21 (pu' rfl (pu' rfl (pu' rfl (Kg21 _ (Ag.put ((Ag.put ((Ag.put (Ag.base rfl) rfl)) rfl)) rfl) (by rw [hb21]; rfl)))))
      ·
       exact sbT hb21 (uw' rfl (uw' rfl (pu' rfl (Kg21 _ (Ag.put ((Ag.put ((Ag.put (Ag.base rfl) rfl)) rfl)) rfl) (by rw [hb21]; rfl)))))
     refine dn (cd rfl (fun h22 => ?_) (fun h22 => ?_))
     ·
      refine sk (bl (sr (mv' ux19_0 rfl (fa_ Fx19_0 (fl_c rfl) (by simp) rfl rfl rfl rfl rfl rfl rfl (fun v23 s23 p23 A23 => ?_)))))
      refine asg' v23 rfl (dn (rg (pu' rfl (pu' rfl (pu' rfl (dn (ib ?_)))))))
      have K24 := (Kx19.st p23 rfl)
      exact lb ih19 ⟨s23, _, v23, rfl, (ue (ue (ue rfl rfl) rfl) rfl), K24, A23⟩
     ·
      refine xt rfl (sgb (sq (sr (mv' ux19_0 rfl (fq_' Fx19_0 (fl_c rfl) rfl (dn (cd rfl (fun h25 => ?_) (fun h25 => ?_))))))))
      ·
       refine sr (pu' rfl (mv' ux19_0 rfl (fa_ Fx19_0 (fl_c rfl) (by simp) rfl rfl rfl rfl rfl rfl rfl (fun v26 s26 p26 A26 => ?_))))
       refine f2i A26 Try.underlying210 Try.underlying36 rfl rfl rfl rfl rfl rfl (fun r27 m27 => ?_)
       refine pu' rfl (pu' rfl (dn ?_))
       have K28 := (Kx19.st p26 rfl)
       exact re rfl Try.func175 rfl (r_t rfl r_nil) rfl ⟨_, rfl, rfl, z.ky K28⟩
      ·
       refine sk (sr (pu' rfl (pu' rfl (pu' rfl (cv Try.underlying210 Try.underlying3 rfl rfl rfl rfl rfl rfl (shlK rfl rfl rfl rfl rfl rfl rfl rfl (pu' rfl (mv' ux19_0 rfl (fa_ Fx19_0 (fl_c rfl) (by simp) rfl rfl rfl rfl rfl rfl rfl (fun v29 s29 p29 A29 => ?_))))))))))
       refine fa_ A29 (fl_c rfl) (by simp) rfl rfl rfl rfl rfl rfl rfl (fun v30 s30 p30 A30 => ?_)
       refine f2i A30 Try.underlying210 Try.underlying36 rfl rfl rfl rfl rfl rfl (fun r31 m31 => ?_)
       refine pu' rfl (pu' rfl (dn ?_))
       have K32 := (Kx19.st (tr2 p29 p30) rfl)
       exact re rfl Try.func175 rfl (r_t rfl r_nil) rfl ⟨_, rfl, rfl, z.ky K32⟩
noncomputable def spec_ItemOk.f (a0 : Item) : Option (Bool) :=
 (if (((decide (a0.Kind < (0 : Int))) || (decide (a0.Kind > (3 : Int)))) || (decide ((a0.T.length : Int) > (40 : Int)))) = true then (some false) else (if ((a0.Kind != (1 : Int)) && (a0.N != (0 : Int))) = true then (some false) else ((if (a0.Kind != (2 : Int)) = true then ((spec_FloatBits.f a0.F).bind fun r14 => (some (r14 != (0 : Int)))) else (some false)).bind fun y13 => (if y13 = true then (some false) else (some ((a0.Kind == (3 : Int)) || ((a0.T.length : Int) == (0 : Int))))))))
def spec_ItemOk.Q (w : World) (F : Nat → Prop) (r : Bool) (v : Value) (w' : World) : Prop :=
 v = (.bool r) ∧ Ky [] w w'
set_option maxHeartbeats 4000000 in
set_option maxRecDepth 100000 in
theorem spec_ItemOk.calls (a0 : Item) (w : World) (F : Nat → Prop) (w0_0 : Value) (w0_1 : Value) (h0_0 : Kd.flt.rd w [w0_0] a0.F F) (h0_1 : (Kd.sl 5 (Kd.int .u8)).rd w [w0_1] a0.T F) (r : Bool) (m : spec_ItemOk.f a0 = some r) :
  Calls Try.prog 174 #[(.agg #[(.int .i64 a0.Kind), (.int .i64 a0.N), w0_0, w0_1])] w (RT (spec_ItemOk.Q w F) r) := by
 obtain ⟨s0, rfl, kp0, z⟩ := start0 w F
 have A0_0 := fl_of h0_0
 have A0_1 := z.rd h0_1
 refine calls_of_TM (args := [(.agg #[(.int .i64 a0.Kind), (.int .i64 a0.N), w0_0, w0_1])]) Try.func174 Try.ntmps174 rfl rfl m ?_
 unfold spec_ItemOk.f
 refine sr (bx' (cs := [(.int .i64 a0.Kind), (.int .i64 a0.N), w0_0, w0_1]) 40 rfl rfl (fun b2 s2 p2 B2 => ?_))
 refine pu' rfl (dn (sq (sr (fa' fa48_0 rfl (ld' B2 Try.underlying3 rfl (pu' rfl (pu' rfl (jy [6, 7, 8, 9, 10] [8, 9, 10, 11, 12, 13] 10 (.bool ((decide (a0.Kind < (0 : Int))) || (decide (a0.Kind > (3 : Int))))) rfl (fun Kg4 => ?_) (fun j4 => ?_)))))))))
 ·
  rcases Bool.eq_false_or_eq_true (decide (a0.Kind < (0 : Int))) with hb4 | hb4
  ·
   exact sbT hb4 (uw' rfl (uw' rfl (uw' rfl (pu' rfl (Kg4 _ (Ag.put ((Ag.put ((Ag.put ((Ag.put (Ag.base rfl) rfl)) rfl)) rfl)) rfl) (by rw [hb4]; rfl))))))
  ·
   exact sbT hb4 (fa' fa48_0 rfl (ld' B2 Try.underlying3 rfl (pu' rfl (pu' rfl (Kg4 _ (Ag.put ((Ag.put ((Ag.put ((Ag.put (Ag.base rfl) rfl)) rfl)) rfl)) rfl) (by rw [hb4]; rfl))))))
 refine pu' rfl (jy [11, 12, 13, 14, 15, 16] [] 16 (.bool (((decide (a0.Kind < (0 : Int))) || (decide (a0.Kind > (3 : Int)))) || (decide ((a0.T.length : Int) > (40 : Int))))) rfl (fun Kg5 => ?_) (fun j5 => ?_))
 ·
  rcases Bool.eq_false_or_eq_true ((decide (a0.Kind < (0 : Int))) || (decide (a0.Kind > (3 : Int)))) with hb5 | hb5
  ·
   exact sbT hb5 (uw' rfl (uw' rfl (uw' rfl (uw' rfl (pu' rfl (Kg5 _ (Ag.put ((Ag.put ((Ag.put ((Ag.put ((Ag.put (Ag.base rfl) rfl)) rfl)) rfl)) rfl)) rfl) (by rw [hb5]; rfl)))))))
  ·
   refine sbT hb5 (fa' fa48_3 rfl (ld' B2 Try.underlying37 rfl ?_))
   have K6 := (kp0.st p2 rfl)
   have A7 := (A0_1.kp K6)
   exact ln' A7 Try.underlying37 rfl (pu' rfl (pu' rfl (Kg5 _ (Ag.put ((Ag.put ((Ag.put ((Ag.put ((Ag.put (Ag.base rfl) rfl)) rfl)) rfl)) rfl)) rfl) (by rw [hb5]; rfl))))
 refine dn (cd rfl (fun h8 => ?_) (fun h8 => ?_))
 ·
  refine sr (pu' rfl (dn ?_))
  have K9 := (kp0.st p2 rfl)
  exact re rfl Try.func174 rfl (r_t rfl r_nil) rfl ⟨_, rfl, rfl, z.ky K9⟩
 ·
  refine sk (sq (sr (fa' fa48_0 rfl (ld' B2 Try.underlying3 rfl (pu' rfl (pu' rfl (jy [20, 21, 22, 23, 24] [] 24 (.bool ((a0.Kind != (1 : Int)) && (a0.N != (0 : Int)))) rfl (fun Kg10 => ?_) (fun j10 => ?_))))))))
  ·
   rcases Bool.eq_false_or_eq_true (a0.Kind != (1 : Int)) with hb10 | hb10
   ·
    exact sbT hb10 (fa' fa48_1 rfl (ld' B2 Try.underlying3 rfl (pu' rfl (pu' rfl (Kg10 _ (Ag.put ((Ag.put ((Ag.put ((Ag.put (Ag.base rfl) rfl)) rfl)) rfl)) rfl) (by rw [hb10]; rfl))))))
   ·
    exact sbT hb10 (uw' rfl (uw' rfl (uw' rfl (pu' rfl (Kg10 _ (Ag.put ((Ag.put ((Ag.put ((Ag.put (Ag.base rfl) rfl)) rfl)) rfl)) rfl) (by rw [hb10]; rfl))))))
  refine dn (cd rfl (fun h11 => ?_) (fun h11 => ?_))
  ·
   refine sr (pu' rfl (dn ?_))
   have K12 := (kp0.st p2 rfl)
   exact re rfl Try.func174 rfl (r_t rfl r_nil) rfl ⟨_, rfl, rfl, z.ky K12⟩
  ·
   refine sk (sq (sr (fa' fa48_0 rfl (ld' B2 Try.underlying3 rfl (pu' rfl (pu' rfl (ji [] (fun (y13 : Bool) (e : Env) (w : World) => ∃ (s : St) (e0 : Env), w = s.w ∧ e = upd (upd e0 1 (.pointer (some ⟨b2, 0, none⟩))) 33 (.bool y13) ∧ Kp s0 s ∧ BlF s b2 48 [(.int .i64 a0.Kind), (.int .i64 a0.N), w0_0, w0_1] 40) (fun Gj13 Kj13 => ?_) ?_)))))))
   ·
    rcases Bool.eq_false_or_eq_true (a0.Kind != (2 : Int)) with hb13 | hb13
    ·
     refine sbT hb13 ?_
     rw [if_pos hb13]
     refine fa' fa48_2 rfl (ld' B2 Try.underlying36 rfl (cl' rfl Try.func175 rfl (fun r14 m14 => spec_FloatBits.calls a0.F s2.w (fun b => memb [] (s2.g b) = true) w0_0 (fl_rdf (s := s2) A0_0) r14 m14) ?_))
     rintro r14 _ w14 m14 ⟨rfl, ky14⟩
     obtain ⟨s15, rfl, p15, n15⟩ := nwx s2 w14 41 ky14
     refine pu' rfl (pu' rfl ?_)
     have A16 := (BlF.st B2 p15 rfl)
     have K17 := (kp0.st (tr2 p2 p15) rfl)
     exact Kj13 _ _ _ ⟨s15, _, rfl, (ue (ue rfl rfl) rfl), K17, A16⟩
    ·
     refine sbT hb13 ?_
     rw [if_neg (by rw [hb13]; decide)]
     refine uw' rfl (uw' rfl (uw' rfl (uw' rfl (pu' rfl ?_))))
     have K18 := (kp0.st p2 rfl)
     exact Kj13 _ _ _ ⟨s2, _, rfl, (ue (ue rfl rfl) rfl), K18, B2⟩
   rintro y13 _ _ ⟨s19, _, rfl, rfl, Ky13, By13_b2⟩
   refine dn (cd rfl (fun h21 => ?_) (fun h21 => ?_))
   ·
    exact sr (pu' rfl (dn (re rfl Try.func174 rfl (r_t rfl r_nil) rfl ⟨_, rfl, rfl, z.ky Ky13⟩)))
   ·
    refine sk (sr (fa' fa48_0 rfl (ld' By13_b2 Try.underlying3 rfl (pu' rfl (pu' rfl (jy [37, 38, 39, 40, 41, 42] [9] 42 (.bool ((a0.Kind == (3 : Int)) || ((a0.T.length : Int) == (0 : Int)))) rfl (fun Kg22 => ?_) (fun j22 => ?_)))))))
    ·
     rcases Bool.eq_false_or_eq_true (a0.Kind == (3 : Int)) with hb22 | hb22
     ·
      exact sbT hb22 (uw' rfl (uw' rfl (uw' rfl (uw' rfl (pu' rfl (Kg22 _ (Ag.put ((Ag.put ((Ag.put ((Ag.put ((Ag.put (Ag.base rfl) rfl)) rfl)) rfl)) rfl)) rfl) (by rw [hb22]; rfl)))))))
     ·
      refine sbT hb22 (fa' fa48_3 rfl (ld' By13_b2 Try.underlying37 rfl ?_))
      have A23 := (A0_1.kp Ky13)
      exact ln' A23 Try.underlying37 rfl (pu' rfl (pu' rfl (Kg22 _ (Ag.put ((Ag.put ((Ag.put ((Ag.put ((Ag.put (Ag.base rfl) rfl)) rfl)) rfl)) rfl)) rfl) (by rw [hb22]; rfl))))
    exact pu' rfl (dn (re rfl Try.func174 rfl (r_t rfl r_nil) rfl ⟨_, rfl, rfl, z.ky Ky13⟩))
noncomputable def spec_KeyOk.f (a0 : Item) : Option (Bool) :=
 ((spec_ItemOk.f a0).bind fun r6 => ((if (r6 && (a0.Kind != (0 : Int))) = true then ((if (fcmp .f64 a0.F (0 : Nat) == some .eq) = true then ((spec_FloatBits.f a0.F).bind fun r13 => (some (r13 != (0 : Int)))) else (some false)).bind fun y12 => (some (!y12))) else (some false)).bind fun y10 => (some y10)))
def spec_KeyOk.Q (w : World) (F : Nat → Prop) (r : Bool) (v : Value) (w' : World) : Prop :=
 v = (.bool r) ∧ Ky [] w w'
set_option maxHeartbeats 4000000 in
set_option maxRecDepth 100000 in
theorem spec_KeyOk.calls (a0 : Item) (w : World) (F : Nat → Prop) (w0_0 : Value) (w0_1 : Value) (h0_0 : Kd.flt.rd w [w0_0] a0.F F) (h0_1 : (Kd.sl 5 (Kd.int .u8)).rd w [w0_1] a0.T F) (r : Bool) (m : spec_KeyOk.f a0 = some r) :
  Calls Try.prog 120 #[(.agg #[(.int .i64 a0.Kind), (.int .i64 a0.N), w0_0, w0_1])] w (RT (spec_KeyOk.Q w F) r) := by
 obtain ⟨s0, rfl, kp0, z⟩ := start0 w F
 have A0_0 := fl_of h0_0
 have A0_1 := z.rd h0_1
 refine calls_of_TM (args := [(.agg #[(.int .i64 a0.Kind), (.int .i64 a0.N), w0_0, w0_1])]) Try.func120 Try.ntmps120 rfl rfl m ?_
 unfold spec_KeyOk.f
 refine sr (bx' (cs := [(.int .i64 a0.Kind), (.int .i64 a0.N), w0_0, w0_1]) 40 rfl rfl (fun b2 s2 p2 B2 => ?_))
 refine pu' rfl (dn (sr (lda' (es := [(.int .i64 a0.Kind), (.int .i64 a0.N), w0_0, w0_1]) B2 Try.underlying48 z48 rfl ?_)))
 have K4 := (kp0.st p2 rfl)
 have A5 := (A0_1.kp K4)
 refine cl' rfl Try.func174 rfl (fun r6 m6 => spec_ItemOk.calls a0 s2.w (fun b => memb [0] (s2.g b) = true) w0_0 w0_1 ((fl_rdf (s := s2) A0_0).sub (D := [0]) rfl) A5 r6 m6) ?_
 rintro r6 _ w6 m6 ⟨rfl, ky6⟩
 obtain ⟨s7, rfl, p7, n7⟩ := nwx s2 w6 41 ky6
 refine pu' rfl (jy [5, 6, 7, 8, 9] [7, 8, 9, 10, 11, 12, 13, 14, 15, 16, 17, 18, 19] 9 (.bool (r6 && (a0.Kind != (0 : Int)))) rfl (fun Kg8 => ?_) (fun j8 => ?_))
 ·
  rcases Bool.eq_false_or_eq_true r6 with hb8 | hb8
  ·
   refine sbT hb8 (fa' fa48_0 rfl ?_)
   have A9 := (BlF.st B2 p7 rfl)
   exact ld' A9 Try.underlying3 rfl (pu' rfl (pu' rfl (Kg8 _ (Ag.put ((Ag.put ((Ag.put ((Ag.put (Ag.base rfl) rfl)) rfl)) rfl)) rfl) (by rw [hb8]; rfl))))
  ·
   exact sbT hb8 (uw' rfl (uw' rfl (uw' rfl (pu' rfl (Kg8 _ (Ag.put ((Ag.put ((Ag.put ((Ag.put (Ag.base rfl) rfl)) rfl)) rfl)) rfl) (by rw [hb8]; rfl))))))
 refine pu' rfl (ji [19] (fun (y10 : Bool) (e : Env) (w : World) => ∃ (s : St) (e0 : Env), w = s.w ∧ e = upd e0 21 (.bool y10) ∧ Kp s0 s) (fun Gj10 Kj10 => ?_) ?_)
 ·
  rcases Bool.eq_false_or_eq_true (r6 && (a0.Kind != (0 : Int))) with hb10 | hb10
  ·
   refine sbT hb10 ?_
   rw [if_pos hb10]
   refine fa' fa48_2 rfl ?_
   have A11 := (BlF.st B2 p7 rfl)
   refine ld' A11 Try.underlying36 rfl (fq_' A0_0 (fl_c rfl) rfl (pu' rfl (ji [17, 18, 19] (fun (y12 : Bool) (e : Env) (w : World) => ∃ (s : St) (e0 : Env), w = s.w ∧ e = upd (upd e0 10 (.bool true)) 19 (.bool y12) ∧ Kp s0 s) (fun Gj12 Kj12 => ?_) ?_)))
   ·
    rcases Bool.eq_false_or_eq_true (fcmp .f64 a0.F (0 : Nat) == some .eq) with hb12 | hb12
    ·
     refine sbT hb12 ?_
     rw [if_pos hb12]
     refine fa' fa48_2 rfl (ld' A11 Try.underlying36 rfl (cl' rfl Try.func175 rfl (fun r13 m13 => spec_FloatBits.calls a0.F s7.w (fun b => memb [] (s7.g b) = true) w0_0 (fl_rdf (s := s7) A0_0) r13 m13) ?_))
     rintro r13 _ w13 m13 ⟨rfl, ky13⟩
     obtain ⟨s14, rfl, p14, n14⟩ := nwx s7 w13 42 ky13
     refine pu' rfl (pu' rfl ?_)
     have K15 := (K4.st (tr2 p7 p14) rfl)
     exact Kj12 _ _ _ ⟨s14, _, rfl, (ue (ue rfl rfl) rfl), K15⟩
    ·
     refine sbT hb12 ?_
     rw [if_neg (by rw [hb12]; decide)]
     refine uw' rfl (uw' rfl (uw' rfl (uw' rfl (pu' rfl ?_))))
     have K16 := (K4.st p7 rfl)
     exact Kj12 _ _ _ ⟨s7, _, rfl, (ue (ue rfl rfl) rfl), K16⟩
   rintro y12 _ _ ⟨s17, _, rfl, rfl, Ky12⟩
   exact pu' rfl (pu' rfl (Kj10 _ _ _ ⟨s17, _, rfl, (ue rfl rfl), Ky12⟩))
  ·
   refine sbT hb10 ?_
   rw [if_neg (by rw [hb10]; decide)]
   refine uw' rfl (uw' rfl (uw' rfl (uw' rfl (uw' rfl (uw' rfl (uw' rfl (uw' rfl (uw' rfl (uw' rfl (pu' rfl ?_))))))))))
   have K18 := (K4.st p7 rfl)
   exact Kj10 _ _ _ ⟨s7, _, rfl, (ue rfl rfl), K18⟩
 rintro y10 _ _ ⟨s19, _, rfl, rfl, Ky10⟩
 exact pu' rfl (dn (re rfl Try.func120 rfl (r_t rfl r_nil) rfl ⟨_, rfl, rfl, z.ky Ky10⟩))
noncomputable def spec_FloatRank.f (a0 : Nat) : Option (Int) :=
 ((spec_FloatBits.f a0).bind fun r1 => (if (r1 == (9221120237041090560 : Int)) = true then (some (18446744073709551615 : Int)) else (if (fcmp .f64 a0 (0 : Nat) == some .eq) = true then (some (9223372036854775808 : Int)) else (if ((ishr .u64 r1 (63 : Int)) == (1 : Int)) = true then (some (ixor .u64 (IntKind.max .u64) r1)) else (some (ior .u64 r1 (9223372036854775808 : Int)))))))
def spec_FloatRank.Q (w : World) (F : Nat → Prop) (r : Int) (v : Value) (w' : World) : Prop :=
 v = (.int .u64 r) ∧ Ky [] w w'
set_option maxHeartbeats 4000000 in
set_option maxRecDepth 100000 in
theorem spec_FloatRank.calls (a0 : Nat) (w : World) (F : Nat → Prop) (w0_0 : Value) (h0_0 : Kd.flt.rd w [w0_0] a0 F) (r : Int) (m : spec_FloatRank.f a0 = some r) :
  Calls Try.prog 213 #[w0_0] w (RT (spec_FloatRank.Q w F) r) := by
 obtain ⟨s0, rfl, kp0, z⟩ := start0 w F
 have A0_0 := fl_of h0_0
 refine calls_of_TM (args := [w0_0]) Try.func213 Try.ntmps213 rfl rfl m ?_
 unfold spec_FloatRank.f
 refine sr (pu' rfl (dn (sr (mv' w0_0 rfl (cl' rfl Try.func175 rfl (fun r1 m1 => spec_FloatBits.calls a0 s0.w (fun b => memb [] (s0.g b) = true) w0_0 (fl_rdf (s := s0) A0_0) r1 m1) ?_)))))
 rintro r1 _ w1 m1 ⟨rfl, ky1⟩
 obtain ⟨s2, rfl, p2, n2⟩ := nwx s0 w1 40 ky1
 refine pu' rfl (dn (sq (sr (pu' rfl (pu' rfl (dn (cd rfl (fun h3 => ?_) (fun h3 => ?_))))))))
 ·
  refine sr (pu' rfl (dn ?_))
  have K4 := (kp0.st p2 rfl)
  exact re rfl Try.func213 rfl (r_t rfl r_nil) rfl ⟨_, rfl, rfl, z.ky K4⟩
 ·
  refine sk (sq (sr (mv' w0_0 rfl (fq_' A0_0 (fl_c rfl) rfl (dn (cd rfl (fun h5 => ?_) (fun h5 => ?_)))))))
  ·
   refine sr (pu' rfl (dn ?_))
   have K6 := (kp0.st p2 rfl)
   exact re rfl Try.func213 rfl (r_t rfl r_nil) rfl ⟨_, rfl, rfl, z.ky K6⟩
  ·
   refine sk (sq (sr (pu' rfl (shrK rfl rfl rfl rfl rfl rfl rfl rfl (pu' rfl (dn (cd rfl (fun h7 => ?_) (fun h7 => ?_))))))))
   ·
    refine sr (pu' rfl (pu' rfl (pu' rfl (dn ?_))))
    have K8 := (kp0.st p2 rfl)
    exact re rfl Try.func213 rfl (r_t rfl r_nil) rfl ⟨_, rfl, rfl, z.ky K8⟩
   ·
    refine sk (sr (pu' rfl (pu' rfl (pu' rfl (dn ?_)))))
    have K9 := (kp0.st p2 rfl)
    exact re rfl Try.func213 rfl (r_t rfl r_nil) rfl ⟨_, rfl, rfl, z.ky K9⟩
noncomputable def spec_FloatCompare.f (a0 : Nat) (a1 : Nat) : Option (Int) :=
 ((spec_FloatRank.f a0).bind fun r1 => ((spec_FloatRank.f a1).bind fun r3 => (if (decide (r1 < r3)) = true then (some (-1 : Int)) else (if (decide (r1 > r3)) = true then (some (1 : Int)) else (some (0 : Int))))))
def spec_FloatCompare.Q (w : World) (F : Nat → Prop) (r : Int) (v : Value) (w' : World) : Prop :=
 v = (.int .i64 r) ∧ Ky [] w w'
set_option maxHeartbeats 4000000 in
set_option maxRecDepth 100000 in
theorem spec_FloatCompare.calls (a0 : Nat) (a1 : Nat) (w : World) (F : Nat → Prop) (w0_0 : Value) (w1_0 : Value) (h0_0 : Kd.flt.rd w [w0_0] a0 F) (h1_0 : Kd.flt.rd w [w1_0] a1 F) (r : Int) (m : spec_FloatCompare.f a0 a1 = some r) :
  Calls Try.prog 187 #[w0_0, w1_0] w (RT (spec_FloatCompare.Q w F) r) := by
 obtain ⟨s0, rfl, kp0, z⟩ := start0 w F
 have A0_0 := fl_of h0_0
 have A1_0 := fl_of h1_0
 refine calls_of_TM (args := [w0_0, w1_0]) Try.func187 Try.ntmps187 rfl rfl m ?_
 unfold spec_FloatCompare.f
 refine sr (pu' rfl (dn (sr (mv' w0_0 rfl (cl' rfl Try.func213 rfl (fun r1 m1 => spec_FloatRank.calls a0 s0.w (fun b => memb [] (s0.g b) = true) w0_0 (fl_rdf (s := s0) A0_0) r1 m1) ?_)))))
 rintro r1 _ w1 m1 ⟨rfl, ky1⟩
 obtain ⟨s2, rfl, p2, n2⟩ := nwx s0 w1 40 ky1
 refine pu' rfl (dn (sr (mv' w1_0 rfl (cl' rfl Try.func213 rfl (fun r3 m3 => spec_FloatRank.calls a1 s2.w (fun b => memb [] (s2.g b) = true) w1_0 (fl_rdf (s := s2) A1_0) r3 m3) ?_))))
 rintro r3 _ w3 m3 ⟨rfl, ky3⟩
 obtain ⟨s4, rfl, p4, n4⟩ := nwx s2 w3 41 ky3
 refine pu' rfl (dn (sq (sr (pu' rfl (pu' rfl (pu' rfl (dn (cd rfl (fun h5 => ?_) (fun h5 => ?_)))))))))
 ·
  refine sr (pu' rfl (dn ?_))
  have K6 := (kp0.st (tr2 p2 p4) rfl)
  exact re rfl Try.func187 rfl (r_t rfl r_nil) rfl ⟨_, rfl, rfl, z.ky K6⟩
 ·
  refine sk (sq (sr (pu' rfl (pu' rfl (pu' rfl (dn (cd rfl (fun h7 => ?_) (fun h7 => ?_))))))))
  ·
   refine sr (pu' rfl (dn ?_))
   have K8 := (kp0.st (tr2 p2 p4) rfl)
   exact re rfl Try.func187 rfl (r_t rfl r_nil) rfl ⟨_, rfl, rfl, z.ky K8⟩
  ·
   refine sk (sr (pu' rfl (dn ?_)))
   have K9 := (kp0.st (tr2 p2 p4) rfl)
   exact re rfl Try.func187 rfl (r_t rfl r_nil) rfl ⟨_, rfl, rfl, z.ky K9⟩
noncomputable def spec_l3texts.b0 (a0 : (List Int)) (a1 : (List Int)) (x3 : Int) : Option (Int ⊕ Int) :=
 (if ((decide (x3 < (a0.length : Int))) && (decide (x3 < (a1.length : Int)))) = true then (if 0 ≤ x3 ∧ x3 < (a0.length : Int) then (if 0 ≤ x3 ∧ x3 < (a1.length : Int) then (if (decide ((at_ a0 x3) < (at_ a1 x3))) = true then (some (Sum.inr (-1 : Int))) else (if 0 ≤ x3 ∧ x3 < (a0.length : Int) then (if 0 ≤ x3 ∧ x3 < (a1.length : Int) then (if (decide ((at_ a0 x3) > (at_ a1 x3))) = true then (some (Sum.inr (1 : Int))) else (some (Sum.inl (IntKind.wrap .i64 (x3 + (1 : Int)))))) else none) else none)) else none) else none) else ((if (decide ((a0.length : Int) < (a1.length : Int))) = true then (some (-1 : Int)) else (if (decide ((a0.length : Int) > (a1.length : Int))) = true then (some (1 : Int)) else (some (0 : Int)))).bind fun o => some (Sum.inr o)))
noncomputable def spec_l3texts.f (a0 : (List Int)) (a1 : (List Int)) : Option (Int) :=
 (iter (spec_l3texts.b0 a0 a1) (0 : Int))
def spec_l3texts.Q (w : World) (F : Nat → Prop) (r : Int) (v : Value) (w' : World) : Prop :=
 v = (.int .i64 r) ∧ Ky [] w w'
set_option maxHeartbeats 4000000 in
set_option maxRecDepth 100000 in
theorem spec_l3texts.calls (a0 : (List Int)) (a1 : (List Int)) (w : World) (F : Nat → Prop) (w0_0 : Value) (w1_0 : Value) (h0_0 : (Kd.sl 5 (Kd.int .u8)).rd w [w0_0] a0 F) (h1_0 : (Kd.sl 5 (Kd.int .u8)).rd w [w1_0] a1 F) (r : Int) (m : spec_l3texts.f a0 a1 = some r) :
  Calls Try.prog 188 #[w0_0, w1_0] w (RT (spec_l3texts.Q w F) r) := by
 obtain ⟨s0, rfl, kp0, z⟩ := start0 w F
 have A0_0 := z.rd h0_0
 have A1_0 := z.rd h1_0
 refine calls_of_TM (args := [w0_0, w1_0]) Try.func188 Try.ntmps188 rfl rfl m ?_
 unfold spec_l3texts.f
 refine sr (pu' rfl (dn (sq (sr (pu' rfl (dn (bl (lpI (fun (x3 : Int) (e : Env) (w : World) => ∃ (s : St) (e0 : Env), w = s.w ∧ e = upd (upd (upd e0 0 w0_0) 1 w1_0) 5 (.int .i64 x3) ∧ Kp s0 s) ⟨s0, _, rfl, (ue (ue (ue rfl rfl) rfl) rfl), kp0⟩ (fun g3 ih3 => ?_)))))))))
 rintro x3 _ _ ⟨s4, _, rfl, rfl, Kx3⟩
 unfold spec_l3texts.b0
 refine sq (sr (pu' rfl (mv' w0_0 rfl ?_)))
 have A5 := (A0_0.kp Kx3)
 refine ln' A5 Try.underlying37 rfl (pu' rfl (pu' rfl (jy [10, 11, 12, 13, 14, 15] [] 15 (.bool ((decide (x3 < (a0.length : Int))) && (decide (x3 < (a1.length : Int))))) rfl (fun Kg6 => ?_) (fun j6 => ?_))))
 ·
  rcases Bool.eq_false_or_eq_true (decide (x3 < (a0.length : Int))) with hb6 | hb6
  ·
   refine sbT hb6 (pu' rfl (mv' w1_0 rfl ?_))
   have A7 := (A1_0.kp Kx3)
   exact ln' A7 Try.underlying37 rfl (pu' rfl (pu' rfl (Kg6 _ (Ag.put ((Ag.put ((Ag.put ((Ag.put ((Ag.put (Ag.base rfl) rfl)) rfl)) rfl)) rfl)) rfl) (by rw [hb6]; rfl))))
  ·
   exact sbT hb6 (uw' rfl (uw' rfl (uw' rfl (uw' rfl (pu' rfl (Kg6 _ (Ag.put ((Ag.put ((Ag.put ((Ag.put ((Ag.put (Ag.base rfl) rfl)) rfl)) rfl)) rfl)) rfl) (by rw [hb6]; rfl)))))))
 refine dn (cd rfl (fun h8 => ?_) (fun h8 => ?_))
 ·
  refine sk (sq (bl (sq (sq (zdraw [[], [], [0, 1], [2], [], [], [4, 5], [6], [3, 7]] [some 18, some 19, some 20, some 21, some 22, some 23, some 24, some 25, some 26] [[0], [5], [18, 19], [20], [1], [5], [22, 23], [24], [21, 25]] [0, 1, 2, 3, 4, 5, 6, 7, 8] ⟨by kernel_rfl, by kernel_rfl, by kernel_rfl⟩ (by kernel_rfl) (fun s9 p9 l9 tb9 zd9 => ?_))))))
  have zd10 := zd9.add 0 18 w0_0 rfl
  have zd11 := zd10.add 1 19 (.int .i64 x3) rfl
  have K12 := (Kx3.st p9 rfl)
  have A13 := (A0_0.kp K12)
  refine mg fun hg14 => ?_
  obtain ⟨ad14, es14, he14, ce14, ia14⟩ := ix_e A13 rfl hg14.1 hg14.2
  have h0_14 := hg14.1
  have h1_14 := hg14.2
  obtain rfl := he14
  have zd16 := zd11.add 2 20 (.pointer (some ad14)) rfl
  have zd17 := zd16.add 3 21 (.int .u8 (at_ a0 x3)) rfl
  have zd18 := zd17.add 4 22 w1_0 rfl
  have zd19 := zd18.add 5 23 (.int .i64 x3) rfl
  have A20 := (A1_0.kp K12)
  refine mg fun hg21 => ?_
  obtain ⟨ad21, es21, he21, ce21, ia21⟩ := ix_e A20 rfl hg21.1 hg21.2
  have h0_21 := hg21.1
  have h1_21 := hg21.2
  obtain rfl := he21
  have zd23 := zd19.add 6 24 (.pointer (some ad21)) rfl
  have zd24 := zd23.add 7 25 (.int .u8 (at_ a1 x3)) rfl
  refine zfin [8] tb9 zd24 (pq_cons (lc0_q ce21 Try.underlying5 rfl rfl rfl rfl rfl rfl rfl rfl) rfl (pq_cons (ix_q A20 Try.underlying37 z5 hg21.1 hg21.2 ia21 rfl rfl rfl rfl rfl rfl rfl) rfl (pq_cons (pu_q' rfl) rfl (pq_cons (mv_q' w1_0 rfl) rfl (pq_cons (lc0_q ce14 Try.underlying5 rfl rfl rfl rfl rfl rfl rfl rfl) rfl (pq_cons (ix_q A13 Try.underlying37 z5 hg14.1 hg14.2 ia14 rfl rfl rfl rfl rfl rfl rfl) rfl (pq_cons (pu_q' rfl) rfl (pq_cons (mv_q' w0_0 rfl) rfl pq_nil)))))))) (by kernel_rfl) (by decide) (pu' rfl (dn (cd rfl (fun h25 => ?_) (fun h25 => ?_))))
  ·
   exact sr (pu' rfl (dn (sgi (re rfl Try.func188 rfl (r_t rfl r_nil) rfl ⟨_, rfl, rfl, z.ky K12⟩))))
  ·
   refine sk (sq (zdraw [[], [], [0, 1], [2], [], [], [4, 5], [6], [3, 7]] [some 27, some 28, some 29, some 30, some 31, some 32, some 33, some 34, some 35] [[0], [5], [27, 28], [29], [1], [5], [31, 32], [33], [30, 34]] [0, 1, 2, 3, 4, 5, 6, 7, 8] ⟨by kernel_rfl, by kernel_rfl, by kernel_rfl⟩ (by kernel_rfl) (fun s26 p26 l26 tb26 zd26 => ?_)))
   have zd27 := zd26.add 0 27 w0_0 rfl
   have zd28 := zd27.add 1 28 (.int .i64 x3) rfl
   have K29 := (K12.st p26 rfl)
   have A30 := (A0_0.kp K29)
   refine mg fun hg31 => ?_
   obtain ⟨ad31, es31, he31, ce31, ia31⟩ := ix_e A30 rfl hg31.1 hg31.2
   have h0_31 := hg31.1
   have h1_31 := hg31.2
   obtain rfl := he31
   have zd33 := zd28.add 2 29 (.pointer (some ad31)) rfl
   have zd34 := zd33.add 3 30 (.int .u8 (at_ a0 x3)) rfl
   have zd35 := zd34.add 4 31 w1_0 rfl
   have zd36 := zd35.add 5 32 (.int .i64 x3) rfl
   have A37 := (A1_0.kp K29)
   refine mg fun hg38 => ?_
   obtain ⟨ad38, es38, he38, ce38, ia38⟩ := ix_e A37 rfl hg38.1 hg38.2
   have h0_38 := hg38.1
   have h1_38 := hg38.2
   obtain rfl := he38
   have zd40 := zd36.add 6 33 (.pointer (some ad38)) rfl
   have zd41 := zd40.add 7 34 (.int .u8 (at_ a1 x3)) rfl
   refine zfin [8] tb26 zd41 (pq_cons (lc0_q ce38 Try.underlying5 rfl rfl rfl rfl rfl rfl rfl rfl) rfl (pq_cons (ix_q A37 Try.underlying37 z5 hg38.1 hg38.2 ia38 rfl rfl rfl rfl rfl rfl rfl) rfl (pq_cons (pu_q' rfl) rfl (pq_cons (mv_q' w1_0 rfl) rfl (pq_cons (lc0_q ce31 Try.underlying5 rfl rfl rfl rfl rfl rfl rfl rfl) rfl (pq_cons (ix_q A30 Try.underlying37 z5 hg31.1 hg31.2 ia31 rfl rfl rfl rfl rfl rfl rfl) rfl (pq_cons (pu_q' rfl) rfl (pq_cons (mv_q' w0_0 rfl) rfl pq_nil)))))))) (by kernel_rfl) (by decide) (pu' rfl (dn (cd rfl (fun h42 => ?_) (fun h42 => ?_))))
   ·
    exact sr (pu' rfl (dn (sgi (re rfl Try.func188 rfl (r_t rfl r_nil) rfl ⟨_, rfl, rfl, z.ky K29⟩))))
   ·
    exact sk (ib (rg (pu' rfl (pu' rfl (pu' rfl (dn (lb ih3 ⟨s26, _, rfl, (ue (ue (ue rfl rfl) rfl) rfl), K29⟩)))))))
 ·
  refine xt rfl (sgb (sq (sr (mv' w0_0 rfl (ln' A5 Try.underlying37 rfl (mv' w1_0 rfl ?_))))))
  have A43 := (A1_0.kp Kx3)
  refine ln' A43 Try.underlying37 rfl (pu' rfl (dn (cd rfl (fun h44 => ?_) (fun h44 => ?_))))
  ·
   exact sr (pu' rfl (dn (re rfl Try.func188 rfl (r_t rfl r_nil) rfl ⟨_, rfl, rfl, z.ky Kx3⟩)))
  ·
   refine sk (sq (sr (mv' w0_0 rfl (ln' A5 Try.underlying37 rfl (mv' w1_0 rfl (ln' A43 Try.underlying37 rfl (pu' rfl (dn (cd rfl (fun h45 => ?_) (fun h45 => ?_))))))))))
   ·
    exact sr (pu' rfl (dn (re rfl Try.func188 rfl (r_t rfl r_nil) rfl ⟨_, rfl, rfl, z.ky Kx3⟩)))
   ·
    exact sk (sr (pu' rfl (dn (re rfl Try.func188 rfl (r_t rfl r_nil) rfl ⟨_, rfl, rfl, z.ky Kx3⟩))))
noncomputable def spec_ItemCompare.f (a0 : Item) (a1 : Item) : Option (Int) :=
 ((spec_ItemOk.f a0).bind fun r10 => ((if (!r10) = true then (some true) else ((spec_ItemOk.f a1).bind fun r19 => (some (!r19)))).bind fun y12 => (if y12 = true then (some (-2 : Int)) else (if (a0.Kind != a1.Kind) = true then (if (decide (a0.Kind < a1.Kind)) = true then (some (-1 : Int)) else (some (1 : Int))) else (if (a0.N != a1.N) = true then (if (decide (a0.N < a1.N)) = true then (some (-1 : Int)) else (some (1 : Int))) else ((spec_FloatCompare.f a0.F a1.F).bind fun r32 => (if (r32 != (0 : Int)) = true then (some r32) else ((spec_l3texts.f a0.T a1.T).bind fun r41 => (some r41)))))))))
def spec_ItemCompare.Q (w : World) (F : Nat → Prop) (r : Int) (v : Value) (w' : World) : Prop :=
 v = (.int .i64 r) ∧ Ky [] w w'
set_option maxHeartbeats 4000000 in
set_option maxRecDepth 100000 in
theorem spec_ItemCompare.calls (a0 : Item) (a1 : Item) (w : World) (F : Nat → Prop) (w0_0 : Value) (w0_1 : Value) (w1_0 : Value) (w1_1 : Value) (h0_0 : Kd.flt.rd w [w0_0] a0.F F) (h0_1 : (Kd.sl 5 (Kd.int .u8)).rd w [w0_1] a0.T F) (h1_0 : Kd.flt.rd w [w1_0] a1.F F) (h1_1 : (Kd.sl 5 (Kd.int .u8)).rd w [w1_1] a1.T F) (r : Int) (m : spec_ItemCompare.f a0 a1 = some r) :
  Calls Try.prog 137 #[(.agg #[(.int .i64 a0.Kind), (.int .i64 a0.N), w0_0, w0_1]), (.agg #[(.int .i64 a1.Kind), (.int .i64 a1.N), w1_0, w1_1])] w (RT (spec_ItemCompare.Q w F) r) := by
 obtain ⟨s0, rfl, kp0, z⟩ := start0 w F
 have A0_0 := fl_of h0_0
 have A0_1 := z.rd h0_1
 have A1_0 := fl_of h1_0
 have A1_1 := z.rd h1_1
 refine calls_of_TM (args := [(.agg #[(.int .i64 a0.Kind), (.int .i64 a0.N), w0_0, w0_1]), (.agg #[(.int .i64 a1.Kind), (.int .i64 a1.N), w1_0, w1_1])]) Try.func137 Try.ntmps137 rfl rfl m ?_
 unfold spec_ItemCompare.f
 refine sr (bx' (cs := [(.int .i64 a0.Kind), (.int .i64 a0.N), w0_0, w0_1]) 40 rfl rfl (fun b3 s3 p3 B3 => ?_))
 refine bx' (cs := [(.int .i64 a1.Kind), (.int .i64 a1.N), w1_0, w1_1]) 41 rfl rfl (fun b5 s5 p5 B5 => ?_)
 refine pu' rfl (dn (sq (sr ?_)))
 have A7 := (BlF.st B3 p5 rfl)
 refine lda' (es := [(.int .i64 a0.Kind), (.int .i64 a0.N), w0_0, w0_1]) A7 Try.underlying48 z48 rfl ?_
 have K8 := (kp0.st (tr2 p3 p5) rfl)
 have A9 := (A0_1.kp K8)
 refine cl' rfl Try.func174 rfl (fun r10 m10 => spec_ItemOk.calls a0 s5.w (fun b => memb [0] (s5.g b) = true) w0_0 w0_1 ((fl_rdf (s := s5) A0_0).sub (D := [0]) rfl) A9 r10 m10) ?_
 rintro r10 _ w10 m10 ⟨rfl, ky10⟩
 obtain ⟨s11, rfl, p11, n11⟩ := nwx s5 w10 42 ky10
 refine pu' rfl (pu' rfl (ji [] (fun (y12 : Bool) (e : Env) (w : World) => ∃ (s : St) (e0 : Env), w = s.w ∧ e = upd (upd (upd e0 2 (.pointer (some ⟨b3, 0, none⟩))) 3 (.pointer (some ⟨b5, 0, none⟩))) 13 (.bool y12) ∧ Kp s0 s ∧ BlF s b5 48 [(.int .i64 a1.Kind), (.int .i64 a1.N), w1_0, w1_1] 41 ∧ BlF s b3 48 [(.int .i64 a0.Kind), (.int .i64 a0.N), w0_0, w0_1] 40) (fun Gj12 Kj12 => ?_) ?_))
 ·
  rcases Bool.eq_false_or_eq_true (!r10) with hb12 | hb12
  ·
   refine sbT hb12 ?_
   rw [if_pos hb12]
   refine uw' rfl (uw' rfl (uw' rfl (pu' rfl ?_)))
   have A13 := (BlF.st B5 p11 rfl)
   have A14 := (BlF.st A7 p11 rfl)
   have K15 := (K8.st p11 rfl)
   exact Kj12 _ _ _ ⟨s11, _, rfl, (ue (ue (ue rfl rfl) rfl) rfl), K15, A13, A14⟩
  ·
   refine sbT hb12 ?_
   rw [if_neg (by rw [hb12]; decide)]
   have A16 := (BlF.st B5 p11 rfl)
   refine lda' (es := [(.int .i64 a1.Kind), (.int .i64 a1.N), w1_0, w1_1]) A16 Try.underlying48 z48 rfl ?_
   have K17 := (K8.st p11 rfl)
   have A18 := (A1_1.kp K17)
   refine cl' rfl Try.func174 rfl (fun r19 m19 => spec_ItemOk.calls a1 s11.w (fun b => memb [0] (s11.g b) = true) w1_0 w1_1 ((fl_rdf (s := s11) A1_0).sub (D := [0]) rfl) A18 r19 m19) ?_
   rintro r19 _ w19 m19 ⟨rfl, ky19⟩
   obtain ⟨s20, rfl, p20, n20⟩ := nwx s11 w19 43 ky19
   refine pu' rfl (pu' rfl ?_)
   have A21 := (BlF.st A16 p20 rfl)
   have A22 := (BlF.st A7 (tr2 p11 p20) rfl)
   have K23 := (K17.st p20 rfl)
   exact Kj12 _ _ _ ⟨s20, _, rfl, (ue (ue (ue rfl rfl) rfl) rfl), K23, A21, A22⟩
 rintro y12 _ _ ⟨s24, _, rfl, rfl, Ky12, By12_b5, By12_b3⟩
 refine dn (cd rfl (fun h27 => ?_) (fun h27 => ?_))
 ·
  exact sr (pu' rfl (dn (re rfl Try.func137 rfl (r_t rfl r_nil) rfl ⟨_, rfl, rfl, z.ky Ky12⟩)))
 ·
  refine sk (sq (sr (fa' fa48_0 rfl (ld' By12_b3 Try.underlying3 rfl (fa' fa48_0 rfl (ld' By12_b5 Try.underlying3 rfl (pu' rfl (dn (cd rfl (fun h28 => ?_) (fun h28 => ?_))))))))))
  ·
   refine sq (sr (fa' fa48_0 rfl (ld' By12_b3 Try.underlying3 rfl (fa' fa48_0 rfl (ld' By12_b5 Try.underlying3 rfl (pu' rfl (dn (cd rfl (fun h29 => ?_) (fun h29 => ?_)))))))))
   ·
    exact sr (pu' rfl (dn (re rfl Try.func137 rfl (r_t rfl r_nil) rfl ⟨_, rfl, rfl, z.ky Ky12⟩)))
   ·
    exact sk (sr (pu' rfl (dn (re rfl Try.func137 rfl (r_t rfl r_nil) rfl ⟨_, rfl, rfl, z.ky Ky12⟩))))
  ·
   refine sk (sq (sr (fa' fa48_1 rfl (ld' By12_b3 Try.underlying3 rfl (fa' fa48_1 rfl (ld' By12_b5 Try.underlying3 rfl (pu' rfl (dn (cd rfl (fun h30 => ?_) (fun h30 => ?_))))))))))
   ·
    refine sq (sr (fa' fa48_1 rfl (ld' By12_b3 Try.underlying3 rfl (fa' fa48_1 rfl (ld' By12_b5 Try.underlying3 rfl (pu' rfl (dn (cd rfl (fun h31 => ?_) (fun h31 => ?_)))))))))
    ·
     exact sr (pu' rfl (dn (re rfl Try.func137 rfl (r_t rfl r_nil) rfl ⟨_, rfl, rfl, z.ky Ky12⟩)))
    ·
     exact sk (sr (pu' rfl (dn (re rfl Try.func137 rfl (r_t rfl r_nil) rfl ⟨_, rfl, rfl, z.ky Ky12⟩))))
   ·
    refine sk (sr (fa' fa48_2 rfl (ld' By12_b3 Try.underlying36 rfl (fa' fa48_2 rfl (ld' By12_b5 Try.underlying36 rfl (cl' rfl Try.func187 rfl (fun r32 m32 => spec_FloatCompare.calls a0.F a1.F s24.w (fun b => memb [] (s24.g b) = true) w0_0 w1_0 (fl_rdf (s := s24) A0_0) (fl_rdf (s := s24) A1_0) r32 m32) ?_))))))
    rintro r32 _ w32 m32 ⟨rfl, ky32⟩
    obtain ⟨s33, rfl, p33, n33⟩ := nwx s24 w32 44 ky32
    refine pu' rfl (dn (sq (sr (pu' rfl (pu' rfl (dn (cd rfl (fun h34 => ?_) (fun h34 => ?_))))))))
    ·
     refine sr (pu' rfl (pu' rfl (dn ?_)))
     have K35 := (Ky12.st p33 rfl)
     exact re rfl Try.func137 rfl (r_t rfl r_nil) rfl ⟨_, rfl, rfl, z.ky K35⟩
    ·
     refine sk (sr (fa' fa48_3 rfl ?_))
     have A36 := (BlF.st By12_b3 p33 rfl)
     refine ld' A36 Try.underlying37 rfl (fa' fa48_3 rfl ?_)
     have A37 := (BlF.st By12_b5 p33 rfl)
     refine ld' A37 Try.underlying37 rfl ?_
     have K38 := (Ky12.st p33 rfl)
     have A39 := (A0_1.kp K38)
     have A40 := (A1_1.kp K38)
     refine cl' rfl Try.func188 rfl (fun r41 m41 => spec_l3texts.calls a0.T a1.T s33.w (fun b => memb [0] (s33.g b) = true) w0_1 w1_1 A39 A40 r41 m41) ?_
     rintro r41 _ w41 m41 ⟨rfl, ky41⟩
     obtain ⟨s42, rfl, p42, n42⟩ := nwx s33 w41 45 ky41
     refine pu' rfl (dn ?_)
     have K43 := (K38.st p42 rfl)
     exact re rfl Try.func137 rfl (r_t rfl r_nil) rfl ⟨_, rfl, rfl, z.ky K43⟩
noncomputable def spec_SpanOk.f (a0 : Span) : Option (Bool) :=
 ((spec_KeyOk.f a0.From).bind fun r7 => ((if r7 = true then ((spec_KeyOk.f a0.To).bind fun r13 => (some r13)) else (some false)).bind fun y9 => ((if y9 = true then ((spec_ItemCompare.f a0.From a0.To).bind fun r24 => (some (decide (r24 ≤ (0 : Int))))) else (some false)).bind fun y21 => (some y21))))
def spec_SpanOk.Q (w : World) (F : Nat → Prop) (r : Bool) (v : Value) (w' : World) : Prop :=
 v = (.bool r) ∧ Ky [] w w'
set_option maxHeartbeats 4000000 in
set_option maxRecDepth 100000 in
theorem spec_SpanOk.calls (a0 : Span) (w : World) (F : Nat → Prop) (w0_0 : Value) (w0_1 : Value) (w0_2 : Value) (w0_3 : Value) (h0_0 : Kd.flt.rd w [w0_0] a0.From.F F) (h0_1 : (Kd.sl 5 (Kd.int .u8)).rd w [w0_1] a0.From.T F) (h0_2 : Kd.flt.rd w [w0_2] a0.To.F F) (h0_3 : (Kd.sl 5 (Kd.int .u8)).rd w [w0_3] a0.To.T F) (r : Bool) (m : spec_SpanOk.f a0 = some r) :
  Calls Try.prog 107 #[(.agg #[(.int .i64 a0.From.Kind), (.int .i64 a0.From.N), w0_0, w0_1, (.int .i64 a0.To.Kind), (.int .i64 a0.To.N), w0_2, w0_3])] w (RT (spec_SpanOk.Q w F) r) := by
 obtain ⟨s0, rfl, kp0, z⟩ := start0 w F
 have A0_0 := fl_of h0_0
 have A0_1 := z.rd h0_1
 have A0_2 := fl_of h0_2
 have A0_3 := z.rd h0_3
 refine calls_of_TM (args := [(.agg #[(.int .i64 a0.From.Kind), (.int .i64 a0.From.N), w0_0, w0_1, (.int .i64 a0.To.Kind), (.int .i64 a0.To.N), w0_2, w0_3])]) Try.func107 Try.ntmps107 rfl rfl m ?_
 unfold spec_SpanOk.f
 refine sr (bx' (cs := [(.int .i64 a0.From.Kind), (.int .i64 a0.From.N), w0_0, w0_1, (.int .i64 a0.To.Kind), (.int .i64 a0.To.N), w0_2, w0_3]) 40 rfl rfl (fun b3 s3 p3 B3 => ?_))
 refine pu' rfl (dn (sr (fa' fa80_0 rfl (lda' (es := [(.int .i64 a0.From.Kind), (.int .i64 a0.From.N), w0_0, w0_1]) B3 Try.underlying48 z48 rfl ?_))))
 have K5 := (kp0.st p3 rfl)
 have A6 := (A0_1.kp K5)
 refine cl' rfl Try.func120 rfl (fun r7 m7 => spec_KeyOk.calls a0.From s3.w (fun b => memb [0] (s3.g b) = true) w0_0 w0_1 ((fl_rdf (s := s3) A0_0).sub (D := [0]) rfl) A6 r7 m7) ?_
 rintro r7 _ w7 m7 ⟨rfl, ky7⟩
 obtain ⟨s8, rfl, p8, n8⟩ := nwx s3 w7 41 ky7
 refine pu' rfl (ji [8, 9, 10, 11, 12, 13, 14, 15, 16] (fun (y9 : Bool) (e : Env) (w : World) => ∃ (s : St) (e0 : Env), w = s.w ∧ e = upd (upd e0 1 (.pointer (some ⟨b3, 0, none⟩))) 10 (.bool y9) ∧ Kp s0 s ∧ BlF s b3 80 [(.int .i64 a0.From.Kind), (.int .i64 a0.From.N), w0_0, w0_1, (.int .i64 a0.To.Kind), (.int .i64 a0.To.N), w0_2, w0_3] 40) (fun Gj9 Kj9 => ?_) ?_)
 ·
  rcases Bool.eq_false_or_eq_true r7 with hb9 | hb9
  ·
   refine sbT hb9 ?_
   rw [if_pos hb9]
   refine fa' fa80_1 rfl ?_
   have A10 := (BlF.st B3 p8 rfl)
   refine lda' (es := [(.int .i64 a0.To.Kind), (.int .i64 a0.To.N), w0_2, w0_3]) A10 Try.underlying48 z48 rfl ?_
   have K11 := (K5.st p8 rfl)
   have A12 := (A0_3.kp K11)
   refine cl' rfl Try.func120 rfl (fun r13 m13 => spec_KeyOk.calls a0.To s8.w (fun b => memb [0] (s8.g b) = true) w0_2 w0_3 ((fl_rdf (s := s8) A0_2).sub (D := [0]) rfl) A12 r13 m13) ?_
   rintro r13 _ w13 m13 ⟨rfl, ky13⟩
   obtain ⟨s14, rfl, p14, n14⟩ := nwx s8 w13 42 ky13
   refine pu' rfl ?_
   have A15 := (BlF.st A10 p14 rfl)
   have K16 := (K11.st p14 rfl)
   exact Kj9 _ _ _ ⟨s14, _, rfl, (ue (ue rfl rfl) rfl), K16, A15⟩
  ·
   refine sbT hb9 ?_
   rw [if_neg (by rw [hb9]; decide)]
   refine uw' rfl (uw' rfl (uw' rfl (pu' rfl ?_)))
   have A17 := (BlF.st B3 p8 rfl)
   have K18 := (K5.st p8 rfl)
   exact Kj9 _ _ _ ⟨s8, _, rfl, (ue (ue rfl rfl) rfl), K18, A17⟩
 rintro y9 _ _ ⟨s19, _, rfl, rfl, Ky9, By9_b3⟩
 refine pu' rfl (ji [16] (fun (y21 : Bool) (e : Env) (w : World) => ∃ (s : St) (e0 : Env), w = s.w ∧ e = upd e0 18 (.bool y21) ∧ Kp s0 s) (fun Gj21 Kj21 => ?_) ?_)
 ·
  rcases Bool.eq_false_or_eq_true y9 with hb21 | hb21
  ·
   refine sbT hb21 ?_
   rw [if_pos hb21]
   refine fa' fa80_0 rfl (lda' (es := [(.int .i64 a0.From.Kind), (.int .i64 a0.From.N), w0_0, w0_1]) By9_b3 Try.underlying48 z48 rfl (fa' fa80_1 rfl (lda' (es := [(.int .i64 a0.To.Kind), (.int .i64 a0.To.N), w0_2, w0_3]) By9_b3 Try.underlying48 z48 rfl ?_)))
   have A22 := (A0_1.kp Ky9)
   have A23 := (A0_3.kp Ky9)
   refine cl' rfl Try.func137 rfl (fun r24 m24 => spec_ItemCompare.calls a0.From a0.To s19.w (fun b => memb [0] (s19.g b) = true) w0_0 w0_1 w0_2 w0_3 ((fl_rdf (s := s19) A0_0).sub (D := [0]) rfl) A22 ((fl_rdf (s := s19) A0_2).sub (D := [0]) rfl) A23 r24 m24) ?_
   rintro r24 _ w24 m24 ⟨rfl, ky24⟩
   obtain ⟨s25, rfl, p25, n25⟩ := nwx s19 w24 43 ky24
   refine pu' rfl (pu' rfl ?_)
   have K26 := (Ky9.st p25 rfl)
   exact Kj21 _ _ _ ⟨s25, _, rfl, (ue rfl rfl), K26⟩
  ·
   refine sbT hb21 ?_
   rw [if_neg (by rw [hb21]; decide)]
   exact uw' rfl (uw' rfl (uw' rfl (uw' rfl (uw' rfl (uw' rfl (pu' rfl (Kj21 _ _ _ ⟨s19, _, rfl, (ue rfl rfl), Ky9⟩)))))))
 rintro y21 _ _ ⟨s27, _, rfl, rfl, Ky21⟩
 exact pu' rfl (dn (re rfl Try.func107 rfl (r_t rfl r_nil) rfl ⟨_, rfl, rfl, z.ky Ky21⟩))
noncomputable def spec_InSpan.f (a0 : Item) (a1 : Item) (a2 : Item) : Option (Bool) :=
 ((spec_KeyOk.f a0).bind fun r13 => ((if r13 = true then ((spec_KeyOk.f a1).bind fun r19 => (some r19)) else (some false)).bind fun y15 => ((if y15 = true then ((spec_KeyOk.f a2).bind fun r35 => (some r35)) else (some false)).bind fun y33 => ((if y33 = true then ((spec_ItemCompare.f a0 a2).bind fun r48 => (some (decide (r48 ≤ (0 : Int))))) else (some false)).bind fun y45 => ((if y45 = true then ((spec_ItemCompare.f a2 a1).bind fun r59 => (some (decide (r59 ≤ (0 : Int))))) else (some false)).bind fun y56 => (some y56))))))
def spec_InSpan.Q (w : World) (F : Nat → Prop) (r : Bool) (v : Value) (w' : World) : Prop :=
 v = (.bool r) ∧ Ky [] w w'
set_option maxHeartbeats 4000000 in
set_option maxRecDepth 100000 in
theorem spec_InSpan.calls (a0 : Item) (a1 : Item) (a2 : Item) (w : World) (F : Nat → Prop) (w0_0 : Value) (w0_1 : Value) (w1_0 : Value) (w1_1 : Value) (w2_0 : Value) (w2_1 : Value) (h0_0 : Kd.flt.rd w [w0_0] a0.F F) (h0_1 : (Kd.sl 5 (Kd.int .u8)).rd w [w0_1] a0.T F) (h1_0 : Kd.flt.rd w [w1_0] a1.F F) (h1_1 : (Kd.sl 5 (Kd.int .u8)).rd w [w1_1] a1.T F) (h2_0 : Kd.flt.rd w [w2_0] a2.F F) (h2_1 : (Kd.sl 5 (Kd.int .u8)).rd w [w2_1] a2.T F) (r : Bool) (m : spec_InSpan.f a0 a1 a2 = some r) :
  Calls Try.prog 109 #[(.agg #[(.int .i64 a0.Kind), (.int .i64 a0.N), w0_0, w0_1]), (.agg #[(.int .i64 a1.Kind), (.int .i64 a1.N), w1_0, w1_1]), (.agg #[(.int .i64 a2.Kind), (.int .i64 a2.N), w2_0, w2_1])] w (RT (spec_InSpan.Q w F) r) := by
 obtain ⟨s0, rfl, kp0, z⟩ := start0 w F
 have A0_0 := fl_of h0_0
 have A0_1 := z.rd h0_1
 have A1_0 := fl_of h1_0
 have A1_1 := z.rd h1_1
 have A2_0 := fl_of h2_0
 have A2_1 := z.rd h2_1
 refine calls_of_TM (args := [(.agg #[(.int .i64 a0.Kind), (.int .i64 a0.N), w0_0, w0_1]), (.agg #[(.int .i64 a1.Kind), (.int .i64 a1.N), w1_0, w1_1]), (.agg #[(.int .i64 a2.Kind), (.int .i64 a2.N), w2_0, w2_1])]) Try.func109 Try.ntmps109 rfl rfl m ?_
 unfold spec_InSpan.f
 refine sr (bx' (cs := [(.int .i64 a0.Kind), (.int .i64 a0.N), w0_0, w0_1]) 40 rfl rfl (fun b4 s4 p4 B4 => ?_))
 refine bx' (cs := [(.int .i64 a1.Kind), (.int .i64 a1.N), w1_0, w1_1]) 41 rfl rfl (fun b6 s6 p6 B6 => ?_)
 refine bx' (cs := [(.int .i64 a2.Kind), (.int .i64 a2.N), w2_0, w2_1]) 42 rfl rfl (fun b8 s8 p8 B8 => ?_)
 refine pu' rfl (dn (sr ?_))
 have A10 := (BlF.st B4 (tr2 p6 p8) rfl)
 refine lda' (es := [(.int .i64 a0.Kind), (.int .i64 a0.N), w0_0, w0_1]) A10 Try.underlying48 z48 rfl ?_
 have K11 := (kp0.st (tr3 p4 p6 p8) rfl)
 have A12 := (A0_1.kp K11)
 refine cl' rfl Try.func120 rfl (fun r13 m13 => spec_KeyOk.calls a0 s8.w (fun b => memb [0] (s8.g b) = true) w0_0 w0_1 ((fl_rdf (s := s8) A0_0).sub (D := [0]) rfl) A12 r13 m13) ?_
 rintro r13 _ w13 m13 ⟨rfl, ky13⟩
 obtain ⟨s14, rfl, p14, n14⟩ := nwx s8 w13 43 ky13
 refine pu' rfl (ji [6, 7, 8, 9, 10, 11, 12, 13, 14, 15, 16, 17, 18, 19, 20, 21, 22] (fun (y15 : Bool) (e : Env) (w : World) => ∃ (s : St) (e0 : Env), w = s.w ∧ e = upd (upd (upd (upd e0 3 (.pointer (some ⟨b4, 0, none⟩))) 4 (.pointer (some ⟨b6, 0, none⟩))) 5 (.pointer (some ⟨b8, 0, none⟩))) 12 (.bool y15) ∧ Kp s0 s ∧ BlF s b8 48 [(.int .i64 a2.Kind), (.int .i64 a2.N), w2_0, w2_1] 42 ∧ BlF s b6 48 [(.int .i64 a1.Kind), (.int .i64 a1.N), w1_0, w1_1] 41 ∧ BlF s b4 48 [(.int .i64 a0.Kind), (.int .i64 a0.N), w0_0, w0_1] 40) (fun Gj15 Kj15 => ?_) ?_)
 ·
  rcases Bool.eq_false_or_eq_true r13 with hb15 | hb15
  ·
   refine sbT hb15 ?_
   rw [if_pos hb15]
   have A16 := (BlF.st B6 (tr2 p8 p14) rfl)
   refine lda' (es := [(.int .i64 a1.Kind), (.int .i64 a1.N), w1_0, w1_1]) A16 Try.underlying48 z48 rfl ?_
   have K17 := (K11.st p14 rfl)
   have A18 := (A1_1.kp K17)
   refine cl' rfl Try.func120 rfl (fun r19 m19 => spec_KeyOk.calls a1 s14.w (fun b => memb [0] (s14.g b) = true) w1_0 w1_1 ((fl_rdf (s := s14) A1_0).sub (D := [0]) rfl) A18 r19 m19) ?_
   rintro r19 _ w19 m19 ⟨rfl, ky19⟩
   obtain ⟨s20, rfl, p20, n20⟩ := nwx s14 w19 44 ky19
   refine pu' rfl ?_
   have A21 := (BlF.st B8 (tr2 p14 p20) rfl)
   have A22 := (BlF.st A16 p20 rfl)
   have A23 := (BlF.st A10 (tr2 p14 p20) rfl)
   have K24 := (K17.st p20 rfl)
   exact Kj15 _ _ _ ⟨s20, _, rfl, (ue (ue (ue (ue rfl rfl) rfl) rfl) rfl), K24, A21, A22, A23⟩
  ·
   refine sbT hb15 ?_
   rw [if_neg (by rw [hb15]; decide)]
   refine uw' rfl (uw' rfl (pu' rfl ?_))
   have A25 := (BlF.st B8 p14 rfl)
   have A26 := (BlF.st B6 (tr2 p8 p14) rfl)
   have A27 := (BlF.st A10 p14 rfl)
   have K28 := (K11.st p14 rfl)
   exact Kj15 _ _ _ ⟨s14, _, rfl, (ue (ue (ue (ue rfl rfl) rfl) rfl) rfl), K28, A25, A26, A27⟩
 rintro y15 _ _ ⟨s29, _, rfl, rfl, Ky15, By15_b8, By15_b6, By15_b4⟩
 refine pu' rfl (ji [10, 11, 12, 13, 14, 15, 16, 17, 18, 19, 20, 21, 22] (fun (y33 : Bool) (e : Env) (w : World) => ∃ (s : St) (e0 : Env), w = s.w ∧ e = upd (upd (upd (upd e0 3 (.pointer (some ⟨b4, 0, none⟩))) 4 (.pointer (some ⟨b6, 0, none⟩))) 5 (.pointer (some ⟨b8, 0, none⟩))) 16 (.bool y33) ∧ Kp s0 s ∧ BlF s b8 48 [(.int .i64 a2.Kind), (.int .i64 a2.N), w2_0, w2_1] 42 ∧ BlF s b6 48 [(.int .i64 a1.Kind), (.int .i64 a1.N), w1_0, w1_1] 41 ∧ BlF s b4 48 [(.int .i64 a0.Kind), (.int .i64 a0.N), w0_0, w0_1] 40) (fun Gj33 Kj33 => ?_) ?_)
 ·
  rcases Bool.eq_false_or_eq_true y15 with hb33 | hb33
  ·
   refine sbT hb33 ?_
   rw [if_pos hb33]
   refine lda' (es := [(.int .i64 a2.Kind), (.int .i64 a2.N), w2_0, w2_1]) By15_b8 Try.underlying48 z48 rfl ?_
   have A34 := (A2_1.kp Ky15)
   refine cl' rfl Try.func120 rfl (fun r35 m35 => spec_KeyOk.calls a2 s29.w (fun b => memb [0] (s29.g b) = true) w2_0 w2_1 ((fl_rdf (s := s29) A2_0).sub (D := [0]) rfl) A34 r35 m35) ?_
   rintro r35 _ w35 m35 ⟨rfl, ky35⟩
   obtain ⟨s36, rfl, p36, n36⟩ := nwx s29 w35 45 ky35
   refine pu' rfl ?_
   have A37 := (BlF.st By15_b8 p36 rfl)
   have A38 := (BlF.st By15_b6 p36 rfl)
   have A39 := (BlF.st By15_b4 p36 rfl)
   have K40 := (Ky15.st p36 rfl)
   exact Kj33 _ _ _ ⟨s36, _, rfl, (ue (ue (ue (ue rfl rfl) rfl) rfl) rfl), K40, A37, A38, A39⟩
  ·
   refine sbT hb33 ?_
   rw [if_neg (by rw [hb33]; decide)]
   exact uw' rfl (uw' rfl (pu' rfl (Kj33 _ _ _ ⟨s29, _, rfl, (ue (ue (ue (ue rfl rfl) rfl) rfl) rfl), Ky15, By15_b8, By15_b6, By15_b4⟩)))
 rintro y33 _ _ ⟨s41, _, rfl, rfl, Ky33, By33_b8, By33_b6, By33_b4⟩
 refine pu' rfl (ji [16, 17, 18, 19, 20, 21, 22] (fun (y45 : Bool) (e : Env) (w : World) => ∃ (s : St) (e0 : Env), w = s.w ∧ e = upd (upd (upd e0 4 (.pointer (some ⟨b6, 0, none⟩))) 5 (.pointer (some ⟨b8, 0, none⟩))) 22 (.bool y45) ∧ Kp s0 s ∧ BlF s b8 48 [(.int .i64 a2.Kind), (.int .i64 a2.N), w2_0, w2_1] 42 ∧ BlF s b6 48 [(.int .i64 a1.Kind), (.int .i64 a1.N), w1_0, w1_1] 41) (fun Gj45 Kj45 => ?_) ?_)
 ·
  rcases Bool.eq_false_or_eq_true y33 with hb45 | hb45
  ·
   refine sbT hb45 ?_
   rw [if_pos hb45]
   refine lda' (es := [(.int .i64 a0.Kind), (.int .i64 a0.N), w0_0, w0_1]) By33_b4 Try.underlying48 z48 rfl (lda' (es := [(.int .i64 a2.Kind), (.int .i64 a2.N), w2_0, w2_1]) By33_b8 Try.underlying48 z48 rfl ?_)
   have A46 := (A0_1.kp Ky33)
   have A47 := (A2_1.kp Ky33)
   refine cl' rfl Try.func137 rfl (fun r48 m48 => spec_ItemCompare.calls a0 a2 s41.w (fun b => memb [0] (s41.g b) = true) w0_0 w0_1 w2_0 w2_1 ((fl_rdf (s := s41) A0_0).sub (D := [0]) rfl) A46 ((fl_rdf (s := s41) A2_0).sub (D := [0]) rfl) A47 r48 m48) ?_
   rintro r48 _ w48 m48 ⟨rfl, ky48⟩
   obtain ⟨s49, rfl, p49, n49⟩ := nwx s41 w48 46 ky48
   refine pu' rfl (pu' rfl ?_)
   have A50 := (BlF.st By33_b8 p49 rfl)
   have A51 := (BlF.st By33_b6 p49 rfl)
   have K52 := (Ky33.st p49 rfl)
   exact Kj45 _ _ _ ⟨s49, _, rfl, (ue (ue (ue rfl rfl) rfl) rfl), K52, A50, A51⟩
  ·
   refine sbT hb45 ?_
   rw [if_neg (by rw [hb45]; decide)]
   exact uw' rfl (uw' rfl (uw' rfl (uw' rfl (pu' rfl (Kj45 _ _ _ ⟨s41, _, rfl, (ue (ue (ue rfl rfl) rfl) rfl), Ky33, By33_b8, By33_b6⟩)))))
 rintro y45 _ _ ⟨s53, _, rfl, rfl, Ky45, By45_b8, By45_b6⟩
 refine pu' rfl (ji [22] (fun (y56 : Bool) (e : Env) (w : World) => ∃ (s : St) (e0 : Env), w = s.w ∧ e = upd e0 28 (.bool y56) ∧ Kp s0 s) (fun Gj56 Kj56 => ?_) ?_)
 ·
  rcases Bool.eq_false_or_eq_true y45 with hb56 | hb56
  ·
   refine sbT hb56 ?_
   rw [if_pos hb56]
   refine lda' (es := [(.int .i64 a2.Kind), (.int .i64 a2.N), w2_0, w2_1]) By45_b8 Try.underlying48 z48 rfl (lda' (es := [(.int .i64 a1.Kind), (.int .i64 a1.N), w1_0, w1_1]) By45_b6 Try.underlying48 z48 rfl ?_)
   have A57 := (A2_1.kp Ky45)
   have A58 := (A1_1.kp Ky45)
   refine cl' rfl Try.func137 rfl (fun r59 m59 => spec_ItemCompare.calls a2 a1 s53.w (fun b => memb [0] (s53.g b) = true) w2_0 w2_1 w1_0 w1_1 ((fl_rdf (s := s53) A2_0).sub (D := [0]) rfl) A57 ((fl_rdf (s := s53) A1_0).sub (D := [0]) rfl) A58 r59 m59) ?_
   rintro r59 _ w59 m59 ⟨rfl, ky59⟩
   obtain ⟨s60, rfl, p60, n60⟩ := nwx s53 w59 47 ky59
   refine pu' rfl (pu' rfl ?_)
   have K61 := (Ky45.st p60 rfl)
   exact Kj56 _ _ _ ⟨s60, _, rfl, (ue rfl rfl), K61⟩
  ·
   refine sbT hb56 ?_
   rw [if_neg (by rw [hb56]; decide)]
   exact uw' rfl (uw' rfl (uw' rfl (uw' rfl (pu' rfl (Kj56 _ _ _ ⟨s53, _, rfl, (ue rfl rfl), Ky45⟩)))))
 rintro y56 _ _ ⟨s62, _, rfl, rfl, Ky56⟩
 exact pu' rfl (dn (re rfl Try.func109 rfl (r_t rfl r_nil) rfl ⟨_, rfl, rfl, z.ky Ky56⟩))
noncomputable def impl_areAll_impl_Span_1.f (a0 : Span) (a1 : (Span → Option Bool)) : Option (Bool) :=
 ((a1 a0).bind fun r10 => (some (!r10)))
def impl_areAll_impl_Span_1.Q (w : World) (F : Nat → Prop) (r : Bool) (v : Value) (w' : World) : Prop :=
 v = (.bool r) ∧ Ky [] w w'
set_option maxHeartbeats 4000000 in
set_option maxRecDepth 100000 in
theorem impl_areAll_impl_Span_1.calls (a0 : Span) (a1 : (Span → Option Bool)) (w : World) (F : Nat → Prop) (w0_0 : Value) (w0_1 : Value) (w0_2 : Value) (w0_3 : Value) (c1 : Nat) (f1 : Value) (h0_0 : Kd.flt.rd w [w0_0] a0.From.F F) (h0_1 : (Kd.sl 5 (Kd.int .u8)).rd w [w0_1] a0.From.T F) (h0_2 : Kd.flt.rd w [w0_2] a0.To.F F) (h0_3 : (Kd.sl 5 (Kd.int .u8)).rd w [w0_3] a0.To.T F) (hf1 : ∀ (x0 : Span) (u0_0 u0_1 u0_2 u0_3 : Value) (w' : World), Ky [] w w' → Kd.flt.rd w' [u0_0] x0.From.F (fun _ => True) → (Kd.sl 5 (Kd.int .u8)).rd w' [u0_1] x0.From.T (fun _ => True) → Kd.flt.rd w' [u0_2] x0.To.F (fun _ => True) → (Kd.sl 5 (Kd.int .u8)).rd w' [u0_3] x0.To.T (fun _ => True) → ∀ r, a1 x0 = some r → CallV Try.prog f1 [(.agg #[(.int .i64 x0.From.Kind), (.int .i64 x0.From.N), u0_0, u0_1, (.int .i64 x0.To.Kind), (.int .i64 x0.To.N), u0_2, u0_3])] w' fun en w'' => ∃ v, en = .returned v ∧ v = (.bool r) ∧ Ky [] w' w'') (ho1 : f1.cells = #[f1]) (hb1 : BlW w c1 151 [f1]) (hp1 : F c1) (r : Bool) (m : impl_areAll_impl_Span_1.f a0 a1 = some r) :
  Calls Try.prog 203 #[(.agg #[(.int .i64 a0.From.Kind), (.int .i64 a0.From.N), w0_0, w0_1, (.int .i64 a0.To.Kind), (.int .i64 a0.To.N), w0_2, w0_3]), (.pointer (some ⟨c1, 0, none⟩))] w (RT (impl_areAll_impl_Span_1.Q w F) r) := by
 obtain ⟨s0, rfl, kp0, z⟩ := start0 w F
 have A0_0 := fl_of h0_0
 have A0_1 := z.rd h0_1
 have A0_2 := fl_of h0_2
 have A0_3 := z.rd h0_3
 have B1 := z.b0 hb1 hp1
 refine calls_of_TM (args := [(.agg #[(.int .i64 a0.From.Kind), (.int .i64 a0.From.N), w0_0, w0_1, (.int .i64 a0.To.Kind), (.int .i64 a0.To.N), w0_2, w0_3]), (.pointer (some ⟨c1, 0, none⟩))]) Try.func203 Try.ntmps203 rfl rfl m ?_
 unfold impl_areAll_impl_Span_1.f
 refine sr (bx' (cs := [(.int .i64 a0.From.Kind), (.int .i64 a0.From.N), w0_0, w0_1, (.int .i64 a0.To.Kind), (.int .i64 a0.To.N), w0_2, w0_3]) 40 rfl rfl (fun b4 s4 p4 B4 => ?_))
 refine pu' rfl (dn (sr ?_))
 have A6 := (BlF.st B1 p4 rfl)
 refine ld' A6 Try.underlying151 rfl (lda' (es := [(.int .i64 a0.From.Kind), (.int .i64 a0.From.N), w0_0, w0_1, (.int .i64 a0.To.Kind), (.int .i64 a0.To.N), w0_2, w0_3]) B4 Try.underlying80 z80 rfl ?_)
 have K7 := (kp0.st p4 rfl)
 have A8 := (A0_1.kp K7)
 have A9 := (A0_3.kp K7)
 refine clv rfl rfl rfl rfl rfl rfl rfl (fun r10 m10 => hf1 a0 w0_0 w0_1 w0_2 w0_3 s4.w (z.ky K7) (fl_rd A0_0) (RdF.top A8) (fl_rd A0_2) (RdF.top A9) r10 m10) ?_
 rintro r10 _ w10 m10 ⟨rfl, ky10⟩
 obtain ⟨s11, rfl, p11, n11⟩ := nwx s4 w10 41 ky10
 refine pu' rfl (pu' rfl (dn ?_))
 have K12 := (K7.st p11 rfl)
 exact re rfl Try.func203 rfl (r_t rfl r_nil) rfl ⟨_, rfl, rfl, z.ky K12⟩
noncomputable def slices_IndexFunc_impl_Span_impl_Span.b0 (a0 : (List Span)) (a1 : (Span → Option Bool)) (x2 : Int) : Option (Int ⊕ Int) :=
 (if (decide (x2 < (a0.length : Int))) = true then (if 0 ≤ x2 ∧ x2 < (a0.length : Int) then ((a1 (Span.mk ((at_ a0 x2).From) ((at_ a0 x2).To))).bind fun r10 => (if r10 = true then (some (Sum.inr x2)) else (some (Sum.inl (IntKind.wrap .i64 (x2 + (1 : Int))))))) else none) else ((some (-1 : Int)).bind fun o => some (Sum.inr o)))
noncomputable def slices_IndexFunc_impl_Span_impl_Span.f (a0 : (List Span)) (a1 : (Span → Option Bool)) : Option (Int) :=
 (iter (slices_IndexFunc_impl_Span_impl_Span.b0 a0 a1) (0 : Int))
def slices_IndexFunc_impl_Span_impl_Span.Q (w : World) (F : Nat → Prop) (r : Int) (v : Value) (w' : World) : Prop :=
 v = (.int .i64 r) ∧ Ky [] w w'
set_option maxHeartbeats 4000000 in
set_option maxRecDepth 100000 in
theorem slices_IndexFunc_impl_Span_impl_Span.calls (a0 : (List Span)) (a1 : (Span → Option Bool)) (w : World) (F : Nat → Prop) (w0_0 : Value) (f1 : Value) (h0_0 : (Kd.sl 80 kd80).rd w [w0_0] a0 F) (hf1 : ∀ (x0 : Span) (u0_0 u0_1 u0_2 u0_3 : Value) (w' : World), Ky [] w w' → Kd.flt.rd w' [u0_0] x0.From.F (fun _ => True) → (Kd.sl 5 (Kd.int .u8)).rd w' [u0_1] x0.From.T (fun _ => True) → Kd.flt.rd w' [u0_2] x0.To.F (fun _ => True) → (Kd.sl 5 (Kd.int .u8)).rd w' [u0_3] x0.To.T (fun _ => True) → ∀ r, a1 x0 = some r → CallV Try.prog f1 [(.agg #[(.int .i64 x0.From.Kind), (.int .i64 x0.From.N), u0_0, u0_1, (.int .i64 x0.To.Kind), (.int .i64 x0.To.N), u0_2, u0_3])] w' fun en w'' => ∃ v, en = .returned v ∧ v = (.bool r) ∧ Ky [] w' w'') (ho1 : f1.cells = #[f1]) (r : Int) (m : slices_IndexFunc_impl_Span_impl_Span.f a0 a1 = some r) :
  Calls Try.prog 221 #[w0_0, f1] w (RT (slices_IndexFunc_impl_Span_impl_Span.Q w F) r) := by
 obtain ⟨s0, rfl, kp0, z⟩ := start0 w F
 have A0_0 := z.rd h0_0
 refine calls_of_TM (args := [w0_0, f1]) Try.func221 Try.ntmps221 rfl rfl m ?_
 unfold slices_IndexFunc_impl_Span_impl_Span.f
 refine sr (pu' rfl (dn (sq (sr (mv' w0_0 rfl (ln' A0_0 Try.underlying56 rfl (pu' rfl (dn (bl (lpI (fun (x2 : Int) (e : Env) (w : World) => ∃ (s : St) (e0 : Env), w = s.w ∧ e = upd (upd (upd (upd e0 0 w0_0) 1 f1) 7 (.int .i64 (a0.length : Int))) 8 (.int .i64 x2) ∧ Kp s0 s) ⟨s0, _, rfl, (ue (ue (ue (ue rfl rfl) rfl) rfl) rfl), kp0⟩ (fun g2 ih2 => ?_)))))))))))
 rintro x2 _ _ ⟨s3, _, rfl, rfl, Kx2⟩
 unfold slices_IndexFunc_impl_Span_impl_Span.b0
 refine sr (pu' rfl (dn (sq (cd rfl (fun h4 => ?_) (fun h4 => ?_)))))
 ·
  refine sk (sq (bl (sr (pu' rfl (pu' rfl (dn (sr (mv' f1 rfl (mv' w0_0 rfl (pu' rfl ?_))))))))))
  have A5 := (A0_0.kp Kx2)
  refine ix' A5 Try.underlying56 z80 rfl (fun ad6 es6 h0_6 h1_6 he6 ce6 ia6 => ?_)
  obtain ⟨v6_0, v6_1, v6_2, v6_3, rfl, A6_0, A6_1, A6_2, A6_3⟩ := op80 he6
  refine lca' ce6 Try.underlying80 z80 rfl (clv rfl rfl rfl rfl rfl rfl rfl (fun r10 m10 => hf1 (Span.mk ((at_ a0 x2).From) ((at_ a0 x2).To)) v6_0 v6_1 v6_2 v6_3 s3.w (z.ky Kx2) (fl_rd A6_0) (RdF.top A6_1) (fl_rd A6_2) (RdF.top A6_3) r10 m10) ?_)
  rintro r10 _ w10 m10 ⟨rfl, ky10⟩
  obtain ⟨s11, rfl, p11, n11⟩ := nwx s3 w10 40 ky10
  refine dn (cd rfl (fun h12 => ?_) (fun h12 => ?_))
  ·
   refine sr (pu' rfl (pu' rfl (dn (sgi ?_))))
   have K13 := (Kx2.st p11 rfl)
   exact re rfl Try.func221 rfl (r_t rfl r_nil) rfl ⟨_, rfl, rfl, z.ky K13⟩
  ·
   refine sk (ib (rg (pu' rfl (pu' rfl (dn ?_)))))
   have K14 := (Kx2.st p11 rfl)
   exact lb ih2 ⟨s11, _, rfl, (ue (ue (ue (ue rfl rfl) rfl) rfl) rfl), K14⟩
 ·
  exact xt rfl (sgb (sr (pu' rfl (dn (re rfl Try.func221 rfl (r_t rfl r_nil) rfl ⟨_, rfl, rfl, z.ky Kx2⟩)))))
noncomputable def slices_ContainsFunc_impl_Span_impl_Span.f (a0 : (List Span)) (a1 : (Span → Option Bool)) : Option (Bool) :=
 ((slices_IndexFunc_impl_Span_impl_Span.f a0 a1).bind fun r2 => (some (decide (r2 ≥ (0 : Int)))))
def slices_ContainsFunc_impl_Span_impl_Span.Q (w : World) (F : Nat → Prop) (r : Bool) (v : Value) (w' : World) : Prop :=
 v = (.bool r) ∧ Ky [] w w'
set_option maxHeartbeats 4000000 in
set_option maxRecDepth 100000 in
theorem slices_ContainsFunc_impl_Span_impl_Span.calls (a0 : (List Span)) (a1 : (Span → Option Bool)) (w : World) (F : Nat → Prop) (w0_0 : Value) (f1 : Value) (h0_0 : (Kd.sl 80 kd80).rd w [w0_0] a0 F) (hf1 : ∀ (x0 : Span) (u0_0 u0_1 u0_2 u0_3 : Value) (w' : World), Ky [] w w' → Kd.flt.rd w' [u0_0] x0.From.F (fun _ => True) → (Kd.sl 5 (Kd.int .u8)).rd w' [u0_1] x0.From.T (fun _ => True) → Kd.flt.rd w' [u0_2] x0.To.F (fun _ => True) → (Kd.sl 5 (Kd.int .u8)).rd w' [u0_3] x0.To.T (fun _ => True) → ∀ r, a1 x0 = some r → CallV Try.prog f1 [(.agg #[(.int .i64 x0.From.Kind), (.int .i64 x0.From.N), u0_0, u0_1, (.int .i64 x0.To.Kind), (.int .i64 x0.To.N), u0_2, u0_3])] w' fun en w'' => ∃ v, en = .returned v ∧ v = (.bool r) ∧ Ky [] w' w'') (ho1 : f1.cells = #[f1]) (r : Bool) (m : slices_ContainsFunc_impl_Span_impl_Span.f a0 a1 = some r) :
  Calls Try.prog 202 #[w0_0, f1] w (RT (slices_ContainsFunc_impl_Span_impl_Span.Q w F) r) := by
 obtain ⟨s0, rfl, kp0, z⟩ := start0 w F
 have A0_0 := z.rd h0_0
 refine calls_of_TM (args := [w0_0, f1]) Try.func202 Try.ntmps202 rfl rfl m ?_
 unfold slices_ContainsFunc_impl_Span_impl_Span.f
 refine sr (pu' rfl (dn (sr (mv' w0_0 rfl (mv' f1 rfl (cl' rfl Try.func221 rfl (fun r2 m2 => slices_IndexFunc_impl_Span_impl_Span.calls a0 a1 s0.w (fun b => memb [0] (s0.g b) = true) w0_0 f1 A0_0 (fun x0 u0_0 u0_1 u0_2 u0_3 w' k h0 h1 h2 h3 r m =>  hf1 x0 u0_0 u0_1 u0_2 u0_3 w' (Ky.trans (z.ky kp0) k) h0 h1 h2 h3 r m) ho1 r2 m2) ?_))))))
 rintro r2 _ w2 m2 ⟨rfl, ky2⟩
 obtain ⟨s3, rfl, p3, n3⟩ := nwx s0 w2 40 ky2
 refine pu' rfl (pu' rfl (dn ?_))
 have K4 := (kp0.st p3 rfl)
 exact re rfl Try.func202 rfl (r_t rfl r_nil) rfl ⟨_, rfl, rfl, z.ky K4⟩
noncomputable def impl_areAll_impl_Span.f (a0 : (List Span)) (a1 : (Span → Option Bool)) : Option (Bool) :=
 ((slices_ContainsFunc_impl_Span_impl_Span.f a0 (fun x0 => impl_areAll_impl_Span_1.f x0 a1)).bind fun r6 => (some (!r6)))
def impl_areAll_impl_Span.Q (w : World) (F : Nat → Prop) (r : Bool) (v : Value) (w' : World) : Prop :=
 v = (.bool r) ∧ Ky [] w w'
set_option maxHeartbeats 4000000 in
set_option maxRecDepth 100000 in
theorem impl_areAll_impl_Span.calls (a0 : (List Span)) (a1 : (Span → Option Bool)) (w : World) (F : Nat → Prop) (w0_0 : Value) (f1 : Value) (h0_0 : (Kd.sl 80 kd80).rd w [w0_0] a0 F) (hf1 : ∀ (x0 : Span) (u0_0 u0_1 u0_2 u0_3 : Value) (w' : World), Ky [] w w' → Kd.flt.rd w' [u0_0] x0.From.F (fun _ => True) → (Kd.sl 5 (Kd.int .u8)).rd w' [u0_1] x0.From.T (fun _ => True) → Kd.flt.rd w' [u0_2] x0.To.F (fun _ => True) → (Kd.sl 5 (Kd.int .u8)).rd w' [u0_3] x0.To.T (fun _ => True) → ∀ r, a1 x0 = some r → CallV Try.prog f1 [(.agg #[(.int .i64 x0.From.Kind), (.int .i64 x0.From.N), u0_0, u0_1, (.int .i64 x0.To.Kind), (.int .i64 x0.To.N), u0_2, u0_3])] w' fun en w'' => ∃ v, en = .returned v ∧ v = (.bool r) ∧ Ky [] w' w'') (ho1 : f1.cells = #[f1]) (r : Bool) (m : impl_areAll_impl_Span.f a0 a1 = some r) :
  Calls Try.prog 167 #[w0_0, f1] w (RT (impl_areAll_impl_Span.Q w F) r) := by
 obtain ⟨s0, rfl, kp0, z⟩ := start0 w F
 have A0_0 := z.rd h0_0
 refine calls_of_TM (args := [w0_0, f1]) Try.func167 Try.ntmps167 rfl rfl m ?_
 unfold impl_areAll_impl_Span.f
 refine sr (bx' (cs := [f1]) 40 rfl ho1 (fun b2 s2 p2 B2 => ?_))
 refine pu' rfl (dn (sr (mv' w0_0 rfl (mkf (fs := []) (cs := [(.pointer (some ⟨b2, 0, none⟩))]) rfl rfl rfl rfl rfl rfl rfl ?_))))
 have K4 := (kp0.st p2 rfl)
 have A5 := (A0_0.kp K4)
 refine cl' rfl Try.func202 rfl (fun r6 m6 => slices_ContainsFunc_impl_Span_impl_Span.calls a0 (fun x0 => impl_areAll_impl_Span_1.f x0 a1) s2.w (fun b => memb [0] (s2.g b) = true) w0_0 (.func (.func 203) (List.toArray []) (List.toArray [(.pointer (some ⟨b2, 0, none⟩))])) A5 (fun x0 u0_0 u0_1 u0_2 u0_3 w' k h0 h1 h2 h3 r m =>  ⟨203, _, _, [], [(.pointer (some ⟨b2, 0, none⟩))], rfl, Try.func203, rfl, rfl, (impl_areAll_impl_Span_1.calls x0 a1 w' (fun _ => True) u0_0 u0_1 u0_2 u0_3 b2 f1 h0 h1 h2 h3 (fun x0c u0_0c u0_1c u0_2c u0_3c w'c kc h0c h1c h2c h3c r m =>  hf1 x0c u0_0c u0_1c u0_2c u0_3c w'c (Ky.trans (z.ky K4) (Ky.trans k kc)) h0c h1c h2c h3c r m) ho1 (BlF.ky B2 k) trivial r m).mono fun en w2 hq => by obtain ⟨v, e, q⟩ := hq; exact ⟨v, e, q⟩⟩) rfl r6 m6) ?_
 rintro r6 _ w6 m6 ⟨rfl, ky6⟩
 obtain ⟨s7, rfl, p7, n7⟩ := nwx s2 w6 41 ky6
 refine pu' rfl (pu' rfl (dn ?_))
 have K8 := (K4.st p7 rfl)
 exact re rfl Try.func167 rfl (r_t rfl r_nil) rfl ⟨_, rfl, rfl, z.ky K8⟩
noncomputable def impl_within.f (a0 : Int) (a1 : Int) (a2 : Int) : Option (Bool) :=
 (some ((decide (a1 ≤ a0)) && (decide (a0 ≤ a2))))
def impl_within.Q (w : World) (F : Nat → Prop) (r : Bool) (v : Value) (w' : World) : Prop :=
 v = (.bool r) ∧ Ky [] w w'
set_option maxHeartbeats 4000000 in
set_option maxRecDepth 100000 in
theorem impl_within.calls (a0 : Int) (a1 : Int) (a2 : Int) (w : World) (F : Nat → Prop)   (r : Bool) (m : impl_within.f a0 a1 a2 = some r) :
  Calls Try.prog 139 #[(.int .i64 a0), (.int .i64 a1), (.int .i64 a2)] w (RT (impl_within.Q w F) r) := by
 obtain ⟨s0, rfl, kp0, z⟩ := start0 w F
 refine calls_of_TM (args := [(.int .i64 a0), (.int .i64 a1), (.int .i64 a2)]) Try.func139 Try.ntmps139 rfl rfl m ?_
 unfold impl_within.f
 refine sr (pu' rfl (dn (sr (pu' rfl (pu' rfl (pu' rfl (pu' rfl (jy [10, 11, 12, 13, 14] [8] 14 (.bool ((decide (a1 ≤ a0)) && (decide (a0 ≤ a2)))) rfl (fun Kg1 => ?_) (fun j1 => ?_)))))))))
 ·
  rcases Bool.eq_false_or_eq_true (decide (a1 ≤ a0)) with hb1 | hb1
  ·
   exact sbT hb1 (pu' rfl (pu' rfl (pu' rfl (pu' rfl (Kg1 _ (Ag.put ((Ag.put ((Ag.put ((Ag.put (Ag.base rfl) rfl)) rfl)) rfl)) rfl) (by rw [hb1]; rfl))))))
  ·
   exact sbT hb1 (uw' rfl (uw' rfl (uw' rfl (pu' rfl (Kg1 _ (Ag.put ((Ag.put ((Ag.put ((Ag.put (Ag.base rfl) rfl)) rfl)) rfl)) rfl) (by rw [hb1]; rfl))))))
 exact pu' rfl (dn (re rfl Try.func139 rfl (r_t rfl r_nil) rfl ⟨_, rfl, rfl, z.ky kp0⟩))
noncomputable def impl_ItemOk.f (a0 : Item) : Option (Bool) :=
 ((impl_within.f a0.Kind (0 : Int) (3 : Int)).bind fun r4 => (some (((r4 && ((a0.N == (0 : Int)) || (a0.Kind == (1 : Int)))) && (((a0.F : Int) == 0) || (a0.Kind == (2 : Int)))) && (((a0.T.length : Int) == (0 : Int)) || ((a0.Kind == (3 : Int)) && (decide ((a0.T.length : Int) ≤ (40 : Int))))))))
def impl_ItemOk.Q (w : World) (F : Nat → Prop) (r : Bool) (v : Value) (w' : World) : Prop :=
 v = (.bool r) ∧ Ky [] w w'
set_option maxHeartbeats 4000000 in
set_option maxRecDepth 100000 in
theorem impl_ItemOk.calls (a0 : Item) (w : World) (F : Nat → Prop) (w0_0 : Value) (w0_1 : Value) (h0_0 : Kd.flt.rd w [w0_0] a0.F F) (h0_1 : (Kd.sl 5 (Kd.int .u8)).rd w [w0_1] a0.T F) (r : Bool) (m : impl_ItemOk.f a0 = some r) :
  Calls Try.prog 192 #[(.agg #[(.int .i64 a0.Kind), (.int .i64 a0.N), w0_0, w0_1])] w (RT (impl_ItemOk.Q w F) r) := by
 obtain ⟨s0, rfl, kp0, z⟩ := start0 w F
 have A0_0 := fl_of h0_0
 have A0_1 := z.rd h0_1
 refine calls_of_TM (args := [(.agg #[(.int .i64 a0.Kind), (.int .i64 a0.N), w0_0, w0_1])]) Try.func192 Try.ntmps192 rfl rfl m ?_
 unfold impl_ItemOk.f
 refine sr (bx' (cs := [(.int .i64 a0.Kind), (.int .i64 a0.N), w0_0, w0_1]) 40 rfl rfl (fun b2 s2 p2 B2 => ?_))
 refine pu' rfl (dn (sr (fa' fa48_0 rfl (ld' B2 Try.underlying3 rfl (cl' rfl Try.func139 rfl (fun r4 m4 => impl_within.calls a0.Kind (0 : Int) (3 : Int) s2.w (fun b => memb [] (s2.g b) = true)  r4 m4) ?_)))))
 rintro r4 _ w4 m4 ⟨rfl, ky4⟩
 obtain ⟨s5, rfl, p5, n5⟩ := nwx s2 w4 41 ky4
 refine pu' rfl (jy [6, 7, 8, 9, 10, 11, 12, 13, 14, 15] [13, 14, 15, 16, 17, 18, 19, 20, 21, 22, 23, 24, 25, 26, 27, 28, 29, 30, 31, 32, 33, 34, 35, 36, 37, 38, 39, 40, 41] 15 (.bool (r4 && ((a0.N == (0 : Int)) || (a0.Kind == (1 : Int))))) rfl (fun Kg6 => ?_) (fun j6 => ?_))
 ·
  rcases Bool.eq_false_or_eq_true r4 with hb6 | hb6
  ·
   refine sbT hb6 (fa' fa48_1 rfl ?_)
   have A7 := (BlF.st B2 p5 rfl)
   refine ld' A7 Try.underlying3 rfl (pu' rfl (pu' rfl (jy [10, 11, 12, 13, 14] [12, 13, 14, 15, 16, 17, 18, 19, 20, 21, 22, 23, 24, 25, 26, 27, 28, 29, 30, 31, 32, 33, 34, 35, 36, 37, 38, 39, 40, 41] 14 (.bool ((a0.N == (0 : Int)) || (a0.Kind == (1 : Int)))) rfl (fun Kg8 => ?_) (fun j8 => ?_))))
   ·
    rcases Bool.eq_false_or_eq_true (a0.N == (0 : Int)) with hb8 | hb8
    ·
     exact sbT hb8 (uw' rfl (uw' rfl (uw' rfl (pu' rfl (Kg8 _ (Ag.put ((Ag.put ((Ag.put ((Ag.put (Ag.base rfl) rfl)) rfl)) rfl)) rfl) (by rw [hb8]; rfl))))))
    ·
     exact sbT hb8 (fa' fa48_0 rfl (ld' A7 Try.underlying3 rfl (pu' rfl (pu' rfl (Kg8 _ (Ag.put ((Ag.put ((Ag.put ((Ag.put (Ag.base rfl) rfl)) rfl)) rfl)) rfl) (by rw [hb8]; rfl))))))
   exact pu' rfl (Kg6 _ (Ag.put ((Ag.put ((Ag.ov ((Ag.put ((Ag.put ((Ag.put ((Ag.put (Ag.base rfl) rfl)) rfl)) rfl)) rfl)) rfl)) rfl)) rfl) (by rw [hb6]; rfl))
  ·
   exact sbT hb6 (uw' rfl (uw' rfl (uw' rfl (uw' rfl (uw' rfl (uw' rfl (uw' rfl (uw' rfl (pu' rfl (Kg6 _ (Ag.put ((Ag.put ((Ag.put ((Ag.put ((Ag.put ((Ag.put ((Ag.put ((Ag.put ((Ag.put (Ag.base rfl) rfl)) rfl)) rfl)) rfl)) rfl)) rfl)) rfl)) rfl)) rfl) (by rw [hb6]; rfl)))))))))))
 refine pu' rfl (jy [16, 17, 18, 19, 20, 21, 22, 23, 24, 25, 26] [24, 25, 26, 27, 28, 29, 30, 31, 32, 33, 34, 35, 36, 37, 38, 39, 40, 41] 26 (.bool ((r4 && ((a0.N == (0 : Int)) || (a0.Kind == (1 : Int)))) && (((a0.F : Int) == 0) || (a0.Kind == (2 : Int))))) rfl (fun Kg9 => ?_) (fun j9 => ?_))
 ·
  rcases Bool.eq_false_or_eq_true (r4 && ((a0.N == (0 : Int)) || (a0.Kind == (1 : Int)))) with hb9 | hb9
  ·
   refine sbT hb9 (fa' fa48_2 rfl ?_)
   have A10 := (BlF.st B2 p5 rfl)
   refine ld' A10 Try.underlying36 rfl (fbu A0_0 rfl rfl rfl rfl rfl Try.func193 rfl rfl xn193 xf193 rfl (fun b11 A11 => ?_))
   refine fz0 A11 rfl rfl rfl rfl rfl rfl rfl (pu' rfl (jy [21, 22, 23, 24, 25] [23, 24, 25, 26, 27, 28, 29, 30, 31, 32, 33, 34, 35, 36, 37, 38, 39, 40, 41] 25 (.bool (((a0.F : Int) == 0) || (a0.Kind == (2 : Int)))) rfl (fun Kg12 => ?_) (fun j12 => ?_)))
   ·
    rcases Bool.eq_false_or_eq_true ((a0.F : Int) == 0) with hb12 | hb12
    ·
     exact sbT hb12 (uw' rfl (uw' rfl (uw' rfl (pu' rfl (Kg12 _ (Ag.put ((Ag.put ((Ag.put ((Ag.put (Ag.base rfl) rfl)) rfl)) rfl)) rfl) (by rw [hb12]; rfl))))))
    ·
     exact sbT hb12 (fa' fa48_0 rfl (ld' A10 Try.underlying3 rfl (pu' rfl (pu' rfl (Kg12 _ (Ag.put ((Ag.put ((Ag.put ((Ag.put (Ag.base rfl) rfl)) rfl)) rfl)) rfl) (by rw [hb12]; rfl))))))
   exact pu' rfl (Kg9 _ (Ag.put ((Ag.put ((Ag.ov ((Ag.put ((Ag.put ((Ag.put ((Ag.put ((Ag.put (Ag.base rfl) rfl)) rfl)) rfl)) rfl)) rfl)) rfl)) rfl)) rfl) (by rw [hb9]; rfl))
  ·
   exact sbT hb9 (uw' rfl (uw' rfl (uw' rfl (uw' rfl (uw' rfl (uw' rfl (uw' rfl (uw' rfl (uw' rfl (pu' rfl (Kg9 _ (Ag.put ((Ag.put ((Ag.put ((Ag.put ((Ag.put ((Ag.put ((Ag.put ((Ag.put ((Ag.put ((Ag.put (Ag.base rfl) rfl)) rfl)) rfl)) rfl)) rfl)) rfl)) rfl)) rfl)) rfl)) rfl) (by rw [hb9]; rfl))))))))))))
 refine pu' rfl (jy [27, 28, 29, 30, 31, 32, 33, 34, 35, 36, 37, 38, 39, 40, 41, 42, 43] [41] 43 (.bool (((r4 && ((a0.N == (0 : Int)) || (a0.Kind == (1 : Int)))) && (((a0.F : Int) == 0) || (a0.Kind == (2 : Int)))) && (((a0.T.length : Int) == (0 : Int)) || ((a0.Kind == (3 : Int)) && (decide ((a0.T.length : Int) ≤ (40 : Int))))))) rfl (fun Kg13 => ?_) (fun j13 => ?_))
 ·
  rcases Bool.eq_false_or_eq_true ((r4 && ((a0.N == (0 : Int)) || (a0.Kind == (1 : Int)))) && (((a0.F : Int) == 0) || (a0.Kind == (2 : Int)))) with hb13 | hb13
  ·
   refine sbT hb13 (fa' fa48_3 rfl ?_)
   have A14 := (BlF.st B2 p5 rfl)
   refine ld' A14 Try.underlying37 rfl ?_
   have K15 := (kp0.st (tr2 p2 p5) rfl)
   have A16 := (A0_1.kp K15)
   refine ln' A16 Try.underlying37 rfl (pu' rfl (pu' rfl (jy [32, 33, 34, 35, 36, 37, 38, 39, 40, 41, 42] [40, 41] 42 (.bool (((a0.T.length : Int) == (0 : Int)) || ((a0.Kind == (3 : Int)) && (decide ((a0.T.length : Int) ≤ (40 : Int)))))) rfl (fun Kg17 => ?_) (fun j17 => ?_))))
   ·
    rcases Bool.eq_false_or_eq_true ((a0.T.length : Int) == (0 : Int)) with hb17 | hb17
    ·
     exact sbT hb17 (uw' rfl (uw' rfl (uw' rfl (uw' rfl (uw' rfl (uw' rfl (uw' rfl (uw' rfl (uw' rfl (pu' rfl (Kg17 _ (Ag.put ((Ag.put ((Ag.put ((Ag.put ((Ag.put ((Ag.put ((Ag.put ((Ag.put ((Ag.put ((Ag.put (Ag.base rfl) rfl)) rfl)) rfl)) rfl)) rfl)) rfl)) rfl)) rfl)) rfl)) rfl) (by rw [hb17]; rfl))))))))))))
    ·
     refine sbT hb17 (fa' fa48_0 rfl (ld' A14 Try.underlying3 rfl (pu' rfl (pu' rfl (jy [36, 37, 38, 39, 40, 41] [39, 40, 41] 41 (.bool ((a0.Kind == (3 : Int)) && (decide ((a0.T.length : Int) ≤ (40 : Int))))) rfl (fun Kg18 => ?_) (fun j18 => ?_))))))
     ·
      rcases Bool.eq_false_or_eq_true (a0.Kind == (3 : Int)) with hb18 | hb18
      ·
       exact sbT hb18 (fa' fa48_3 rfl (ld' A14 Try.underlying37 rfl (ln' A16 Try.underlying37 rfl (pu' rfl (pu' rfl (Kg18 _ (Ag.put ((Ag.put ((Ag.put ((Ag.put ((Ag.put (Ag.base rfl) rfl)) rfl)) rfl)) rfl)) rfl) (by rw [hb18]; rfl)))))))
      ·
       exact sbT hb18 (uw' rfl (uw' rfl (uw' rfl (uw' rfl (pu' rfl (Kg18 _ (Ag.put ((Ag.put ((Ag.put ((Ag.put ((Ag.put (Ag.base rfl) rfl)) rfl)) rfl)) rfl)) rfl) (by rw [hb18]; rfl)))))))
     exact pu' rfl (Kg17 _ (Ag.put ((Ag.put ((Ag.ov ((Ag.put ((Ag.put ((Ag.put ((Ag.put (Ag.base rfl) rfl)) rfl)) rfl)) rfl)) rfl)) rfl)) rfl) (by rw [hb17]; rfl))
   exact pu' rfl (Kg13 _ (Ag.put ((Ag.put ((Ag.ov ((Ag.put ((Ag.put ((Ag.put ((Ag.put ((Ag.put (Ag.base rfl) rfl)) rfl)) rfl)) rfl)) rfl)) rfl)) rfl)) rfl) (by rw [hb13]; rfl))
  ·
   refine sbT hb13 (uw' rfl (uw' rfl (uw' rfl (uw' rfl (uw' rfl (uw' rfl (uw' rfl (uw' rfl (uw' rfl (uw' rfl (uw' rfl (uw' rfl (uw' rfl (uw' rfl ?_))))))))))))))
   exact uw' rfl (pu' rfl (Kg13 _ (Ag.put ((Ag.put ((Ag.put ((Ag.put ((Ag.put ((Ag.put ((Ag.put ((Ag.put ((Ag.put ((Ag.put ((Ag.put ((Ag.put ((Ag.put ((Ag.put ((Ag.put ((Ag.put (Ag.base rfl) rfl)) rfl)) rfl)) rfl)) rfl)) rfl)) rfl)) rfl)) rfl)) rfl)) rfl)) rfl)) rfl)) rfl)) rfl)) rfl) (by rw [hb13]; rfl)))
 refine pu' rfl (dn ?_)
 have K19 := (kp0.st (tr2 p2 p5) rfl)
 exact re rfl Try.func192 rfl (r_t rfl r_nil) rfl ⟨_, rfl, rfl, z.ky K19⟩
noncomputable def impl_KeyOk.f (a0 : Item) : Option (Bool) :=
 ((impl_ItemOk.f a0).bind fun r6 => (some ((r6 && (a0.Kind != (0 : Int))) && ((fcmp .f64 a0.F (0 : Nat) != some .eq) || ((a0.F : Int) == 0)))))
def impl_KeyOk.Q (w : World) (F : Nat → Prop) (r : Bool) (v : Value) (w' : World) : Prop :=
 v = (.bool r) ∧ Ky [] w w'
set_option maxHeartbeats 4000000 in
set_option maxRecDepth 100000 in
theorem impl_KeyOk.calls (a0 : Item) (w : World) (F : Nat → Prop) (w0_0 : Value) (w0_1 : Value) (h0_0 : Kd.flt.rd w [w0_0] a0.F F) (h0_1 : (Kd.sl 5 (Kd.int .u8)).rd w [w0_1] a0.T F) (r : Bool) (m : impl_KeyOk.f a0 = some r) :
  Calls Try.prog 141 #[(.agg #[(.int .i64 a0.Kind), (.int .i64 a0.N), w0_0, w0_1])] w (RT (impl_KeyOk.Q w F) r) := by
 obtain ⟨s0, rfl, kp0, z⟩ := start0 w F
 have A0_0 := fl_of h0_0
 have A0_1 := z.rd h0_1
 refine calls_of_TM (args := [(.agg #[(.int .i64 a0.Kind), (.int .i64 a0.N), w0_0, w0_1])]) Try.func141 Try.ntmps141 rfl rfl m ?_
 unfold impl_KeyOk.f
 refine sr (bx' (cs := [(.int .i64 a0.Kind), (.int .i64 a0.N), w0_0, w0_1]) 40 rfl rfl (fun b2 s2 p2 B2 => ?_))
 refine pu' rfl (dn (sr (lda' (es := [(.int .i64 a0.Kind), (.int .i64 a0.N), w0_0, w0_1]) B2 Try.underlying48 z48 rfl ?_)))
 have K4 := (kp0.st p2 rfl)
 have A5 := (A0_1.kp K4)
 refine cl' rfl Try.func192 rfl (fun r6 m6 => impl_ItemOk.calls a0 s2.w (fun b => memb [0] (s2.g b) = true) w0_0 w0_1 ((fl_rdf (s := s2) A0_0).sub (D := [0]) rfl) A5 r6 m6) ?_
 rintro r6 _ w6 m6 ⟨rfl, ky6⟩
 obtain ⟨s7, rfl, p7, n7⟩ := nwx s2 w6 41 ky6
 refine pu' rfl (jy [5, 6, 7, 8, 9] [7, 8, 9, 10, 11, 12, 13, 14, 15, 16, 17, 18] 9 (.bool (r6 && (a0.Kind != (0 : Int)))) rfl (fun Kg8 => ?_) (fun j8 => ?_))
 ·
  rcases Bool.eq_false_or_eq_true r6 with hb8 | hb8
  ·
   refine sbT hb8 (fa' fa48_0 rfl ?_)
   have A9 := (BlF.st B2 p7 rfl)
   exact ld' A9 Try.underlying3 rfl (pu' rfl (pu' rfl (Kg8 _ (Ag.put ((Ag.put ((Ag.put ((Ag.put (Ag.base rfl) rfl)) rfl)) rfl)) rfl) (by rw [hb8]; rfl))))
  ·
   exact sbT hb8 (uw' rfl (uw' rfl (uw' rfl (pu' rfl (Kg8 _ (Ag.put ((Ag.put ((Ag.put ((Ag.put (Ag.base rfl) rfl)) rfl)) rfl)) rfl) (by rw [hb8]; rfl))))))
 refine pu' rfl (jy [10, 11, 12, 13, 14, 15, 16, 17, 18, 19, 20] [18] 20 (.bool ((r6 && (a0.Kind != (0 : Int))) && ((fcmp .f64 a0.F (0 : Nat) != some .eq) || ((a0.F : Int) == 0)))) rfl (fun Kg10 => ?_) (fun j10 => ?_))
 ·
  rcases Bool.eq_false_or_eq_true (r6 && (a0.Kind != (0 : Int))) with hb10 | hb10
  ·
   refine sbT hb10 (fa' fa48_2 rfl ?_)
   have A11 := (BlF.st B2 p7 rfl)
   refine ld' A11 Try.underlying36 rfl (fq_' A0_0 (fl_c rfl) rfl (pu' rfl (jy [14, 15, 16, 17, 18, 19] [17, 18] 19 (.bool ((fcmp .f64 a0.F (0 : Nat) != some .eq) || ((a0.F : Int) == 0))) rfl (fun Kg12 => ?_) (fun j12 => ?_))))
   ·
    rcases Bool.eq_false_or_eq_true (fcmp .f64 a0.F (0 : Nat) != some .eq) with hb12 | hb12
    ·
     exact sbT hb12 (uw' rfl (uw' rfl (uw' rfl (uw' rfl (pu' rfl (Kg12 _ (Ag.put ((Ag.put ((Ag.put ((Ag.put ((Ag.put (Ag.base rfl) rfl)) rfl)) rfl)) rfl)) rfl) (by rw [hb12]; rfl)))))))
    ·
     refine sbT hb12 (fa' fa48_2 rfl (ld' A11 Try.underlying36 rfl (fbu A0_0 rfl rfl rfl rfl rfl Try.func193 rfl rfl xn193 xf193 rfl (fun b13 A13 => ?_))))
     exact fz0 A13 rfl rfl rfl rfl rfl rfl rfl (pu' rfl (Kg12 _ (Ag.put ((Ag.put ((Ag.put ((Ag.put ((Ag.put (Ag.base rfl) rfl)) rfl)) rfl)) rfl)) rfl) (by rw [hb12]; rfl)))
   exact pu' rfl (Kg10 _ (Ag.put ((Ag.put ((Ag.ov ((Ag.put ((Ag.put ((Ag.put ((Ag.put (Ag.base rfl) rfl)) rfl)) rfl)) rfl)) rfl)) rfl)) rfl) (by rw [hb10]; rfl))
  ·
   exact sbT hb10 (uw' rfl (uw' rfl (uw' rfl (uw' rfl (uw' rfl (uw' rfl (uw' rfl (uw' rfl (uw' rfl (pu' rfl (Kg10 _ (Ag.put ((Ag.put ((Ag.put ((Ag.put ((Ag.put ((Ag.put ((Ag.put ((Ag.put ((Ag.put ((Ag.put (Ag.base rfl) rfl)) rfl)) rfl)) rfl)) rfl)) rfl)) rfl)) rfl)) rfl)) rfl) (by rw [hb10]; rfl))))))))))))
 refine pu' rfl (dn ?_)
 have K14 := (K4.st p7 rfl)
 exact re rfl Try.func141 rfl (r_t rfl r_nil) rfl ⟨_, rfl, rfl, z.ky K14⟩
noncomputable def cmp_isNaN_int.f (a0 : Int) : Option (Bool) :=
 (some (a0 != a0))
def cmp_isNaN_int.Q (w : World) (F : Nat → Prop) (r : Bool) (v : Value) (w' : World) : Prop :=
 v = (.bool r) ∧ Ky [] w w'
set_option maxHeartbeats 4000000 in
set_option maxRecDepth 100000 in
theorem cmp_isNaN_int.calls (a0 : Int) (w : World) (F : Nat → Prop)   (r : Bool) (m : cmp_isNaN_int.f a0 = some r) :
  Calls Try.prog 216 #[(.int .i64 a0)] w (RT (cmp_isNaN_int.Q w F) r) := by
 obtain ⟨s0, rfl, kp0, z⟩ := start0 w F
 refine calls_of_TM (args := [(.int .i64 a0)]) Try.func216 Try.ntmps216 rfl rfl m ?_
 unfold cmp_isNaN_int.f
 exact sr (pu' rfl (dn (sr (pu' rfl (pu' rfl (pu' rfl (pu' rfl (dn (re rfl Try.func216 rfl (r_t rfl r_nil) rfl ⟨_, rfl, rfl, z.ky kp0⟩)))))))))
noncomputable def cmp_Compare_int.f (a0 : Int) (a1 : Int) : Option (Int) :=
 ((cmp_isNaN_int.f a0).bind fun r1 => ((cmp_isNaN_int.f a1).bind fun r3 => (if r1 = true then (if r3 = true then (some (0 : Int)) else (some (-1 : Int))) else (if r3 = true then (some (1 : Int)) else (if (decide (a0 < a1)) = true then (some (-1 : Int)) else (if (decide (a0 > a1)) = true then (some (1 : Int)) else (some (0 : Int))))))))
def cmp_Compare_int.Q (w : World) (F : Nat → Prop) (r : Int) (v : Value) (w' : World) : Prop :=
 v = (.int .i64 r) ∧ Ky [] w w'
set_option maxHeartbeats 4000000 in
set_option maxRecDepth 100000 in
theorem cmp_Compare_int.calls (a0 : Int) (a1 : Int) (w : World) (F : Nat → Prop)   (r : Int) (m : cmp_Compare_int.f a0 a1 = some r) :
  Calls Try.prog 195 #[(.int .i64 a0), (.int .i64 a1)] w (RT (cmp_Compare_int.Q w F) r) := by
 obtain ⟨s0, rfl, kp0, z⟩ := start0 w F
 refine calls_of_TM (args := [(.int .i64 a0), (.int .i64 a1)]) Try.func195 Try.ntmps195 rfl rfl m ?_
 unfold cmp_Compare_int.f
 refine sr (pu' rfl (dn (sr (pu' rfl (cl' rfl Try.func216 rfl (fun r1 m1 => cmp_isNaN_int.calls a0 s0.w (fun b => memb [] (s0.g b) = true)  r1 m1) ?_)))))
 rintro r1 _ w1 m1 ⟨rfl, ky1⟩
 obtain ⟨s2, rfl, p2, n2⟩ := nwx s0 w1 40 ky1
 refine pu' rfl (dn (sr (pu' rfl (cl' rfl Try.func216 rfl (fun r3 m3 => cmp_isNaN_int.calls a1 s2.w (fun b => memb [] (s2.g b) = true)  r3 m3) ?_))))
 rintro r3 _ w3 m3 ⟨rfl, ky3⟩
 obtain ⟨s4, rfl, p4, n4⟩ := nwx s2 w3 41 ky3
 refine pu' rfl (dn (sq (sr (pu' rfl (dn (cd rfl (fun h5 => ?_) (fun h5 => ?_)))))))
 ·
  refine sq (sr (pu' rfl (dn (cd rfl (fun h6 => ?_) (fun h6 => ?_)))))
  ·
   refine sr (pu' rfl (dn ?_))
   have K7 := (kp0.st (tr2 p2 p4) rfl)
   exact re rfl Try.func195 rfl (r_t rfl r_nil) rfl ⟨_, rfl, rfl, z.ky K7⟩
  ·
   refine sk (sr (pu' rfl (dn ?_)))
   have K8 := (kp0.st (tr2 p2 p4) rfl)
   exact re rfl Try.func195 rfl (r_t rfl r_nil) rfl ⟨_, rfl, rfl, z.ky K8⟩
 ·
  refine sk (sq (sr (pu' rfl (dn (cd rfl (fun h9 => ?_) (fun h9 => ?_))))))
  ·
   refine sr (pu' rfl (dn ?_))
   have K10 := (kp0.st (tr2 p2 p4) rfl)
   exact re rfl Try.func195 rfl (r_t rfl r_nil) rfl ⟨_, rfl, rfl, z.ky K10⟩
  ·
   refine sk (sq (sr (pu' rfl (pu' rfl (pu' rfl (dn (cd rfl (fun h11 => ?_) (fun h11 => ?_))))))))
   ·
    refine sr (pu' rfl (dn ?_))
    have K12 := (kp0.st (tr2 p2 p4) rfl)
    exact re rfl Try.func195 rfl (r_t rfl r_nil) rfl ⟨_, rfl, rfl, z.ky K12⟩
   ·
    refine sk (sq (sr (pu' rfl (pu' rfl (pu' rfl (dn (cd rfl (fun h13 => ?_) (fun h13 => ?_))))))))
    ·
     refine sr (pu' rfl (dn ?_))
     have K14 := (kp0.st (tr2 p2 p4) rfl)
     exact re rfl Try.func195 rfl (r_t rfl r_nil) rfl ⟨_, rfl, rfl, z.ky K14⟩
    ·
     refine sk (sr (pu' rfl (dn ?_)))
     have K15 := (kp0.st (tr2 p2 p4) rfl)
     exact re rfl Try.func195 rfl (r_t rfl r_nil) rfl ⟨_, rfl, rfl, z.ky K15⟩
noncomputable def impl_FloatRank.f (a0 : Nat) : Option (Int) :=
 (if (fcmp .f64 a0 a0 != some .eq) = true then (some (18446744073709551615 : Int)) else (if (fcmp .f64 a0 (0 : Nat) == some .eq) = true then (some (9223372036854775808 : Int)) else (if (fcmp .f64 a0 (0 : Nat) == some .gt) = true then (if isN a0 = false then (some (ior .u64 (a0 : Int) (9223372036854775808 : Int))) else none) else (if isN a0 = false then (some (ixor .u64 (IntKind.max .u64) (a0 : Int))) else none))))
def impl_FloatRank.Q (w : World) (F : Nat → Prop) (r : Int) (v : Value) (w' : World) : Prop :=
 v = (.int .u64 r) ∧ Ky [] w w'
set_option maxHeartbeats 4000000 in
set_option maxRecDepth 100000 in
theorem impl_FloatRank.calls (a0 : Nat) (w : World) (F : Nat → Prop) (w0_0 : Value) (h0_0 : Kd.flt.rd w [w0_0] a0 F) (r : Int) (m : impl_FloatRank.f a0 = some r) :
  Calls Try.prog 223 #[w0_0] w (RT (impl_FloatRank.Q w F) r) := by
 obtain ⟨s0, rfl, kp0, z⟩ := start0 w F
 have A0_0 := fl_of h0_0
 refine calls_of_TM (args := [w0_0]) Try.func223 Try.ntmps223 rfl rfl m ?_
 unfold impl_FloatRank.f
 refine sr (pu' rfl (dn (sq (bl (sr (mv' w0_0 rfl (mv' w0_0 rfl (fq_' A0_0 A0_0 rfl (pu' rfl (dn (cd rfl (fun h1 => ?_) (fun h1 => ?_))))))))))))
 ·
  exact sr (pu' rfl (dn (re rfl Try.func223 rfl (r_t rfl r_nil) rfl ⟨_, rfl, rfl, z.ky kp0⟩)))
 ·
  refine sr (mv' w0_0 rfl (fq_' A0_0 (fl_c rfl) rfl (pu' rfl (dn (cd rfl (fun h2 => ?_) (fun h2 => ?_))))))
  ·
   exact sr (pu' rfl (dn (re rfl Try.func223 rfl (r_t rfl r_nil) rfl ⟨_, rfl, rfl, z.ky kp0⟩)))
  ·
   refine sr (mv' w0_0 rfl (fq_' A0_0 (fl_c rfl) rfl (pu' rfl (dn (cd rfl (fun h3 => ?_) (fun h3 => ?_))))))
   ·
    exact sr (mv' w0_0 rfl (fb_ A0_0 rfl rfl rfl rfl rfl Try.func193 rfl rfl xn193 xf193 rfl (pu' rfl (pu' rfl (dn (re rfl Try.func223 rfl (r_t rfl r_nil) rfl ⟨_, rfl, rfl, z.ky kp0⟩))))))
   ·
    exact sk (ib (sr (mv' w0_0 rfl (fb_ A0_0 rfl rfl rfl rfl rfl Try.func193 rfl rfl xn193 xf193 rfl (pu' rfl (pu' rfl (dn (re rfl Try.func223 rfl (r_t rfl r_nil) rfl ⟨_, rfl, rfl, z.ky kp0⟩))))))))
noncomputable def cmp_isNaN_uint64.f (a0 : Int) : Option (Bool) :=
 (some (a0 != a0))
def cmp_isNaN_uint64.Q (w : World) (F : Nat → Prop) (r : Bool) (v : Value) (w' : World) : Prop :=
 v = (.bool r) ∧ Ky [] w w'
set_option maxHeartbeats 4000000 in
set_option maxRecDepth 100000 in
theorem cmp_isNaN_uint64.calls (a0 : Int) (w : World) (F : Nat → Prop)   (r : Bool) (m : cmp_isNaN_uint64.f a0 = some r) :
  Calls Try.prog 227 #[(.int .u64 a0)] w (RT (cmp_isNaN_uint64.Q w F) r) := by
 obtain ⟨s0, rfl, kp0, z⟩ := start0 w F
 refine calls_of_TM (args := [(.int .u64 a0)]) Try.func227 Try.ntmps227 rfl rfl m ?_
 unfold cmp_isNaN_uint64.f
 exact sr (pu' rfl (dn (sr (pu' rfl (pu' rfl (pu' rfl (pu' rfl (dn (re rfl Try.func227 rfl (r_t rfl r_nil) rfl ⟨_, rfl, rfl, z.ky kp0⟩)))))))))
noncomputable def cmp_Compare_uint64.f (a0 : Int) (a1 : Int) : Option (Int) :=
 ((cmp_isNaN_uint64.f a0).bind fun r1 => ((cmp_isNaN_uint64.f a1).bind fun r3 => (if r1 = true then (if r3 = true then (some (0 : Int)) else (some (-1 : Int))) else (if r3 = true then (some (1 : Int)) else (if (decide (a0 < a1)) = true then (some (-1 : Int)) else (if (decide (a0 > a1)) = true then (some (1 : Int)) else (some (0 : Int))))))))
def cmp_Compare_uint64.Q (w : World) (F : Nat → Prop) (r : Int) (v : Value) (w' : World) : Prop :=
 v = (.int .i64 r) ∧ Ky [] w w'
set_option maxHeartbeats 4000000 in
set_option maxRecDepth 100000 in
theorem cmp_Compare_uint64.calls (a0 : Int) (a1 : Int) (w : World) (F : Nat → Prop)   (r : Int) (m : cmp_Compare_uint64.f a0 a1 = some r) :
  Calls Try.prog 222 #[(.int .u64 a0), (.int .u64 a1)] w (RT (cmp_Compare_uint64.Q w F) r) := by
 obtain ⟨s0, rfl, kp0, z⟩ := start0 w F
 refine calls_of_TM (args := [(.int .u64 a0), (.int .u64 a1)]) Try.func222 Try.ntmps222 rfl rfl m ?_
 unfold cmp_Compare_uint64.f
 refine sr (pu' rfl (dn (sr (pu' rfl (cl' rfl Try.func227 rfl (fun r1 m1 => cmp_isNaN_uint64.calls a0 s0.w (fun b => memb [] (s0.g b) = true)  r1 m1) ?_)))))
 rintro r1 _ w1 m1 ⟨rfl, ky1⟩
 obtain ⟨s2, rfl, p2, n2⟩ := nwx s0 w1 40 ky1
 refine pu' rfl (dn (sr (pu' rfl (cl' rfl Try.func227 rfl (fun r3 m3 => cmp_isNaN_uint64.calls a1 s2.w (fun b => memb [] (s2.g b) = true)  r3 m3) ?_))))
 rintro r3 _ w3 m3 ⟨rfl, ky3⟩
 obtain ⟨s4, rfl, p4, n4⟩ := nwx s2 w3 41 ky3
 refine pu' rfl (dn (sq (sr (pu' rfl (dn (cd rfl (fun h5 => ?_) (fun h5 => ?_)))))))
 ·
  refine sq (sr (pu' rfl (dn (cd rfl (fun h6 => ?_) (fun h6 => ?_)))))
  ·
   refine sr (pu' rfl (dn ?_))
   have K7 := (kp0.st (tr2 p2 p4) rfl)
   exact re rfl Try.func222 rfl (r_t rfl r_nil) rfl ⟨_, rfl, rfl, z.ky K7⟩
  ·
   refine sk (sr (pu' rfl (dn ?_)))
   have K8 := (kp0.st (tr2 p2 p4) rfl)
   exact re rfl Try.func222 rfl (r_t rfl r_nil) rfl ⟨_, rfl, rfl, z.ky K8⟩
 ·
  refine sk (sq (sr (pu' rfl (dn (cd rfl (fun h9 => ?_) (fun h9 => ?_))))))
  ·
   refine sr (pu' rfl (dn ?_))
   have K10 := (kp0.st (tr2 p2 p4) rfl)
   exact re rfl Try.func222 rfl (r_t rfl r_nil) rfl ⟨_, rfl, rfl, z.ky K10⟩
  ·
   refine sk (sq (sr (pu' rfl (pu' rfl (pu' rfl (dn (cd rfl (fun h11 => ?_) (fun h11 => ?_))))))))
   ·
    refine sr (pu' rfl (dn ?_))
    have K12 := (kp0.st (tr2 p2 p4) rfl)
    exact re rfl Try.func222 rfl (r_t rfl r_nil) rfl ⟨_, rfl, rfl, z.ky K12⟩
   ·
    refine sk (sq (sr (pu' rfl (pu' rfl (pu' rfl (dn (cd rfl (fun h13 => ?_) (fun h13 => ?_))))))))
    ·
     refine sr (pu' rfl (dn ?_))
     have K14 := (kp0.st (tr2 p2 p4) rfl)
     exact re rfl Try.func222 rfl (r_t rfl r_nil) rfl ⟨_, rfl, rfl, z.ky K14⟩
    ·
     refine sk (sr (pu' rfl (dn ?_)))
     have K15 := (kp0.st (tr2 p2 p4) rfl)
     exact re rfl Try.func222 rfl (r_t rfl r_nil) rfl ⟨_, rfl, rfl, z.ky K15⟩
noncomputable def impl_FloatCompare.f (a0 : Nat) (a1 : Nat) : Option (Int) :=
 ((impl_FloatRank.f a0).bind fun r1 => ((impl_FloatRank.f a1).bind fun r3 => ((cmp_Compare_uint64.f r1 r3).bind fun r5 => (some r5))))
def impl_FloatCompare.Q (w : World) (F : Nat → Prop) (r : Int) (v : Value) (w' : World) : Prop :=
 v = (.int .i64 r) ∧ Ky [] w w'
set_option maxHeartbeats 4000000 in
set_option maxRecDepth 100000 in
theorem impl_FloatCompare.calls (a0 : Nat) (a1 : Nat) (w : World) (F : Nat → Prop) (w0_0 : Value) (w1_0 : Value) (h0_0 : Kd.flt.rd w [w0_0] a0 F) (h1_0 : Kd.flt.rd w [w1_0] a1 F) (r : Int) (m : impl_FloatCompare.f a0 a1 = some r) :
  Calls Try.prog 205 #[w0_0, w1_0] w (RT (impl_FloatCompare.Q w F) r) := by
 obtain ⟨s0, rfl, kp0, z⟩ := start0 w F
 have A0_0 := fl_of h0_0
 have A1_0 := fl_of h1_0
 refine calls_of_TM (args := [w0_0, w1_0]) Try.func205 Try.ntmps205 rfl rfl m ?_
 unfold impl_FloatCompare.f
 refine sr (pu' rfl (dn (sr (mv' w0_0 rfl (cl' rfl Try.func223 rfl (fun r1 m1 => impl_FloatRank.calls a0 s0.w (fun b => memb [] (s0.g b) = true) w0_0 (fl_rdf (s := s0) A0_0) r1 m1) ?_)))))
 rintro r1 _ w1 m1 ⟨rfl, ky1⟩
 obtain ⟨s2, rfl, p2, n2⟩ := nwx s0 w1 40 ky1
 refine mv' w1_0 rfl (cl' rfl Try.func223 rfl (fun r3 m3 => impl_FloatRank.calls a1 s2.w (fun b => memb [] (s2.g b) = true) w1_0 (fl_rdf (s := s2) A1_0) r3 m3) ?_)
 rintro r3 _ w3 m3 ⟨rfl, ky3⟩
 obtain ⟨s4, rfl, p4, n4⟩ := nwx s2 w3 41 ky3
 refine cl' rfl Try.func222 rfl (fun r5 m5 => cmp_Compare_uint64.calls r1 r3 s4.w (fun b => memb [] (s4.g b) = true)  r5 m5) ?_
 rintro r5 _ w5 m5 ⟨rfl, ky5⟩
 obtain ⟨s6, rfl, p6, n6⟩ := nwx s4 w5 42 ky5
 refine pu' rfl (dn ?_)
 have K7 := (kp0.st (tr3 p2 p4 p6) rfl)
 exact re rfl Try.func205 rfl (r_t rfl r_nil) rfl ⟨_, rfl, rfl, z.ky K7⟩
noncomputable def bytes_Compare.f (a0 : (List Int)) (a1 : (List Int)) : Option (Int) :=
 (some (bcmpS a0 a1))
def bytes_Compare.Q (w : World) (F : Nat → Prop) (r : Int) (v : Value) (w' : World) : Prop :=
 v = (.int .i64 r) ∧ Ky [] w w'
set_option maxHeartbeats 4000000 in
set_option maxRecDepth 100000 in
theorem bytes_Compare.calls (a0 : (List Int)) (a1 : (List Int)) (w : World) (F : Nat → Prop) (w0_0 : Value) (w1_0 : Value) (h0_0 : (Kd.sl 5 (Kd.int .u8)).rd w [w0_0] a0 F) (h1_0 : (Kd.sl 5 (Kd.int .u8)).rd w [w1_0] a1 F) (r : Int) (m : bytes_Compare.f a0 a1 = some r) :
  Calls Try.prog 206 #[w0_0, w1_0] w (RT (bytes_Compare.Q w F) r) := by
 obtain ⟨s0, rfl, kp0, z⟩ := start0 w F
 have A0_0 := z.rd h0_0
 have A1_0 := z.rd h1_0
 refine calls_of_TM (args := [w0_0, w1_0]) Try.func206 Try.ntmps206 rfl rfl m ?_
 unfold bytes_Compare.f
 exact sr (pu' rfl (dn (sr (mv' w0_0 rfl (mv' w1_0 rfl (bcx A0_0 A1_0 rfl rfl rfl rfl rfl Try.func224 rfl rfl xn224 xf224 rfl rfl (pu' rfl (dn (re rfl Try.func206 rfl (r_t rfl r_nil) rfl ⟨_, rfl, rfl, z.ky kp0⟩)))))))))
noncomputable def cmp_Or_int.b0 (a0 : (List Int)) (x2 : Int) : Option (Int ⊕ Int) :=
 (if (decide (x2 < (a0.length : Int))) = true then (if 0 ≤ x2 ∧ x2 < (a0.length : Int) then (if ((at_ a0 x2) != (0 : Int)) = true then (some (Sum.inr (at_ a0 x2))) else (some (Sum.inl (IntKind.wrap .i64 (x2 + (1 : Int)))))) else none) else ((some (0 : Int)).bind fun o => some (Sum.inr o)))
noncomputable def cmp_Or_int.f (a0 : (List Int)) : Option (Int) :=
 (iter (cmp_Or_int.b0 a0) (0 : Int))
def cmp_Or_int.Q (w : World) (F : Nat → Prop) (r : Int) (v : Value) (w' : World) : Prop :=
 v = (.int .i64 r) ∧ Ky [] w w'
set_option maxHeartbeats 4000000 in
set_option maxRecDepth 100000 in
theorem cmp_Or_int.calls (a0 : (List Int)) (w : World) (F : Nat → Prop) (w0_0 : Value) (h0_0 : (Kd.sl 3 (Kd.int .i64)).rd w [w0_0] a0 F) (r : Int) (m : cmp_Or_int.f a0 = some r) :
  Calls Try.prog 194 #[w0_0] w (RT (cmp_Or_int.Q w F) r) := by
 obtain ⟨s0, rfl, kp0, z⟩ := start0 w F
 have A0_0 := z.rd h0_0
 refine calls_of_TM (args := [w0_0]) Try.func194 Try.ntmps194 rfl rfl m ?_
 unfold cmp_Or_int.f
 refine sr (pu' rfl (dn (sr (pu' rfl (dn (sq (sr (mv' w0_0 rfl (ln' A0_0 Try.underlying24 rfl (pu' rfl (dn (bl (lpI (fun (x2 : Int) (e : Env) (w : World) => ∃ (s : St) (e0 : Env), w = s.w ∧ e = upd (upd (upd (upd e0 3 (.int .i64 (0 : Int))) 6 w0_0) 7 (.int .i64 (a0.length : Int))) 8 (.int .i64 x2) ∧ Kp s0 s) ⟨s0, _, rfl, (ue (ue (ue (ue rfl rfl) rfl) rfl) rfl), kp0⟩ (fun g2 ih2 => ?_))))))))))))))
 rintro x2 _ _ ⟨s3, _, rfl, rfl, Kx2⟩
 unfold cmp_Or_int.b0
 refine sr (pu' rfl (dn (sq (cd rfl (fun h4 => ?_) (fun h4 => ?_)))))
 ·
  refine sk (sq (bl (sr ?_)))
  have A5 := (A0_0.kp Kx2)
  refine ix' A5 Try.underlying24 z3 rfl (fun ad6 es6 h0_6 h1_6 he6 ce6 ia6 => ?_)
  obtain rfl := he6
  refine lc0 ce6 Try.underlying3 rfl rfl rfl rfl rfl rfl rfl rfl (pu' rfl (dn (sr (pu' rfl (pu' rfl (pu' rfl (dn (cd rfl (fun h8 => ?_) (fun h8 => ?_)))))))))
  ·
   exact sr (pu' rfl (pu' rfl (dn (sgi (re rfl Try.func194 rfl (r_t rfl r_nil) rfl ⟨_, rfl, rfl, z.ky Kx2⟩)))))
  ·
   exact sk (ib (rg (pu' rfl (pu' rfl (dn (lb ih2 ⟨s3, _, rfl, (ue (ue (ue (ue rfl rfl) rfl) rfl) rfl), Kx2⟩))))))
 ·
  exact xt rfl (sgb (sr (pu' rfl (pu' rfl (dn (re rfl Try.func194 rfl (r_t rfl r_nil) rfl ⟨_, rfl, rfl, z.ky Kx2⟩))))))
noncomputable def impl_compareItems.f (a0 : Item) (a1 : Item) : Option (Int) :=
 ((cmp_Compare_int.f a0.Kind a1.Kind).bind fun r41 => ((cmp_Compare_int.f a0.N a1.N).bind fun r51 => ((impl_FloatCompare.f a0.F a1.F).bind fun r59 => ((bytes_Compare.f a0.T a1.T).bind fun r67 => ((cmp_Or_int.f ([r41, r51, r59, r67])).bind fun r71 => (some r71))))))
def impl_compareItems.Q (w : World) (F : Nat → Prop) (r : Int) (v : Value) (w' : World) : Prop :=
 v = (.int .i64 r) ∧ Ky [] w w'
set_option maxHeartbeats 4000000 in
set_option maxRecDepth 100000 in
theorem impl_compareItems.calls (a0 : Item) (a1 : Item) (w : World) (F : Nat → Prop) (w0_0 : Value) (w0_1 : Value) (w1_0 : Value) (w1_1 : Value) (h0_0 : Kd.flt.rd w [w0_0] a0.F F) (h0_1 : (Kd.sl 5 (Kd.int .u8)).rd w [w0_1] a0.T F) (h1_0 : Kd.flt.rd w [w1_0] a1.F F) (h1_1 : (Kd.sl 5 (Kd.int .u8)).rd w [w1_1] a1.T F) (r : Int) (m : impl_compareItems.f a0 a1 = some r) :
  Calls Try.prog 170 #[(.agg #[(.int .i64 a0.Kind), (.int .i64 a0.N), w0_0, w0_1]), (.agg #[(.int .i64 a1.Kind), (.int .i64 a1.N), w1_0, w1_1])] w (RT (impl_compareItems.Q w F) r) := by
 obtain ⟨s0, rfl, kp0, z⟩ := start0 w F
 have A0_0 := fl_of h0_0
 have A0_1 := z.rd h0_1
 have A1_0 := fl_of h1_0
 have A1_1 := z.rd h1_1
 refine calls_of_TM (args := [(.agg #[(.int .i64 a0.Kind), (.int .i64 a0.N), w0_0, w0_1]), (.agg #[(.int .i64 a1.Kind), (.int .i64 a1.N), w1_0, w1_1])]) Try.func170 Try.ntmps170 rfl rfl m ?_
 unfold impl_compareItems.f
 refine sr (bx' (cs := [(.int .i64 a0.Kind), (.int .i64 a0.N), w0_0, w0_1]) 40 rfl rfl (fun b3 s3 p3 B3 => ?_))
 refine bx' (cs := [(.int .i64 a1.Kind), (.int .i64 a1.N), w1_0, w1_1]) 41 rfl rfl (fun b5 s5 p5 B5 => ?_)
 refine pu' rfl (dn (sq (zdraw [[], [0], [], [2], [1, 3], [], [5], [], [7], [6, 8, 4], [], [10], [], [12], [11, 13, 9], [], [15], [], [17], [16, 18, 14], [4, 9, 14, 19], [20, 19], [21, 21, 0, 1, 2, 3, 4, 5, 6, 7, 8, 9, 10, 11, 12, 13, 14, 15, 16, 17, 18, 19, 20, 21]] [some 5, some 6, some 7, some 8, some 9, some 10, some 11, some 12, some 13, some 14, some 15, some 16, some 17, some 18, some 19, some 20, some 21, some 22, some 23, some 24, some 25, some 26, some 4] [[2], [5], [3], [7], [6, 8], [2], [10], [3], [12], [11, 13], [2], [15], [3], [17], [16, 18], [2], [20], [3], [22], [21, 23], [9, 14, 19, 24], [25], [26]] [0, 1, 2, 3, 4, 5, 6, 7, 8, 9, 10, 11, 12, 13, 14, 15, 16, 17, 18, 19, 20, 21, 22] ⟨by kernel_rfl, by kernel_rfl, by kernel_rfl⟩ (by kernel_rfl) (fun s7 p7 l7 tb7 zd7 => ?_))))
 have zd8 := zd7.add 0 5 (.pointer (some ⟨b3, 0, none⟩)) rfl
 have A9 := (BlF.st B3 (tr2 p5 p7) rfl)
 have zd10 := zd8.add 1 6 (.int .i64 a0.Kind) rfl
 have zd11 := zd10.add 2 7 (.pointer (some ⟨b5, 0, none⟩)) rfl
 have A12 := (BlF.st B5 p7 rfl)
 have zd13 := zd11.add 3 8 (.int .i64 a1.Kind) rfl
 have zd14 := zd13.add 5 10 (.pointer (some ⟨b3, 1, none⟩)) rfl
 have A15 := (BlF.st B3 (tr2 p5 p7) rfl)
 have zd16 := zd14.add 6 11 (.int .i64 a0.N) rfl
 have zd17 := zd16.add 7 12 (.pointer (some ⟨b5, 1, none⟩)) rfl
 have A18 := (BlF.st B5 p7 rfl)
 have zd19 := zd17.add 8 13 (.int .i64 a1.N) rfl
 have zd20 := zd19.add 10 15 (.pointer (some ⟨b3, 2, none⟩)) rfl
 have A21 := (BlF.st B3 (tr2 p5 p7) rfl)
 have zd22 := zd20.add 11 16 w0_0 rfl
 have zd23 := zd22.add 12 17 (.pointer (some ⟨b5, 2, none⟩)) rfl
 have A24 := (BlF.st B5 p7 rfl)
 have zd25 := zd23.add 13 18 w1_0 rfl
 have zd26 := zd25.add 15 20 (.pointer (some ⟨b3, 3, none⟩)) rfl
 have A27 := (BlF.st B3 (tr2 p5 p7) rfl)
 have zd28 := zd26.add 16 21 w0_1 rfl
 have zd29 := zd28.add 17 22 (.pointer (some ⟨b5, 3, none⟩)) rfl
 have A30 := (BlF.st B5 p7 rfl)
 have zd31 := zd29.add 18 23 w1_1 rfl
 have A33 := (BlF.st B3 (tr2 p5 p7) rfl)
 have A34 := (BlF.st B5 p7 rfl)
 have A35 := (BlF.st B3 (tr2 p5 p7) rfl)
 have A36 := (BlF.st B5 p7 rfl)
 have A37 := (BlF.st B3 (tr2 p5 p7) rfl)
 have A38 := (BlF.st B5 p7 rfl)
 have A39 := (BlF.st B3 (tr2 p5 p7) rfl)
 have A40 := (BlF.st B5 p7 rfl)
 refine zstep 4 [some 23, some 22, some 21, some 20, some 18, some 17, some 16, some 15, some 13, some 12, some 11, some 10] tb7 zd31 (pq_cons (ld_q' A40 Try.underlying37 rfl) rfl (pq_cons (fa_q' fa48_3 rfl) rfl (pq_cons (ld_q' A39 Try.underlying37 rfl) rfl (pq_cons (fa_q' fa48_3 rfl) rfl (pq_cons (ld_q' A38 Try.underlying36 rfl) rfl (pq_cons (fa_q' fa48_2 rfl) rfl (pq_cons (ld_q' A37 Try.underlying36 rfl) rfl (pq_cons (fa_q' fa48_2 rfl) rfl (pq_cons (ld_q' A36 Try.underlying3 rfl) rfl (pq_cons (fa_q' fa48_1 rfl) rfl (pq_cons (ld_q' A35 Try.underlying3 rfl) rfl (pq_cons (fa_q' fa48_1 rfl) rfl (pq_cons (ld_q' A34 Try.underlying3 rfl) rfl (pq_cons (fa_q' fa48_0 rfl) rfl (pq_cons (ld_q' A33 Try.underlying3 rfl) rfl (pq_cons (fa_q' fa48_0 rfl) rfl pq_nil)))))))))))))))) (by kernel_rfl) rfl (fun l32 e32 zd32 => ?_)
 refine cl' rfl Try.func195 rfl (fun r41 m41 => cmp_Compare_int.calls a0.Kind a1.Kind s7.w (fun b => memb [] (s7.g b) = true)  r41 m41) ?_
 rintro r41 _ w41 m41 ⟨rfl, ky41⟩
 obtain ⟨s42, rfl, p42, n42⟩ := nwx s7 w41 42 ky41
 refine zdone (L' := [18, 17, 16, 15, 13, 12, 11, 10, 8, 7, 6, 5]) (D' := [0, 2, 1, 3, 4]) zd32 rfl rfl rfl (fun zd43 => ?_)
 have A45 := (BlF.st B3 (tr3 p5 p7 p42) rfl)
 have A46 := (BlF.st B5 (tr2 p7 p42) rfl)
 have A47 := (BlF.st B3 (tr3 p5 p7 p42) rfl)
 have A48 := (BlF.st B5 (tr2 p7 p42) rfl)
 have A49 := (BlF.st B3 (tr3 p5 p7 p42) rfl)
 have A50 := (BlF.st B5 (tr2 p7 p42) rfl)
 refine zstep 9 [some 23, some 22, some 21, some 20, some 18, some 17, some 16, some 15] tb7 zd43 (pq_cons (ld_q' A50 Try.underlying37 rfl) rfl (pq_cons (fa_q' fa48_3 rfl) rfl (pq_cons (ld_q' A49 Try.underlying37 rfl) rfl (pq_cons (fa_q' fa48_3 rfl) rfl (pq_cons (ld_q' A48 Try.underlying36 rfl) rfl (pq_cons (fa_q' fa48_2 rfl) rfl (pq_cons (ld_q' A47 Try.underlying36 rfl) rfl (pq_cons (fa_q' fa48_2 rfl) rfl (pq_cons (ld_q' A46 Try.underlying3 rfl) rfl (pq_cons (fa_q' fa48_1 rfl) rfl (pq_cons (ld_q' A45 Try.underlying3 rfl) rfl (pq_cons (fa_q' fa48_1 rfl) rfl pq_nil)))))))))))) (by kernel_rfl) rfl (fun l44 e44 zd44 => ?_)
 refine cl' rfl Try.func195 rfl (fun r51 m51 => cmp_Compare_int.calls a0.N a1.N s42.w (fun b => memb [] (s42.g b) = true)  r51 m51) ?_
 rintro r51 _ w51 m51 ⟨rfl, ky51⟩
 obtain ⟨s52, rfl, p52, n52⟩ := nwx s42 w51 43 ky51
 refine zdone (L' := [18, 17, 16, 15, 13, 12, 11, 10]) (D' := [5, 7, 6, 8, 9, 0, 2, 1, 3, 4]) zd44 rfl rfl rfl (fun zd53 => ?_)
 have A55 := (BlF.st B3 (tr4 p5 p7 p42 p52) rfl)
 have A56 := (BlF.st B5 (tr3 p7 p42 p52) rfl)
 have A57 := (BlF.st B3 (tr4 p5 p7 p42 p52) rfl)
 have A58 := (BlF.st B5 (tr3 p7 p42 p52) rfl)
 refine zstep 14 [some 23, some 22, some 21, some 20] tb7 zd53 (pq_cons (ld_q' A58 Try.underlying37 rfl) rfl (pq_cons (fa_q' fa48_3 rfl) rfl (pq_cons (ld_q' A57 Try.underlying37 rfl) rfl (pq_cons (fa_q' fa48_3 rfl) rfl (pq_cons (ld_q' A56 Try.underlying36 rfl) rfl (pq_cons (fa_q' fa48_2 rfl) rfl (pq_cons (ld_q' A55 Try.underlying36 rfl) rfl (pq_cons (fa_q' fa48_2 rfl) rfl pq_nil)))))))) (by kernel_rfl) rfl (fun l54 e54 zd54 => ?_)
 refine cl' rfl Try.func205 rfl (fun r59 m59 => impl_FloatCompare.calls a0.F a1.F s52.w (fun b => memb [] (s52.g b) = true) w0_0 w1_0 (fl_rdf (s := s52) A0_0) (fl_rdf (s := s52) A1_0) r59 m59) ?_
 rintro r59 _ w59 m59 ⟨rfl, ky59⟩
 obtain ⟨s60, rfl, p60, n60⟩ := nwx s52 w59 44 ky59
 refine zdone (L' := [18, 17, 16, 15]) (D' := [10, 12, 11, 13, 14, 5, 7, 6, 8, 9, 0, 2, 1, 3, 4]) zd54 rfl rfl rfl (fun zd61 => ?_)
 have A62 := (BlF.st B3 (tr5 p5 p7 p42 p52 p60) rfl)
 have A63 := (BlF.st B5 (tr4 p7 p42 p52 p60) rfl)
 refine zfin [19, 20, 21, 22] tb7 zd61 (pq_cons (ld_q' A63 Try.underlying37 rfl) rfl (pq_cons (fa_q' fa48_3 rfl) rfl (pq_cons (ld_q' A62 Try.underlying37 rfl) rfl (pq_cons (fa_q' fa48_3 rfl) rfl pq_nil)))) (by kernel_rfl) (by decide) ?_
 have K64 := (kp0.st (tr6 p3 p5 p7 p42 p52 p60) rfl)
 have A65 := (A0_1.kp K64)
 have A66 := (A1_1.kp K64)
 refine cl' rfl Try.func206 rfl (fun r67 m67 => bytes_Compare.calls a0.T a1.T s60.w (fun b => memb [0] (s60.g b) = true) w0_1 w1_1 A65 A66 r67 m67) ?_
 rintro r67 _ w67 m67 ⟨rfl, ky67⟩
 obtain ⟨s68, rfl, p68, n68⟩ := nwx s60 w67 45 ky67
 refine ltF (K := (Kd.int .i64)) (cells := [(.int .i64 r41), (.int .i64 r51), (.int .i64 r59), (.int .i64 r67)]) [r41, r51, r59, r67] 46 fl_int Try.underlying24 z3 o3 (fun w => (els_flat _ _ _)) rfl rfl rfl rfl rfl rfl rfl rfl rfl rfl (fun v69 s69 p69 A69 => ?_)
 refine cl' rfl Try.func194 rfl (fun r71 m71 => cmp_Or_int.calls ([r41, r51, r59, r67]) s69.w (fun b => memb [46] (s69.g b) = true) v69 A69.rd r71 m71) ?_
 rintro r71 _ w71 m71 ⟨rfl, ky71⟩
 obtain ⟨s72, rfl, p72, n72⟩ := nwx s69 w71 47 ky71
 refine pu' rfl (dn ?_)
 have K73 := (K64.st (tr3 p68 p69 p72) rfl)
 exact re rfl Try.func170 rfl (r_t rfl r_nil) rfl ⟨_, rfl, rfl, z.ky K73⟩
noncomputable def impl_SpanOk.f (a0 : Span) : Option (Bool) :=
 ((impl_KeyOk.f a0.From).bind fun r7 => ((if r7 = true then ((impl_KeyOk.f a0.To).bind fun r13 => (some r13)) else (some false)).bind fun y9 => ((if y9 = true then ((impl_compareItems.f a0.From a0.To).bind fun r24 => (some (decide (r24 ≤ (0 : Int))))) else (some false)).bind fun y21 => (some y21))))
def impl_SpanOk.Q (w : World) (F : Nat → Prop) (r : Bool) (v : Value) (w' : World) : Prop :=
 v = (.bool r) ∧ Ky [] w w'
set_option maxHeartbeats 4000000 in
set_option maxRecDepth 100000 in
theorem impl_SpanOk.calls (a0 : Span) (w : World) (F : Nat → Prop) (w0_0 : Value) (w0_1 : Value) (w0_2 : Value) (w0_3 : Value) (h0_0 : Kd.flt.rd w [w0_0] a0.From.F F) (h0_1 : (Kd.sl 5 (Kd.int .u8)).rd w [w0_1] a0.From.T F) (h0_2 : Kd.flt.rd w [w0_2] a0.To.F F) (h0_3 : (Kd.sl 5 (Kd.int .u8)).rd w [w0_3] a0.To.T F) (r : Bool) (m : impl_SpanOk.f a0 = some r) :
  Calls Try.prog 111 #[(.agg #[(.int .i64 a0.From.Kind), (.int .i64 a0.From.N), w0_0, w0_1, (.int .i64 a0.To.Kind), (.int .i64 a0.To.N), w0_2, w0_3])] w (RT (impl_SpanOk.Q w F) r) := by
 obtain ⟨s0, rfl, kp0, z⟩ := start0 w F
 have A0_0 := fl_of h0_0
 have A0_1 := z.rd h0_1
 have A0_2 := fl_of h0_2
 have A0_3 := z.rd h0_3
 refine calls_of_TM (args := [(.agg #[(.int .i64 a0.From.Kind), (.int .i64 a0.From.N), w0_0, w0_1, (.int .i64 a0.To.Kind), (.int .i64 a0.To.N), w0_2, w0_3])]) Try.func111 Try.ntmps111 rfl rfl m ?_
 unfold impl_SpanOk.f
 refine sr (bx' (cs := [(.int .i64 a0.From.Kind), (.int .i64 a0.From.N), w0_0, w0_1, (.int .i64 a0.To.Kind), (.int .i64 a0.To.N), w0_2, w0_3]) 40 rfl rfl (fun b3 s3 p3 B3 => ?_))
 refine pu' rfl (dn (sr (fa' fa80_0 rfl (lda' (es := [(.int .i64 a0.From.Kind), (.int .i64 a0.From.N), w0_0, w0_1]) B3 Try.underlying48 z48 rfl ?_))))
 have K5 := (kp0.st p3 rfl)
 have A6 := (A0_1.kp K5)
 refine cl' rfl Try.func141 rfl (fun r7 m7 => impl_KeyOk.calls a0.From s3.w (fun b => memb [0] (s3.g b) = true) w0_0 w0_1 ((fl_rdf (s := s3) A0_0).sub (D := [0]) rfl) A6 r7 m7) ?_
 rintro r7 _ w7 m7 ⟨rfl, ky7⟩
 obtain ⟨s8, rfl, p8, n8⟩ := nwx s3 w7 41 ky7
 refine pu' rfl (ji [8, 9, 10, 11, 12, 13, 14, 15, 16] (fun (y9 : Bool) (e : Env) (w : World) => ∃ (s : St) (e0 : Env), w = s.w ∧ e = upd (upd e0 1 (.pointer (some ⟨b3, 0, none⟩))) 10 (.bool y9) ∧ Kp s0 s ∧ BlF s b3 80 [(.int .i64 a0.From.Kind), (.int .i64 a0.From.N), w0_0, w0_1, (.int .i64 a0.To.Kind), (.int .i64 a0.To.N), w0_2, w0_3] 40) (fun Gj9 Kj9 => ?_) ?_)
 ·
  rcases Bool.eq_false_or_eq_true r7 with hb9 | hb9
  ·
   refine sbT hb9 ?_
   rw [if_pos hb9]
   refine fa' fa80_1 rfl ?_
   have A10 := (BlF.st B3 p8 rfl)
   refine lda' (es := [(.int .i64 a0.To.Kind), (.int .i64 a0.To.N), w0_2, w0_3]) A10 Try.underlying48 z48 rfl ?_
   have K11 := (K5.st p8 rfl)
   have A12 := (A0_3.kp K11)
   refine cl' rfl Try.func141 rfl (fun r13 m13 => impl_KeyOk.calls a0.To s8.w (fun b => memb [0] (s8.g b) = true) w0_2 w0_3 ((fl_rdf (s := s8) A0_2).sub (D := [0]) rfl) A12 r13 m13) ?_
   rintro r13 _ w13 m13 ⟨rfl, ky13⟩
   obtain ⟨s14, rfl, p14, n14⟩ := nwx s8 w13 42 ky13
   refine pu' rfl ?_
   have A15 := (BlF.st A10 p14 rfl)
   have K16 := (K11.st p14 rfl)
   exact Kj9 _ _ _ ⟨s14, _, rfl, (ue (ue rfl rfl) rfl), K16, A15⟩
  ·
   refine sbT hb9 ?_
   rw [if_neg (by rw [hb9]; decide)]
   refine uw' rfl (uw' rfl (uw' rfl (pu' rfl ?_)))
   have A17 := (BlF.st B3 p8 rfl)
   have K18 := (K5.st p8 rfl)
   exact Kj9 _ _ _ ⟨s8, _, rfl, (ue (ue rfl rfl) rfl), K18, A17⟩
 rintro y9 _ _ ⟨s19, _, rfl, rfl, Ky9, By9_b3⟩
 refine pu' rfl (ji [16] (fun (y21 : Bool) (e : Env) (w : World) => ∃ (s : St) (e0 : Env), w = s.w ∧ e = upd e0 18 (.bool y21) ∧ Kp s0 s) (fun Gj21 Kj21 => ?_) ?_)
 ·
  rcases Bool.eq_false_or_eq_true y9 with hb21 | hb21
  ·
   refine sbT hb21 ?_
   rw [if_pos hb21]
   refine fa' fa80_0 rfl (lda' (es := [(.int .i64 a0.From.Kind), (.int .i64 a0.From.N), w0_0, w0_1]) By9_b3 Try.underlying48 z48 rfl (fa' fa80_1 rfl (lda' (es := [(.int .i64 a0.To.Kind), (.int .i64 a0.To.N), w0_2, w0_3]) By9_b3 Try.underlying48 z48 rfl ?_)))
   have A22 := (A0_1.kp Ky9)
   have A23 := (A0_3.kp Ky9)
   refine cl' rfl Try.func170 rfl (fun r24 m24 => impl_compareItems.calls a0.From a0.To s19.w (fun b => memb [0] (s19.g b) = true) w0_0 w0_1 w0_2 w0_3 ((fl_rdf (s := s19) A0_0).sub (D := [0]) rfl) A22 ((fl_rdf (s := s19) A0_2).sub (D := [0]) rfl) A23 r24 m24) ?_
   rintro r24 _ w24 m24 ⟨rfl, ky24⟩
   obtain ⟨s25, rfl, p25, n25⟩ := nwx s19 w24 43 ky24
   refine pu' rfl (pu' rfl ?_)
   have K26 := (Ky9.st p25 rfl)
   exact Kj21 _ _ _ ⟨s25, _, rfl, (ue rfl rfl), K26⟩
  ·
   refine sbT hb21 ?_
   rw [if_neg (by rw [hb21]; decide)]
   exact uw' rfl (uw' rfl (uw' rfl (uw' rfl (uw' rfl (uw' rfl (pu' rfl (Kj21 _ _ _ ⟨s19, _, rfl, (ue rfl rfl), Ky9⟩)))))))
 rintro y21 _ _ ⟨s27, _, rfl, rfl, Ky21⟩
 exact pu' rfl (dn (re rfl Try.func111 rfl (r_t rfl r_nil) rfl ⟨_, rfl, rfl, z.ky Ky21⟩))
noncomputable def impl_areAll_impl_Item_1.f (a0 : Item) (a1 : (Item → Option Bool)) : Option (Bool) :=
 ((a1 a0).bind fun r8 => (some (!r8)))
def impl_areAll_impl_Item_1.Q (w : World) (F : Nat → Prop) (r : Bool) (v : Value) (w' : World) : Prop :=
 v = (.bool r) ∧ Ky [] w w'
set_option maxHeartbeats 4000000 in
set_option maxRecDepth 100000 in
theorem impl_areAll_impl_Item_1.calls (a0 : Item) (a1 : (Item → Option Bool)) (w : World) (F : Nat → Prop) (w0_0 : Value) (w0_1 : Value) (c1 : Nat) (f1 : Value) (h0_0 : Kd.flt.rd w [w0_0] a0.F F) (h0_1 : (Kd.sl 5 (Kd.int .u8)).rd w [w0_1] a0.T F) (hf1 : ∀ (x0 : Item) (u0_0 u0_1 : Value) (w' : World), Ky [] w w' → Kd.flt.rd w' [u0_0] x0.F (fun _ => True) → (Kd.sl 5 (Kd.int .u8)).rd w' [u0_1] x0.T (fun _ => True) → ∀ r, a1 x0 = some r → CallV Try.prog f1 [(.agg #[(.int .i64 x0.Kind), (.int .i64 x0.N), u0_0, u0_1])] w' fun en w'' => ∃ v, en = .returned v ∧ v = (.bool r) ∧ Ky [] w' w'') (ho1 : f1.cells = #[f1]) (hb1 : BlW w c1 157 [f1]) (hp1 : F c1) (r : Bool) (m : impl_areAll_impl_Item_1.f a0 a1 = some r) :
  Calls Try.prog 204 #[(.agg #[(.int .i64 a0.Kind), (.int .i64 a0.N), w0_0, w0_1]), (.pointer (some ⟨c1, 0, none⟩))] w (RT (impl_areAll_impl_Item_1.Q w F) r) := by
 obtain ⟨s0, rfl, kp0, z⟩ := start0 w F
 have A0_0 := fl_of h0_0
 have A0_1 := z.rd h0_1
 have B1 := z.b0 hb1 hp1
 refine calls_of_TM (args := [(.agg #[(.int .i64 a0.Kind), (.int .i64 a0.N), w0_0, w0_1]), (.pointer (some ⟨c1, 0, none⟩))]) Try.func204 Try.ntmps204 rfl rfl m ?_
 unfold impl_areAll_impl_Item_1.f
 refine sr (bx' (cs := [(.int .i64 a0.Kind), (.int .i64 a0.N), w0_0, w0_1]) 40 rfl rfl (fun b3 s3 p3 B3 => ?_))
 refine pu' rfl (dn (sr ?_))
 have A5 := (BlF.st B1 p3 rfl)
 refine ld' A5 Try.underlying157 rfl (lda' (es := [(.int .i64 a0.Kind), (.int .i64 a0.N), w0_0, w0_1]) B3 Try.underlying48 z48 rfl ?_)
 have K6 := (kp0.st p3 rfl)
 have A7 := (A0_1.kp K6)
 refine clv rfl rfl rfl rfl rfl rfl rfl (fun r8 m8 => hf1 a0 w0_0 w0_1 s3.w (z.ky K6) (fl_rd A0_0) (RdF.top A7) r8 m8) ?_
 rintro r8 _ w8 m8 ⟨rfl, ky8⟩
 obtain ⟨s9, rfl, p9, n9⟩ := nwx s3 w8 41 ky8
 refine pu' rfl (pu' rfl (dn ?_))
 have K10 := (K6.st p9 rfl)
 exact re rfl Try.func204 rfl (r_t rfl r_nil) rfl ⟨_, rfl, rfl, z.ky K10⟩
noncomputable def slices_IndexFunc_impl_Item_impl_Item.b0 (a0 : (List Item)) (a1 : (Item → Option Bool)) (x2 : Int) : Option (Int ⊕ Int) :=
 (if (decide (x2 < (a0.length : Int))) = true then (if 0 ≤ x2 ∧ x2 < (a0.length : Int) then ((a1 (at_ a0 x2)).bind fun r9 => (if r9 = true then (some (Sum.inr x2)) else (some (Sum.inl (IntKind.wrap .i64 (x2 + (1 : Int))))))) else none) else ((some (-1 : Int)).bind fun o => some (Sum.inr o)))
noncomputable def slices_IndexFunc_impl_Item_impl_Item.f (a0 : (List Item)) (a1 : (Item → Option Bool)) : Option (Int) :=
 (iter (slices_IndexFunc_impl_Item_impl_Item.b0 a0 a1) (0 : Int))
def slices_IndexFunc_impl_Item_impl_Item.Q (w : World) (F : Nat → Prop) (r : Int) (v : Value) (w' : World) : Prop :=
 v = (.int .i64 r) ∧ Ky [] w w'
set_option maxHeartbeats 4000000 in
set_option maxRecDepth 100000 in
theorem slices_IndexFunc_impl_Item_impl_Item.calls (a0 : (List Item)) (a1 : (Item → Option Bool)) (w : World) (F : Nat → Prop) (w0_0 : Value) (f1 : Value) (h0_0 : (Kd.sl 48 kd48).rd w [w0_0] a0 F) (hf1 : ∀ (x0 : Item) (u0_0 u0_1 : Value) (w' : World), Ky [] w w' → Kd.flt.rd w' [u0_0] x0.F (fun _ => True) → (Kd.sl 5 (Kd.int .u8)).rd w' [u0_1] x0.T (fun _ => True) → ∀ r, a1 x0 = some r → CallV Try.prog f1 [(.agg #[(.int .i64 x0.Kind), (.int .i64 x0.N), u0_0, u0_1])] w' fun en w'' => ∃ v, en = .returned v ∧ v = (.bool r) ∧ Ky [] w' w'') (ho1 : f1.cells = #[f1]) (r : Int) (m : slices_IndexFunc_impl_Item_impl_Item.f a0 a1 = some r) :
  Calls Try.prog 172 #[w0_0, f1] w (RT (slices_IndexFunc_impl_Item_impl_Item.Q w F) r) := by
 obtain ⟨s0, rfl, kp0, z⟩ := start0 w F
 have A0_0 := z.rd h0_0
 refine calls_of_TM (args := [w0_0, f1]) Try.func172 Try.ntmps172 rfl rfl m ?_
 unfold slices_IndexFunc_impl_Item_impl_Item.f
 refine sr (pu' rfl (dn (sq (sr (mv' w0_0 rfl (ln' A0_0 Try.underlying57 rfl (pu' rfl (dn (bl (lpI (fun (x2 : Int) (e : Env) (w : World) => ∃ (s : St) (e0 : Env), w = s.w ∧ e = upd (upd (upd (upd e0 0 w0_0) 1 f1) 7 (.int .i64 (a0.length : Int))) 8 (.int .i64 x2) ∧ Kp s0 s) ⟨s0, _, rfl, (ue (ue (ue (ue rfl rfl) rfl) rfl) rfl), kp0⟩ (fun g2 ih2 => ?_)))))))))))
 rintro x2 _ _ ⟨s3, _, rfl, rfl, Kx2⟩
 unfold slices_IndexFunc_impl_Item_impl_Item.b0
 refine sr (pu' rfl (dn (sq (cd rfl (fun h4 => ?_) (fun h4 => ?_)))))
 ·
  refine sk (sq (bl (sr (pu' rfl (pu' rfl (dn (sr (mv' f1 rfl (mv' w0_0 rfl (pu' rfl ?_))))))))))
  have A5 := (A0_0.kp Kx2)
  refine ix' A5 Try.underlying57 z48 rfl (fun ad6 es6 h0_6 h1_6 he6 ce6 ia6 => ?_)
  obtain ⟨v6_0, v6_1, rfl, A6_0, A6_1⟩ := op48 he6
  refine lca' ce6 Try.underlying48 z48 rfl (clv rfl rfl rfl rfl rfl rfl rfl (fun r9 m9 => hf1 (at_ a0 x2) v6_0 v6_1 s3.w (z.ky Kx2) (fl_rd A6_0) (RdF.top A6_1) r9 m9) ?_)
  rintro r9 _ w9 m9 ⟨rfl, ky9⟩
  obtain ⟨s10, rfl, p10, n10⟩ := nwx s3 w9 40 ky9
  refine dn (cd rfl (fun h11 => ?_) (fun h11 => ?_))
  ·
   refine sr (pu' rfl (pu' rfl (dn (sgi ?_))))
   have K12 := (Kx2.st p10 rfl)
   exact re rfl Try.func172 rfl (r_t rfl r_nil) rfl ⟨_, rfl, rfl, z.ky K12⟩
  ·
   refine sk (ib (rg (pu' rfl (pu' rfl (dn ?_)))))
   have K13 := (Kx2.st p10 rfl)
   exact lb ih2 ⟨s10, _, rfl, (ue (ue (ue (ue rfl rfl) rfl) rfl) rfl), K13⟩
 ·
  exact xt rfl (sgb (sr (pu' rfl (dn (re rfl Try.func172 rfl (r_t rfl r_nil) rfl ⟨_, rfl, rfl, z.ky Kx2⟩)))))
noncomputable def slices_ContainsFunc_impl_Item_impl_Item.f (a0 : (List Item)) (a1 : (Item → Option Bool)) : Option (Bool) :=
 ((slices_IndexFunc_impl_Item_impl_Item.f a0 a1).bind fun r2 => (some (decide (r2 ≥ (0 : Int)))))
def slices_ContainsFunc_impl_Item_impl_Item.Q (w : World) (F : Nat → Prop) (r : Bool) (v : Value) (w' : World) : Prop :=
 v = (.bool r) ∧ Ky [] w w'
set_option maxHeartbeats 4000000 in
set_option maxRecDepth 100000 in
theorem slices_ContainsFunc_impl_Item_impl_Item.calls (a0 : (List Item)) (a1 : (Item → Option Bool)) (w : World) (F : Nat → Prop) (w0_0 : Value) (f1 : Value) (h0_0 : (Kd.sl 48 kd48).rd w [w0_0] a0 F) (hf1 : ∀ (x0 : Item) (u0_0 u0_1 : Value) (w' : World), Ky [] w w' → Kd.flt.rd w' [u0_0] x0.F (fun _ => True) → (Kd.sl 5 (Kd.int .u8)).rd w' [u0_1] x0.T (fun _ => True) → ∀ r, a1 x0 = some r → CallV Try.prog f1 [(.agg #[(.int .i64 x0.Kind), (.int .i64 x0.N), u0_0, u0_1])] w' fun en w'' => ∃ v, en = .returned v ∧ v = (.bool r) ∧ Ky [] w' w'') (ho1 : f1.cells = #[f1]) (r : Bool) (m : slices_ContainsFunc_impl_Item_impl_Item.f a0 a1 = some r) :
  Calls Try.prog 115 #[w0_0, f1] w (RT (slices_ContainsFunc_impl_Item_impl_Item.Q w F) r) := by
 obtain ⟨s0, rfl, kp0, z⟩ := start0 w F
 have A0_0 := z.rd h0_0
 refine calls_of_TM (args := [w0_0, f1]) Try.func115 Try.ntmps115 rfl rfl m ?_
 unfold slices_ContainsFunc_impl_Item_impl_Item.f
 refine sr (pu' rfl (dn (sr (mv' w0_0 rfl (mv' f1 rfl (cl' rfl Try.func172 rfl (fun r2 m2 => slices_IndexFunc_impl_Item_impl_Item.calls a0 a1 s0.w (fun b => memb [0] (s0.g b) = true) w0_0 f1 A0_0 (fun x0 u0_0 u0_1 w' k h0 h1 r m =>  hf1 x0 u0_0 u0_1 w' (Ky.trans (z.ky kp0) k) h0 h1 r m) ho1 r2 m2) ?_))))))
 rintro r2 _ w2 m2 ⟨rfl, ky2⟩
 obtain ⟨s3, rfl, p3, n3⟩ := nwx s0 w2 40 ky2
 refine pu' rfl (pu' rfl (dn ?_))
 have K4 := (kp0.st p3 rfl)
 exact re rfl Try.func115 rfl (r_t rfl r_nil) rfl ⟨_, rfl, rfl, z.ky K4⟩
noncomputable def impl_areAll_impl_Item.f (a0 : (List Item)) (a1 : (Item → Option Bool)) : Option (Bool) :=
 ((slices_ContainsFunc_impl_Item_impl_Item.f a0 (fun x0 => impl_areAll_impl_Item_1.f x0 a1)).bind fun r6 => (some (!r6)))
def impl_areAll_impl_Item.Q (w : World) (F : Nat → Prop) (r : Bool) (v : Value) (w' : World) : Prop :=
 v = (.bool r) ∧ Ky [] w w'
set_option maxHeartbeats 4000000 in
set_option maxRecDepth 100000 in
theorem impl_areAll_impl_Item.calls (a0 : (List Item)) (a1 : (Item → Option Bool)) (w : World) (F : Nat → Prop) (w0_0 : Value) (f1 : Value) (h0_0 : (Kd.sl 48 kd48).rd w [w0_0] a0 F) (hf1 : ∀ (x0 : Item) (u0_0 u0_1 : Value) (w' : World), Ky [] w w' → Kd.flt.rd w' [u0_0] x0.F (fun _ => True) → (Kd.sl 5 (Kd.int .u8)).rd w' [u0_1] x0.T (fun _ => True) → ∀ r, a1 x0 = some r → CallV Try.prog f1 [(.agg #[(.int .i64 x0.Kind), (.int .i64 x0.N), u0_0, u0_1])] w' fun en w'' => ∃ v, en = .returned v ∧ v = (.bool r) ∧ Ky [] w' w'') (ho1 : f1.cells = #[f1]) (r : Bool) (m : impl_areAll_impl_Item.f a0 a1 = some r) :
  Calls Try.prog 168 #[w0_0, f1] w (RT (impl_areAll_impl_Item.Q w F) r) := by
 obtain ⟨s0, rfl, kp0, z⟩ := start0 w F
 have A0_0 := z.rd h0_0
 refine calls_of_TM (args := [w0_0, f1]) Try.func168 Try.ntmps168 rfl rfl m ?_
 unfold impl_areAll_impl_Item.f
 refine sr (bx' (cs := [f1]) 40 rfl ho1 (fun b2 s2 p2 B2 => ?_))
 refine pu' rfl (dn (sr (mv' w0_0 rfl (mkf (fs := []) (cs := [(.pointer (some ⟨b2, 0, none⟩))]) rfl rfl rfl rfl rfl rfl rfl ?_))))
 have K4 := (kp0.st p2 rfl)
 have A5 := (A0_0.kp K4)
 refine cl' rfl Try.func115 rfl (fun r6 m6 => slices_ContainsFunc_impl_Item_impl_Item.calls a0 (fun x0 => impl_areAll_impl_Item_1.f x0 a1) s2.w (fun b => memb [0] (s2.g b) = true) w0_0 (.func (.func 204) (List.toArray []) (List.toArray [(.pointer (some ⟨b2, 0, none⟩))])) A5 (fun x0 u0_0 u0_1 w' k h0 h1 r m =>  ⟨204, _, _, [], [(.pointer (some ⟨b2, 0, none⟩))], rfl, Try.func204, rfl, rfl, (impl_areAll_impl_Item_1.calls x0 a1 w' (fun _ => True) u0_0 u0_1 b2 f1 h0 h1 (fun x0c u0_0c u0_1c w'c kc h0c h1c r m =>  hf1 x0c u0_0c u0_1c w'c (Ky.trans (z.ky K4) (Ky.trans k kc)) h0c h1c r m) ho1 (BlF.ky B2 k) trivial r m).mono fun en w2 hq => by obtain ⟨v, e, q⟩ := hq; exact ⟨v, e, q⟩⟩) rfl r6 m6) ?_
 rintro r6 _ w6 m6 ⟨rfl, ky6⟩
 obtain ⟨s7, rfl, p7, n7⟩ := nwx s2 w6 41 ky6
 refine pu' rfl (pu' rfl (dn ?_))
 have K8 := (K4.st p7 rfl)
 exact re rfl Try.func168 rfl (r_t rfl r_nil) rfl ⟨_, rfl, rfl, z.ky K8⟩
noncomputable def impl_InSpan.f (a0 : Item) (a1 : Item) (a2 : Item) : Option (Bool) :=
 ((impl_KeyOk.f a0).bind fun r13 => ((if r13 = true then ((impl_KeyOk.f a1).bind fun r19 => (some r19)) else (some false)).bind fun y15 => ((if y15 = true then ((impl_KeyOk.f a2).bind fun r35 => (some r35)) else (some false)).bind fun y33 => ((if y33 = true then ((impl_compareItems.f a0 a2).bind fun r48 => (some (decide (r48 ≤ (0 : Int))))) else (some false)).bind fun y45 => ((if y45 = true then ((impl_compareItems.f a2 a1).bind fun r59 => (some (decide (r59 ≤ (0 : Int))))) else (some false)).bind fun y56 => (some y56))))))
def impl_InSpan.Q (w : World) (F : Nat → Prop) (r : Bool) (v : Value) (w' : World) : Prop :=
 v = (.bool r) ∧ Ky [] w w'
set_option maxHeartbeats 4000000 in
set_option maxRecDepth 100000 in
theorem impl_InSpan.calls (a0 : Item) (a1 : Item) (a2 : Item) (w : World) (F : Nat → Prop) (w0_0 : Value) (w0_1 : Value) (w1_0 : Value) (w1_1 : Value) (w2_0 : Value) (w2_1 : Value) (h0_0 : Kd.flt.rd w [w0_0] a0.F F) (h0_1 : (Kd.sl 5 (Kd.int .u8)).rd w [w0_1] a0.T F) (h1_0 : Kd.flt.rd w [w1_0] a1.F F) (h1_1 : (Kd.sl 5 (Kd.int .u8)).rd w [w1_1] a1.T F) (h2_0 : Kd.flt.rd w [w2_0] a2.F F) (h2_1 : (Kd.sl 5 (Kd.int .u8)).rd w [w2_1] a2.T F) (r : Bool) (m : impl_InSpan.f a0 a1 a2 = some r) :
  Calls Try.prog 173 #[(.agg #[(.int .i64 a0.Kind), (.int .i64 a0.N), w0_0, w0_1]), (.agg #[(.int .i64 a1.Kind), (.int .i64 a1.N), w1_0, w1_1]), (.agg #[(.int .i64 a2.Kind), (.int .i64 a2.N), w2_0, w2_1])] w (RT (impl_InSpan.Q w F) r) := by
 obtain ⟨s0, rfl, kp0, z⟩ := start0 w F
 have A0_0 := fl_of h0_0
 have A0_1 := z.rd h0_1
 have A1_0 := fl_of h1_0
 have A1_1 := z.rd h1_1
 have A2_0 := fl_of h2_0
 have A2_1 := z.rd h2_1
 refine calls_of_TM (args := [(.agg #[(.int .i64 a0.Kind), (.int .i64 a0.N), w0_0, w0_1]), (.agg #[(.int .i64 a1.Kind), (.int .i64 a1.N), w1_0, w1_1]), (.agg #[(.int .i64 a2.Kind), (.int .i64 a2.N), w2_0, w2_1])]) Try.func173 Try.ntmps173 rfl rfl m ?_
 unfold impl_InSpan.f
 refine sr (bx' (cs := [(.int .i64 a0.Kind), (.int .i64 a0.N), w0_0, w0_1]) 40 rfl rfl (fun b4 s4 p4 B4 => ?_))
 refine bx' (cs := [(.int .i64 a1.Kind), (.int .i64 a1.N), w1_0, w1_1]) 41 rfl rfl (fun b6 s6 p6 B6 => ?_)
 refine bx' (cs := [(.int .i64 a2.Kind), (.int .i64 a2.N), w2_0, w2_1]) 42 rfl rfl (fun b8 s8 p8 B8 => ?_)
 refine pu' rfl (dn (sr ?_))
 have A10 := (BlF.st B4 (tr2 p6 p8) rfl)
 refine lda' (es := [(.int .i64 a0.Kind), (.int .i64 a0.N), w0_0, w0_1]) A10 Try.underlying48 z48 rfl ?_
 have K11 := (kp0.st (tr3 p4 p6 p8) rfl)
 have A12 := (A0_1.kp K11)
 refine cl' rfl Try.func141 rfl (fun r13 m13 => impl_KeyOk.calls a0 s8.w (fun b => memb [0] (s8.g b) = true) w0_0 w0_1 ((fl_rdf (s := s8) A0_0).sub (D := [0]) rfl) A12 r13 m13) ?_
 rintro r13 _ w13 m13 ⟨rfl, ky13⟩
 obtain ⟨s14, rfl, p14, n14⟩ := nwx s8 w13 43 ky13
 refine pu' rfl (ji [6, 7, 8, 9, 10, 11, 12, 13, 14, 15, 16, 17, 18, 19, 20, 21, 22] (fun (y15 : Bool) (e : Env) (w : World) => ∃ (s : St) (e0 : Env), w = s.w ∧ e = upd (upd (upd (upd e0 3 (.pointer (some ⟨b4, 0, none⟩))) 4 (.pointer (some ⟨b6, 0, none⟩))) 5 (.pointer (some ⟨b8, 0, none⟩))) 12 (.bool y15) ∧ Kp s0 s ∧ BlF s b8 48 [(.int .i64 a2.Kind), (.int .i64 a2.N), w2_0, w2_1] 42 ∧ BlF s b6 48 [(.int .i64 a1.Kind), (.int .i64 a1.N), w1_0, w1_1] 41 ∧ BlF s b4 48 [(.int .i64 a0.Kind), (.int .i64 a0.N), w0_0, w0_1] 40) (fun Gj15 Kj15 => ?_) ?_)
 ·
  rcases Bool.eq_false_or_eq_true r13 with hb15 | hb15
  ·
   refine sbT hb15 ?_
   rw [if_pos hb15]
   have A16 := (BlF.st B6 (tr2 p8 p14) rfl)
   refine lda' (es := [(.int .i64 a1.Kind), (.int .i64 a1.N), w1_0, w1_1]) A16 Try.underlying48 z48 rfl ?_
   have K17 := (K11.st p14 rfl)
   have A18 := (A1_1.kp K17)
   refine cl' rfl Try.func141 rfl (fun r19 m19 => impl_KeyOk.calls a1 s14.w (fun b => memb [0] (s14.g b) = true) w1_0 w1_1 ((fl_rdf (s := s14) A1_0).sub (D := [0]) rfl) A18 r19 m19) ?_
   rintro r19 _ w19 m19 ⟨rfl, ky19⟩
   obtain ⟨s20, rfl, p20, n20⟩ := nwx s14 w19 44 ky19
   refine pu' rfl ?_
   have A21 := (BlF.st B8 (tr2 p14 p20) rfl)
   have A22 := (BlF.st A16 p20 rfl)
   have A23 := (BlF.st A10 (tr2 p14 p20) rfl)
   have K24 := (K17.st p20 rfl)
   exact Kj15 _ _ _ ⟨s20, _, rfl, (ue (ue (ue (ue rfl rfl) rfl) rfl) rfl), K24, A21, A22, A23⟩
  ·
   refine sbT hb15 ?_
   rw [if_neg (by rw [hb15]; decide)]
   refine uw' rfl (uw' rfl (pu' rfl ?_))
   have A25 := (BlF.st B8 p14 rfl)
   have A26 := (BlF.st B6 (tr2 p8 p14) rfl)
   have A27 := (BlF.st A10 p14 rfl)
   have K28 := (K11.st p14 rfl)
   exact Kj15 _ _ _ ⟨s14, _, rfl, (ue (ue (ue (ue rfl rfl) rfl) rfl) rfl), K28, A25, A26, A27⟩
 rintro y15 _ _ ⟨s29, _, rfl, rfl, Ky15, By15_b8, By15_b6, By15_b4⟩
 refine pu' rfl (ji [10, 11, 12, 13, 14, 15, 16, 17, 18, 19, 20, 21, 22] (fun (y33 : Bool) (e : Env) (w : World) => ∃ (s : St) (e0 : Env), w = s.w ∧ e = upd (upd (upd (upd e0 3 (.pointer (some ⟨b4, 0, none⟩))) 4 (.pointer (some ⟨b6, 0, none⟩))) 5 (.pointer (some ⟨b8, 0, none⟩))) 16 (.bool y33) ∧ Kp s0 s ∧ BlF s b8 48 [(.int .i64 a2.Kind), (.int .i64 a2.N), w2_0, w2_1] 42 ∧ BlF s b6 48 [(.int .i64 a1.Kind), (.int .i64 a1.N), w1_0, w1_1] 41 ∧ BlF s b4 48 [(.int .i64 a0.Kind), (.int .i64 a0.N), w0_0, w0_1] 40) (fun Gj33 Kj33 => ?_) ?_)
 ·
  rcases Bool.eq_false_or_eq_true y15 with hb33 | hb33
  ·
   refine sbT hb33 ?_
   rw [if_pos hb33]
   refine lda' (es := [(.int .i64 a2.Kind), (.int .i64 a2.N), w2_0, w2_1]) By15_b8 Try.underlying48 z48 rfl ?_
   have A34 := (A2_1.kp Ky15)
   refine cl' rfl Try.func141 rfl (fun r35 m35 => impl_KeyOk.calls a2 s29.w (fun b => memb [0] (s29.g b) = true) w2_0 w2_1 ((fl_rdf (s := s29) A2_0).sub (D := [0]) rfl) A34 r35 m35) ?_
   rintro r35 _ w35 m35 ⟨rfl, ky35⟩
   obtain ⟨s36, rfl, p36, n36⟩ := nwx s29 w35 45 ky35
   refine pu' rfl ?_
   have A37 := (BlF.st By15_b8 p36 rfl)
   have A38 := (BlF.st By15_b6 p36 rfl)
   have A39 := (BlF.st By15_b4 p36 rfl)
   have K40 := (Ky15.st p36 rfl)
   exact Kj33 _ _ _ ⟨s36, _, rfl, (ue (ue (ue (ue rfl rfl) rfl) rfl) rfl), K40, A37, A38, A39⟩
  ·
   refine sbT hb33 ?_
   rw [if_neg (by rw [hb33]; decide)]
   exact uw' rfl (uw' rfl (pu' rfl (Kj33 _ _ _ ⟨s29, _, rfl, (ue (ue (ue (ue rfl rfl) rfl) rfl) rfl), Ky15, By15_b8, By15_b6, By15_b4⟩)))
 rintro y33 _ _ ⟨s41, _, rfl, rfl, Ky33, By33_b8, By33_b6, By33_b4⟩
 refine pu' rfl (ji [16, 17, 18, 19, 20, 21, 22] (fun (y45 : Bool) (e : Env) (w : World) => ∃ (s : St) (e0 : Env), w = s.w ∧ e = upd (upd (upd e0 4 (.pointer (some ⟨b6, 0, none⟩))) 5 (.pointer (some ⟨b8, 0, none⟩))) 22 (.bool y45) ∧ Kp s0 s ∧ BlF s b8 48 [(.int .i64 a2.Kind), (.int .i64 a2.N), w2_0, w2_1] 42 ∧ BlF s b6 48 [(.int .i64 a1.Kind), (.int .i64 a1.N), w1_0, w1_1] 41) (fun Gj45 Kj45 => ?_) ?_)
 ·
  rcases Bool.eq_false_or_eq_true y33 with hb45 | hb45
  ·
   refine sbT hb45 ?_
   rw [if_pos hb45]
   refine lda' (es := [(.int .i64 a0.Kind), (.int .i64 a0.N), w0_0, w0_1]) By33_b4 Try.underlying48 z48 rfl (lda' (es := [(.int .i64 a2.Kind), (.int .i64 a2.N), w2_0, w2_1]) By33_b8 Try.underlying48 z48 rfl ?_)
   have A46 := (A0_1.kp Ky33)
   have A47 := (A2_1.kp Ky33)
   refine cl' rfl Try.func170 rfl (fun r48 m48 => impl_compareItems.calls a0 a2 s41.w (fun b => memb [0] (s41.g b) = true) w0_0 w0_1 w2_0 w2_1 ((fl_rdf (s := s41) A0_0).sub (D := [0]) rfl) A46 ((fl_rdf (s := s41) A2_0).sub (D := [0]) rfl) A47 r48 m48) ?_
   rintro r48 _ w48 m48 ⟨rfl, ky48⟩
   obtain ⟨s49, rfl, p49, n49⟩ := nwx s41 w48 46 ky48
   refine pu' rfl (pu' rfl ?_)
   have A50 := (BlF.st By33_b8 p49 rfl)
   have A51 := (BlF.st By33_b6 p49 rfl)
   have K52 := (Ky33.st p49 rfl)
   exact Kj45 _ _ _ ⟨s49, _, rfl, (ue (ue (ue rfl rfl) rfl) rfl), K52, A50, A51⟩
  ·
   refine sbT hb45 ?_
   rw [if_neg (by rw [hb45]; decide)]
   exact uw' rfl (uw' rfl (uw' rfl (uw' rfl (pu' rfl (Kj45 _ _ _ ⟨s41, _, rfl, (ue (ue (ue rfl rfl) rfl) rfl), Ky33, By33_b8, By33_b6⟩)))))
 rintro y45 _ _ ⟨s53, _, rfl, rfl, Ky45, By45_b8, By45_b6⟩
 refine pu' rfl (ji [22] (fun (y56 : Bool) (e : Env) (w : World) => ∃ (s : St) (e0 : Env), w = s.w ∧ e = upd e0 28 (.bool y56) ∧ Kp s0 s) (fun Gj56 Kj56 => ?_) ?_)
 ·
  rcases Bool.eq_false_or_eq_true y45 with hb56 | hb56
  ·
   refine sbT hb56 ?_
   rw [if_pos hb56]
   refine lda' (es := [(.int .i64 a2.Kind), (.int .i64 a2.N), w2_0, w2_1]) By45_b8 Try.underlying48 z48 rfl (lda' (es := [(.int .i64 a1.Kind), (.int .i64 a1.N), w1_0, w1_1]) By45_b6 Try.underlying48 z48 rfl ?_)
   have A57 := (A2_1.kp Ky45)
   have A58 := (A1_1.kp Ky45)
   refine cl' rfl Try.func170 rfl (fun r59 m59 => impl_compareItems.calls a2 a1 s53.w (fun b => memb [0] (s53.g b) = true) w2_0 w2_1 w1_0 w1_1 ((fl_rdf (s := s53) A2_0).sub (D := [0]) rfl) A57 ((fl_rdf (s := s53) A1_0).sub (D := [0]) rfl) A58 r59 m59) ?_
   rintro r59 _ w59 m59 ⟨rfl, ky59⟩
   obtain ⟨s60, rfl, p60, n60⟩ := nwx s53 w59 47 ky59
   refine pu' rfl (pu' rfl ?_)
   have K61 := (Ky45.st p60 rfl)
   exact Kj56 _ _ _ ⟨s60, _, rfl, (ue rfl rfl), K61⟩
  ·
   refine sbT hb56 ?_
   rw [if_neg (by rw [hb56]; decide)]
   exact uw' rfl (uw' rfl (uw' rfl (uw' rfl (pu' rfl (Kj56 _ _ _ ⟨s53, _, rfl, (ue rfl rfl), Ky45⟩)))))
 rintro y56 _ _ ⟨s62, _, rfl, rfl, Ky56⟩
 exact pu' rfl (dn (re rfl Try.func173 rfl (r_t rfl r_nil) rfl ⟨_, rfl, rfl, z.ky Ky56⟩))
noncomputable def laws_sameFloat.f (a0 : Nat) (a1 : Nat) : Option (Bool) :=
 (if ((fcmp .f64 a0 a0 != some .eq) || (fcmp .f64 a1 a1 != some .eq)) = true then (some ((fcmp .f64 a0 a0 != some .eq) && (fcmp .f64 a1 a1 != some .eq))) else (if ((fcmp .f64 a0 (0 : Nat) == some .eq) && (fcmp .f64 a1 (0 : Nat) == some .eq)) = true then (some ((fcmp .f64 (far .quo (4607182418800017408 : Nat) a0) (0 : Nat) == some .gt) == (fcmp .f64 (far .quo (4607182418800017408 : Nat) a1) (0 : Nat) == some .gt))) else (some (fcmp .f64 a0 a1 == some .eq))))
def laws_sameFloat.Q (w : World) (F : Nat → Prop) (r : Bool) (v : Value) (w' : World) : Prop :=
 v = (.bool r) ∧ Ky [] w w'
set_option maxHeartbeats 4000000 in
set_option maxRecDepth 100000 in
theorem laws_sameFloat.calls (a0 : Nat) (a1 : Nat) (w : World) (F : Nat → Prop) (w0_0 : Value) (w1_0 : Value) (h0_0 : Kd.flt.rd w [w0_0] a0 F) (h1_0 : Kd.flt.rd w [w1_0] a1 F) (r : Bool) (m : laws_sameFloat.f a0 a1 = some r) :
  Calls Try.prog 78 #[w0_0, w1_0] w (RT (laws_sameFloat.Q w F) r) := by
 obtain ⟨s0, rfl, kp0, z⟩ := start0 w F
 have A0_0 := fl_of h0_0
 have A1_0 := fl_of h1_0
 refine calls_of_TM (args := [w0_0, w1_0]) Try.func78 Try.ntmps78 rfl rfl m ?_
 unfold laws_sameFloat.f
 refine sr (pu' rfl (dn (sq (sr (mv' w0_0 rfl (mv' w0_0 rfl (fq_' A0_0 A0_0 rfl (pu' rfl (jy [8, 9, 10, 11, 12] [] 12 (.bool ((fcmp .f64 a0 a0 != some .eq) || (fcmp .f64 a1 a1 != some .eq))) rfl (fun Kg1 => ?_) (fun j1 => ?_))))))))))
 ·
  rcases Bool.eq_false_or_eq_true (fcmp .f64 a0 a0 != some .eq) with hb1 | hb1
  ·
   exact sbT hb1 (uw' rfl (uw' rfl (uw' rfl (pu' rfl (Kg1 _ (Ag.put ((Ag.put ((Ag.put ((Ag.put (Ag.base rfl) rfl)) rfl)) rfl)) rfl) (by rw [hb1]; rfl))))))
  ·
   exact sbT hb1 (mv' w1_0 rfl (mv' w1_0 rfl (fq_' A1_0 A1_0 rfl (pu' rfl (Kg1 _ (Ag.put ((Ag.put ((Ag.put ((Ag.put (Ag.base rfl) rfl)) rfl)) rfl)) rfl) (by rw [hb1]; rfl))))))
 refine dn (cd rfl (fun h2 => ?_) (fun h2 => ?_))
 ·
  refine sr (mv' w0_0 rfl (mv' w0_0 rfl (fq_' A0_0 A0_0 rfl (pu' rfl (jy [16, 17, 18, 19, 20] [8] 20 (.bool ((fcmp .f64 a0 a0 != some .eq) && (fcmp .f64 a1 a1 != some .eq))) rfl (fun Kg3 => ?_) (fun j3 => ?_))))))
  ·
   rcases Bool.eq_false_or_eq_true (fcmp .f64 a0 a0 != some .eq) with hb3 | hb3
   ·
    exact sbT hb3 (mv' w1_0 rfl (mv' w1_0 rfl (fq_' A1_0 A1_0 rfl (pu' rfl (Kg3 _ (Ag.put ((Ag.put ((Ag.put ((Ag.put (Ag.base rfl) rfl)) rfl)) rfl)) rfl) (by rw [hb3]; rfl))))))
   ·
    exact sbT hb3 (uw' rfl (uw' rfl (uw' rfl (pu' rfl (Kg3 _ (Ag.put ((Ag.put ((Ag.put ((Ag.put (Ag.base rfl) rfl)) rfl)) rfl)) rfl) (by rw [hb3]; rfl))))))
  exact pu' rfl (dn (re rfl Try.func78 rfl (r_t rfl r_nil) rfl ⟨_, rfl, rfl, z.ky kp0⟩))
 ·
  refine sk (sq (sr (mv' w0_0 rfl (fq_' A0_0 (fl_c rfl) rfl (pu' rfl (jy [23, 24, 25, 26] [] 26 (.bool ((fcmp .f64 a0 (0 : Nat) == some .eq) && (fcmp .f64 a1 (0 : Nat) == some .eq))) rfl (fun Kg4 => ?_) (fun j4 => ?_)))))))
  ·
   rcases Bool.eq_false_or_eq_true (fcmp .f64 a0 (0 : Nat) == some .eq) with hb4 | hb4
   ·
    exact sbT hb4 (mv' w1_0 rfl (fq_' A1_0 (fl_c rfl) rfl (pu' rfl (Kg4 _ (Ag.put ((Ag.put ((Ag.put (Ag.base rfl) rfl)) rfl)) rfl) (by rw [hb4]; rfl)))))
   ·
    exact sbT hb4 (uw' rfl (uw' rfl (pu' rfl (Kg4 _ (Ag.put ((Ag.put ((Ag.put (Ag.base rfl) rfl)) rfl)) rfl) (by rw [hb4]; rfl)))))
  refine dn (cd rfl (fun h5 => ?_) (fun h5 => ?_))
  ·
   refine sr (mv' w0_0 rfl (fa_ (fl_c rfl) A0_0 (by simp) rfl rfl rfl rfl rfl rfl rfl (fun v6 s6 p6 A6 => ?_)))
   refine fq_' A6 (fl_c rfl) rfl (mv' w1_0 rfl (fa_ (fl_c rfl) A1_0 (by simp) rfl rfl rfl rfl rfl rfl rfl (fun v7 s7 p7 A7 => ?_)))
   refine fq_' A7 (fl_c rfl) rfl (beq_ Try.underlying4 rfl rfl rfl rfl rfl rfl rfl (pu' rfl (dn ?_)))
   have K8 := (kp0.st (tr2 p6 p7) rfl)
   exact re rfl Try.func78 rfl (r_t rfl r_nil) rfl ⟨_, rfl, rfl, z.ky K8⟩
  ·
   exact sk (sr (mv' w0_0 rfl (mv' w1_0 rfl (fq_' A0_0 A1_0 rfl (pu' rfl (dn (re rfl Try.func78 rfl (r_t rfl r_nil) rfl ⟨_, rfl, rfl, z.ky kp0⟩)))))))
noncomputable def laws_eqByteS.b0 (a0 : (List Int)) (a1 : (List Int)) (x4 : Int) : Option (Int ⊕ Bool) :=
 (if (decide (x4 < (a0.length : Int))) = true then (if 0 ≤ x4 ∧ x4 < (a0.length : Int) then (if 0 ≤ x4 ∧ x4 < (a1.length : Int) then (if ((at_ a0 x4) != (at_ a1 x4)) = true then (some (Sum.inr false)) else (some (Sum.inl (IntKind.wrap .i64 (x4 + (1 : Int)))))) else none) else none) else ((some true).bind fun o => some (Sum.inr o)))
noncomputable def laws_eqByteS.f (a0 : (List Int)) (a1 : (List Int)) : Option (Bool) :=
 (if ((a0.length : Int) != (a1.length : Int)) = true then (some false) else (iter (laws_eqByteS.b0 a0 a1) (0 : Int)))
def laws_eqByteS.Q (w : World) (F : Nat → Prop) (r : Bool) (v : Value) (w' : World) : Prop :=
 v = (.bool r) ∧ Ky [] w w'
set_option maxHeartbeats 4000000 in
set_option maxRecDepth 100000 in
theorem laws_eqByteS.calls (a0 : (List Int)) (a1 : (List Int)) (w : World) (F : Nat → Prop) (w0_0 : Value) (w1_0 : Value) (h0_0 : (Kd.sl 5 (Kd.int .u8)).rd w [w0_0] a0 F) (h1_0 : (Kd.sl 5 (Kd.int .u8)).rd w [w1_0] a1 F) (r : Bool) (m : laws_eqByteS.f a0 a1 = some r) :
  Calls Try.prog 79 #[w0_0, w1_0] w (RT (laws_eqByteS.Q w F) r) := by
 obtain ⟨s0, rfl, kp0, z⟩ := start0 w F
 have A0_0 := z.rd h0_0
 have A1_0 := z.rd h1_0
 refine calls_of_TM (args := [w0_0, w1_0]) Try.func79 Try.ntmps79 rfl rfl m ?_
 unfold laws_eqByteS.f
 refine sr (pu' rfl (dn (sq (sr (mv' w0_0 rfl (ln' A0_0 Try.underlying37 rfl (mv' w1_0 rfl (ln' A1_0 Try.underlying37 rfl (pu' rfl (dn (cd rfl (fun h3 => ?_) (fun h3 => ?_))))))))))))
 ·
  exact sr (pu' rfl (dn (re rfl Try.func79 rfl (r_t rfl r_nil) rfl ⟨_, rfl, rfl, z.ky kp0⟩)))
 ·
  refine sk (sq (sr (pu' rfl (dn (bl (lpI (fun (x4 : Int) (e : Env) (w : World) => ∃ (s : St) (e0 : Env), w = s.w ∧ e = upd (upd (upd e0 0 w0_0) 1 w1_0) 5 (.int .i64 x4) ∧ Kp s0 s) ⟨s0, _, rfl, (ue (ue (ue rfl rfl) rfl) rfl), kp0⟩ (fun g4 ih4 => ?_)))))))
  rintro x4 _ _ ⟨s5, _, rfl, rfl, Kx4⟩
  unfold laws_eqByteS.b0
  refine sq (sr (pu' rfl (mv' w0_0 rfl ?_)))
  have A6 := (A0_0.kp Kx4)
  refine ln' A6 Try.underlying37 rfl (pu' rfl (dn (cd rfl (fun h7 => ?_) (fun h7 => ?_))))
  ·
   refine sk (sq (bl (sq (zdraw [[], [], [0, 1], [2], [], [], [4, 5], [6], [3, 7]] [some 17, some 18, some 19, some 20, some 21, some 22, some 23, some 24, some 25] [[0], [5], [17, 18], [19], [1], [5], [21, 22], [23], [20, 24]] [0, 1, 2, 3, 4, 5, 6, 7, 8] ⟨by kernel_rfl, by kernel_rfl, by kernel_rfl⟩ (by kernel_rfl) (fun s8 p8 l8 tb8 zd8 => ?_)))))
   have zd9 := zd8.add 0 17 w0_0 rfl
   have zd10 := zd9.add 1 18 (.int .i64 x4) rfl
   have K11 := (Kx4.st p8 rfl)
   have A12 := (A0_0.kp K11)
   refine mg fun hg13 => ?_
   obtain ⟨ad13, es13, he13, ce13, ia13⟩ := ix_e A12 rfl hg13.1 hg13.2
   have h0_13 := hg13.1
   have h1_13 := hg13.2
   obtain rfl := he13
   have zd15 := zd10.add 2 19 (.pointer (some ad13)) rfl
   have zd16 := zd15.add 3 20 (.int .u8 (at_ a0 x4)) rfl
   have zd17 := zd16.add 4 21 w1_0 rfl
   have zd18 := zd17.add 5 22 (.int .i64 x4) rfl
   have A19 := (A1_0.kp K11)
   refine mg fun hg20 => ?_
   obtain ⟨ad20, es20, he20, ce20, ia20⟩ := ix_e A19 rfl hg20.1 hg20.2
   have h0_20 := hg20.1
   have h1_20 := hg20.2
   obtain rfl := he20
   have zd22 := zd18.add 6 23 (.pointer (some ad20)) rfl
   have zd23 := zd22.add 7 24 (.int .u8 (at_ a1 x4)) rfl
   refine zfin [8] tb8 zd23 (pq_cons (lc0_q ce20 Try.underlying5 rfl rfl rfl rfl rfl rfl rfl rfl) rfl (pq_cons (ix_q A19 Try.underlying37 z5 hg20.1 hg20.2 ia20 rfl rfl rfl rfl rfl rfl rfl) rfl (pq_cons (pu_q' rfl) rfl (pq_cons (mv_q' w1_0 rfl) rfl (pq_cons (lc0_q ce13 Try.underlying5 rfl rfl rfl rfl rfl rfl rfl rfl) rfl (pq_cons (ix_q A12 Try.underlying37 z5 hg13.1 hg13.2 ia13 rfl rfl rfl rfl rfl rfl rfl) rfl (pq_cons (pu_q' rfl) rfl (pq_cons (mv_q' w0_0 rfl) rfl pq_nil)))))))) (by kernel_rfl) (by decide) (pu' rfl (dn (cd rfl (fun h24 => ?_) (fun h24 => ?_))))
   ·
    exact sr (pu' rfl (dn (sgi (re rfl Try.func79 rfl (r_t rfl r_nil) rfl ⟨_, rfl, rfl, z.ky K11⟩))))
   ·
    exact sk (ib (rg (pu' rfl (pu' rfl (pu' rfl (dn (lb ih4 ⟨s8, _, rfl, (ue (ue (ue rfl rfl) rfl) rfl), K11⟩)))))))
  ·
   exact xt rfl (sgb (sr (pu' rfl (dn (re rfl Try.func79 rfl (r_t rfl r_nil) rfl ⟨_, rfl, rfl, z.ky Kx4⟩)))))
noncomputable def laws_eqItem.f (a0 : Item) (a1 : Item) : Option (Bool) :=
 (if (a0.Kind != a1.Kind) = true then (some false) else (if (a0.N != a1.N) = true then (some false) else ((laws_sameFloat.f a0.F a1.F).bind fun r12 => (if (!r12) = true then (some false) else ((laws_eqByteS.f a0.T a1.T).bind fun r21 => (if (!r21) = true then (some false) else (some true)))))))
def laws_eqItem.Q (w : World) (F : Nat → Prop) (r : Bool) (v : Value) (w' : World) : Prop :=
 v = (.bool r) ∧ Ky [] w w'
set_option maxHeartbeats 4000000 in
set_option maxRecDepth 100000 in
theorem laws_eqItem.calls (a0 : Item) (a1 : Item) (w : World) (F : Nat → Prop) (w0_0 : Value) (w0_1 : Value) (w1_0 : Value) (w1_1 : Value) (h0_0 : Kd.flt.rd w [w0_0] a0.F F) (h0_1 : (Kd.sl 5 (Kd.int .u8)).rd w [w0_1] a0.T F) (h1_0 : Kd.flt.rd w [w1_0] a1.F F) (h1_1 : (Kd.sl 5 (Kd.int .u8)).rd w [w1_1] a1.T F) (r : Bool) (m : laws_eqItem.f a0 a1 = some r) :
  Calls Try.prog 24 #[(.agg #[(.int .i64 a0.Kind), (.int .i64 a0.N), w0_0, w0_1]), (.agg #[(.int .i64 a1.Kind), (.int .i64 a1.N), w1_0, w1_1])] w (RT (laws_eqItem.Q w F) r) := by
 obtain ⟨s0, rfl, kp0, z⟩ := start0 w F
 have A0_0 := fl_of h0_0
 have A0_1 := z.rd h0_1
 have A1_0 := fl_of h1_0
 have A1_1 := z.rd h1_1
 refine calls_of_TM (args := [(.agg #[(.int .i64 a0.Kind), (.int .i64 a0.N), w0_0, w0_1]), (.agg #[(.int .i64 a1.Kind), (.int .i64 a1.N), w1_0, w1_1])]) Try.func24 Try.ntmps24 rfl rfl m ?_
 unfold laws_eqItem.f
 refine sr (bx' (cs := [(.int .i64 a0.Kind), (.int .i64 a0.N), w0_0, w0_1]) 40 rfl rfl (fun b3 s3 p3 B3 => ?_))
 refine bx' (cs := [(.int .i64 a1.Kind), (.int .i64 a1.N), w1_0, w1_1]) 41 rfl rfl (fun b5 s5 p5 B5 => ?_)
 refine pu' rfl (dn (sq (sr (fa' fa48_0 rfl ?_))))
 have A7 := (BlF.st B3 p5 rfl)
 refine ld' A7 Try.underlying3 rfl (fa' fa48_0 rfl (ld' B5 Try.underlying3 rfl (pu' rfl (dn (cd rfl (fun h8 => ?_) (fun h8 => ?_))))))
 ·
  refine sr (pu' rfl (dn ?_))
  have K9 := (kp0.st (tr2 p3 p5) rfl)
  exact re rfl Try.func24 rfl (r_t rfl r_nil) rfl ⟨_, rfl, rfl, z.ky K9⟩
 ·
  refine sk (sq (sr (fa' fa48_1 rfl (ld' A7 Try.underlying3 rfl (fa' fa48_1 rfl (ld' B5 Try.underlying3 rfl (pu' rfl (dn (cd rfl (fun h10 => ?_) (fun h10 => ?_))))))))))
  ·
   refine sr (pu' rfl (dn ?_))
   have K11 := (kp0.st (tr2 p3 p5) rfl)
   exact re rfl Try.func24 rfl (r_t rfl r_nil) rfl ⟨_, rfl, rfl, z.ky K11⟩
  ·
   refine sk (sq (sr (fa' fa48_2 rfl (ld' A7 Try.underlying36 rfl (fa' fa48_2 rfl (ld' B5 Try.underlying36 rfl (cl' rfl Try.func78 rfl (fun r12 m12 => laws_sameFloat.calls a0.F a1.F s5.w (fun b => memb [] (s5.g b) = true) w0_0 w1_0 (fl_rdf (s := s5) A0_0) (fl_rdf (s := s5) A1_0) r12 m12) ?_)))))))
   rintro r12 _ w12 m12 ⟨rfl, ky12⟩
   obtain ⟨s13, rfl, p13, n13⟩ := nwx s5 w12 42 ky12
   refine pu' rfl (dn (cd rfl (fun h14 => ?_) (fun h14 => ?_)))
   ·
    refine sr (pu' rfl (dn ?_))
    have K15 := (kp0.st (tr3 p3 p5 p13) rfl)
    exact re rfl Try.func24 rfl (r_t rfl r_nil) rfl ⟨_, rfl, rfl, z.ky K15⟩
   ·
    refine sk (sq (sr (fa' fa48_3 rfl ?_)))
    have A16 := (BlF.st A7 p13 rfl)
    refine ld' A16 Try.underlying37 rfl (fa' fa48_3 rfl ?_)
    have A17 := (BlF.st B5 p13 rfl)
    refine ld' A17 Try.underlying37 rfl ?_
    have K18 := (kp0.st (tr3 p3 p5 p13) rfl)
    have A19 := (A0_1.kp K18)
    have A20 := (A1_1.kp K18)
    refine cl' rfl Try.func79 rfl (fun r21 m21 => laws_eqByteS.calls a0.T a1.T s13.w (fun b => memb [0] (s13.g b) = true) w0_1 w1_1 A19 A20 r21 m21) ?_
    rintro r21 _ w21 m21 ⟨rfl, ky21⟩
    obtain ⟨s22, rfl, p22, n22⟩ := nwx s13 w21 43 ky21
    refine pu' rfl (dn (cd rfl (fun h23 => ?_) (fun h23 => ?_)))
    ·
     refine sr (pu' rfl (dn ?_))
     have K24 := (K18.st p22 rfl)
     exact re rfl Try.func24 rfl (r_t rfl r_nil) rfl ⟨_, rfl, rfl, z.ky K24⟩
    ·
     refine sk (sr (pu' rfl (dn ?_)))
     have K25 := (K18.st p22 rfl)
     exact re rfl Try.func24 rfl (r_t rfl r_nil) rfl ⟨_, rfl, rfl, z.ky K25⟩
noncomputable def laws_eqSpan.f (a0 : Span) (a1 : Span) : Option (Bool) :=
 ((laws_eqItem.f a0.From a1.From).bind fun r13 => (if (!r13) = true then (some false) else ((laws_eqItem.f a0.To a1.To).bind fun r22 => (if (!r22) = true then (some false) else (some true)))))
def laws_eqSpan.Q (w : World) (F : Nat → Prop) (r : Bool) (v : Value) (w' : World) : Prop :=
 v = (.bool r) ∧ Ky [] w w'
set_option maxHeartbeats 4000000 in
set_option maxRecDepth 100000 in
theorem laws_eqSpan.calls (a0 : Span) (a1 : Span) (w : World) (F : Nat → Prop) (w0_0 : Value) (w0_1 : Value) (w0_2 : Value) (w0_3 : Value) (w1_0 : Value) (w1_1 : Value) (w1_2 : Value) (w1_3 : Value) (h0_0 : Kd.flt.rd w [w0_0] a0.From.F F) (h0_1 : (Kd.sl 5 (Kd.int .u8)).rd w [w0_1] a0.From.T F) (h0_2 : Kd.flt.rd w [w0_2] a0.To.F F) (h0_3 : (Kd.sl 5 (Kd.int .u8)).rd w [w0_3] a0.To.T F) (h1_0 : Kd.flt.rd w [w1_0] a1.From.F F) (h1_1 : (Kd.sl 5 (Kd.int .u8)).rd w [w1_1] a1.From.T F) (h1_2 : Kd.flt.rd w [w1_2] a1.To.F F) (h1_3 : (Kd.sl 5 (Kd.int .u8)).rd w [w1_3] a1.To.T F) (r : Bool) (m : laws_eqSpan.f a0 a1 = some r) :
  Calls Try.prog 44 #[(.agg #[(.int .i64 a0.From.Kind), (.int .i64 a0.From.N), w0_0, w0_1, (.int .i64 a0.To.Kind), (.int .i64 a0.To.N), w0_2, w0_3]), (.agg #[(.int .i64 a1.From.Kind), (.int .i64 a1.From.N), w1_0, w1_1, (.int .i64 a1.To.Kind), (.int .i64 a1.To.N), w1_2, w1_3])] w (RT (laws_eqSpan.Q w F) r) := by
 obtain ⟨s0, rfl, kp0, z⟩ := start0 w F
 have A0_0 := fl_of h0_0
 have A0_1 := z.rd h0_1
 have A0_2 := fl_of h0_2
 have A0_3 := z.rd h0_3
 have A1_0 := fl_of h1_0
 have A1_1 := z.rd h1_1
 have A1_2 := fl_of h1_2
 have A1_3 := z.rd h1_3
 refine calls_of_TM (args := [(.agg #[(.int .i64 a0.From.Kind), (.int .i64 a0.From.N), w0_0, w0_1, (.int .i64 a0.To.Kind), (.int .i64 a0.To.N), w0_2, w0_3]), (.agg #[(.int .i64 a1.From.Kind), (.int .i64 a1.From.N), w1_0, w1_1, (.int .i64 a1.To.Kind), (.int .i64 a1.To.N), w1_2, w1_3])]) Try.func44 Try.ntmps44 rfl rfl m ?_
 unfold laws_eqSpan.f
 refine sr (bx' (cs := [(.int .i64 a0.From.Kind), (.int .i64 a0.From.N), w0_0, w0_1, (.int .i64 a0.To.Kind), (.int .i64 a0.To.N), w0_2, w0_3]) 40 rfl rfl (fun b5 s5 p5 B5 => ?_))
 refine bx' (cs := [(.int .i64 a1.From.Kind), (.int .i64 a1.From.N), w1_0, w1_1, (.int .i64 a1.To.Kind), (.int .i64 a1.To.N), w1_2, w1_3]) 41 rfl rfl (fun b7 s7 p7 B7 => ?_)
 refine pu' rfl (dn (sq (sr (fa' fa80_0 rfl ?_))))
 have A9 := (BlF.st B5 p7 rfl)
 refine lda' (es := [(.int .i64 a0.From.Kind), (.int .i64 a0.From.N), w0_0, w0_1]) A9 Try.underlying48 z48 rfl (fa' fa80_0 rfl (lda' (es := [(.int .i64 a1.From.Kind), (.int .i64 a1.From.N), w1_0, w1_1]) B7 Try.underlying48 z48 rfl ?_))
 have K10 := (kp0.st (tr2 p5 p7) rfl)
 have A11 := (A0_1.kp K10)
 have A12 := (A1_1.kp K10)
 refine cl' rfl Try.func24 rfl (fun r13 m13 => laws_eqItem.calls a0.From a1.From s7.w (fun b => memb [0] (s7.g b) = true) w0_0 w0_1 w1_0 w1_1 ((fl_rdf (s := s7) A0_0).sub (D := [0]) rfl) A11 ((fl_rdf (s := s7) A1_0).sub (D := [0]) rfl) A12 r13 m13) ?_
 rintro r13 _ w13 m13 ⟨rfl, ky13⟩
 obtain ⟨s14, rfl, p14, n14⟩ := nwx s7 w13 42 ky13
 refine pu' rfl (dn (cd rfl (fun h15 => ?_) (fun h15 => ?_)))
 ·
  refine sr (pu' rfl (dn ?_))
  have K16 := (K10.st p14 rfl)
  exact re rfl Try.func44 rfl (r_t rfl r_nil) rfl ⟨_, rfl, rfl, z.ky K16⟩
 ·
  refine sk (sq (sr (fa' fa80_1 rfl ?_)))
  have A17 := (BlF.st A9 p14 rfl)
  refine lda' (es := [(.int .i64 a0.To.Kind), (.int .i64 a0.To.N), w0_2, w0_3]) A17 Try.underlying48 z48 rfl (fa' fa80_1 rfl ?_)
  have A18 := (BlF.st B7 p14 rfl)
  refine lda' (es := [(.int .i64 a1.To.Kind), (.int .i64 a1.To.N), w1_2, w1_3]) A18 Try.underlying48 z48 rfl ?_
  have K19 := (K10.st p14 rfl)
  have A20 := (A0_3.kp K19)
  have A21 := (A1_3.kp K19)
  refine cl' rfl Try.func24 rfl (fun r22 m22 => laws_eqItem.calls a0.To a1.To s14.w (fun b => memb [0] (s14.g b) = true) w0_2 w0_3 w1_2 w1_3 ((fl_rdf (s := s14) A0_2).sub (D := [0]) rfl) A20 ((fl_rdf (s := s14) A1_2).sub (D := [0]) rfl) A21 r22 m22) ?_
  rintro r22 _ w22 m22 ⟨rfl, ky22⟩
  obtain ⟨s23, rfl, p23, n23⟩ := nwx s14 w22 43 ky22
  refine pu' rfl (dn (cd rfl (fun h24 => ?_) (fun h24 => ?_)))
  ·
   refine sr (pu' rfl (dn ?_))
   have K25 := (K19.st p23 rfl)
   exact re rfl Try.func44 rfl (r_t rfl r_nil) rfl ⟨_, rfl, rfl, z.ky K25⟩
  ·
   refine sk (sr (pu' rfl (dn ?_)))
   have K26 := (K19.st p23 rfl)
   exact re rfl Try.func44 rfl (r_t rfl r_nil) rfl ⟨_, rfl, rfl, z.ky K26⟩
noncomputable def laws_eqSpanS.b0 (a0 : (List Span)) (a1 : (List Span)) (x4 : Int) : Option (Int ⊕ Bool) :=
 (if (decide (x4 < (a0.length : Int))) = true then (if 0 ≤ x4 ∧ x4 < (a0.length : Int) then (if 0 ≤ x4 ∧ x4 < (a1.length : Int) then ((laws_eqSpan.f (Span.mk ((at_ a0 x4).From) ((at_ a0 x4).To)) (Span.mk ((at_ a1 x4).From) ((at_ a1 x4).To))).bind fun r28 => (if (!r28) = true then (some (Sum.inr false)) else (some (Sum.inl (IntKind.wrap .i64 (x4 + (1 : Int))))))) else none) else none) else ((some true).bind fun o => some (Sum.inr o)))
noncomputable def laws_eqSpanS.f (a0 : (List Span)) (a1 : (List Span)) : Option (Bool) :=
 (if ((a0.length : Int) != (a1.length : Int)) = true then (some false) else (iter (laws_eqSpanS.b0 a0 a1) (0 : Int)))
def laws_eqSpanS.Q (w : World) (F : Nat → Prop) (r : Bool) (v : Value) (w' : World) : Prop :=
 v = (.bool r) ∧ Ky [] w w'
set_option maxHeartbeats 4000000 in
set_option maxRecDepth 100000 in
theorem laws_eqSpanS.calls (a0 : (List Span)) (a1 : (List Span)) (w : World) (F : Nat → Prop) (w0_0 : Value) (w1_0 : Value) (h0_0 : (Kd.sl 80 kd80).rd w [w0_0] a0 F) (h1_0 : (Kd.sl 80 kd80).rd w [w1_0] a1 F) (r : Bool) (m : laws_eqSpanS.f a0 a1 = some r) :
  Calls Try.prog 131 #[w0_0, w1_0] w (RT (laws_eqSpanS.Q w F) r) := by
 obtain ⟨s0, rfl, kp0, z⟩ := start0 w F
 have A0_0 := z.rd h0_0
 have A1_0 := z.rd h1_0
 refine calls_of_TM (args := [w0_0, w1_0]) Try.func131 Try.ntmps131 rfl rfl m ?_
 unfold laws_eqSpanS.f
 refine sr (pu' rfl (dn (sq (sr (mv' w0_0 rfl (ln' A0_0 Try.underlying56 rfl (mv' w1_0 rfl (ln' A1_0 Try.underlying56 rfl (pu' rfl (dn (cd rfl (fun h3 => ?_) (fun h3 => ?_))))))))))))
 ·
  exact sr (pu' rfl (dn (re rfl Try.func131 rfl (r_t rfl r_nil) rfl ⟨_, rfl, rfl, z.ky kp0⟩)))
 ·
  refine sk (sq (sr (pu' rfl (dn (bl (lpI (fun (x4 : Int) (e : Env) (w : World) => ∃ (s : St) (e0 : Env), w = s.w ∧ e = upd (upd (upd e0 0 w0_0) 1 w1_0) 5 (.int .i64 x4) ∧ Kp s0 s) ⟨s0, _, rfl, (ue (ue (ue rfl rfl) rfl) rfl), kp0⟩ (fun g4 ih4 => ?_)))))))
  rintro x4 _ _ ⟨s5, _, rfl, rfl, Kx4⟩
  unfold laws_eqSpanS.b0
  refine sq (sr (pu' rfl (mv' w0_0 rfl ?_)))
  have A6 := (A0_0.kp Kx4)
  refine ln' A6 Try.underlying56 rfl (pu' rfl (dn (cd rfl (fun h7 => ?_) (fun h7 => ?_))))
  ·
   refine sk (sq (bl (sq (zdraw [[], [], [0, 1], [2], [], [], [4, 5], [6], [3, 7], [8]] [some 17, some 18, some 19, some 20, some 21, some 22, some 23, some 24, some 25, some 26] [[0], [5], [17, 18], [19], [1], [5], [21, 22], [23], [20, 24], [25]] [0, 1, 2, 3, 4, 5, 6, 7, 8, 9] ⟨by kernel_rfl, by kernel_rfl, by kernel_rfl⟩ (by kernel_rfl) (fun s8 p8 l8 tb8 zd8 => ?_)))))
   have zd9 := zd8.add 0 17 w0_0 rfl
   have zd10 := zd9.add 1 18 (.int .i64 x4) rfl
   have K11 := (Kx4.st p8 rfl)
   have A12 := (A0_0.kp K11)
   refine mg fun hg13 => ?_
   obtain ⟨ad13, es13, he13, ce13, ia13⟩ := ix_e A12 rfl hg13.1 hg13.2
   have h0_13 := hg13.1
   have h1_13 := hg13.2
   obtain ⟨v13_0, v13_1, v13_2, v13_3, rfl, A13_0, A13_1, A13_2, A13_3⟩ := op80 he13
   have zd17 := zd10.add 2 19 (.pointer (some ad13)) rfl
   have zd18 := zd17.add 3 20 (.agg #[(.int .i64 (((at_ a0 x4).From).Kind)), (.int .i64 (((at_ a0 x4).From).N)), v13_0, v13_1, (.int .i64 (((at_ a0 x4).To).Kind)), (.int .i64 (((at_ a0 x4).To).N)), v13_2, v13_3]) rfl
   have zd19 := zd18.add 4 21 w1_0 rfl
   have zd20 := zd19.add 5 22 (.int .i64 x4) rfl
   have A21 := (A1_0.kp K11)
   refine mg fun hg22 => ?_
   obtain ⟨ad22, es22, he22, ce22, ia22⟩ := ix_e A21 rfl hg22.1 hg22.2
   have h0_22 := hg22.1
   have h1_22 := hg22.2
   obtain ⟨v22_0, v22_1, v22_2, v22_3, rfl, A22_0, A22_1, A22_2, A22_3⟩ := op80 he22
   have zd26 := zd20.add 6 23 (.pointer (some ad22)) rfl
   have zd27 := zd26.add 7 24 (.agg #[(.int .i64 (((at_ a1 x4).From).Kind)), (.int .i64 (((at_ a1 x4).From).N)), v22_0, v22_1, (.int .i64 (((at_ a1 x4).To).Kind)), (.int .i64 (((at_ a1 x4).To).N)), v22_2, v22_3]) rfl
   refine zfin [8, 9] tb8 zd27 (pq_cons (lca_q ce22 Try.underlying80 z80 rfl rfl rfl rfl rfl rfl rfl) rfl (pq_cons (ix_q A21 Try.underlying56 z80 hg22.1 hg22.2 ia22 rfl rfl rfl rfl rfl rfl rfl) rfl (pq_cons (pu_q' rfl) rfl (pq_cons (mv_q' w1_0 rfl) rfl (pq_cons (lca_q ce13 Try.underlying80 z80 rfl rfl rfl rfl rfl rfl rfl) rfl (pq_cons (ix_q A12 Try.underlying56 z80 hg13.1 hg13.2 ia13 rfl rfl rfl rfl rfl rfl rfl) rfl (pq_cons (pu_q' rfl) rfl (pq_cons (mv_q' w0_0 rfl) rfl pq_nil)))))))) (by kernel_rfl) (by decide) (cl' rfl Try.func44 rfl (fun r28 m28 => laws_eqSpan.calls (Span.mk ((at_ a0 x4).From) ((at_ a0 x4).To)) (Span.mk ((at_ a1 x4).From) ((at_ a1 x4).To)) s8.w (fun b => memb [0] (s8.g b) = true) v13_0 v13_1 v13_2 v13_3 v22_0 v22_1 v22_2 v22_3 ((fl_rdf (s := s8) A13_0).sub (D := [0]) rfl) A13_1 ((fl_rdf (s := s8) A13_2).sub (D := [0]) rfl) A13_3 ((fl_rdf (s := s8) A22_0).sub (D := [0]) rfl) A22_1 ((fl_rdf (s := s8) A22_2).sub (D := [0]) rfl) A22_3 r28 m28) ?_)
   rintro r28 _ w28 m28 ⟨rfl, ky28⟩
   obtain ⟨s29, rfl, p29, n29⟩ := nwx s8 w28 40 ky28
   refine pu' rfl (dn (cd rfl (fun h30 => ?_) (fun h30 => ?_)))
   ·
    refine sr (pu' rfl (dn (sgi ?_)))
    have K31 := (K11.st p29 rfl)
    exact re rfl Try.func131 rfl (r_t rfl r_nil) rfl ⟨_, rfl, rfl, z.ky K31⟩
   ·
    refine sk (ib (rg (pu' rfl (pu' rfl (pu' rfl (dn ?_))))))
    have K32 := (K11.st p29 rfl)
    exact lb ih4 ⟨s29, _, rfl, (ue (ue (ue rfl rfl) rfl) rfl), K32⟩
  ·
   exact xt rfl (sgb (sr (pu' rfl (dn (re rfl Try.func131 rfl (r_t rfl r_nil) rfl ⟨_, rfl, rfl, z.ky Kx4⟩)))))
noncomputable def laws_eqItemS.b0 (a0 : (List Item)) (a1 : (List Item)) (x4 : Int) : Option (Int ⊕ Bool) :=
 (if (decide (x4 < (a0.length : Int))) = true then (if 0 ≤ x4 ∧ x4 < (a0.length : Int) then (if 0 ≤ x4 ∧ x4 < (a1.length : Int) then ((laws_eqItem.f (at_ a0 x4) (at_ a1 x4)).bind fun r26 => (if (!r26) = true then (some (Sum.inr false)) else (some (Sum.inl (IntKind.wrap .i64 (x4 + (1 : Int))))))) else none) else none) else ((some true).bind fun o => some (Sum.inr o)))
noncomputable def laws_eqItemS.f (a0 : (List Item)) (a1 : (List Item)) : Option (Bool) :=
 (if ((a0.length : Int) != (a1.length : Int)) = true then (some false) else (iter (laws_eqItemS.b0 a0 a1) (0 : Int)))
def laws_eqItemS.Q (w : World) (F : Nat → Prop) (r : Bool) (v : Value) (w' : World) : Prop :=
 v = (.bool r) ∧ Ky [] w w'
set_option maxHeartbeats 4000000 in
set_option maxRecDepth 100000 in
theorem laws_eqItemS.calls (a0 : (List Item)) (a1 : (List Item)) (w : World) (F : Nat → Prop) (w0_0 : Value) (w1_0 : Value) (h0_0 : (Kd.sl 48 kd48).rd w [w0_0] a0 F) (h1_0 : (Kd.sl 48 kd48).rd w [w1_0] a1 F) (r : Bool) (m : laws_eqItemS.f a0 a1 = some r) :
  Calls Try.prog 132 #[w0_0, w1_0] w (RT (laws_eqItemS.Q w F) r) := by
 obtain ⟨s0, rfl, kp0, z⟩ := start0 w F
 have A0_0 := z.rd h0_0
 have A1_0 := z.rd h1_0
 refine calls_of_TM (args := [w0_0, w1_0]) Try.func132 Try.ntmps132 rfl rfl m ?_
 unfold laws_eqItemS.f
 refine sr (pu' rfl (dn (sq (sr (mv' w0_0 rfl (ln' A0_0 Try.underlying57 rfl (mv' w1_0 rfl (ln' A1_0 Try.underlying57 rfl (pu' rfl (dn (cd rfl (fun h3 => ?_) (fun h3 => ?_))))))))))))
 ·
  exact sr (pu' rfl (dn (re rfl Try.func132 rfl (r_t rfl r_nil) rfl ⟨_, rfl, rfl, z.ky kp0⟩)))
 ·
  refine sk (sq (sr (pu' rfl (dn (bl (lpI (fun (x4 : Int) (e : Env) (w : World) => ∃ (s : St) (e0 : Env), w = s.w ∧ e = upd (upd (upd e0 0 w0_0) 1 w1_0) 5 (.int .i64 x4) ∧ Kp s0 s) ⟨s0, _, rfl, (ue (ue (ue rfl rfl) rfl) rfl), kp0⟩ (fun g4 ih4 => ?_)))))))
  rintro x4 _ _ ⟨s5, _, rfl, rfl, Kx4⟩
  unfold laws_eqItemS.b0
  refine sq (sr (pu' rfl (mv' w0_0 rfl ?_)))
  have A6 := (A0_0.kp Kx4)
  refine ln' A6 Try.underlying57 rfl (pu' rfl (dn (cd rfl (fun h7 => ?_) (fun h7 => ?_))))
  ·
   refine sk (sq (bl (sq (zdraw [[], [], [0, 1], [2], [], [], [4, 5], [6], [3, 7], [8]] [some 17, some 18, some 19, some 20, some 21, some 22, some 23, some 24, some 25, some 26] [[0], [5], [17, 18], [19], [1], [5], [21, 22], [23], [20, 24], [25]] [0, 1, 2, 3, 4, 5, 6, 7, 8, 9] ⟨by kernel_rfl, by kernel_rfl, by kernel_rfl⟩ (by kernel_rfl) (fun s8 p8 l8 tb8 zd8 => ?_)))))
   have zd9 := zd8.add 0 17 w0_0 rfl
   have zd10 := zd9.add 1 18 (.int .i64 x4) rfl
   have K11 := (Kx4.st p8 rfl)
   have A12 := (A0_0.kp K11)
   refine mg fun hg13 => ?_
   obtain ⟨ad13, es13, he13, ce13, ia13⟩ := ix_e A12 rfl hg13.1 hg13.2
   have h0_13 := hg13.1
   have h1_13 := hg13.2
   obtain ⟨v13_0, v13_1, rfl, A13_0, A13_1⟩ := op48 he13
   have zd16 := zd10.add 2 19 (.pointer (some ad13)) rfl
   have zd17 := zd16.add 3 20 (.agg #[(.int .i64 ((at_ a0 x4).Kind)), (.int .i64 ((at_ a0 x4).N)), v13_0, v13_1]) rfl
   have zd18 := zd17.add 4 21 w1_0 rfl
   have zd19 := zd18.add 5 22 (.int .i64 x4) rfl
   have A20 := (A1_0.kp K11)
   refine mg fun hg21 => ?_
   obtain ⟨ad21, es21, he21, ce21, ia21⟩ := ix_e A20 rfl hg21.1 hg21.2
   have h0_21 := hg21.1
   have h1_21 := hg21.2
   obtain ⟨v21_0, v21_1, rfl, A21_0, A21_1⟩ := op48 he21
   have zd24 := zd19.add 6 23 (.pointer (some ad21)) rfl
   have zd25 := zd24.add 7 24 (.agg #[(.int .i64 ((at_ a1 x4).Kind)), (.int .i64 ((at_ a1 x4).N)), v21_0, v21_1]) rfl
   refine zfin [8, 9] tb8 zd25 (pq_cons (lca_q ce21 Try.underlying48 z48 rfl rfl rfl rfl rfl rfl rfl) rfl (pq_cons (ix_q A20 Try.underlying57 z48 hg21.1 hg21.2 ia21 rfl rfl rfl rfl rfl rfl rfl) rfl (pq_cons (pu_q' rfl) rfl (pq_cons (mv_q' w1_0 rfl) rfl (pq_cons (lca_q ce13 Try.underlying48 z48 rfl rfl rfl rfl rfl rfl rfl) rfl (pq_cons (ix_q A12 Try.underlying57 z48 hg13.1 hg13.2 ia13 rfl rfl rfl rfl rfl rfl rfl) rfl (pq_cons (pu_q' rfl) rfl (pq_cons (mv_q' w0_0 rfl) rfl pq_nil)))))))) (by kernel_rfl) (by decide) (cl' rfl Try.func24 rfl (fun r26 m26 => laws_eqItem.calls (at_ a0 x4) (at_ a1 x4) s8.w (fun b => memb [0] (s8.g b) = true) v13_0 v13_1 v21_0 v21_1 ((fl_rdf (s := s8) A13_0).sub (D := [0]) rfl) A13_1 ((fl_rdf (s := s8) A21_0).sub (D := [0]) rfl) A21_1 r26 m26) ?_)
   rintro r26 _ w26 m26 ⟨rfl, ky26⟩
   obtain ⟨s27, rfl, p27, n27⟩ := nwx s8 w26 40 ky26
   refine pu' rfl (dn (cd rfl (fun h28 => ?_) (fun h28 => ?_)))
   ·
    refine sr (pu' rfl (dn (sgi ?_)))
    have K29 := (K11.st p27 rfl)
    exact re rfl Try.func132 rfl (r_t rfl r_nil) rfl ⟨_, rfl, rfl, z.ky K29⟩
   ·
    refine sk (ib (rg (pu' rfl (pu' rfl (pu' rfl (dn ?_))))))
    have K30 := (K11.st p27 rfl)
    exact lb ih4 ⟨s27, _, rfl, (ue (ue (ue rfl rfl) rfl) rfl), K30⟩
  ·
   exact xt rfl (sgb (sr (pu' rfl (dn (re rfl Try.func132 rfl (r_t rfl r_nil) rfl ⟨_, rfl, rfl, z.ky Kx4⟩)))))
noncomputable def laws_markByteS.b0  (x2 : (List Int) × Int × Int) : Option (((List Int) × Int × Int) ⊕ (Int × (List Int))) :=
 (if (decide (x2.2.2 < (x2.1.length : Int))) = true then (if 0 ≤ x2.2.2 ∧ x2.2.2 < (x2.1.length : Int) then (some (Sum.inl ((x2.1.set (x2.2.2).toNat (IntKind.wrap .u8 x2.2.1)), (IntKind.wrap .i64 (x2.2.1 + (1 : Int))), (IntKind.wrap .i64 (x2.2.2 + (1 : Int)))))) else none) else ((some (x2.2.1, x2.1)).bind fun o => some (Sum.inr o)))
noncomputable def laws_markByteS.f (a0 : (List Int)) (a1 : Int) : Option (Int × (List Int)) :=
 (iter laws_markByteS.b0 (a0, a1, (0 : Int)))
def laws_markByteS.Q (w : World) (F : Nat → Prop) (os : List Nat) (w0_0 : Value) (r : Int × (List Int)) (v : Value) (w' : World) : Prop :=
 v = (.int .i64 r.1) ∧ FW (Kd.sl 5 (Kd.int .u8)) os w w' [w0_0] r.2 ∧ Ky os w w'
set_option maxHeartbeats 4000000 in
set_option maxRecDepth 100000 in
theorem laws_markByteS.calls (a0 : (List Int)) (a1 : Int) (w : World) (F : Nat → Prop) (w0_0 : Value) (os : List Nat) (h0_0 : (Kd.sl 5 (Kd.int .u8)).ow w [w0_0] a0 os) (hn : os.Nodup) (hF : ∀ b, F b → b ∉ os) (r : Int × (List Int)) (m : laws_markByteS.f a0 a1 = some r) :
  Calls Try.prog 81 #[w0_0, (.int .i64 a1)] w (RT (laws_markByteS.Q w F os w0_0) r) := by
 obtain ⟨s0, rfl, kp0, z⟩ := start1 w F os hF
 have A0_0 := z.ow h0_0 hn
 refine calls_of_TM (args := [w0_0, (.int .i64 a1)]) Try.func81 Try.ntmps81 rfl rfl m ?_
 unfold laws_markByteS.f
 refine sr (pu' rfl (dn (sq (sr (pu' rfl (dn (bl (lpI (fun (x2 : (List Int) × Int × Int) (e : Env) (w : World) => ∃ (s : St) (e0 : Env), w = s.w ∧ e = upd (upd (upd e0 0 w0_0) 1 (.int .i64 x2.2.1)) 5 (.int .i64 x2.2.2) ∧ Kp s0 s ∧ OwF (Kd.sl 5 (Kd.int .u8)) s [w0_0] x2.1 2) ⟨s0, _, rfl, (ue (ue (ue rfl rfl) rfl) rfl), kp0, A0_0⟩ (fun g2 ih2 => ?_)))))))))
 rintro x2 _ _ ⟨s3, _, rfl, rfl, Kx2, Ax2_0⟩
 unfold laws_markByteS.b0
 refine sq (sr (pu' rfl (mv' w0_0 rfl (ln' Ax2_0.rd Try.underlying37 rfl (pu' rfl (dn (cd rfl (fun h5 => ?_) (fun h5 => ?_))))))))
 ·
  refine sk (sq (bl (sr (mv' w0_0 rfl (pu' rfl (pu' rfl (cv Try.underlying5 Try.underlying3 rfl rfl rfl rfl rfl rfl (ix' Ax2_0.rd Try.underlying37 z5 rfl (fun ad6 es6 h0_6 h1_6 he6 ce6 ia6 => ?_)))))))))
  obtain rfl := he6
  refine so (x' := (IntKind.wrap .u8 x2.2.1)) Ax2_0 ia6 h0_6 h1_6 cs_flat z5 rfl rfl rfl rfl rfl rfl (fun s8 p8 A8 => ?_)
  refine dn (rg (pu' rfl (pu' rfl (pu' rfl (dn (ib (rg (pu' rfl (pu' rfl (pu' rfl (dn ?_)))))))))))
  have K10 := (Kx2.st p8 rfl)
  exact lb ih2 ⟨s8, _, rfl, (ue (ue (ue rfl rfl) rfl) rfl), K10, A8⟩
 ·
  exact xt rfl (sgb (sr (pu' rfl (pu' rfl (dn (re rfl Try.func81 rfl (r_t rfl r_nil) rfl ⟨_, rfl, rfl, z.fw Kx2 Ax2_0, z.ky Kx2⟩))))))
noncomputable def laws_markSpanS.b0  (x2 : (List Span) × Int × Int) : Option (((List Span) × Int × Int) ⊕ (Int × (List Span))) :=
 (if (decide (x2.2.2 < (x2.1.length : Int))) = true then (if 0 ≤ x2.2.2 ∧ x2.2.2 < (x2.1.length : Int) then ((some (x2.1.set (x2.2.2).toNat (Span.mk (Item.mk x2.2.1 ((at_ x2.1 x2.2.2).From).N ((at_ x2.1 x2.2.2).From).F ((at_ x2.1 x2.2.2).From).T) (at_ x2.1 x2.2.2).To))).bind fun y12 => (if 0 ≤ x2.2.2 ∧ x2.2.2 < (y12.length : Int) then ((some (y12.set (x2.2.2).toNat (Span.mk (Item.mk ((at_ y12 x2.2.2).From).Kind (IntKind.wrap .i64 (x2.2.1 + (1 : Int))) ((at_ y12 x2.2.2).From).F ((at_ y12 x2.2.2).From).T) (at_ y12 x2.2.2).To))).bind fun y19 => (if 0 ≤ x2.2.2 ∧ x2.2.2 < (y19.length : Int) then ((some (y19.set (x2.2.2).toNat (Span.mk (Item.mk ((at_ y19 x2.2.2).From).Kind ((at_ y19 x2.2.2).From).N (FloatKind.f64.nearest (IntKind.wrap .i64 ((IntKind.wrap .i64 (x2.2.1 + (1 : Int))) + (1 : Int)))) ((at_ y19 x2.2.2).From).T) (at_ y19 x2.2.2).To))).bind fun y27 => (if 0 ≤ x2.2.2 ∧ x2.2.2 < (y27.length : Int) then ((laws_markByteS.f (((at_ y27 x2.2.2).From).T) (IntKind.wrap .i64 ((IntKind.wrap .i64 ((IntKind.wrap .i64 (x2.2.1 + (1 : Int))) + (1 : Int))) + (1 : Int)))).bind fun r32 => ((some (y27.set (x2.2.2).toNat (Span.mk (Item.mk ((at_ y27 x2.2.2).From).Kind ((at_ y27 x2.2.2).From).N ((at_ y27 x2.2.2).From).F r32.2) (at_ y27 x2.2.2).To))).bind fun y35 => (if 0 ≤ x2.2.2 ∧ x2.2.2 < (y35.length : Int) then ((some (y35.set (x2.2.2).toNat (Span.mk (at_ y35 x2.2.2).From (Item.mk r32.1 ((at_ y35 x2.2.2).To).N ((at_ y35 x2.2.2).To).F ((at_ y35 x2.2.2).To).T)))).bind fun y42 => (if 0 ≤ x2.2.2 ∧ x2.2.2 < (y42.length : Int) then ((some (y42.set (x2.2.2).toNat (Span.mk (at_ y42 x2.2.2).From (Item.mk ((at_ y42 x2.2.2).To).Kind (IntKind.wrap .i64 (r32.1 + (1 : Int))) ((at_ y42 x2.2.2).To).F ((at_ y42 x2.2.2).To).T)))).bind fun y49 => (if 0 ≤ x2.2.2 ∧ x2.2.2 < (y49.length : Int) then ((some (y49.set (x2.2.2).toNat (Span.mk (at_ y49 x2.2.2).From (Item.mk ((at_ y49 x2.2.2).To).Kind ((at_ y49 x2.2.2).To).N (FloatKind.f64.nearest (IntKind.wrap .i64 ((IntKind.wrap .i64 (r32.1 + (1 : Int))) + (1 : Int)))) ((at_ y49 x2.2.2).To).T)))).bind fun y57 => (if 0 ≤ x2.2.2 ∧ x2.2.2 < (y57.length : Int) then ((laws_markByteS.f (((at_ y57 x2.2.2).To).T) (IntKind.wrap .i64 ((IntKind.wrap .i64 ((IntKind.wrap .i64 (r32.1 + (1 : Int))) + (1 : Int))) + (1 : Int)))).bind fun r62 => ((some (y57.set (x2.2.2).toNat (Span.mk (at_ y57 x2.2.2).From (Item.mk ((at_ y57 x2.2.2).To).Kind ((at_ y57 x2.2.2).To).N ((at_ y57 x2.2.2).To).F r62.2)))).bind fun y65 => (some (Sum.inl (y65, r62.1, (IntKind.wrap .i64 (x2.2.2 + (1 : Int)))))))) else none)) else none)) else none)) else none))) else none)) else none)) else none)) else none) else ((some (x2.2.1, x2.1)).bind fun o => some (Sum.inr o)))
noncomputable def laws_markSpanS.f (a0 : (List Span)) (a1 : Int) : Option (Int × (List Span)) :=
 (iter laws_markSpanS.b0 (a0, a1, (0 : Int)))
def laws_markSpanS.Q (w : World) (F : Nat → Prop) (os : List Nat) (w0_0 : Value) (r : Int × (List Span)) (v : Value) (w' : World) : Prop :=
 v = (.int .i64 r.1) ∧ FW (Kd.sl 80 kd80) os w w' [w0_0] r.2 ∧ Ky os w w'
set_option maxHeartbeats 4000000 in
set_option maxRecDepth 100000 in
theorem laws_markSpanS.calls (a0 : (List Span)) (a1 : Int) (w : World) (F : Nat → Prop) (w0_0 : Value) (os : List Nat) (h0_0 : (Kd.sl 80 kd80).ow w [w0_0] a0 os) (hn : os.Nodup) (hF : ∀ b, F b → b ∉ os) (r : Int × (List Span)) (m : laws_markSpanS.f a0 a1 = some r) :
  Calls Try.prog 59 #[w0_0, (.int .i64 a1)] w (RT (laws_markSpanS.Q w F os w0_0) r) := by
 obtain ⟨s0, rfl, kp0, z⟩ := start1 w F os hF
 have A0_0 := z.ow h0_0 hn
 refine calls_of_TM (args := [w0_0, (.int .i64 a1)]) Try.func59 Try.ntmps59 rfl rfl m ?_
 unfold laws_markSpanS.f
 refine sr (pu' rfl (dn (sq (sr (pu' rfl (dn (bl (lpI (fun (x2 : (List Span) × Int × Int) (e : Env) (w : World) => ∃ (s : St) (e0 : Env), w = s.w ∧ e = upd (upd (upd e0 0 w0_0) 1 (.int .i64 x2.2.1)) 5 (.int .i64 x2.2.2) ∧ Kp s0 s ∧ OwF (Kd.sl 80 kd80) s [w0_0] x2.1 2) ⟨s0, _, rfl, (ue (ue (ue rfl rfl) rfl) rfl), kp0, A0_0⟩ (fun g2 ih2 => ?_)))))))))
 rintro x2 _ _ ⟨s3, _, rfl, rfl, Kx2, Ax2_0⟩
 unfold laws_markSpanS.b0
 refine sq (sr (pu' rfl (mv' w0_0 rfl (ln' Ax2_0.rd Try.underlying56 rfl (pu' rfl (dn (cd rfl (fun h5 => ?_) (fun h5 => ?_))))))))
 ·
  refine sk (sq (bl (sr (mv' w0_0 rfl (pu' rfl (pu' rfl (ix' Ax2_0.rd Try.underlying56 z80 rfl (fun ad6 es6 h0_6 h1_6 he6 ce6 ia6 => ?_))))))))
  obtain ⟨v6_0, v6_1, v6_2, v6_3, rfl, A6_0, A6_1, A6_2, A6_3⟩ := op80 he6
  refine fa' fa80_0 rfl (fa' fa48_0 rfl (so (x' := (Span.mk (Item.mk x2.2.1 ((at_ x2.1 x2.2.2).From).N ((at_ x2.1 x2.2.2).From).F ((at_ x2.1 x2.2.2).From).T) (at_ x2.1 x2.2.2).To)) Ax2_0 ia6 h0_6 h1_6 (cs_iso (cs_left (cs_iso (cs_left cs_flat)))) z3 rfl rfl rfl rfl rfl rfl (fun s10 p10 A10 => ?_)))
  refine nb (fun y12 h12 => ?_)
  have A12 : OwF (Kd.sl 80 kd80) s10 [w0_0] y12 2 := by rw [h12]; exact A10
  refine dn (sr (pu' rfl (pu' rfl (pu' rfl (dn (sr (mv' w0_0 rfl (pu' rfl (pu' rfl (ix' A12.rd Try.underlying56 z80 rfl (fun ad13 es13 h0_13 h1_13 he13 ce13 ia13 => ?_)))))))))))
  obtain ⟨v13_0, v13_1, v13_2, v13_3, rfl, A13_0, A13_1, A13_2, A13_3⟩ := op80 he13
  refine fa' fa80_0 rfl (fa' fa48_1 rfl (so (x' := (Span.mk (Item.mk ((at_ y12 x2.2.2).From).Kind (IntKind.wrap .i64 (x2.2.1 + (1 : Int))) ((at_ y12 x2.2.2).From).F ((at_ y12 x2.2.2).From).T) (at_ y12 x2.2.2).To)) A12 ia13 h0_13 h1_13 (cs_iso (cs_left (cs_iso (cs_right (cs_left cs_flat))))) z3 rfl rfl rfl rfl rfl rfl (fun s17 p17 A17 => ?_)))
  refine nb (fun y19 h19 => ?_)
  have A19 : OwF (Kd.sl 80 kd80) s17 [w0_0] y19 2 := by rw [h19]; exact A17
  refine dn (sr (pu' rfl (pu' rfl (pu' rfl (dn (sr (mv' w0_0 rfl (pu' rfl (pu' rfl (i2f Try.underlying36 Try.underlying3 rfl rfl rfl rfl rfl rfl (fun v20 A20 => ?_)))))))))))
  refine ix' A19.rd Try.underlying56 z80 rfl (fun ad21 es21 h0_21 h1_21 he21 ce21 ia21 => ?_)
  obtain ⟨v21_0, v21_1, v21_2, v21_3, rfl, A21_0, A21_1, A21_2, A21_3⟩ := op80 he21
  refine fa' fa80_0 rfl (fa' fa48_2 rfl (so (x' := (Span.mk (Item.mk ((at_ y19 x2.2.2).From).Kind ((at_ y19 x2.2.2).From).N (FloatKind.f64.nearest (IntKind.wrap .i64 ((IntKind.wrap .i64 (x2.2.1 + (1 : Int))) + (1 : Int)))) ((at_ y19 x2.2.2).From).T) (at_ y19 x2.2.2).To)) A19 ia21 h0_21 h1_21 (cs_iso (cs_left (cs_iso (cs_right (cs_right (cs_left (cs_flt A20))))))) z36 rfl rfl rfl rfl rfl rfl (fun s25 p25 A25 => ?_)))
  refine nb (fun y27 h27 => ?_)
  have A27 : OwF (Kd.sl 80 kd80) s25 [w0_0] y27 2 := by rw [h27]; exact A25
  refine dn (sr (pu' rfl (pu' rfl (pu' rfl (dn (sr (mv' w0_0 rfl (pu' rfl (ix' A27.rd Try.underlying56 z80 rfl (fun ad28 es28 h0_28 h1_28 he28 ce28 ia28 => ?_))))))))))
  obtain ⟨v28_0, v28_1, v28_2, v28_3, rfl, A28_0, A28_1, A28_2, A28_3⟩ := op80 he28
  refine fa' fa80_0 rfl (fa' fa48_3 rfl (lc' ce28 Try.underlying37 rfl (pu' rfl ?_)))
  obtain ⟨os32, ho32, hn32, hc32, put32⟩ := focus (ln_iso (fun x : Span => (x.From, x.To)) (fun x => x.From.T) (fun x y => (Span.mk (Item.mk x.From.Kind x.From.N x.From.F y) x.To)) (ln_left (ln_iso (fun x : Item => (x.Kind, x.N, x.F, x.T)) (fun x => x.T) (fun x y => (Item.mk x.Kind x.N x.F y)) (ln_right (ln_right (ln_right ln_sl))) (fun _ => rfl) (fun _ _ => rfl))) (fun _ => rfl) (fun _ _ => rfl)) A27 h0_28 h1_28 ia28 ce28 rfl rfl
  refine cl' rfl Try.func81 rfl (fun r32 m32 => laws_markByteS.calls (((at_ y27 x2.2.2).From).T) (IntKind.wrap .i64 ((IntKind.wrap .i64 ((IntKind.wrap .i64 (x2.2.1 + (1 : Int))) + (1 : Int))) + (1 : Int))) s25.w (fun b => memb [] (s25.g b) = true) v28_1 os32 ho32 hn32 (apart_of hc32 rfl) r32 m32) ?_
  rintro r32 _ w32 m32 ⟨rfl, w32_, ky32⟩
  obtain ⟨s33, rfl, p33, A33⟩ := put32 w32 _ 40 ky32 w32_
  refine nb (fun y35 h35 => ?_)
  have A35 : OwF (Kd.sl 80 kd80) s33 [w0_0] y35 2 := by rw [h35]; exact A33
  refine pu' rfl (dn (sr (mv' w0_0 rfl (pu' rfl (pu' rfl (ix' A35.rd Try.underlying56 z80 rfl (fun ad36 es36 h0_36 h1_36 he36 ce36 ia36 => ?_)))))))
  obtain ⟨v36_0, v36_1, v36_2, v36_3, rfl, A36_0, A36_1, A36_2, A36_3⟩ := op80 he36
  refine fa' fa80_1 rfl (faq (q := 4) (q' := 0) (n := 4) fa48_0 rfl rfl rfl rfl rfl rfl rfl (so (x' := (Span.mk (at_ y35 x2.2.2).From (Item.mk r32.1 ((at_ y35 x2.2.2).To).N ((at_ y35 x2.2.2).To).F ((at_ y35 x2.2.2).To).T))) A35 ia36 h0_36 h1_36 (cs_iso (cs_right (cs_iso (cs_left cs_flat)))) z3 rfl rfl rfl rfl rfl rfl (fun s40 p40 A40 => ?_)))
  refine nb (fun y42 h42 => ?_)
  have A42 : OwF (Kd.sl 80 kd80) s40 [w0_0] y42 2 := by rw [h42]; exact A40
  refine dn (sr (pu' rfl (pu' rfl (pu' rfl (dn (sr (mv' w0_0 rfl (pu' rfl (pu' rfl (ix' A42.rd Try.underlying56 z80 rfl (fun ad43 es43 h0_43 h1_43 he43 ce43 ia43 => ?_)))))))))))
  obtain ⟨v43_0, v43_1, v43_2, v43_3, rfl, A43_0, A43_1, A43_2, A43_3⟩ := op80 he43
  refine fa' fa80_1 rfl (faq (q := 4) (q' := 1) (n := 5) fa48_1 rfl rfl rfl rfl rfl rfl rfl (so (x' := (Span.mk (at_ y42 x2.2.2).From (Item.mk ((at_ y42 x2.2.2).To).Kind (IntKind.wrap .i64 (r32.1 + (1 : Int))) ((at_ y42 x2.2.2).To).F ((at_ y42 x2.2.2).To).T))) A42 ia43 h0_43 h1_43 (cs_iso (cs_right (cs_iso (cs_right (cs_left cs_flat))))) z3 rfl rfl rfl rfl rfl rfl (fun s47 p47 A47 => ?_)))
  refine nb (fun y49 h49 => ?_)
  have A49 : OwF (Kd.sl 80 kd80) s47 [w0_0] y49 2 := by rw [h49]; exact A47
  refine dn (sr (pu' rfl (pu' rfl (pu' rfl (dn (sr (mv' w0_0 rfl (pu' rfl (pu' rfl (i2f Try.underlying36 Try.underlying3 rfl rfl rfl rfl rfl rfl (fun v50 A50 => ?_)))))))))))
  refine ix' A49.rd Try.underlying56 z80 rfl (fun ad51 es51 h0_51 h1_51 he51 ce51 ia51 => ?_)
  obtain ⟨v51_0, v51_1, v51_2, v51_3, rfl, A51_0, A51_1, A51_2, A51_3⟩ := op80 he51
  refine fa' fa80_1 rfl (faq (q := 4) (q' := 2) (n := 6) fa48_2 rfl rfl rfl rfl rfl rfl rfl (so (x' := (Span.mk (at_ y49 x2.2.2).From (Item.mk ((at_ y49 x2.2.2).To).Kind ((at_ y49 x2.2.2).To).N (FloatKind.f64.nearest (IntKind.wrap .i64 ((IntKind.wrap .i64 (r32.1 + (1 : Int))) + (1 : Int)))) ((at_ y49 x2.2.2).To).T))) A49 ia51 h0_51 h1_51 (cs_iso (cs_right (cs_iso (cs_right (cs_right (cs_left (cs_flt A50))))))) z36 rfl rfl rfl rfl rfl rfl (fun s55 p55 A55 => ?_)))
  refine nb (fun y57 h57 => ?_)
  have A57 : OwF (Kd.sl 80 kd80) s55 [w0_0] y57 2 := by rw [h57]; exact A55
  refine dn (sr (pu' rfl (pu' rfl (pu' rfl (dn (rg (mv' w0_0 rfl (pu' rfl (ix' A57.rd Try.underlying56 z80 rfl (fun ad58 es58 h0_58 h1_58 he58 ce58 ia58 => ?_))))))))))
  obtain ⟨v58_0, v58_1, v58_2, v58_3, rfl, A58_0, A58_1, A58_2, A58_3⟩ := op80 he58
  refine fa' fa80_1 rfl (faq (q := 4) (q' := 3) (n := 7) fa48_3 rfl rfl rfl rfl rfl rfl rfl (lc' ce58 Try.underlying37 rfl (pu' rfl ?_)))
  obtain ⟨os62, ho62, hn62, hc62, put62⟩ := focus (ln_iso (fun x : Span => (x.From, x.To)) (fun x => x.To.T) (fun x y => (Span.mk x.From (Item.mk x.To.Kind x.To.N x.To.F y))) (ln_right (ln_iso (fun x : Item => (x.Kind, x.N, x.F, x.T)) (fun x => x.T) (fun x y => (Item.mk x.Kind x.N x.F y)) (ln_right (ln_right (ln_right ln_sl))) (fun _ => rfl) (fun _ _ => rfl))) (fun _ => rfl) (fun _ _ => rfl)) A57 h0_58 h1_58 ia58 ce58 rfl rfl
  refine cl' rfl Try.func81 rfl (fun r62 m62 => laws_markByteS.calls (((at_ y57 x2.2.2).To).T) (IntKind.wrap .i64 ((IntKind.wrap .i64 ((IntKind.wrap .i64 (r32.1 + (1 : Int))) + (1 : Int))) + (1 : Int))) s55.w (fun b => memb [] (s55.g b) = true) v58_3 os62 ho62 hn62 (apart_of hc62 rfl) r62 m62) ?_
  rintro r62 _ w62 m62 ⟨rfl, w62_, ky62⟩
  obtain ⟨s63, rfl, p63, A63⟩ := put62 w62 _ 41 ky62 w62_
  refine nb (fun y65 h65 => ?_)
  have A65 : OwF (Kd.sl 80 kd80) s63 [w0_0] y65 2 := by rw [h65]; exact A63
  refine pu' rfl (dn (ib (rg (pu' rfl (pu' rfl (pu' rfl (dn ?_)))))))
  have K66 := (Kx2.st (tr8 p10 p17 p25 p33 p40 p47 p55 p63) rfl)
  exact lb ih2 ⟨s63, _, rfl, (ue (ue (ue rfl rfl) rfl) rfl), K66, A65⟩
 ·
  exact xt rfl (sgb (sr (pu' rfl (pu' rfl (dn (re rfl Try.func59 rfl (r_t rfl r_nil) rfl ⟨_, rfl, rfl, z.fw Kx2 Ax2_0, z.ky Kx2⟩))))))
noncomputable def laws_markItemS.b0  (x2 : (List Item) × Int × Int) : Option (((List Item) × Int × Int) ⊕ (Int × (List Item))) :=
 (if (decide (x2.2.2 < (x2.1.length : Int))) = true then (if 0 ≤ x2.2.2 ∧ x2.2.2 < (x2.1.length : Int) then (if 0 ≤ x2.2.2 ∧ x2.2.2 < ((x2.1.set (x2.2.2).toNat (Item.mk x2.2.1 (at_ x2.1 x2.2.2).N (at_ x2.1 x2.2.2).F (at_ x2.1 x2.2.2).T)).length : Int) then ((some ((x2.1.set (x2.2.2).toNat (Item.mk x2.2.1 (at_ x2.1 x2.2.2).N (at_ x2.1 x2.2.2).F (at_ x2.1 x2.2.2).T)).set (x2.2.2).toNat (Item.mk (at_ (x2.1.set (x2.2.2).toNat (Item.mk x2.2.1 (at_ x2.1 x2.2.2).N (at_ x2.1 x2.2.2).F (at_ x2.1 x2.2.2).T)) x2.2.2).Kind (IntKind.wrap .i64 (x2.2.1 + (1 : Int))) (at_ (x2.1.set (x2.2.2).toNat (Item.mk x2.2.1 (at_ x2.1 x2.2.2).N (at_ x2.1 x2.2.2).F (at_ x2.1 x2.2.2).T)) x2.2.2).F (at_ (x2.1.set (x2.2.2).toNat (Item.mk x2.2.1 (at_ x2.1 x2.2.2).N (at_ x2.1 x2.2.2).F (at_ x2.1 x2.2.2).T)) x2.2.2).T))).bind fun y16 => (if 0 ≤ x2.2.2 ∧ x2.2.2 < (y16.length : Int) then ((some (y16.set (x2.2.2).toNat (Item.mk (at_ y16 x2.2.2).Kind (at_ y16 x2.2.2).N (FloatKind.f64.nearest (IntKind.wrap .i64 ((IntKind.wrap .i64 (x2.2.1 + (1 : Int))) + (1 : Int)))) (at_ y16 x2.2.2).T))).bind fun y23 => (if 0 ≤ x2.2.2 ∧ x2.2.2 < (y23.length : Int) then ((laws_markByteS.f ((at_ y23 x2.2.2).T) (IntKind.wrap .i64 ((IntKind.wrap .i64 ((IntKind.wrap .i64 (x2.2.1 + (1 : Int))) + (1 : Int))) + (1 : Int)))).bind fun r27 => (some (Sum.inl ((y23.set (x2.2.2).toNat (Item.mk (at_ y23 x2.2.2).Kind (at_ y23 x2.2.2).N (at_ y23 x2.2.2).F r27.2)), r27.1, (IntKind.wrap .i64 (x2.2.2 + (1 : Int))))))) else none)) else none)) else none) else none) else ((some (x2.2.1, x2.1)).bind fun o => some (Sum.inr o)))
noncomputable def laws_markItemS.f (a0 : (List Item)) (a1 : Int) : Option (Int × (List Item)) :=
 (iter laws_markItemS.b0 (a0, a1, (0 : Int)))
def laws_markItemS.Q (w : World) (F : Nat → Prop) (os : List Nat) (w0_0 : Value) (r : Int × (List Item)) (v : Value) (w' : World) : Prop :=
 v = (.int .i64 r.1) ∧ FW (Kd.sl 48 kd48) os w w' [w0_0] r.2 ∧ Ky os w w'
set_option maxHeartbeats 4000000 in
set_option maxRecDepth 100000 in
theorem laws_markItemS.calls (a0 : (List Item)) (a1 : Int) (w : World) (F : Nat → Prop) (w0_0 : Value) (os : List Nat) (h0_0 : (Kd.sl 48 kd48).ow w [w0_0] a0 os) (hn : os.Nodup) (hF : ∀ b, F b → b ∉ os) (r : Int × (List Item)) (m : laws_markItemS.f a0 a1 = some r) :
  Calls Try.prog 60 #[w0_0, (.int .i64 a1)] w (RT (laws_markItemS.Q w F os w0_0) r) := by
 obtain ⟨s0, rfl, kp0, z⟩ := start1 w F os hF
 have A0_0 := z.ow h0_0 hn
 refine calls_of_TM (args := [w0_0, (.int .i64 a1)]) Try.func60 Try.ntmps60 rfl rfl m ?_
 unfold laws_markItemS.f
 refine sr (pu' rfl (dn (sq (sr (pu' rfl (dn (bl (lpI (fun (x2 : (List Item) × Int × Int) (e : Env) (w : World) => ∃ (s : St) (e0 : Env), w = s.w ∧ e = upd (upd (upd e0 0 w0_0) 1 (.int .i64 x2.2.1)) 5 (.int .i64 x2.2.2) ∧ Kp s0 s ∧ OwF (Kd.sl 48 kd48) s [w0_0] x2.1 2) ⟨s0, _, rfl, (ue (ue (ue rfl rfl) rfl) rfl), kp0, A0_0⟩ (fun g2 ih2 => ?_)))))))))
 rintro x2 _ _ ⟨s3, _, rfl, rfl, Kx2, Ax2_0⟩
 unfold laws_markItemS.b0
 refine sq (sr (pu' rfl (mv' w0_0 rfl (ln' Ax2_0.rd Try.underlying57 rfl (pu' rfl (dn (cd rfl (fun h5 => ?_) (fun h5 => ?_))))))))
 ·
  refine sk (sq (bl (sr (mv' w0_0 rfl (pu' rfl (pu' rfl (ix' Ax2_0.rd Try.underlying57 z48 rfl (fun ad6 es6 h0_6 h1_6 he6 ce6 ia6 => ?_))))))))
  obtain ⟨v6_0, v6_1, rfl, A6_0, A6_1⟩ := op48 he6
  refine fa' fa48_0 rfl (so (x' := (Item.mk x2.2.1 (at_ x2.1 x2.2.2).N (at_ x2.1 x2.2.2).F (at_ x2.1 x2.2.2).T)) Ax2_0 ia6 h0_6 h1_6 (cs_iso (cs_left cs_flat)) z3 rfl rfl rfl rfl rfl rfl (fun s9 p9 A9 => ?_))
  refine dn (sr (pu' rfl (pu' rfl (pu' rfl (dn (sr (mv' w0_0 rfl (pu' rfl (pu' rfl (ix' A9.rd Try.underlying57 z48 rfl (fun ad11 es11 h0_11 h1_11 he11 ce11 ia11 => ?_)))))))))))
  obtain ⟨v11_0, v11_1, rfl, A11_0, A11_1⟩ := op48 he11
  refine fa' fa48_1 rfl (so (x' := (Item.mk (at_ (x2.1.set (x2.2.2).toNat (Item.mk x2.2.1 (at_ x2.1 x2.2.2).N (at_ x2.1 x2.2.2).F (at_ x2.1 x2.2.2).T)) x2.2.2).Kind (IntKind.wrap .i64 (x2.2.1 + (1 : Int))) (at_ (x2.1.set (x2.2.2).toNat (Item.mk x2.2.1 (at_ x2.1 x2.2.2).N (at_ x2.1 x2.2.2).F (at_ x2.1 x2.2.2).T)) x2.2.2).F (at_ (x2.1.set (x2.2.2).toNat (Item.mk x2.2.1 (at_ x2.1 x2.2.2).N (at_ x2.1 x2.2.2).F (at_ x2.1 x2.2.2).T)) x2.2.2).T)) A9 ia11 h0_11 h1_11 (cs_iso (cs_right (cs_left cs_flat))) z3 rfl rfl rfl rfl rfl rfl (fun s14 p14 A14 => ?_))
  refine nb (fun y16 h16 => ?_)
  have A16 : OwF (Kd.sl 48 kd48) s14 [w0_0] y16 2 := by rw [h16]; exact A14
  refine dn (sr (pu' rfl (pu' rfl (pu' rfl (dn (sr (mv' w0_0 rfl (pu' rfl (pu' rfl (i2f Try.underlying36 Try.underlying3 rfl rfl rfl rfl rfl rfl (fun v17 A17 => ?_)))))))))))
  refine ix' A16.rd Try.underlying57 z48 rfl (fun ad18 es18 h0_18 h1_18 he18 ce18 ia18 => ?_)
  obtain ⟨v18_0, v18_1, rfl, A18_0, A18_1⟩ := op48 he18
  refine fa' fa48_2 rfl (so (x' := (Item.mk (at_ y16 x2.2.2).Kind (at_ y16 x2.2.2).N (FloatKind.f64.nearest (IntKind.wrap .i64 ((IntKind.wrap .i64 (x2.2.1 + (1 : Int))) + (1 : Int)))) (at_ y16 x2.2.2).T)) A16 ia18 h0_18 h1_18 (cs_iso (cs_right (cs_right (cs_left (cs_flt A17))))) z36 rfl rfl rfl rfl rfl rfl (fun s21 p21 A21 => ?_))
  refine nb (fun y23 h23 => ?_)
  have A23 : OwF (Kd.sl 48 kd48) s21 [w0_0] y23 2 := by rw [h23]; exact A21
  refine dn (sr (pu' rfl (pu' rfl (pu' rfl (dn (rg (mv' w0_0 rfl (pu' rfl (ix' A23.rd Try.underlying57 z48 rfl (fun ad24 es24 h0_24 h1_24 he24 ce24 ia24 => ?_))))))))))
  obtain ⟨v24_0, v24_1, rfl, A24_0, A24_1⟩ := op48 he24
  refine fa' fa48_3 rfl (lc' ce24 Try.underlying37 rfl (pu' rfl ?_))
  obtain ⟨os27, ho27, hn27, hc27, put27⟩ := focus (ln_iso (fun x : Item => (x.Kind, x.N, x.F, x.T)) (fun x => x.T) (fun x y => (Item.mk x.Kind x.N x.F y)) (ln_right (ln_right (ln_right ln_sl))) (fun _ => rfl) (fun _ _ => rfl)) A23 h0_24 h1_24 ia24 ce24 rfl rfl
  refine cl' rfl Try.func81 rfl (fun r27 m27 => laws_markByteS.calls ((at_ y23 x2.2.2).T) (IntKind.wrap .i64 ((IntKind.wrap .i64 ((IntKind.wrap .i64 (x2.2.1 + (1 : Int))) + (1 : Int))) + (1 : Int))) s21.w (fun b => memb [] (s21.g b) = true) v24_1 os27 ho27 hn27 (apart_of hc27 rfl) r27 m27) ?_
  rintro r27 _ w27 m27 ⟨rfl, w27_, ky27⟩
  obtain ⟨s28, rfl, p28, A28⟩ := put27 w27 _ 40 ky27 w27_
  refine pu' rfl (dn (ib (rg (pu' rfl (pu' rfl (pu' rfl (dn ?_)))))))
  have K30 := (Kx2.st (tr4 p9 p14 p21 p28) rfl)
  exact lb ih2 ⟨s28, _, rfl, (ue (ue (ue rfl rfl) rfl) rfl), K30, A28⟩
 ·
  exact xt rfl (sgb (sr (pu' rfl (pu' rfl (dn (re rfl Try.func60 rfl (r_t rfl r_nil) rfl ⟨_, rfl, rfl, z.fw Kx2 Ax2_0, z.ky Kx2⟩))))))
noncomputable def spec_l3copy.f (a0 : Item) : Option (Item) :=
 (if ([] : (List Int)).length + a0.T.length ≤ Lim then (some (Item.mk a0.Kind a0.N a0.F (([] : (List Int)) ++ a0.T))) else none)
def spec_l3copy.Q (w : World) (F : Nat → Prop) (r : Item) (v : Value) (w' : World) : Prop :=
 ∃ (v0 : Value) (v1 : Value), v = (.agg #[(.int .i64 r.Kind), (.int .i64 r.N), v0, v1]) ∧ FO kd48 w w' [(.int .i64 r.Kind), (.int .i64 r.N), v0, v1] r ∧ Ky [] w w'
set_option maxHeartbeats 4000000 in
set_option maxRecDepth 100000 in
theorem spec_l3copy.calls (a0 : Item) (w : World) (F : Nat → Prop) (w0_0 : Value) (w0_1 : Value) (h0_0 : Kd.flt.rd w [w0_0] a0.F F) (h0_1 : (Kd.sl 5 (Kd.int .u8)).rd w [w0_1] a0.T F) (r : Item) (m : spec_l3copy.f a0 = some r) :
  Calls Try.prog 63 #[(.agg #[(.int .i64 a0.Kind), (.int .i64 a0.N), w0_0, w0_1])] w (RT (spec_l3copy.Q w F) r) := by
 obtain ⟨s0, rfl, kp0, z⟩ := start0 w F
 have A0_0 := fl_of h0_0
 have A0_1 := z.rd h0_1
 refine calls_of_TM (args := [(.agg #[(.int .i64 a0.Kind), (.int .i64 a0.N), w0_0, w0_1])]) Try.func63 Try.ntmps63 rfl rfl m ?_
 unfold spec_l3copy.f
 refine sr (bx' (cs := [(.int .i64 a0.Kind), (.int .i64 a0.N), w0_0, w0_1]) 40 rfl rfl (fun b2 s2 p2 B2 => ?_))
 refine al (cs := [(.int .i64 (0 : Int)), (.int .i64 (0 : Int)), (.float .f64 0), (.slice none 0 0)]) 41 rfl rfl rfl rfl rfl o48 rfl (fun b4 s4 p4 B4 => ?_)
 refine dn (sr (lt0 (K := (Kd.int .u8)) 42 Try.underlying37 z5 rfl rfl rfl rfl rfl (fun v6 s6 p6 A6 => ?_)))
 refine fa' fa48_3 rfl ?_
 have A8 := (BlF.st B2 (tr2 p4 p6) rfl)
 refine ld' A8 Try.underlying37 rfl ?_
 have K9 := (kp0.st (tr3 p2 p4 p6) rfl)
 have A10 := (A0_1.kp K9)
 refine apF fl_int sl37 A6 A10 rfl rfl rfl rfl rfl rfl rfl (fun v11 s11 p11 A11 => ?_)
 refine fa' fa48_3 rfl ?_
 have A13 := (BlF.st A8 p11 rfl)
 refine sv A13 z37 rfl rfl rfl rfl rfl rfl A11.rd.one rfl (fun s14 p14 B14 => ?_)
 refine dn (sr (lda' (es := [(.int .i64 a0.Kind), (.int .i64 a0.N), w0_0, v11]) B14 Try.underlying48 z48 rfl ?_))
 have A16 := (BlF.st B4 (tr3 p6 p11 p14) rfl)
 have A17 := (A11.st p14 rfl)
 refine sva (vs := [(.int .i64 a0.Kind), (.int .i64 a0.N), w0_0, v11]) A16 z48 rfl rfl rfl rfl rfl rfl (on_cons rfl (on_cons rfl (on_cons (FL.one A0_0) (on_cons A17.rd.one on_nil)))) rfl (fun s18 p18 B18 => ?_)
 refine dn ?_
 have A21 := (A17.st p18 rfl)
 have A20 : OwF kd48 s18 [(.int .i64 a0.Kind), (.int .i64 a0.N), w0_0, v11] (Item.mk a0.Kind a0.N a0.F (([] : (List Int)) ++ a0.T)) 42 := (ow_isoz (fun x : Item => (x.Kind, x.N, x.F, x.T)) (Item.mk a0.Kind a0.N a0.F (([] : (List Int)) ++ a0.T)) (ow_l (fz_int .i64 a0.Kind) (ow_l (fz_int .i64 a0.N) (ow_l (fz_flt A0_0) A21))))
 have K23 := (K9.st (tr3 p11 p14 p18) rfl)
 exact re rfl Try.func63 rfl (r_b B18 Try.underlying48 rfl z48 rfl r_nil) rfl ⟨_, rfl, w0_0, v11, rfl, A20.fo K23 rfl z.l, z.ky K23⟩
noncomputable def spec_l5in.f (a0 : Int) (a1 : Int) (a2 : Int) : Option (Bool) :=
 (some ((decide (a0 ≥ a1)) && (decide (a0 ≤ a2))))
def spec_l5in.Q (w : World) (F : Nat → Prop) (r : Bool) (v : Value) (w' : World) : Prop :=
 v = (.bool r) ∧ Ky [] w w'
set_option maxHeartbeats 4000000 in
set_option maxRecDepth 100000 in
theorem spec_l5in.calls (a0 : Int) (a1 : Int) (a2 : Int) (w : World) (F : Nat → Prop)   (r : Bool) (m : spec_l5in.f a0 a1 a2 = some r) :
  Calls Try.prog 135 #[(.int .i64 a0), (.int .i64 a1), (.int .i64 a2)] w (RT (spec_l5in.Q w F) r) := by
 obtain ⟨s0, rfl, kp0, z⟩ := start0 w F
 refine calls_of_TM (args := [(.int .i64 a0), (.int .i64 a1), (.int .i64 a2)]) Try.func135 Try.ntmps135 rfl rfl m ?_
 unfold spec_l5in.f
 refine sr (pu' rfl (dn (sr (pu' rfl (pu' rfl (pu' rfl (pu' rfl (jy [10, 11, 12, 13, 14] [8] 14 (.bool ((decide (a0 ≥ a1)) && (decide (a0 ≤ a2)))) rfl (fun Kg1 => ?_) (fun j1 => ?_)))))))))
 ·
  rcases Bool.eq_false_or_eq_true (decide (a0 ≥ a1)) with hb1 | hb1
  ·
   exact sbT hb1 (pu' rfl (pu' rfl (pu' rfl (pu' rfl (Kg1 _ (Ag.put ((Ag.put ((Ag.put ((Ag.put (Ag.base rfl) rfl)) rfl)) rfl)) rfl) (by rw [hb1]; rfl))))))
  ·
   exact sbT hb1 (uw' rfl (uw' rfl (uw' rfl (pu' rfl (Kg1 _ (Ag.put ((Ag.put ((Ag.put ((Ag.put (Ag.base rfl) rfl)) rfl)) rfl)) rfl) (by rw [hb1]; rfl))))))
 exact pu' rfl (dn (re rfl Try.func135 rfl (r_t rfl r_nil) rfl ⟨_, rfl, rfl, z.ky kp0⟩))
noncomputable def slices_Clone_byte_byte.f (a0 : (List Int)) : Option ((List Int)) :=
 (if ([] : (List Int)).length + a0.length ≤ Lim then (some (([] : (List Int)) ++ a0)) else none)
def slices_Clone_byte_byte.Q (w : World) (F : Nat → Prop) (r : (List Int)) (v : Value) (w' : World) : Prop :=
 FO (Kd.sl 5 (Kd.int .u8)) w w' [v] r ∧ Ky [] w w'
set_option maxHeartbeats 4000000 in
set_option maxRecDepth 100000 in
theorem slices_Clone_byte_byte.calls (a0 : (List Int)) (w : World) (F : Nat → Prop) (w0_0 : Value) (h0_0 : (Kd.sl 5 (Kd.int .u8)).rd w [w0_0] a0 F) (r : (List Int)) (m : slices_Clone_byte_byte.f a0 = some r) :
  Calls Try.prog 207 #[w0_0] w (RT (slices_Clone_byte_byte.Q w F) r) := by
 obtain ⟨s0, rfl, kp0, z⟩ := start0 w F
 have A0_0 := z.rd h0_0
 refine calls_of_TM (args := [w0_0]) Try.func207 Try.ntmps207 rfl rfl m ?_
 unfold slices_Clone_byte_byte.f
 refine sr (pu' rfl (dn (sq (sr (mv' w0_0 rfl (nq A0_0 Try.underlying37 rfl rfl rfl rfl rfl rfl rfl (fun nb2 hn2 => ?_)))))))
 refine dn (cdb rfl (fun h3 => ?_) (fun h3 => ?_))
 ·
  obtain rfl := hn2 h3
  exact mg fun _ => (sr (pu' rfl (dn (re rfl Try.func207 rfl (r_t rfl r_nil) rfl ⟨_, rfl, (ow_nil 5 (Kd.int .u8) s0 40).fo kp0 rfl z.l, z.ky kp0⟩))))
 ·
  refine sk (sr (lt0 (K := (Kd.int .u8)) 40 Try.underlying37 z5 rfl rfl rfl rfl rfl (fun v4 s4 p4 A4 => ?_)))
  refine mv' w0_0 rfl ?_
  have K6 := (kp0.st p4 rfl)
  have A7 := (A0_0.kp K6)
  refine apF fl_int sl37 A4 A7 rfl rfl rfl rfl rfl rfl rfl (fun v8 s8 p8 A8 => ?_)
  refine asg' v8 rfl (dn ?_)
  have K10 := (K6.st p8 rfl)
  exact re rfl Try.func207 rfl (r_t rfl r_nil) rfl ⟨_, rfl, A8.fo K10 rfl z.l, z.ky K10⟩
noncomputable def impl_Item_own.f (a0 : Item) : Option (Item) :=
 ((slices_Clone_byte_byte.f a0.T).bind fun r9 => (some (Item.mk a0.Kind a0.N a0.F r9)))
def impl_Item_own.Q (w : World) (F : Nat → Prop) (r : Item) (v : Value) (w' : World) : Prop :=
 ∃ (v0 : Value) (v1 : Value), v = (.agg #[(.int .i64 r.Kind), (.int .i64 r.N), v0, v1]) ∧ FO kd48 w w' [(.int .i64 r.Kind), (.int .i64 r.N), v0, v1] r ∧ Ky [] w w'
set_option maxHeartbeats 4000000 in
set_option maxRecDepth 100000 in
theorem impl_Item_own.calls (a0 : Item) (w : World) (F : Nat → Prop) (w0_0 : Value) (w0_1 : Value) (h0_0 : Kd.flt.rd w [w0_0] a0.F F) (h0_1 : (Kd.sl 5 (Kd.int .u8)).rd w [w0_1] a0.T F) (r : Item) (m : impl_Item_own.f a0 = some r) :
  Calls Try.prog 171 #[(.agg #[(.int .i64 a0.Kind), (.int .i64 a0.N), w0_0, w0_1])] w (RT (impl_Item_own.Q w F) r) := by
 obtain ⟨s0, rfl, kp0, z⟩ := start0 w F
 have A0_0 := fl_of h0_0
 have A0_1 := z.rd h0_1
 refine calls_of_TM (args := [(.agg #[(.int .i64 a0.Kind), (.int .i64 a0.N), w0_0, w0_1])]) Try.func171 Try.ntmps171 rfl rfl m ?_
 unfold impl_Item_own.f
 refine sr (bx' (cs := [(.int .i64 a0.Kind), (.int .i64 a0.N), w0_0, w0_1]) 40 rfl rfl (fun b2 s2 p2 B2 => ?_))
 refine al (cs := [(.int .i64 (0 : Int)), (.int .i64 (0 : Int)), (.float .f64 0), (.slice none 0 0)]) 41 rfl rfl rfl rfl rfl o48 rfl (fun b4 s4 p4 B4 => ?_)
 refine dn (sr (fa' fa48_3 rfl ?_))
 have A6 := (BlF.st B2 p4 rfl)
 refine ld' A6 Try.underlying37 rfl ?_
 have K7 := (kp0.st (tr2 p2 p4) rfl)
 have A8 := (A0_1.kp K7)
 refine cl' rfl Try.func207 rfl (fun r9 m9 => slices_Clone_byte_byte.calls a0.T s4.w (fun b => memb [0] (s4.g b) = true) w0_1 A8 r9 m9) ?_
 rintro r9 v9_0 w9 m9 ⟨f9_0, ky9⟩
 obtain ⟨s10, rfl, p10, n10⟩ := nwx s4 w9 42 ky9
 have A9_0 := f9_0.c n10
 refine fa' fa48_3 rfl ?_
 have A12 := (BlF.st A6 p10 rfl)
 refine sv A12 z37 rfl rfl rfl rfl rfl rfl A9_0.rd.one rfl (fun s13 p13 B13 => ?_)
 refine dn (sr (lda' (es := [(.int .i64 a0.Kind), (.int .i64 a0.N), w0_0, v9_0]) B13 Try.underlying48 z48 rfl ?_))
 have A15 := (BlF.st B4 (tr2 p10 p13) rfl)
 have A16 := (A9_0.st p13 rfl)
 refine sva (vs := [(.int .i64 a0.Kind), (.int .i64 a0.N), w0_0, v9_0]) A15 z48 rfl rfl rfl rfl rfl rfl (on_cons rfl (on_cons rfl (on_cons (FL.one A0_0) (on_cons A16.rd.one on_nil)))) rfl (fun s17 p17 B17 => ?_)
 refine dn ?_
 have A20 := (A16.st p17 rfl)
 have A19 : OwF kd48 s17 [(.int .i64 a0.Kind), (.int .i64 a0.N), w0_0, v9_0] (Item.mk a0.Kind a0.N a0.F r9) 42 := (ow_isoz (fun x : Item => (x.Kind, x.N, x.F, x.T)) (Item.mk a0.Kind a0.N a0.F r9) (ow_l (fz_int .i64 a0.Kind) (ow_l (fz_int .i64 a0.N) (ow_l (fz_flt A0_0) A20))))
 have K22 := (K7.st (tr3 p10 p13 p17) rfl)
 exact re rfl Try.func171 rfl (r_b B17 Try.underlying48 rfl z48 rfl r_nil) rfl ⟨_, rfl, w0_0, v9_0, rfl, A19.fo K22 rfl z.l, z.ky K22⟩
noncomputable def laws_markItem.f (a0 : Item) (a1 : Int) : Option (Int × (List Int)) :=
 ((laws_markByteS.f a0.T a1).bind fun r4 => (some (r4.1, r4.2)))
def laws_markItem.Q (w : World) (F : Nat → Prop) (os : List Nat) (w0_1 : Value) (r : Int × (List Int)) (v : Value) (w' : World) : Prop :=
 v = (.int .i64 r.1) ∧ FW (Kd.sl 5 (Kd.int .u8)) os w w' [w0_1] r.2 ∧ Ky os w w'
set_option maxHeartbeats 4000000 in
set_option maxRecDepth 100000 in
theorem laws_markItem.calls (a0 : Item) (a1 : Int) (w : World) (F : Nat → Prop) (w0_0 : Value) (w0_1 : Value) (h0_0 : Kd.flt.rd w [w0_0] a0.F F) (os : List Nat) (h0_1 : (Kd.sl 5 (Kd.int .u8)).ow w [w0_1] a0.T os) (hn : os.Nodup) (hF : ∀ b, F b → b ∉ os) (r : Int × (List Int)) (m : laws_markItem.f a0 a1 = some r) :
  Calls Try.prog 26 #[(.agg #[(.int .i64 a0.Kind), (.int .i64 a0.N), w0_0, w0_1]), (.int .i64 a1)] w (RT (laws_markItem.Q w F os w0_1) r) := by
 obtain ⟨s0, rfl, kp0, z⟩ := start1 w F os hF
 have A0_0 := fl_of h0_0
 have A0_1 := z.ow h0_1 hn
 refine calls_of_TM (args := [(.agg #[(.int .i64 a0.Kind), (.int .i64 a0.N), w0_0, w0_1]), (.int .i64 a1)]) Try.func26 Try.ntmps26 rfl rfl m ?_
 unfold laws_markItem.f
 refine sr (bx' (cs := [(.int .i64 a0.Kind), (.int .i64 a0.N), w0_0, w0_1]) 40 rfl rfl (fun b2 s2 p2 B2 => ?_))
 refine pu' rfl (dn (sr (fa' fa48_3 rfl (ld' B2 Try.underlying37 rfl (pu' rfl ?_)))))
 have A5 := (A0_1.st p2 rfl)
 obtain ⟨os4, ho4, hn4, hc4⟩ := A5
 refine cl' rfl Try.func81 rfl (fun r4 m4 => laws_markByteS.calls a0.T a1 s2.w (fun b => memb [] (s2.g b) = true) w0_1 os4 ho4 hn4 (apart_of hc4 rfl) r4 m4) ?_
 rintro r4 _ w4 m4 ⟨rfl, w4_, ky4⟩
 obtain ⟨s6, rfl, p6, A6⟩ := nwo 41 hc4 ky4 w4_
 refine pu' rfl (dn (sr (pu' rfl (pu' rfl (dn ?_)))))
 have K8 := (kp0.st (tr2 p2 p6) rfl)
 exact re rfl Try.func26 rfl (r_t rfl r_nil) rfl ⟨_, rfl, rfl, z.fw K8 A6, z.ky K8⟩
noncomputable def laws_heldByteS.b0 (a0 : (List Int)) (x2 : Int × Int) : Option ((Int × Int) ⊕ Int) :=
 (if (decide (x2.2 < (a0.length : Int))) = true then (if 0 ≤ x2.2 ∧ x2.2 < (a0.length : Int) then (if ((at_ a0 x2.2) != (IntKind.wrap .u8 x2.1)) = true then (some (Sum.inr (-1 : Int))) else (some (Sum.inl ((IntKind.wrap .i64 (x2.1 + (1 : Int))), (IntKind.wrap .i64 (x2.2 + (1 : Int))))))) else none) else ((some x2.1).bind fun o => some (Sum.inr o)))
noncomputable def laws_heldByteS.f (a0 : (List Int)) (a1 : Int) : Option (Int) :=
 (iter (laws_heldByteS.b0 a0) (a1, (0 : Int)))
def laws_heldByteS.Q (w : World) (F : Nat → Prop) (r : Int) (v : Value) (w' : World) : Prop :=
 v = (.int .i64 r) ∧ Ky [] w w'
set_option maxHeartbeats 4000000 in
set_option maxRecDepth 100000 in
theorem laws_heldByteS.calls (a0 : (List Int)) (a1 : Int) (w : World) (F : Nat → Prop) (w0_0 : Value) (h0_0 : (Kd.sl 5 (Kd.int .u8)).rd w [w0_0] a0 F) (r : Int) (m : laws_heldByteS.f a0 a1 = some r) :
  Calls Try.prog 169 #[w0_0, (.int .i64 a1)] w (RT (laws_heldByteS.Q w F) r) := by
 obtain ⟨s0, rfl, kp0, z⟩ := start0 w F
 have A0_0 := z.rd h0_0
 refine calls_of_TM (args := [w0_0, (.int .i64 a1)]) Try.func169 Try.ntmps169 rfl rfl m ?_
 unfold laws_heldByteS.f
 refine sr (pu' rfl (dn (sq (sr (pu' rfl (dn (bl (lpI (fun (x2 : Int × Int) (e : Env) (w : World) => ∃ (s : St) (e0 : Env), w = s.w ∧ e = upd (upd (upd e0 0 w0_0) 1 (.int .i64 x2.1)) 5 (.int .i64 x2.2) ∧ Kp s0 s) ⟨s0, _, rfl, (ue (ue (ue rfl rfl) rfl) rfl), kp0⟩ (fun g2 ih2 => ?_)))))))))
 rintro x2 _ _ ⟨s3, _, rfl, rfl, Kx2⟩
 unfold laws_heldByteS.b0
 refine sq (sr (pu' rfl (mv' w0_0 rfl ?_)))
 have A4 := (A0_0.kp Kx2)
 refine ln' A4 Try.underlying37 rfl (pu' rfl (dn (cd rfl (fun h5 => ?_) (fun h5 => ?_))))
 ·
  refine sk (sq (bl (sq (sr (mv' w0_0 rfl (pu' rfl (ix' A4 Try.underlying37 z5 rfl (fun ad6 es6 h0_6 h1_6 he6 ce6 ia6 => ?_))))))))
  obtain rfl := he6
  refine lc0 ce6 Try.underlying5 rfl rfl rfl rfl rfl rfl rfl rfl (pu' rfl (cv Try.underlying5 Try.underlying3 rfl rfl rfl rfl rfl rfl (pu' rfl (dn (cd rfl (fun h8 => ?_) (fun h8 => ?_))))))
  ·
   exact sr (pu' rfl (dn (sgi (re rfl Try.func169 rfl (r_t rfl r_nil) rfl ⟨_, rfl, rfl, z.ky Kx2⟩))))
  ·
   exact sk (rg (pu' rfl (pu' rfl (pu' rfl (dn (ib (rg (pu' rfl (pu' rfl (pu' rfl (dn (lb ih2 ⟨s3, _, rfl, (ue (ue (ue rfl rfl) rfl) rfl), Kx2⟩))))))))))))
 ·
  exact xt rfl (sgb (sr (pu' rfl (pu' rfl (dn (re rfl Try.func169 rfl (r_t rfl r_nil) rfl ⟨_, rfl, rfl, z.ky Kx2⟩))))))
noncomputable def spec_l13spans.b0 (a0 : (List Span)) (x2 : (List Span) × Int) : Option (((List Span) × Int) ⊕ (List Span)) :=
 (if (decide (x2.2 < (a0.length : Int))) = true then (if 0 ≤ x2.2 ∧ x2.2 < (a0.length : Int) then (if 0 ≤ x2.2 ∧ x2.2 < (a0.length : Int) then ((spec_l3copy.f ((at_ a0 x2.2).From)).bind fun r30 => ((spec_l3copy.f ((at_ a0 x2.2).To)).bind fun r39 => (if x2.1.length + ([(Span.mk r30 r39)]).length ≤ Lim then (some (Sum.inl ((x2.1 ++ [(Span.mk r30 r39)]), (IntKind.wrap .i64 (x2.2 + (1 : Int)))))) else none))) else none) else none) else ((some x2.1).bind fun o => some (Sum.inr o)))
noncomputable def spec_l13spans.f (a0 : (List Span)) : Option ((List Span)) :=
 (iter (spec_l13spans.b0 a0) (([] : (List Span)), (0 : Int)))
def spec_l13spans.Q (w : World) (F : Nat → Prop) (r : (List Span)) (v : Value) (w' : World) : Prop :=
 FO (Kd.sl 80 kd80) w w' [v] r ∧ Ky [] w w'
set_option maxHeartbeats 4000000 in
set_option maxRecDepth 100000 in
theorem spec_l13spans.calls (a0 : (List Span)) (w : World) (F : Nat → Prop) (w0_0 : Value) (h0_0 : (Kd.sl 80 kd80).rd w [w0_0] a0 F) (r : (List Span)) (m : spec_l13spans.f a0 = some r) :
  Calls Try.prog 108 #[w0_0] w (RT (spec_l13spans.Q w F) r) := by
 obtain ⟨s0, rfl, kp0, z⟩ := start0 w F
 have A0_0 := z.rd h0_0
 refine calls_of_TM (args := [w0_0]) Try.func108 Try.ntmps108 rfl rfl m ?_
 unfold spec_l13spans.f
 refine sr (pu' rfl (dn (sr (pu' rfl (dn (sq (sr (pu' rfl (dn (bl (lpI (fun (x2 : (List Span) × Int) (e : Env) (w : World) => ∃ (s : St) (e0 : Env) (vx2_0 : Value), w = s.w ∧ e = upd (upd (upd e0 0 w0_0) 3 vx2_0) 4 (.int .i64 x2.2) ∧ Kp s0 s ∧ OwF (Kd.sl 80 kd80) s [vx2_0] x2.1 41) ⟨s0, _, (.slice none 0 0), rfl, (ue (ue (ue rfl rfl) rfl) rfl), kp0, (ow_nil 80 kd80 _ 41)⟩ (fun g2 ih2 => ?_))))))))))))
 rintro x2 _ _ ⟨s3, _, vx2_0, rfl, rfl, Kx2, Ax2_0⟩
 unfold spec_l13spans.b0
 refine sq (sr (pu' rfl (mv' w0_0 rfl ?_)))
 have A5 := (A0_0.kp Kx2)
 refine ln' A5 Try.underlying56 rfl (pu' rfl (dn (cd rfl (fun h6 => ?_) (fun h6 => ?_))))
 ·
  refine sk (sq (bl (zdraw [[], [], [], [1, 2], [3], [4], [5], [], [], [7, 8], [9], [10], [11, 6], [6, 12], [13], [0, 14, 12], [15, 15, 0, 1, 2, 3, 4, 5, 6, 7, 8, 9, 10, 11, 12, 13, 14, 15]] [some 11, some 12, some 13, some 14, some 15, some 16, some 17, some 18, some 19, some 20, some 21, some 22, some 23, some 24, some 25, some 26, some 3] [[3], [0], [4], [12, 13], [14], [15], [16], [0], [4], [18, 19], [20], [21], [22], [17, 23], [24], [11, 25], [26]] [0, 1, 2, 3, 4, 5, 6, 7, 8, 9, 10, 11, 12, 13, 14, 15, 16] ⟨by kernel_rfl, by kernel_rfl, by kernel_rfl⟩ (by kernel_rfl) (fun s7 p7 l7 tb7 zd7 => ?_))))
  have zd8 := zd7.add 0 11 vx2_0 rfl
  have zd9 := zd8.add 1 12 w0_0 rfl
  have zd10 := zd9.add 2 13 (.int .i64 x2.2) rfl
  have K11 := (Kx2.st p7 rfl)
  have A12 := (A0_0.kp K11)
  refine mg fun hg13 => ?_
  obtain ⟨ad13, es13, he13, ce13, ia13⟩ := ix_e A12 rfl hg13.1 hg13.2
  have h0_13 := hg13.1
  have h1_13 := hg13.2
  obtain ⟨v13_0, v13_1, v13_2, v13_3, rfl, A13_0, A13_1, A13_2, A13_3⟩ := op80 he13
  have zd17 := zd10.add 3 14 (.pointer (some ad13)) rfl
  have zd18 := zd17.add 4 15 (.pointer (some ad13)) rfl
  have zd19 := zd18.add 5 16 (.agg #[(.int .i64 (((at_ a0 x2.2).From).Kind)), (.int .i64 (((at_ a0 x2.2).From).N)), v13_0, v13_1]) rfl
  have zd20 := zd19.add 7 18 w0_0 rfl
  have zd21 := zd20.add 8 19 (.int .i64 x2.2) rfl
  refine mg fun hg22 => ?_
  obtain ⟨ad22, es22, he22, ce22, ia22⟩ := ix_e A12 rfl hg22.1 hg22.2
  have h0_22 := hg22.1
  have h1_22 := hg22.2
  obtain ⟨v22_0, v22_1, v22_2, v22_3, rfl, A22_0, A22_1, A22_2, A22_3⟩ := op80 he22
  have zd26 := zd21.add 9 20 (.pointer (some ad22)) rfl
  have zd27 := zd26.add 10 21 (.pointer (some (ad22.add 4))) rfl
  have zd28 := zd27.add 11 22 (.agg #[(.int .i64 (((at_ a0 x2.2).To).Kind)), (.int .i64 (((at_ a0 x2.2).To).N)), v22_2, v22_3]) rfl
  refine zstep 6 [some 22, some 21, some 20, some 19, some 18, some 11] tb7 zd28 (pq_cons (lcq_q (q := 4) (es' := [(.int .i64 (((at_ a0 x2.2).To).Kind)), (.int .i64 (((at_ a0 x2.2).To).N)), v22_2, v22_3]) ce22 Try.underlying48 z48 rfl rfl rfl rfl rfl rfl rfl rfl) rfl (pq_cons (fa_q' fa80_1 rfl) rfl (pq_cons (ix_q A12 Try.underlying56 z80 hg22.1 hg22.2 ia22 rfl rfl rfl rfl rfl rfl rfl) rfl (pq_cons (pu_q' rfl) rfl (pq_cons (mv_q' w0_0 rfl) rfl (pq_cons (lcq_q (q := 0) (es' := [(.int .i64 (((at_ a0 x2.2).From).Kind)), (.int .i64 (((at_ a0 x2.2).From).N)), v13_0, v13_1]) ce13 Try.underlying48 z48 rfl rfl rfl rfl rfl rfl rfl rfl) rfl (pq_cons (fa_q' fa80_0 rfl) rfl (pq_cons (ix_q A12 Try.underlying56 z80 hg13.1 hg13.2 ia13 rfl rfl rfl rfl rfl rfl rfl) rfl (pq_cons (pu_q' rfl) rfl (pq_cons (mv_q' w0_0 rfl) rfl (pq_cons (mv_q' vx2_0 rfl) rfl pq_nil))))))))))) (by kernel_rfl) rfl (fun l29 e29 zd29 => ?_)
  refine cl' rfl Try.func63 rfl (fun r30 m30 => spec_l3copy.calls ((at_ a0 x2.2).From) s7.w (fun b => memb [0] (s7.g b) = true) v13_0 v13_1 ((fl_rdf (s := s7) A13_0).sub (D := [0]) rfl) A13_1 r30 m30) ?_
  rintro r30 _ w30 m30 ⟨v30_0, v30_1, rfl, f30_0, ky30⟩
  obtain ⟨s31, rfl, p31, n31⟩ := nwx s7 w30 42 ky30
  have A30_0 := f30_0.c n31
  obtain ⟨os30_0, ho30_0, hn30_0, hc30_0⟩ := A30_0
  obtain ⟨u30_0_0, u30_0_1, qu30_0_1, e30_0, eo30_0, hu30_0_0, hu30_0_1⟩ := po48 ho30_0
  have yu30_0_0 : v30_0 = u30_0_0 := congrArg (fun l => (List.drop 2 l).headD undef) e30_0
  have yu30_0_1 : v30_1 = u30_0_1 := congrArg (fun l => (List.drop 3 l).headD undef) e30_0
  subst yu30_0_0
  subst yu30_0_1
  subst eo30_0
  have Au30_0_1 : OwF (Kd.sl 5 (Kd.int .u8)) s31 [v30_1] r30.T 42 := sp1 hu30_0_1 hn30_0 hc30_0
  refine zdone (L' := [11, 10, 9, 8, 7, 0]) (D' := [1, 2, 3, 4, 5, 6]) zd29 rfl rfl rfl (fun zd33 => ?_)
  have K35 := (K11.st p31 rfl)
  have A36 := (A0_0.kp K35)
  have ce37 := (ce22.st p31 rfl rfl)
  refine zstep 12 [some 11] tb7 zd33 (pq_cons (lcq_q (q := 4) (es' := [(.int .i64 (((at_ a0 x2.2).To).Kind)), (.int .i64 (((at_ a0 x2.2).To).N)), v22_2, v22_3]) ce37 Try.underlying48 z48 rfl rfl rfl rfl rfl rfl rfl rfl) rfl (pq_cons (fa_q' fa80_1 rfl) rfl (pq_cons (ix_q A36 Try.underlying56 z80 hg22.1 hg22.2 ia22 rfl rfl rfl rfl rfl rfl rfl) rfl (pq_cons (pu_q' rfl) rfl (pq_cons (mv_q' w0_0 rfl) rfl (pq_cons (mv_q' vx2_0 rfl) rfl pq_nil)))))) (by kernel_rfl) rfl (fun l34 e34 zd34 => ?_)
  have A38 := (A22_3.st p31 rfl)
  refine cl' rfl Try.func63 rfl (fun r39 m39 => spec_l3copy.calls ((at_ a0 x2.2).To) s31.w (fun b => memb [0] (s31.g b) = true) v22_2 v22_3 ((fl_rdf (s := s31) A22_2).sub (D := [0]) rfl) A38 r39 m39) ?_
  rintro r39 _ w39 m39 ⟨v39_0, v39_1, rfl, f39_0, ky39⟩
  obtain ⟨s40, rfl, p40, n40⟩ := nwx s31 w39 43 ky39
  have A39_0 := f39_0.c n40
  obtain ⟨os39_0, ho39_0, hn39_0, hc39_0⟩ := A39_0
  obtain ⟨u39_0_0, u39_0_1, qu39_0_1, e39_0, eo39_0, hu39_0_0, hu39_0_1⟩ := po48 ho39_0
  have yu39_0_0 : v39_0 = u39_0_0 := congrArg (fun l => (List.drop 2 l).headD undef) e39_0
  have yu39_0_1 : v39_1 = u39_0_1 := congrArg (fun l => (List.drop 3 l).headD undef) e39_0
  subst yu39_0_0
  subst yu39_0_1
  subst eo39_0
  have Au39_0_1 : OwF (Kd.sl 5 (Kd.int .u8)) s40 [v39_1] r39.T 43 := sp1 hu39_0_1 hn39_0 hc39_0
  refine zdone (L' := [0]) (D' := [7, 8, 9, 10, 11, 12, 1, 2, 3, 4, 5, 6]) zd34 rfl rfl rfl (fun zd42 => ?_)
  have zd43 := zd42.add 13 24 (.agg #[(.int .i64 r30.Kind), (.int .i64 r30.N), v30_0, v30_1, (.int .i64 r39.Kind), (.int .i64 r39.N), v39_0, v39_1]) rfl
  refine zstep 14 [some 11] tb7 zd43 (pq_cons (bd_q (cells := [(.int .i64 r30.Kind), (.int .i64 r30.N), v30_0, v30_1, (.int .i64 r39.Kind), (.int .i64 r39.N), v39_0, v39_1]) pl80 o80 rfl rfl rfl rfl rfl rfl) rfl (pq_cons (mv_q' vx2_0 rfl) rfl pq_nil)) (by kernel_rfl) rfl (fun l44 e44 zd44 => ?_)
  have A45 := (Au30_0_1.st p40 rfl)
  obtain ⟨s46, hw46, p46, A46⟩ := ow_2 (ow_isoz (fun x : Item => (x.Kind, x.N, x.F, x.T)) r30 (ow_l (fz_int .i64 r30.Kind) (ow_l (fz_int .i64 r30.N) (ow_l (fz_flt hu30_0_0) A45)))) (ow_isoz (fun x : Item => (x.Kind, x.N, x.F, x.T)) r39 (ow_l (fz_int .i64 r39.Kind) (ow_l (fz_int .i64 r39.N) (ow_l (fz_flt hu39_0_0) Au39_0_1)))) rfl rfl
  rw [hw46]
  have A48 : OwF kd80 s46 [(.int .i64 r30.Kind), (.int .i64 r30.N), v30_0, v30_1, (.int .i64 r39.Kind), (.int .i64 r39.N), v39_0, v39_1] (Span.mk r30 r39) 42 := (ow_isoz (fun x : Span => (x.From, x.To)) (Span.mk r30 r39) A46)
  have L50 := lo_one A48
  refine ltO (K := kd80) (cells := [(.int .i64 r30.Kind), (.int .i64 r30.N), v30_0, v30_1, (.int .i64 r39.Kind), (.int .i64 r39.N), v39_0, v39_1]) [(Span.mk r30 r39)] 42 Try.underlying56 z80 o80 L50 rfl rfl rfl rfl rfl rfl rfl rfl rfl rfl (fun v51 s51 p51 A51 => ?_)
  refine zdone (L' := [0]) (D' := [13, 14, 7, 8, 9, 10, 11, 12, 1, 2, 3, 4, 5, 6]) zd44 rfl rfl rfl (fun zd53 => ?_)
  refine zfin [15, 16] tb7 zd53 (pq_cons (mv_q' vx2_0 rfl) rfl pq_nil) (by kernel_rfl) (by decide) ?_
  have A54 := (Ax2_0.st (tr5 p7 p31 p40 p46 p51) rfl)
  refine apO sl56 A54 A51 rfl rfl rfl rfl rfl rfl rfl rfl rfl (fun v55 s55 p55 A55 => ?_)
  refine asg' v55 rfl (dn (ib (rg (pu' rfl (pu' rfl (pu' rfl (dn ?_)))))))
  have K57 := (K35.st (tr4 p40 p46 p51 p55) rfl)
  exact lb ih2 ⟨s55, _, v55, rfl, (ue (ue (ue rfl rfl) rfl) rfl), K57, A55⟩
 ·
  exact xt rfl (sgb (sr (mv' vx2_0 rfl (asg' vx2_0 rfl (dn (re rfl Try.func108 rfl (r_t rfl r_nil) rfl ⟨_, rfl, Ax2_0.fo Kx2 rfl z.l, z.ky Kx2⟩))))))
noncomputable def spec_l13items.b0 (a0 : (List Item)) (x2 : (List Item) × Int) : Option (((List Item) × Int) ⊕ (List Item)) :=
 (if (decide (x2.2 < (a0.length : Int))) = true then (if 0 ≤ x2.2 ∧ x2.2 < (a0.length : Int) then ((spec_l3copy.f (at_ a0 x2.2)).bind fun r10 => (if x2.1.length + ([r10]).length ≤ Lim then (some (Sum.inl ((x2.1 ++ [r10]), (IntKind.wrap .i64 (x2.2 + (1 : Int)))))) else none)) else none) else ((some x2.1).bind fun o => some (Sum.inr o)))
noncomputable def spec_l13items.f (a0 : (List Item)) : Option ((List Item)) :=
 (iter (spec_l13items.b0 a0) (([] : (List Item)), (0 : Int)))
def spec_l13items.Q (w : World) (F : Nat → Prop) (r : (List Item)) (v : Value) (w' : World) : Prop :=
 FO (Kd.sl 48 kd48) w w' [v] r ∧ Ky [] w w'
set_option maxHeartbeats 4000000 in
set_option maxRecDepth 100000 in
theorem spec_l13items.calls (a0 : (List Item)) (w : World) (F : Nat → Prop) (w0_0 : Value) (h0_0 : (Kd.sl 48 kd48).rd w [w0_0] a0 F) (r : (List Item)) (m : spec_l13items.f a0 = some r) :
  Calls Try.prog 163 #[w0_0] w (RT (spec_l13items.Q w F) r) := by
 obtain ⟨s0, rfl, kp0, z⟩ := start0 w F
 have A0_0 := z.rd h0_0
 refine calls_of_TM (args := [w0_0]) Try.func163 Try.ntmps163 rfl rfl m ?_
 unfold spec_l13items.f
 refine sr (pu' rfl (dn (sr (pu' rfl (dn (sq (sr (pu' rfl (dn (bl (lpI (fun (x2 : (List Item) × Int) (e : Env) (w : World) => ∃ (s : St) (e0 : Env) (vx2_0 : Value), w = s.w ∧ e = upd (upd (upd e0 0 w0_0) 3 vx2_0) 4 (.int .i64 x2.2) ∧ Kp s0 s ∧ OwF (Kd.sl 48 kd48) s [vx2_0] x2.1 41) ⟨s0, _, (.slice none 0 0), rfl, (ue (ue (ue rfl rfl) rfl) rfl), kp0, (ow_nil 48 kd48 _ 41)⟩ (fun g2 ih2 => ?_))))))))))))
 rintro x2 _ _ ⟨s3, _, vx2_0, rfl, rfl, Kx2, Ax2_0⟩
 unfold spec_l13items.b0
 refine sq (sr (pu' rfl (mv' w0_0 rfl ?_)))
 have A5 := (A0_0.kp Kx2)
 refine ln' A5 Try.underlying57 rfl (pu' rfl (dn (cd rfl (fun h6 => ?_) (fun h6 => ?_))))
 ·
  refine sk (sq (bl (rg (mv' vx2_0 rfl (mv' w0_0 rfl (pu' rfl (ix' A5 Try.underlying57 z48 rfl (fun ad7 es7 h0_7 h1_7 he7 ce7 ia7 => ?_))))))))
  obtain ⟨v7_0, v7_1, rfl, A7_0, A7_1⟩ := op48 he7
  refine lca' ce7 Try.underlying48 z48 rfl (cl' rfl Try.func63 rfl (fun r10 m10 => spec_l3copy.calls (at_ a0 x2.2) s3.w (fun b => memb [0] (s3.g b) = true) v7_0 v7_1 ((fl_rdf (s := s3) A7_0).sub (D := [0]) rfl) A7_1 r10 m10) ?_)
  rintro r10 _ w10 m10 ⟨v10_0, v10_1, rfl, f10_0, ky10⟩
  obtain ⟨s11, rfl, p11, n11⟩ := nwx s3 w10 42 ky10
  have A10_0 := f10_0.c n11
  obtain ⟨os10_0, ho10_0, hn10_0, hc10_0⟩ := A10_0
  obtain ⟨u10_0_0, u10_0_1, qu10_0_1, e10_0, eo10_0, hu10_0_0, hu10_0_1⟩ := po48 ho10_0
  have yu10_0_0 : v10_0 = u10_0_0 := congrArg (fun l => (List.drop 2 l).headD undef) e10_0
  have yu10_0_1 : v10_1 = u10_0_1 := congrArg (fun l => (List.drop 3 l).headD undef) e10_0
  subst yu10_0_0
  subst yu10_0_1
  subst eo10_0
  have Au10_0_1 : OwF (Kd.sl 5 (Kd.int .u8)) s11 [v10_1] r10.T 42 := sp1 hu10_0_1 hn10_0 hc10_0
  have A13 : OwF kd48 s11 [(.int .i64 r10.Kind), (.int .i64 r10.N), v10_0, v10_1] r10 42 := (ow_isoz (fun x : Item => (x.Kind, x.N, x.F, x.T)) r10 (ow_l (fz_int .i64 r10.Kind) (ow_l (fz_int .i64 r10.N) (ow_l (fz_flt hu10_0_0) Au10_0_1))))
  have L15 := lo_one A13
  refine ltO (K := kd48) (cells := [(.int .i64 r10.Kind), (.int .i64 r10.N), v10_0, v10_1]) [r10] 42 Try.underlying57 z48 o48 L15 rfl rfl rfl rfl rfl rfl rfl rfl rfl rfl (fun v16 s16 p16 A16 => ?_)
  have A18 := (Ax2_0.st (tr2 p11 p16) rfl)
  refine apO sl57 A18 A16 rfl rfl rfl rfl rfl rfl rfl rfl rfl (fun v19 s19 p19 A19 => ?_)
  refine asg' v19 rfl (dn (ib (rg (pu' rfl (pu' rfl (pu' rfl (dn ?_)))))))
  have K21 := (Kx2.st (tr3 p11 p16 p19) rfl)
  exact lb ih2 ⟨s19, _, v19, rfl, (ue (ue (ue rfl rfl) rfl) rfl), K21, A19⟩
 ·
  exact xt rfl (sgb (sr (mv' vx2_0 rfl (asg' vx2_0 rfl (dn (re rfl Try.func163 rfl (r_t rfl r_nil) rfl ⟨_, rfl, Ax2_0.fo Kx2 rfl z.l, z.ky Kx2⟩))))))
noncomputable def spec_l13copy.b0 (a0 : (List Track)) (x2 : (List Track) × Int) : Option (((List Track) × Int) ⊕ (List Track)) :=
 (if (decide (x2.2 < (a0.length : Int))) = true then (if 0 ≤ x2.2 ∧ x2.2 < (a0.length : Int) then ((spec_l13spans.f ((at_ a0 x2.2).Reads)).bind fun r18 => ((spec_l13items.f ((at_ a0 x2.2).Writes)).bind fun r25 => (if x2.1.length + ([(Track.mk ((at_ a0 x2.2).Xid) ((at_ a0 x2.2).Begun) ((at_ a0 x2.2).Ended) ((at_ a0 x2.2).All) r18 r25 ((at_ a0 x2.2).In) ((at_ a0 x2.2).Out))]).length ≤ Lim then (some (Sum.inl ((x2.1 ++ [(Track.mk ((at_ a0 x2.2).Xid) ((at_ a0 x2.2).Begun) ((at_ a0 x2.2).Ended) ((at_ a0 x2.2).All) r18 r25 ((at_ a0 x2.2).In) ((at_ a0 x2.2).Out))]), (IntKind.wrap .i64 (x2.2 + (1 : Int)))))) else none))) else none) else ((some x2.1).bind fun o => some (Sum.inr o)))
noncomputable def spec_l13copy.f (a0 : (List Track)) : Option ((List Track)) :=
 (iter (spec_l13copy.b0 a0) (([] : (List Track)), (0 : Int)))
def spec_l13copy.Q (w : World) (F : Nat → Prop) (r : (List Track)) (v : Value) (w' : World) : Prop :=
 FO (Kd.sl 59 kd59) w w' [v] r ∧ Ky [] w w'
set_option maxHeartbeats 4000000 in
set_option maxRecDepth 100000 in
theorem spec_l13copy.calls (a0 : (List Track)) (w : World) (F : Nat → Prop) (w0_0 : Value) (h0_0 : (Kd.sl 59 kd59).rd w [w0_0] a0 F) (r : (List Track)) (m : spec_l13copy.f a0 = some r) :
  Calls Try.prog 97 #[w0_0] w (RT (spec_l13copy.Q w F) r) := by
 obtain ⟨s0, rfl, kp0, z⟩ := start0 w F
 have A0_0 := z.rd h0_0
 refine calls_of_TM (args := [w0_0]) Try.func97 Try.ntmps97 rfl rfl m ?_
 unfold spec_l13copy.f
 refine sr (pu' rfl (dn (sr (pu' rfl (dn (sq (sr (pu' rfl (dn (bl (lpI (fun (x2 : (List Track) × Int) (e : Env) (w : World) => ∃ (s : St) (e0 : Env) (vx2_0 : Value), w = s.w ∧ e = upd (upd (upd e0 0 w0_0) 3 vx2_0) 4 (.int .i64 x2.2) ∧ Kp s0 s ∧ OwF (Kd.sl 59 kd59) s [vx2_0] x2.1 41) ⟨s0, _, (.slice none 0 0), rfl, (ue (ue (ue rfl rfl) rfl) rfl), kp0, (ow_nil 59 kd59 _ 41)⟩ (fun g2 ih2 => ?_))))))))))))
 rintro x2 _ _ ⟨s3, _, vx2_0, rfl, rfl, Kx2, Ax2_0⟩
 unfold spec_l13copy.b0
 refine sq (sr (pu' rfl (mv' w0_0 rfl ?_)))
 have A5 := (A0_0.kp Kx2)
 refine ln' A5 Try.underlying62 rfl (pu' rfl (dn (cd rfl (fun h6 => ?_) (fun h6 => ?_))))
 ·
  refine sk (sq (bl (sr (mv' w0_0 rfl (pu' rfl (ix' A5 Try.underlying62 z59 rfl (fun ad7 es7 h0_7 h1_7 he7 ce7 ia7 => ?_)))))))
  obtain ⟨v7_0, v7_1, rfl, A7_0, A7_1⟩ := op59 he7
  refine lca' ce7 Try.underlying59 z59 rfl (al (cs := [(.int .i64 (0 : Int)), (.int .i64 (0 : Int)), (.int .i64 (0 : Int)), (.bool false), (.slice none 0 0), (.slice none 0 0), (.bool false), (.bool false)]) 42 rfl rfl rfl rfl rfl o59 rfl (fun b11 s11 p11 B11 => ?_))
  have A13 := (A7_1.st p11 rfl)
  have A14 := (A7_0.st p11 rfl)
  refine sva (vs := [(.int .i64 ((at_ a0 x2.2).Xid)), (.int .i64 ((at_ a0 x2.2).Begun)), (.int .i64 ((at_ a0 x2.2).Ended)), (.bool ((at_ a0 x2.2).All)), v7_0, v7_1, (.bool ((at_ a0 x2.2).In)), (.bool ((at_ a0 x2.2).Out))]) B11 z59 rfl rfl rfl rfl rfl rfl (on_cons rfl (on_cons rfl (on_cons rfl (on_cons rfl (on_cons A14.one (on_cons A13.one (on_cons rfl (on_cons rfl on_nil)))))))) rfl (fun s15 p15 B15 => ?_)
  refine dn (sr (fa' fa59_4 rfl (ld' B15 Try.underlying56 rfl ?_)))
  have A17 := (A14.st p15 rfl)
  refine cl' rfl Try.func108 rfl (fun r18 m18 => spec_l13spans.calls ((at_ a0 x2.2).Reads) s15.w (fun b => memb [0] (s15.g b) = true) v7_0 A17 r18 m18) ?_
  rintro r18 v18_0 w18 m18 ⟨f18_0, ky18⟩
  obtain ⟨s19, rfl, p19, n19⟩ := nwx s15 w18 43 ky18
  have A18_0 := f18_0.c n19
  refine fa' fa59_4 rfl ?_
  have A21 := (BlF.st B15 p19 rfl)
  refine sv A21 z56 rfl rfl rfl rfl rfl rfl A18_0.rd.one rfl (fun s22 p22 B22 => ?_)
  refine dn (sr (fa' fa59_5 rfl (ld' B22 Try.underlying57 rfl ?_)))
  have A24 := (A13.st (tr3 p15 p19 p22) rfl)
  refine cl' rfl Try.func163 rfl (fun r25 m25 => spec_l13items.calls ((at_ a0 x2.2).Writes) s22.w (fun b => memb [0] (s22.g b) = true) v7_1 A24 r25 m25) ?_
  rintro r25 v25_0 w25 m25 ⟨f25_0, ky25⟩
  obtain ⟨s26, rfl, p26, n26⟩ := nwx s22 w25 44 ky25
  have A25_0 := f25_0.c n26
  refine fa' fa59_5 rfl ?_
  have A28 := (BlF.st B22 p26 rfl)
  refine sv A28 z57 rfl rfl rfl rfl rfl rfl A25_0.rd.one rfl (fun s29 p29 B29 => ?_)
  refine dn (rg (mv' vx2_0 rfl (lda' (es := [(.int .i64 ((at_ a0 x2.2).Xid)), (.int .i64 ((at_ a0 x2.2).Begun)), (.int .i64 ((at_ a0 x2.2).Ended)), (.bool ((at_ a0 x2.2).All)), v18_0, v25_0, (.bool ((at_ a0 x2.2).In)), (.bool ((at_ a0 x2.2).Out))]) B29 Try.underlying59 z59 rfl ?_)))
  have A31 := (A18_0.st (tr3 p22 p26 p29) rfl)
  have A32 := (A25_0.st p29 rfl)
  obtain ⟨s33, hw33, p33, A33⟩ := ow_2 A31 (ow_r A32 (fz_pair (fz_bool ((at_ a0 x2.2).In)) (fz_bool ((at_ a0 x2.2).Out)))) rfl rfl
  rw [hw33]
  have A35 : OwF kd59 s33 [(.int .i64 ((at_ a0 x2.2).Xid)), (.int .i64 ((at_ a0 x2.2).Begun)), (.int .i64 ((at_ a0 x2.2).Ended)), (.bool ((at_ a0 x2.2).All)), v18_0, v25_0, (.bool ((at_ a0 x2.2).In)), (.bool ((at_ a0 x2.2).Out))] (Track.mk ((at_ a0 x2.2).Xid) ((at_ a0 x2.2).Begun) ((at_ a0 x2.2).Ended) ((at_ a0 x2.2).All) r18 r25 ((at_ a0 x2.2).In) ((at_ a0 x2.2).Out)) 43 := (ow_isoz (fun x : Track => (x.Xid, x.Begun, x.Ended, x.All, x.Reads, x.Writes, x.In, x.Out)) (Track.mk ((at_ a0 x2.2).Xid) ((at_ a0 x2.2).Begun) ((at_ a0 x2.2).Ended) ((at_ a0 x2.2).All) r18 r25 ((at_ a0 x2.2).In) ((at_ a0 x2.2).Out)) (ow_l (fz_int .i64 ((at_ a0 x2.2).Xid)) (ow_l (fz_int .i64 ((at_ a0 x2.2).Begun)) (ow_l (fz_int .i64 ((at_ a0 x2.2).Ended)) (ow_l (fz_bool ((at_ a0 x2.2).All)) A33)))))
  have L37 := lo_one A35
  refine ltO (K := kd59) (cells := [(.int .i64 ((at_ a0 x2.2).Xid)), (.int .i64 ((at_ a0 x2.2).Begun)), (.int .i64 ((at_ a0 x2.2).Ended)), (.bool ((at_ a0 x2.2).All)), v18_0, v25_0, (.bool ((at_ a0 x2.2).In)), (.bool ((at_ a0 x2.2).Out))]) [(Track.mk ((at_ a0 x2.2).Xid) ((at_ a0 x2.2).Begun) ((at_ a0 x2.2).Ended) ((at_ a0 x2.2).All) r18 r25 ((at_ a0 x2.2).In) ((at_ a0 x2.2).Out))] 43 Try.underlying62 z59 o59 L37 rfl rfl rfl rfl rfl rfl rfl rfl rfl rfl (fun v38 s38 p38 A38 => ?_)
  have A40 := (Ax2_0.st (tr8 p11 p15 p19 p22 p26 p29 p33 p38) rfl)
  refine apO sl62 A40 A38 rfl rfl rfl rfl rfl rfl rfl rfl rfl (fun v41 s41 p41 A41 => ?_)
  refine asg' v41 rfl (dn (ib (rg (pu' rfl (pu' rfl (pu' rfl (dn ?_)))))))
  have K43 := (Kx2.st (tr9 p11 p15 p19 p22 p26 p29 p33 p38 p41) rfl)
  exact lb ih2 ⟨s41, _, v41, rfl, (ue (ue (ue rfl rfl) rfl) rfl), K43, A41⟩
 ·
  exact xt rfl (sgb (sr (mv' vx2_0 rfl (asg' vx2_0 rfl (dn (re rfl Try.func97 rfl (r_t rfl r_nil) rfl ⟨_, rfl, Ax2_0.fo Kx2 rfl z.l, z.ky Kx2⟩))))))
end Go.Proofs.Ytcagjdngannneaa
