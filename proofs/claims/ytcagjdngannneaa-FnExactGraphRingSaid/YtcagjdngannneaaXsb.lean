/- The functions as models, and that the calls come to what the models tell. -/
import Derived.Test.YtcagjdngannneaaXsa
set_option linter.unusedVariables false
set_option linter.unusedSimpArgs false
namespace Go.Proofs.Ytcagjdngannneaa
open Go V
noncomputable def slices_IndexFunc_impl_Span_impl_Span.b0 (a0 : (List Span)) (a1 : (Span → Option Bool)) (x2 : Int) : Option (Int ⊕ Int) :=
 (if (decide (x2 < (a0.length : Int))) = true then (if 0 ≤ x2 ∧ x2 < (a0.length : Int) then ((a1 (Span.mk ((at_ a0 x2).From) ((at_ a0 x2).To))).bind fun r10 => (if r10 = true then (some (Sum.inr x2)) else (some (Sum.inl (IntKind.wrap .i64 (x2 + (1 : Int))))))) else none) else ((some (-1 : Int)).bind fun o => some (Sum.inr o)))
noncomputable def slices_IndexFunc_impl_Span_impl_Span.f (a0 : (List Span)) (a1 : (Span → Option Bool)) : Option (Int) :=
 (iter (slices_IndexFunc_impl_Span_impl_Span.b0 a0 a1) (0 : Int))
def slices_IndexFunc_impl_Span_impl_Span.Q (w : World) (F : Nat → Prop) (r : Int) (v : Value) (w' : World) : Prop :=
 v = (.int .i64 r) ∧ Ky [] w w'
set_option maxHeartbeats 4000000 in
set_option maxRecDepth 100000 in
theorem slices_IndexFunc_impl_Span_impl_Span.calls (a0 : (List Span)) (a1 : (Span → Option Bool)) (w : World) (F : Nat → Prop) (w0_0 : Value) (f1 : Value) (h0_0 : (Kd.sl 80 kd80).rd w [w0_0] a0 F) (hf1 : ∀ (x0 : Span) (u0_0 u0_1 u0_2 u0_3 : Value) (w' : World), Ky [] w w' → Kd.flt.rd w' [u0_0] x0.From.F (fun _ => True) → (Kd.sl 5 (Kd.int .u8)).rd w' [u0_1] x0.From.T (fun _ => True) → Kd.flt.rd w' [u0_2] x0.To.F (fun _ => True) → (Kd.sl 5 (Kd.int .u8)).rd w' [u0_3] x0.To.T (fun _ => True) → ∀ r, a1 x0 = some r → CallV Try.prog f1 [(.agg #[(.int .i64 x0.From.Kind), (.int .i64 x0.From.N), u0_0, u0_1, (.int .i64 x0.To.Kind), (.int .i64 x0.To.N), u0_2, u0_3])] w' fun en w'' => ∃ v, en = .returned v ∧ v = (.bool r) ∧ Ky [] w' w'') (ho1 : f1.cells = #[f1]) (r : Int) (m : slices_IndexFunc_impl_Span_impl_Span.f a0 a1 = some r) :
  Calls Try.prog 221 #[w0_0, f1] w fun en w' => ∃ v, en = .returned v ∧ slices_IndexFunc_impl_Span_impl_Span.Q w F r v w' := by
 obtain ⟨s0, rfl, kp0, z⟩ := start0 w F
 have A0_0 := z.rd h0_0
 refine calls_of_TM (args := [w0_0, f1]) (R := fun r en w' => ∃ v, en = .returned v ∧ slices_IndexFunc_impl_Span_impl_Span.Q s0.w F r v w') Try.func221 Try.ntmps221 rfl rfl m ?_
 unfold slices_IndexFunc_impl_Span_impl_Span.f
 refine sr ?_
 refine pu rfl rfl rfl rfl rfl ?_
 refine dn ?_
 refine sq ?_
 refine sr ?_
 refine mv w0_0 rfl rfl rfl rfl rfl rfl ?_
 refine ln A0_0 Try.underlying56 rfl rfl rfl rfl rfl rfl ?_
 refine pu rfl rfl rfl rfl rfl ?_
 refine dn ?_
 refine bl ?_
 refine lpI (fun (x2 : Int) (e : Env) (w : World) => ∃ (s : St) (e0 : Env), w = s.w ∧ e = upd (upd (upd (upd e0 0 w0_0) 1 f1) 7 (.int .i64 (a0.length : Int))) 8 (.int .i64 x2) ∧ Kp s0 s) ⟨s0, _, rfl, (ue (ue (ue (ue rfl rfl) rfl) rfl) rfl), kp0⟩ (fun g2 ih2 => ?_)
 rintro x2 _ _ ⟨s3, _, rfl, rfl, Kx2⟩
 unfold slices_IndexFunc_impl_Span_impl_Span.b0
 refine sr ?_
 refine pu rfl rfl rfl rfl rfl ?_
 refine dn ?_
 refine sq ?_
 refine cd rfl (fun h4 => ?_) (fun h4 => ?_)
 ·
  refine sk ?_
  refine sq ?_
  refine bl ?_
  refine sr ?_
  refine pu rfl rfl rfl rfl rfl ?_
  refine pu rfl rfl rfl rfl rfl ?_
  refine dn ?_
  refine sr ?_
  refine mv f1 rfl rfl rfl rfl rfl rfl ?_
  refine mv w0_0 rfl rfl rfl rfl rfl rfl ?_
  refine pu rfl rfl rfl rfl rfl ?_
  have A5 := (A0_0.kp Kx2)
  refine ix A5 Try.underlying56 z80 rfl rfl rfl rfl rfl rfl rfl rfl (fun ad6 es6 h0_6 h1_6 he6 ce6 ia6 => ?_)
  obtain ⟨v6_0, v6_1, v6_2, v6_3, rfl, A6_0, A6_1, A6_2, A6_3⟩ := op80 he6
  refine lca ce6 Try.underlying80 z80 rfl rfl rfl rfl rfl rfl rfl ?_
  refine clv rfl rfl rfl rfl rfl rfl rfl (fun r10 m10 => hf1 (Span.mk ((at_ a0 x2).From) ((at_ a0 x2).To)) v6_0 v6_1 v6_2 v6_3 s3.w (z.ky Kx2) (fl_rd A6_0) (RdF.top A6_1) (fl_rd A6_2) (RdF.top A6_3) r10 m10) ?_
  rintro r10 _ w10 m10 ⟨rfl, ky10⟩
  obtain ⟨s11, rfl, p11, n11⟩ := nwx s3 w10 40 ky10
  refine dn ?_
  refine cd rfl (fun h12 => ?_) (fun h12 => ?_)
  ·
   refine sr ?_
   refine pu rfl rfl rfl rfl rfl ?_
   refine pu rfl rfl rfl rfl rfl ?_
   refine dn ?_
   refine sgi ?_
   have K13 := (Kx2.st p11 rfl)
   exact re rfl Try.func221 rfl (r_t rfl r_nil) rfl ⟨_, rfl, rfl, z.ky K13⟩
  ·
   refine sk ?_
   refine ib ?_
   refine rg ?_
   refine pu rfl rfl rfl rfl rfl ?_
   refine pu rfl rfl rfl rfl rfl ?_
   refine dn ?_
   have K14 := (Kx2.st p11 rfl)
   exact lb ih2 ⟨s11, _, rfl, (ue (ue (ue (ue rfl rfl) rfl) rfl) rfl), K14⟩
 ·
  refine xt rfl ?_
  refine sgb ?_
  refine sr ?_
  refine pu rfl rfl rfl rfl rfl ?_
  refine dn ?_
  exact re rfl Try.func221 rfl (r_t rfl r_nil) rfl ⟨_, rfl, rfl, z.ky Kx2⟩
noncomputable def slices_ContainsFunc_impl_Span_impl_Span.f (a0 : (List Span)) (a1 : (Span → Option Bool)) : Option (Bool) :=
 ((slices_IndexFunc_impl_Span_impl_Span.f a0 a1).bind fun r2 => (some (decide (r2 ≥ (0 : Int)))))
def slices_ContainsFunc_impl_Span_impl_Span.Q (w : World) (F : Nat → Prop) (r : Bool) (v : Value) (w' : World) : Prop :=
 v = (.bool r) ∧ Ky [] w w'
set_option maxHeartbeats 4000000 in
set_option maxRecDepth 100000 in
theorem slices_ContainsFunc_impl_Span_impl_Span.calls (a0 : (List Span)) (a1 : (Span → Option Bool)) (w : World) (F : Nat → Prop) (w0_0 : Value) (f1 : Value) (h0_0 : (Kd.sl 80 kd80).rd w [w0_0] a0 F) (hf1 : ∀ (x0 : Span) (u0_0 u0_1 u0_2 u0_3 : Value) (w' : World), Ky [] w w' → Kd.flt.rd w' [u0_0] x0.From.F (fun _ => True) → (Kd.sl 5 (Kd.int .u8)).rd w' [u0_1] x0.From.T (fun _ => True) → Kd.flt.rd w' [u0_2] x0.To.F (fun _ => True) → (Kd.sl 5 (Kd.int .u8)).rd w' [u0_3] x0.To.T (fun _ => True) → ∀ r, a1 x0 = some r → CallV Try.prog f1 [(.agg #[(.int .i64 x0.From.Kind), (.int .i64 x0.From.N), u0_0, u0_1, (.int .i64 x0.To.Kind), (.int .i64 x0.To.N), u0_2, u0_3])] w' fun en w'' => ∃ v, en = .returned v ∧ v = (.bool r) ∧ Ky [] w' w'') (ho1 : f1.cells = #[f1]) (r : Bool) (m : slices_ContainsFunc_impl_Span_impl_Span.f a0 a1 = some r) :
  Calls Try.prog 202 #[w0_0, f1] w fun en w' => ∃ v, en = .returned v ∧ slices_ContainsFunc_impl_Span_impl_Span.Q w F r v w' := by
 obtain ⟨s0, rfl, kp0, z⟩ := start0 w F
 have A0_0 := z.rd h0_0
 refine calls_of_TM (args := [w0_0, f1]) (R := fun r en w' => ∃ v, en = .returned v ∧ slices_ContainsFunc_impl_Span_impl_Span.Q s0.w F r v w') Try.func202 Try.ntmps202 rfl rfl m ?_
 unfold slices_ContainsFunc_impl_Span_impl_Span.f
 refine sr ?_
 refine pu rfl rfl rfl rfl rfl ?_
 refine dn ?_
 refine sr ?_
 refine mv w0_0 rfl rfl rfl rfl rfl rfl ?_
 refine mv f1 rfl rfl rfl rfl rfl rfl ?_
 refine cl rfl rfl rfl rfl rfl Try.func221 rfl rfl rfl (fun r2 m2 => slices_IndexFunc_impl_Span_impl_Span.calls a0 a1 s0.w (fun b => memb [0] (s0.g b) = true) w0_0 f1 A0_0 (fun x0 u0_0 u0_1 u0_2 u0_3 w' k h0 h1 h2 h3 r m =>  hf1 x0 u0_0 u0_1 u0_2 u0_3 w' (Ky.trans (z.ky kp0) k) h0 h1 h2 h3 r m) ho1 r2 m2) ?_
 rintro r2 _ w2 m2 ⟨rfl, ky2⟩
 obtain ⟨s3, rfl, p3, n3⟩ := nwx s0 w2 40 ky2
 refine pu rfl rfl rfl rfl rfl ?_
 refine pu rfl rfl rfl rfl rfl ?_
 refine dn ?_
 have K4 := (kp0.st p3 rfl)
 exact re rfl Try.func202 rfl (r_t rfl r_nil) rfl ⟨_, rfl, rfl, z.ky K4⟩
noncomputable def impl_areAll_impl_Span.f (a0 : (List Span)) (a1 : (Span → Option Bool)) : Option (Bool) :=
 ((slices_ContainsFunc_impl_Span_impl_Span.f a0 (fun x0 => impl_areAll_impl_Span_1.f x0 a1)).bind fun r6 => (some (!r6)))
def impl_areAll_impl_Span.Q (w : World) (F : Nat → Prop) (r : Bool) (v : Value) (w' : World) : Prop :=
 v = (.bool r) ∧ Ky [] w w'
set_option maxHeartbeats 4000000 in
set_option maxRecDepth 100000 in
theorem impl_areAll_impl_Span.calls (a0 : (List Span)) (a1 : (Span → Option Bool)) (w : World) (F : Nat → Prop) (w0_0 : Value) (f1 : Value) (h0_0 : (Kd.sl 80 kd80).rd w [w0_0] a0 F) (hf1 : ∀ (x0 : Span) (u0_0 u0_1 u0_2 u0_3 : Value) (w' : World), Ky [] w w' → Kd.flt.rd w' [u0_0] x0.From.F (fun _ => True) → (Kd.sl 5 (Kd.int .u8)).rd w' [u0_1] x0.From.T (fun _ => True) → Kd.flt.rd w' [u0_2] x0.To.F (fun _ => True) → (Kd.sl 5 (Kd.int .u8)).rd w' [u0_3] x0.To.T (fun _ => True) → ∀ r, a1 x0 = some r → CallV Try.prog f1 [(.agg #[(.int .i64 x0.From.Kind), (.int .i64 x0.From.N), u0_0, u0_1, (.int .i64 x0.To.Kind), (.int .i64 x0.To.N), u0_2, u0_3])] w' fun en w'' => ∃ v, en = .returned v ∧ v = (.bool r) ∧ Ky [] w' w'') (ho1 : f1.cells = #[f1]) (r : Bool) (m : impl_areAll_impl_Span.f a0 a1 = some r) :
  Calls Try.prog 167 #[w0_0, f1] w fun en w' => ∃ v, en = .returned v ∧ impl_areAll_impl_Span.Q w F r v w' := by
 obtain ⟨s0, rfl, kp0, z⟩ := start0 w F
 have A0_0 := z.rd h0_0
 refine calls_of_TM (args := [w0_0, f1]) (R := fun r en w' => ∃ v, en = .returned v ∧ impl_areAll_impl_Span.Q s0.w F r v w') Try.func167 Try.ntmps167 rfl rfl m ?_
 unfold impl_areAll_impl_Span.f
 refine sr ?_
 refine bx (cs := [f1]) 40 rfl rfl rfl rfl rfl ho1 (fun b2 s2 p2 B2 => ?_)
 refine pu rfl rfl rfl rfl rfl ?_
 refine dn ?_
 refine sr ?_
 refine mv w0_0 rfl rfl rfl rfl rfl rfl ?_
 refine mkf (fs := []) (cs := [(.pointer (some ⟨b2, 0, none⟩))]) rfl rfl rfl rfl rfl rfl rfl ?_
 have K4 := (kp0.st p2 rfl)
 have A5 := (A0_0.kp K4)
 refine cl rfl rfl rfl rfl rfl Try.func202 rfl rfl rfl (fun r6 m6 => slices_ContainsFunc_impl_Span_impl_Span.calls a0 (fun x0 => impl_areAll_impl_Span_1.f x0 a1) s2.w (fun b => memb [0] (s2.g b) = true) w0_0 (.func (.func 203) (List.toArray []) (List.toArray [(.pointer (some ⟨b2, 0, none⟩))])) A5 (fun x0 u0_0 u0_1 u0_2 u0_3 w' k h0 h1 h2 h3 r m =>  ⟨203, _, _, [], [(.pointer (some ⟨b2, 0, none⟩))], rfl, Try.func203, rfl, rfl, (impl_areAll_impl_Span_1.calls x0 a1 w' (fun _ => True) u0_0 u0_1 u0_2 u0_3 b2 f1 h0 h1 h2 h3 (fun x0c u0_0c u0_1c u0_2c u0_3c w'c kc h0c h1c h2c h3c r m =>  hf1 x0c u0_0c u0_1c u0_2c u0_3c w'c (Ky.trans (z.ky K4) (Ky.trans k kc)) h0c h1c h2c h3c r m) ho1 (BlF.ky B2 k) trivial r m).mono fun en w2 hq => by obtain ⟨v, e, q⟩ := hq; exact ⟨v, e, q⟩⟩) rfl r6 m6) ?_
 rintro r6 _ w6 m6 ⟨rfl, ky6⟩
 obtain ⟨s7, rfl, p7, n7⟩ := nwx s2 w6 41 ky6
 refine pu rfl rfl rfl rfl rfl ?_
 refine pu rfl rfl rfl rfl rfl ?_
 refine dn ?_
 have K8 := (K4.st p7 rfl)
 exact re rfl Try.func167 rfl (r_t rfl r_nil) rfl ⟨_, rfl, rfl, z.ky K8⟩
noncomputable def impl_within.f (a0 : Int) (a1 : Int) (a2 : Int) : Option (Bool) :=
 (some ((decide (a1 ≤ a0)) && (decide (a0 ≤ a2))))
def impl_within.Q (w : World) (F : Nat → Prop) (r : Bool) (v : Value) (w' : World) : Prop :=
 v = (.bool r) ∧ Ky [] w w'
set_option maxHeartbeats 4000000 in
set_option maxRecDepth 100000 in
theorem impl_within.calls (a0 : Int) (a1 : Int) (a2 : Int) (w : World) (F : Nat → Prop)   (r : Bool) (m : impl_within.f a0 a1 a2 = some r) :
  Calls Try.prog 139 #[(.int .i64 a0), (.int .i64 a1), (.int .i64 a2)] w fun en w' => ∃ v, en = .returned v ∧ impl_within.Q w F r v w' := by
 obtain ⟨s0, rfl, kp0, z⟩ := start0 w F
 refine calls_of_TM (args := [(.int .i64 a0), (.int .i64 a1), (.int .i64 a2)]) (R := fun r en w' => ∃ v, en = .returned v ∧ impl_within.Q s0.w F r v w') Try.func139 Try.ntmps139 rfl rfl m ?_
 unfold impl_within.f
 refine sr ?_
 refine pu rfl rfl rfl rfl rfl ?_
 refine dn ?_
 refine sr ?_
 refine pu rfl rfl rfl rfl rfl ?_
 refine pu rfl rfl rfl rfl rfl ?_
 refine pu rfl rfl rfl rfl rfl ?_
 refine pu rfl rfl rfl rfl rfl ?_
 refine jy [10, 11, 12, 13, 14] [8] 14 (.bool ((decide (a1 ≤ a0)) && (decide (a0 ≤ a2)))) rfl (fun Kg1 => ?_) (fun j1 => ?_)
 ·
  rcases Bool.eq_false_or_eq_true (decide (a1 ≤ a0)) with hb1 | hb1
  ·
   refine sbT hb1 ?_
   refine pu rfl rfl rfl rfl rfl ?_
   refine pu rfl rfl rfl rfl rfl ?_
   refine pu rfl rfl rfl rfl rfl ?_
   refine pu rfl rfl rfl rfl rfl ?_
   exact Kg1 _ (Ag.put ((Ag.put ((Ag.put ((Ag.put (Ag.base rfl) rfl)) rfl)) rfl)) rfl) (by rw [hb1]; rfl)
  ·
   refine sbT hb1 ?_
   refine uw rfl rfl rfl rfl ?_
   refine uw rfl rfl rfl rfl ?_
   refine uw rfl rfl rfl rfl ?_
   refine pu rfl rfl rfl rfl rfl ?_
   exact Kg1 _ (Ag.put ((Ag.put ((Ag.put ((Ag.put (Ag.base rfl) rfl)) rfl)) rfl)) rfl) (by rw [hb1]; rfl)
 refine pu rfl rfl rfl rfl rfl ?_
 refine dn ?_
 exact re rfl Try.func139 rfl (r_t rfl r_nil) rfl ⟨_, rfl, rfl, z.ky kp0⟩
noncomputable def impl_ItemOk.f (a0 : Item) : Option (Bool) :=
 ((impl_within.f a0.Kind (0 : Int) (3 : Int)).bind fun r4 => (some (((r4 && ((a0.N == (0 : Int)) || (a0.Kind == (1 : Int)))) && (((a0.F : Int) == 0) || (a0.Kind == (2 : Int)))) && (((a0.T.length : Int) == (0 : Int)) || ((a0.Kind == (3 : Int)) && (decide ((a0.T.length : Int) ≤ (40 : Int))))))))
def impl_ItemOk.Q (w : World) (F : Nat → Prop) (r : Bool) (v : Value) (w' : World) : Prop :=
 v = (.bool r) ∧ Ky [] w w'
set_option maxHeartbeats 4000000 in
set_option maxRecDepth 100000 in
theorem impl_ItemOk.calls (a0 : Item) (w : World) (F : Nat → Prop) (w0_0 : Value) (w0_1 : Value) (h0_0 : Kd.flt.rd w [w0_0] a0.F F) (h0_1 : (Kd.sl 5 (Kd.int .u8)).rd w [w0_1] a0.T F) (r : Bool) (m : impl_ItemOk.f a0 = some r) :
  Calls Try.prog 192 #[(.agg #[(.int .i64 a0.Kind), (.int .i64 a0.N), w0_0, w0_1])] w fun en w' => ∃ v, en = .returned v ∧ impl_ItemOk.Q w F r v w' := by
 obtain ⟨s0, rfl, kp0, z⟩ := start0 w F
 have A0_0 := fl_of h0_0
 have A0_1 := z.rd h0_1
 refine calls_of_TM (args := [(.agg #[(.int .i64 a0.Kind), (.int .i64 a0.N), w0_0, w0_1])]) (R := fun r en w' => ∃ v, en = .returned v ∧ impl_ItemOk.Q s0.w F r v w') Try.func192 Try.ntmps192 rfl rfl m ?_
 unfold impl_ItemOk.f
 refine sr ?_
 refine bx (cs := [(.int .i64 a0.Kind), (.int .i64 a0.N), w0_0, w0_1]) 40 rfl rfl rfl rfl rfl rfl (fun b2 s2 p2 B2 => ?_)
 refine pu rfl rfl rfl rfl rfl ?_
 refine dn ?_
 refine sr ?_
 refine fa fa48_0 rfl rfl rfl rfl rfl rfl ?_
 refine ld B2 Try.underlying3 rfl rfl rfl rfl rfl rfl rfl rfl ?_
 refine cl rfl rfl rfl rfl rfl Try.func139 rfl rfl rfl (fun r4 m4 => impl_within.calls a0.Kind (0 : Int) (3 : Int) s2.w (fun b => memb [] (s2.g b) = true)  r4 m4) ?_
 rintro r4 _ w4 m4 ⟨rfl, ky4⟩
 obtain ⟨s5, rfl, p5, n5⟩ := nwx s2 w4 41 ky4
 refine pu rfl rfl rfl rfl rfl ?_
 refine jy [6, 7, 8, 9, 10, 11, 12, 13, 14, 15] [13, 14, 15, 16, 17, 18, 19, 20, 21, 22, 23, 24, 25, 26, 27, 28, 29, 30, 31, 32, 33, 34, 35, 36, 37, 38, 39, 40, 41] 15 (.bool (r4 && ((a0.N == (0 : Int)) || (a0.Kind == (1 : Int))))) rfl (fun Kg6 => ?_) (fun j6 => ?_)
 ·
  rcases Bool.eq_false_or_eq_true r4 with hb6 | hb6
  ·
   refine sbT hb6 ?_
   refine fa fa48_1 rfl rfl rfl rfl rfl rfl ?_
   have A7 := (BlF.st B2 p5 rfl)
   refine ld A7 Try.underlying3 rfl rfl rfl rfl rfl rfl rfl rfl ?_
   refine pu rfl rfl rfl rfl rfl ?_
   refine pu rfl rfl rfl rfl rfl ?_
   refine jy [10, 11, 12, 13, 14] [12, 13, 14, 15, 16, 17, 18, 19, 20, 21, 22, 23, 24, 25, 26, 27, 28, 29, 30, 31, 32, 33, 34, 35, 36, 37, 38, 39, 40, 41] 14 (.bool ((a0.N == (0 : Int)) || (a0.Kind == (1 : Int)))) rfl (fun Kg8 => ?_) (fun j8 => ?_)
   ·
    rcases Bool.eq_false_or_eq_true (a0.N == (0 : Int)) with hb8 | hb8
    ·
     refine sbT hb8 ?_
     refine uw rfl rfl rfl rfl ?_
     refine uw rfl rfl rfl rfl ?_
     refine uw rfl rfl rfl rfl ?_
     refine pu rfl rfl rfl rfl rfl ?_
     exact Kg8 _ (Ag.put ((Ag.put ((Ag.put ((Ag.put (Ag.base rfl) rfl)) rfl)) rfl)) rfl) (by rw [hb8]; rfl)
    ·
     refine sbT hb8 ?_
     refine fa fa48_0 rfl rfl rfl rfl rfl rfl ?_
     refine ld A7 Try.underlying3 rfl rfl rfl rfl rfl rfl rfl rfl ?_
     refine pu rfl rfl rfl rfl rfl ?_
     refine pu rfl rfl rfl rfl rfl ?_
     exact Kg8 _ (Ag.put ((Ag.put ((Ag.put ((Ag.put (Ag.base rfl) rfl)) rfl)) rfl)) rfl) (by rw [hb8]; rfl)
   refine pu rfl rfl rfl rfl rfl ?_
   exact Kg6 _ (Ag.put ((Ag.put ((Ag.ov ((Ag.put ((Ag.put ((Ag.put ((Ag.put (Ag.base rfl) rfl)) rfl)) rfl)) rfl)) rfl)) rfl)) rfl) (by rw [hb6]; rfl)
  ·
   refine sbT hb6 ?_
   refine uw rfl rfl rfl rfl ?_
   refine uw rfl rfl rfl rfl ?_
   refine uw rfl rfl rfl rfl ?_
   refine uw rfl rfl rfl rfl ?_
   refine uw rfl rfl rfl rfl ?_
   refine uw rfl rfl rfl rfl ?_
   refine uw rfl rfl rfl rfl ?_
   refine uw rfl rfl rfl rfl ?_
   refine pu rfl rfl rfl rfl rfl ?_
   exact Kg6 _ (Ag.put ((Ag.put ((Ag.put ((Ag.put ((Ag.put ((Ag.put ((Ag.put ((Ag.put ((Ag.put (Ag.base rfl) rfl)) rfl)) rfl)) rfl)) rfl)) rfl)) rfl)) rfl)) rfl) (by rw [hb6]; rfl)
 refine pu rfl rfl rfl rfl rfl ?_
 refine jy [16, 17, 18, 19, 20, 21, 22, 23, 24, 25, 26] [24, 25, 26, 27, 28, 29, 30, 31, 32, 33, 34, 35, 36, 37, 38, 39, 40, 41] 26 (.bool ((r4 && ((a0.N == (0 : Int)) || (a0.Kind == (1 : Int)))) && (((a0.F : Int) == 0) || (a0.Kind == (2 : Int))))) rfl (fun Kg9 => ?_) (fun j9 => ?_)
 ·
  rcases Bool.eq_false_or_eq_true (r4 && ((a0.N == (0 : Int)) || (a0.Kind == (1 : Int)))) with hb9 | hb9
  ·
   refine sbT hb9 ?_
   refine fa fa48_2 rfl rfl rfl rfl rfl rfl ?_
   have A10 := (BlF.st B2 p5 rfl)
   refine ld A10 Try.underlying36 rfl rfl rfl rfl rfl rfl rfl rfl ?_
   refine fbu A0_0 rfl rfl rfl rfl rfl Try.func193 rfl rfl xn193 xf193 rfl (fun b11 A11 => ?_)
   refine fz0 A11 rfl rfl rfl rfl rfl rfl rfl ?_
   refine pu rfl rfl rfl rfl rfl ?_
   refine jy [21, 22, 23, 24, 25] [23, 24, 25, 26, 27, 28, 29, 30, 31, 32, 33, 34, 35, 36, 37, 38, 39, 40, 41] 25 (.bool (((a0.F : Int) == 0) || (a0.Kind == (2 : Int)))) rfl (fun Kg12 => ?_) (fun j12 => ?_)
   ·
    rcases Bool.eq_false_or_eq_true ((a0.F : Int) == 0) with hb12 | hb12
    ·
     refine sbT hb12 ?_
     refine uw rfl rfl rfl rfl ?_
     refine uw rfl rfl rfl rfl ?_
     refine uw rfl rfl rfl rfl ?_
     refine pu rfl rfl rfl rfl rfl ?_
     exact Kg12 _ (Ag.put ((Ag.put ((Ag.put ((Ag.put (Ag.base rfl) rfl)) rfl)) rfl)) rfl) (by rw [hb12]; rfl)
    ·
     refine sbT hb12 ?_
     refine fa fa48_0 rfl rfl rfl rfl rfl rfl ?_
     refine ld A10 Try.underlying3 rfl rfl rfl rfl rfl rfl rfl rfl ?_
     refine pu rfl rfl rfl rfl rfl ?_
     refine pu rfl rfl rfl rfl rfl ?_
     exact Kg12 _ (Ag.put ((Ag.put ((Ag.put ((Ag.put (Ag.base rfl) rfl)) rfl)) rfl)) rfl) (by rw [hb12]; rfl)
   refine pu rfl rfl rfl rfl rfl ?_
   exact Kg9 _ (Ag.put ((Ag.put ((Ag.ov ((Ag.put ((Ag.put ((Ag.put ((Ag.put ((Ag.put (Ag.base rfl) rfl)) rfl)) rfl)) rfl)) rfl)) rfl)) rfl)) rfl) (by rw [hb9]; rfl)
  ·
   refine sbT hb9 ?_
   refine uw rfl rfl rfl rfl ?_
   refine uw rfl rfl rfl rfl ?_
   refine uw rfl rfl rfl rfl ?_
   refine uw rfl rfl rfl rfl ?_
   refine uw rfl rfl rfl rfl ?_
   refine uw rfl rfl rfl rfl ?_
   refine uw rfl rfl rfl rfl ?_
   refine uw rfl rfl rfl rfl ?_
   refine uw rfl rfl rfl rfl ?_
   refine pu rfl rfl rfl rfl rfl ?_
   exact Kg9 _ (Ag.put ((Ag.put ((Ag.put ((Ag.put ((Ag.put ((Ag.put ((Ag.put ((Ag.put ((Ag.put ((Ag.put (Ag.base rfl) rfl)) rfl)) rfl)) rfl)) rfl)) rfl)) rfl)) rfl)) rfl)) rfl) (by rw [hb9]; rfl)
 refine pu rfl rfl rfl rfl rfl ?_
 refine jy [27, 28, 29, 30, 31, 32, 33, 34, 35, 36, 37, 38, 39, 40, 41, 42, 43] [41] 43 (.bool (((r4 && ((a0.N == (0 : Int)) || (a0.Kind == (1 : Int)))) && (((a0.F : Int) == 0) || (a0.Kind == (2 : Int)))) && (((a0.T.length : Int) == (0 : Int)) || ((a0.Kind == (3 : Int)) && (decide ((a0.T.length : Int) ≤ (40 : Int))))))) rfl (fun Kg13 => ?_) (fun j13 => ?_)
 ·
  rcases Bool.eq_false_or_eq_true ((r4 && ((a0.N == (0 : Int)) || (a0.Kind == (1 : Int)))) && (((a0.F : Int) == 0) || (a0.Kind == (2 : Int)))) with hb13 | hb13
  ·
   refine sbT hb13 ?_
   refine fa fa48_3 rfl rfl rfl rfl rfl rfl ?_
   have A14 := (BlF.st B2 p5 rfl)
   refine ld A14 Try.underlying37 rfl rfl rfl rfl rfl rfl rfl rfl ?_
   have K15 := ((kp0.st p2 rfl).st p5 rfl)
   have A16 := (A0_1.kp K15)
   refine ln A16 Try.underlying37 rfl rfl rfl rfl rfl rfl ?_
   refine pu rfl rfl rfl rfl rfl ?_
   refine pu rfl rfl rfl rfl rfl ?_
   refine jy [32, 33, 34, 35, 36, 37, 38, 39, 40, 41, 42] [40, 41] 42 (.bool (((a0.T.length : Int) == (0 : Int)) || ((a0.Kind == (3 : Int)) && (decide ((a0.T.length : Int) ≤ (40 : Int)))))) rfl (fun Kg17 => ?_) (fun j17 => ?_)
   ·
    rcases Bool.eq_false_or_eq_true ((a0.T.length : Int) == (0 : Int)) with hb17 | hb17
    ·
     refine sbT hb17 ?_
     refine uw rfl rfl rfl rfl ?_
     refine uw rfl rfl rfl rfl ?_
     refine uw rfl rfl rfl rfl ?_
     refine uw rfl rfl rfl rfl ?_
     refine uw rfl rfl rfl rfl ?_
     refine uw rfl rfl rfl rfl ?_
     refine uw rfl rfl rfl rfl ?_
     refine uw rfl rfl rfl rfl ?_
     refine uw rfl rfl rfl rfl ?_
     refine pu rfl rfl rfl rfl rfl ?_
     exact Kg17 _ (Ag.put ((Ag.put ((Ag.put ((Ag.put ((Ag.put ((Ag.put ((Ag.put ((Ag.put ((Ag.put ((Ag.put (Ag.base rfl) rfl)) rfl)) rfl)) rfl)) rfl)) rfl)) rfl)) rfl)) rfl)) rfl) (by rw [hb17]; rfl)
    ·
     refine sbT hb17 ?_
     refine fa fa48_0 rfl rfl rfl rfl rfl rfl ?_
     refine ld A14 Try.underlying3 rfl rfl rfl rfl rfl rfl rfl rfl ?_
     refine pu rfl rfl rfl rfl rfl ?_
     refine pu rfl rfl rfl rfl rfl ?_
     refine jy [36, 37, 38, 39, 40, 41] [39, 40, 41] 41 (.bool ((a0.Kind == (3 : Int)) && (decide ((a0.T.length : Int) ≤ (40 : Int))))) rfl (fun Kg18 => ?_) (fun j18 => ?_)
     ·
      rcases Bool.eq_false_or_eq_true (a0.Kind == (3 : Int)) with hb18 | hb18
      ·
       refine sbT hb18 ?_
       refine fa fa48_3 rfl rfl rfl rfl rfl rfl ?_
       refine ld A14 Try.underlying37 rfl rfl rfl rfl rfl rfl rfl rfl ?_
       refine ln A16 Try.underlying37 rfl rfl rfl rfl rfl rfl ?_
       refine pu rfl rfl rfl rfl rfl ?_
       refine pu rfl rfl rfl rfl rfl ?_
       exact Kg18 _ (Ag.put ((Ag.put ((Ag.put ((Ag.put ((Ag.put (Ag.base rfl) rfl)) rfl)) rfl)) rfl)) rfl) (by rw [hb18]; rfl)
      ·
       refine sbT hb18 ?_
       refine uw rfl rfl rfl rfl ?_
       refine uw rfl rfl rfl rfl ?_
       refine uw rfl rfl rfl rfl ?_
       refine uw rfl rfl rfl rfl ?_
       refine pu rfl rfl rfl rfl rfl ?_
       exact Kg18 _ (Ag.put ((Ag.put ((Ag.put ((Ag.put ((Ag.put (Ag.base rfl) rfl)) rfl)) rfl)) rfl)) rfl) (by rw [hb18]; rfl)
     refine pu rfl rfl rfl rfl rfl ?_
     exact Kg17 _ (Ag.put ((Ag.put ((Ag.ov ((Ag.put ((Ag.put ((Ag.put ((Ag.put (Ag.base rfl) rfl)) rfl)) rfl)) rfl)) rfl)) rfl)) rfl) (by rw [hb17]; rfl)
   refine pu rfl rfl rfl rfl rfl ?_
   exact Kg13 _ (Ag.put ((Ag.put ((Ag.ov ((Ag.put ((Ag.put ((Ag.put ((Ag.put ((Ag.put (Ag.base rfl) rfl)) rfl)) rfl)) rfl)) rfl)) rfl)) rfl)) rfl) (by rw [hb13]; rfl)
  ·
   refine sbT hb13 ?_
   refine uw rfl rfl rfl rfl ?_
   refine uw rfl rfl rfl rfl ?_
   refine uw rfl rfl rfl rfl ?_
   refine uw rfl rfl rfl rfl ?_
   refine uw rfl rfl rfl rfl ?_
   refine uw rfl rfl rfl rfl ?_
   refine uw rfl rfl rfl rfl ?_
   refine uw rfl rfl rfl rfl ?_
   refine uw rfl rfl rfl rfl ?_
   refine uw rfl rfl rfl rfl ?_
   refine uw rfl rfl rfl rfl ?_
   refine uw rfl rfl rfl rfl ?_
   refine uw rfl rfl rfl rfl ?_
   refine uw rfl rfl rfl rfl ?_
   refine uw rfl rfl rfl rfl ?_
   refine pu rfl rfl rfl rfl rfl ?_
   exact Kg13 _ (Ag.put ((Ag.put ((Ag.put ((Ag.put ((Ag.put ((Ag.put ((Ag.put ((Ag.put ((Ag.put ((Ag.put ((Ag.put ((Ag.put ((Ag.put ((Ag.put ((Ag.put ((Ag.put (Ag.base rfl) rfl)) rfl)) rfl)) rfl)) rfl)) rfl)) rfl)) rfl)) rfl)) rfl)) rfl)) rfl)) rfl)) rfl)) rfl)) rfl) (by rw [hb13]; rfl)
 refine pu rfl rfl rfl rfl rfl ?_
 refine dn ?_
 have K19 := ((kp0.st p2 rfl).st p5 rfl)
 exact re rfl Try.func192 rfl (r_t rfl r_nil) rfl ⟨_, rfl, rfl, z.ky K19⟩
noncomputable def impl_KeyOk.f (a0 : Item) : Option (Bool) :=
 ((impl_ItemOk.f a0).bind fun r6 => (some ((r6 && (a0.Kind != (0 : Int))) && ((fcmp .f64 a0.F (0 : Nat) != some .eq) || ((a0.F : Int) == 0)))))
def impl_KeyOk.Q (w : World) (F : Nat → Prop) (r : Bool) (v : Value) (w' : World) : Prop :=
 v = (.bool r) ∧ Ky [] w w'
set_option maxHeartbeats 4000000 in
set_option maxRecDepth 100000 in
theorem impl_KeyOk.calls (a0 : Item) (w : World) (F : Nat → Prop) (w0_0 : Value) (w0_1 : Value) (h0_0 : Kd.flt.rd w [w0_0] a0.F F) (h0_1 : (Kd.sl 5 (Kd.int .u8)).rd w [w0_1] a0.T F) (r : Bool) (m : impl_KeyOk.f a0 = some r) :
  Calls Try.prog 141 #[(.agg #[(.int .i64 a0.Kind), (.int .i64 a0.N), w0_0, w0_1])] w fun en w' => ∃ v, en = .returned v ∧ impl_KeyOk.Q w F r v w' := by
 obtain ⟨s0, rfl, kp0, z⟩ := start0 w F
 have A0_0 := fl_of h0_0
 have A0_1 := z.rd h0_1
 refine calls_of_TM (args := [(.agg #[(.int .i64 a0.Kind), (.int .i64 a0.N), w0_0, w0_1])]) (R := fun r en w' => ∃ v, en = .returned v ∧ impl_KeyOk.Q s0.w F r v w') Try.func141 Try.ntmps141 rfl rfl m ?_
 unfold impl_KeyOk.f
 refine sr ?_
 refine bx (cs := [(.int .i64 a0.Kind), (.int .i64 a0.N), w0_0, w0_1]) 40 rfl rfl rfl rfl rfl rfl (fun b2 s2 p2 B2 => ?_)
 refine pu rfl rfl rfl rfl rfl ?_
 refine dn ?_
 refine sr ?_
 refine lda (es := [(.int .i64 a0.Kind), (.int .i64 a0.N), w0_0, w0_1]) B2 Try.underlying48 z48 rfl rfl rfl rfl rfl rfl rfl rfl ?_
 have K4 := (kp0.st p2 rfl)
 have A5 := (A0_1.kp K4)
 refine cl rfl rfl rfl rfl rfl Try.func192 rfl rfl rfl (fun r6 m6 => impl_ItemOk.calls a0 s2.w (fun b => memb [0] (s2.g b) = true) w0_0 w0_1 ((fl_rdf (s := s2) A0_0).sub (D := [0]) rfl) A5 r6 m6) ?_
 rintro r6 _ w6 m6 ⟨rfl, ky6⟩
 obtain ⟨s7, rfl, p7, n7⟩ := nwx s2 w6 41 ky6
 refine pu rfl rfl rfl rfl rfl ?_
 refine jy [5, 6, 7, 8, 9] [7, 8, 9, 10, 11, 12, 13, 14, 15, 16, 17, 18] 9 (.bool (r6 && (a0.Kind != (0 : Int)))) rfl (fun Kg8 => ?_) (fun j8 => ?_)
 ·
  rcases Bool.eq_false_or_eq_true r6 with hb8 | hb8
  ·
   refine sbT hb8 ?_
   refine fa fa48_0 rfl rfl rfl rfl rfl rfl ?_
   have A9 := (BlF.st B2 p7 rfl)
   refine ld A9 Try.underlying3 rfl rfl rfl rfl rfl rfl rfl rfl ?_
   refine pu rfl rfl rfl rfl rfl ?_
   refine pu rfl rfl rfl rfl rfl ?_
   exact Kg8 _ (Ag.put ((Ag.put ((Ag.put ((Ag.put (Ag.base rfl) rfl)) rfl)) rfl)) rfl) (by rw [hb8]; rfl)
  ·
   refine sbT hb8 ?_
   refine uw rfl rfl rfl rfl ?_
   refine uw rfl rfl rfl rfl ?_
   refine uw rfl rfl rfl rfl ?_
   refine pu rfl rfl rfl rfl rfl ?_
   exact Kg8 _ (Ag.put ((Ag.put ((Ag.put ((Ag.put (Ag.base rfl) rfl)) rfl)) rfl)) rfl) (by rw [hb8]; rfl)
 refine pu rfl rfl rfl rfl rfl ?_
 refine jy [10, 11, 12, 13, 14, 15, 16, 17, 18, 19, 20] [18] 20 (.bool ((r6 && (a0.Kind != (0 : Int))) && ((fcmp .f64 a0.F (0 : Nat) != some .eq) || ((a0.F : Int) == 0)))) rfl (fun Kg10 => ?_) (fun j10 => ?_)
 ·
  rcases Bool.eq_false_or_eq_true (r6 && (a0.Kind != (0 : Int))) with hb10 | hb10
  ·
   refine sbT hb10 ?_
   refine fa fa48_2 rfl rfl rfl rfl rfl rfl ?_
   have A11 := (BlF.st B2 p7 rfl)
   refine ld A11 Try.underlying36 rfl rfl rfl rfl rfl rfl rfl rfl ?_
   refine fq_ A0_0 (fl_c rfl) rfl rfl rfl rfl rfl rfl rfl rfl ?_
   refine pu rfl rfl rfl rfl rfl ?_
   refine jy [14, 15, 16, 17, 18, 19] [17, 18] 19 (.bool ((fcmp .f64 a0.F (0 : Nat) != some .eq) || ((a0.F : Int) == 0))) rfl (fun Kg12 => ?_) (fun j12 => ?_)
   ·
    rcases Bool.eq_false_or_eq_true (fcmp .f64 a0.F (0 : Nat) != some .eq) with hb12 | hb12
    ·
     refine sbT hb12 ?_
     refine uw rfl rfl rfl rfl ?_
     refine uw rfl rfl rfl rfl ?_
     refine uw rfl rfl rfl rfl ?_
     refine uw rfl rfl rfl rfl ?_
     refine pu rfl rfl rfl rfl rfl ?_
     exact Kg12 _ (Ag.put ((Ag.put ((Ag.put ((Ag.put ((Ag.put (Ag.base rfl) rfl)) rfl)) rfl)) rfl)) rfl) (by rw [hb12]; rfl)
    ·
     refine sbT hb12 ?_
     refine fa fa48_2 rfl rfl rfl rfl rfl rfl ?_
     refine ld A11 Try.underlying36 rfl rfl rfl rfl rfl rfl rfl rfl ?_
     refine fbu A0_0 rfl rfl rfl rfl rfl Try.func193 rfl rfl xn193 xf193 rfl (fun b13 A13 => ?_)
     refine fz0 A13 rfl rfl rfl rfl rfl rfl rfl ?_
     refine pu rfl rfl rfl rfl rfl ?_
     exact Kg12 _ (Ag.put ((Ag.put ((Ag.put ((Ag.put ((Ag.put (Ag.base rfl) rfl)) rfl)) rfl)) rfl)) rfl) (by rw [hb12]; rfl)
   refine pu rfl rfl rfl rfl rfl ?_
   exact Kg10 _ (Ag.put ((Ag.put ((Ag.ov ((Ag.put ((Ag.put ((Ag.put ((Ag.put (Ag.base rfl) rfl)) rfl)) rfl)) rfl)) rfl)) rfl)) rfl) (by rw [hb10]; rfl)
  ·
   refine sbT hb10 ?_
   refine uw rfl rfl rfl rfl ?_
   refine uw rfl rfl rfl rfl ?_
   refine uw rfl rfl rfl rfl ?_
   refine uw rfl rfl rfl rfl ?_
   refine uw rfl rfl rfl rfl ?_
   refine uw rfl rfl rfl rfl ?_
   refine uw rfl rfl rfl rfl ?_
   refine uw rfl rfl rfl rfl ?_
   refine uw rfl rfl rfl rfl ?_
   refine pu rfl rfl rfl rfl rfl ?_
   exact Kg10 _ (Ag.put ((Ag.put ((Ag.put ((Ag.put ((Ag.put ((Ag.put ((Ag.put ((Ag.put ((Ag.put ((Ag.put (Ag.base rfl) rfl)) rfl)) rfl)) rfl)) rfl)) rfl)) rfl)) rfl)) rfl)) rfl) (by rw [hb10]; rfl)
 refine pu rfl rfl rfl rfl rfl ?_
 refine dn ?_
 have K14 := (K4.st p7 rfl)
 exact re rfl Try.func141 rfl (r_t rfl r_nil) rfl ⟨_, rfl, rfl, z.ky K14⟩
noncomputable def cmp_isNaN_int.f (a0 : Int) : Option (Bool) :=
 (some (a0 != a0))
def cmp_isNaN_int.Q (w : World) (F : Nat → Prop) (r : Bool) (v : Value) (w' : World) : Prop :=
 v = (.bool r) ∧ Ky [] w w'
set_option maxHeartbeats 4000000 in
set_option maxRecDepth 100000 in
theorem cmp_isNaN_int.calls (a0 : Int) (w : World) (F : Nat → Prop)   (r : Bool) (m : cmp_isNaN_int.f a0 = some r) :
  Calls Try.prog 216 #[(.int .i64 a0)] w fun en w' => ∃ v, en = .returned v ∧ cmp_isNaN_int.Q w F r v w' := by
 obtain ⟨s0, rfl, kp0, z⟩ := start0 w F
 refine calls_of_TM (args := [(.int .i64 a0)]) (R := fun r en w' => ∃ v, en = .returned v ∧ cmp_isNaN_int.Q s0.w F r v w') Try.func216 Try.ntmps216 rfl rfl m ?_
 unfold cmp_isNaN_int.f
 refine sr ?_
 refine pu rfl rfl rfl rfl rfl ?_
 refine dn ?_
 refine sr ?_
 refine pu rfl rfl rfl rfl rfl ?_
 refine pu rfl rfl rfl rfl rfl ?_
 refine pu rfl rfl rfl rfl rfl ?_
 refine pu rfl rfl rfl rfl rfl ?_
 refine dn ?_
 exact re rfl Try.func216 rfl (r_t rfl r_nil) rfl ⟨_, rfl, rfl, z.ky kp0⟩
noncomputable def cmp_Compare_int.f (a0 : Int) (a1 : Int) : Option (Int) :=
 ((cmp_isNaN_int.f a0).bind fun r1 => ((cmp_isNaN_int.f a1).bind fun r3 => (if r1 = true then (if r3 = true then (some (0 : Int)) else (some (-1 : Int))) else (if r3 = true then (some (1 : Int)) else (if (decide (a0 < a1)) = true then (some (-1 : Int)) else (if (decide (a0 > a1)) = true then (some (1 : Int)) else (some (0 : Int))))))))
def cmp_Compare_int.Q (w : World) (F : Nat → Prop) (r : Int) (v : Value) (w' : World) : Prop :=
 v = (.int .i64 r) ∧ Ky [] w w'
set_option maxHeartbeats 4000000 in
set_option maxRecDepth 100000 in
theorem cmp_Compare_int.calls (a0 : Int) (a1 : Int) (w : World) (F : Nat → Prop)   (r : Int) (m : cmp_Compare_int.f a0 a1 = some r) :
  Calls Try.prog 195 #[(.int .i64 a0), (.int .i64 a1)] w fun en w' => ∃ v, en = .returned v ∧ cmp_Compare_int.Q w F r v w' := by
 obtain ⟨s0, rfl, kp0, z⟩ := start0 w F
 refine calls_of_TM (args := [(.int .i64 a0), (.int .i64 a1)]) (R := fun r en w' => ∃ v, en = .returned v ∧ cmp_Compare_int.Q s0.w F r v w') Try.func195 Try.ntmps195 rfl rfl m ?_
 unfold cmp_Compare_int.f
 refine sr ?_
 refine pu rfl rfl rfl rfl rfl ?_
 refine dn ?_
 refine sr ?_
 refine pu rfl rfl rfl rfl rfl ?_
 refine cl rfl rfl rfl rfl rfl Try.func216 rfl rfl rfl (fun r1 m1 => cmp_isNaN_int.calls a0 s0.w (fun b => memb [] (s0.g b) = true)  r1 m1) ?_
 rintro r1 _ w1 m1 ⟨rfl, ky1⟩
 obtain ⟨s2, rfl, p2, n2⟩ := nwx s0 w1 40 ky1
 refine pu rfl rfl rfl rfl rfl ?_
 refine dn ?_
 refine sr ?_
 refine pu rfl rfl rfl rfl rfl ?_
 refine cl rfl rfl rfl rfl rfl Try.func216 rfl rfl rfl (fun r3 m3 => cmp_isNaN_int.calls a1 s2.w (fun b => memb [] (s2.g b) = true)  r3 m3) ?_
 rintro r3 _ w3 m3 ⟨rfl, ky3⟩
 obtain ⟨s4, rfl, p4, n4⟩ := nwx s2 w3 41 ky3
 refine pu rfl rfl rfl rfl rfl ?_
 refine dn ?_
 refine sq ?_
 refine sr ?_
 refine pu rfl rfl rfl rfl rfl ?_
 refine dn ?_
 refine cd rfl (fun h5 => ?_) (fun h5 => ?_)
 ·
  refine sq ?_
  refine sr ?_
  refine pu rfl rfl rfl rfl rfl ?_
  refine dn ?_
  refine cd rfl (fun h6 => ?_) (fun h6 => ?_)
  ·
   refine sr ?_
   refine pu rfl rfl rfl rfl rfl ?_
   refine dn ?_
   have K7 := ((kp0.st p2 rfl).st p4 rfl)
   exact re rfl Try.func195 rfl (r_t rfl r_nil) rfl ⟨_, rfl, rfl, z.ky K7⟩
  ·
   refine sk ?_
   refine sr ?_
   refine pu rfl rfl rfl rfl rfl ?_
   refine dn ?_
   have K8 := ((kp0.st p2 rfl).st p4 rfl)
   exact re rfl Try.func195 rfl (r_t rfl r_nil) rfl ⟨_, rfl, rfl, z.ky K8⟩
 ·
  refine sk ?_
  refine sq ?_
  refine sr ?_
  refine pu rfl rfl rfl rfl rfl ?_
  refine dn ?_
  refine cd rfl (fun h9 => ?_) (fun h9 => ?_)
  ·
   refine sr ?_
   refine pu rfl rfl rfl rfl rfl ?_
   refine dn ?_
   have K10 := ((kp0.st p2 rfl).st p4 rfl)
   exact re rfl Try.func195 rfl (r_t rfl r_nil) rfl ⟨_, rfl, rfl, z.ky K10⟩
  ·
   refine sk ?_
   refine sq ?_
   refine sr ?_
   refine pu rfl rfl rfl rfl rfl ?_
   refine pu rfl rfl rfl rfl rfl ?_
   refine pu rfl rfl rfl rfl rfl ?_
   refine dn ?_
   refine cd rfl (fun h11 => ?_) (fun h11 => ?_)
   ·
    refine sr ?_
    refine pu rfl rfl rfl rfl rfl ?_
    refine dn ?_
    have K12 := ((kp0.st p2 rfl).st p4 rfl)
    exact re rfl Try.func195 rfl (r_t rfl r_nil) rfl ⟨_, rfl, rfl, z.ky K12⟩
   ·
    refine sk ?_
    refine sq ?_
    refine sr ?_
    refine pu rfl rfl rfl rfl rfl ?_
    refine pu rfl rfl rfl rfl rfl ?_
    refine pu rfl rfl rfl rfl rfl ?_
    refine dn ?_
    refine cd rfl (fun h13 => ?_) (fun h13 => ?_)
    ·
     refine sr ?_
     refine pu rfl rfl rfl rfl rfl ?_
     refine dn ?_
     have K14 := ((kp0.st p2 rfl).st p4 rfl)
     exact re rfl Try.func195 rfl (r_t rfl r_nil) rfl ⟨_, rfl, rfl, z.ky K14⟩
    ·
     refine sk ?_
     refine sr ?_
     refine pu rfl rfl rfl rfl rfl ?_
     refine dn ?_
     have K15 := ((kp0.st p2 rfl).st p4 rfl)
     exact re rfl Try.func195 rfl (r_t rfl r_nil) rfl ⟨_, rfl, rfl, z.ky K15⟩
noncomputable def impl_FloatRank.f (a0 : Nat) : Option (Int) :=
 (if (fcmp .f64 a0 a0 != some .eq) = true then (some (18446744073709551615 : Int)) else (if (fcmp .f64 a0 (0 : Nat) == some .eq) = true then (some (9223372036854775808 : Int)) else (if (fcmp .f64 a0 (0 : Nat) == some .gt) = true then (if isN a0 = false then (some (ior .u64 (a0 : Int) (9223372036854775808 : Int))) else none) else (if isN a0 = false then (some (ixor .u64 (IntKind.max .u64) (a0 : Int))) else none))))
def impl_FloatRank.Q (w : World) (F : Nat → Prop) (r : Int) (v : Value) (w' : World) : Prop :=
 v = (.int .u64 r) ∧ Ky [] w w'
set_option maxHeartbeats 4000000 in
set_option maxRecDepth 100000 in
theorem impl_FloatRank.calls (a0 : Nat) (w : World) (F : Nat → Prop) (w0_0 : Value) (h0_0 : Kd.flt.rd w [w0_0] a0 F) (r : Int) (m : impl_FloatRank.f a0 = some r) :
  Calls Try.prog 223 #[w0_0] w fun en w' => ∃ v, en = .returned v ∧ impl_FloatRank.Q w F r v w' := by
 obtain ⟨s0, rfl, kp0, z⟩ := start0 w F
 have A0_0 := fl_of h0_0
 refine calls_of_TM (args := [w0_0]) (R := fun r en w' => ∃ v, en = .returned v ∧ impl_FloatRank.Q s0.w F r v w') Try.func223 Try.ntmps223 rfl rfl m ?_
 unfold impl_FloatRank.f
 refine sr ?_
 refine pu rfl rfl rfl rfl rfl ?_
 refine dn ?_
 refine sq ?_
 refine bl ?_
 refine sr ?_
 refine mv w0_0 rfl rfl rfl rfl rfl rfl ?_
 refine mv w0_0 rfl rfl rfl rfl rfl rfl ?_
 refine fq_ A0_0 A0_0 rfl rfl rfl rfl rfl rfl rfl rfl ?_
 refine pu rfl rfl rfl rfl rfl ?_
 refine dn ?_
 refine cd rfl (fun h1 => ?_) (fun h1 => ?_)
 ·
  refine sr ?_
  refine pu rfl rfl rfl rfl rfl ?_
  refine dn ?_
  exact re rfl Try.func223 rfl (r_t rfl r_nil) rfl ⟨_, rfl, rfl, z.ky kp0⟩
 ·
  refine sr ?_
  refine mv w0_0 rfl rfl rfl rfl rfl rfl ?_
  refine fq_ A0_0 (fl_c rfl) rfl rfl rfl rfl rfl rfl rfl rfl ?_
  refine pu rfl rfl rfl rfl rfl ?_
  refine dn ?_
  refine cd rfl (fun h2 => ?_) (fun h2 => ?_)
  ·
   refine sr ?_
   refine pu rfl rfl rfl rfl rfl ?_
   refine dn ?_
   exact re rfl Try.func223 rfl (r_t rfl r_nil) rfl ⟨_, rfl, rfl, z.ky kp0⟩
  ·
   refine sr ?_
   refine mv w0_0 rfl rfl rfl rfl rfl rfl ?_
   refine fq_ A0_0 (fl_c rfl) rfl rfl rfl rfl rfl rfl rfl rfl ?_
   refine pu rfl rfl rfl rfl rfl ?_
   refine dn ?_
   refine cd rfl (fun h3 => ?_) (fun h3 => ?_)
   ·
    refine sr ?_
    refine mv w0_0 rfl rfl rfl rfl rfl rfl ?_
    refine fb_ A0_0 rfl rfl rfl rfl rfl Try.func193 rfl rfl xn193 xf193 rfl ?_
    refine pu rfl rfl rfl rfl rfl ?_
    refine pu rfl rfl rfl rfl rfl ?_
    refine dn ?_
    exact re rfl Try.func223 rfl (r_t rfl r_nil) rfl ⟨_, rfl, rfl, z.ky kp0⟩
   ·
    refine sk ?_
    refine ib ?_
    refine sr ?_
    refine mv w0_0 rfl rfl rfl rfl rfl rfl ?_
    refine fb_ A0_0 rfl rfl rfl rfl rfl Try.func193 rfl rfl xn193 xf193 rfl ?_
    refine pu rfl rfl rfl rfl rfl ?_
    refine pu rfl rfl rfl rfl rfl ?_
    refine dn ?_
    exact re rfl Try.func223 rfl (r_t rfl r_nil) rfl ⟨_, rfl, rfl, z.ky kp0⟩
noncomputable def cmp_isNaN_uint64.f (a0 : Int) : Option (Bool) :=
 (some (a0 != a0))
def cmp_isNaN_uint64.Q (w : World) (F : Nat → Prop) (r : Bool) (v : Value) (w' : World) : Prop :=
 v = (.bool r) ∧ Ky [] w w'
set_option maxHeartbeats 4000000 in
set_option maxRecDepth 100000 in
theorem cmp_isNaN_uint64.calls (a0 : Int) (w : World) (F : Nat → Prop)   (r : Bool) (m : cmp_isNaN_uint64.f a0 = some r) :
  Calls Try.prog 227 #[(.int .u64 a0)] w fun en w' => ∃ v, en = .returned v ∧ cmp_isNaN_uint64.Q w F r v w' := by
 obtain ⟨s0, rfl, kp0, z⟩ := start0 w F
 refine calls_of_TM (args := [(.int .u64 a0)]) (R := fun r en w' => ∃ v, en = .returned v ∧ cmp_isNaN_uint64.Q s0.w F r v w') Try.func227 Try.ntmps227 rfl rfl m ?_
 unfold cmp_isNaN_uint64.f
 refine sr ?_
 refine pu rfl rfl rfl rfl rfl ?_
 refine dn ?_
 refine sr ?_
 refine pu rfl rfl rfl rfl rfl ?_
 refine pu rfl rfl rfl rfl rfl ?_
 refine pu rfl rfl rfl rfl rfl ?_
 refine pu rfl rfl rfl rfl rfl ?_
 refine dn ?_
 exact re rfl Try.func227 rfl (r_t rfl r_nil) rfl ⟨_, rfl, rfl, z.ky kp0⟩
noncomputable def cmp_Compare_uint64.f (a0 : Int) (a1 : Int) : Option (Int) :=
 ((cmp_isNaN_uint64.f a0).bind fun r1 => ((cmp_isNaN_uint64.f a1).bind fun r3 => (if r1 = true then (if r3 = true then (some (0 : Int)) else (some (-1 : Int))) else (if r3 = true then (some (1 : Int)) else (if (decide (a0 < a1)) = true then (some (-1 : Int)) else (if (decide (a0 > a1)) = true then (some (1 : Int)) else (some (0 : Int))))))))
def cmp_Compare_uint64.Q (w : World) (F : Nat → Prop) (r : Int) (v : Value) (w' : World) : Prop :=
 v = (.int .i64 r) ∧ Ky [] w w'
set_option maxHeartbeats 4000000 in
set_option maxRecDepth 100000 in
theorem cmp_Compare_uint64.calls (a0 : Int) (a1 : Int) (w : World) (F : Nat → Prop)   (r : Int) (m : cmp_Compare_uint64.f a0 a1 = some r) :
  Calls Try.prog 222 #[(.int .u64 a0), (.int .u64 a1)] w fun en w' => ∃ v, en = .returned v ∧ cmp_Compare_uint64.Q w F r v w' := by
 obtain ⟨s0, rfl, kp0, z⟩ := start0 w F
 refine calls_of_TM (args := [(.int .u64 a0), (.int .u64 a1)]) (R := fun r en w' => ∃ v, en = .returned v ∧ cmp_Compare_uint64.Q s0.w F r v w') Try.func222 Try.ntmps222 rfl rfl m ?_
 unfold cmp_Compare_uint64.f
 refine sr ?_
 refine pu rfl rfl rfl rfl rfl ?_
 refine dn ?_
 refine sr ?_
 refine pu rfl rfl rfl rfl rfl ?_
 refine cl rfl rfl rfl rfl rfl Try.func227 rfl rfl rfl (fun r1 m1 => cmp_isNaN_uint64.calls a0 s0.w (fun b => memb [] (s0.g b) = true)  r1 m1) ?_
 rintro r1 _ w1 m1 ⟨rfl, ky1⟩
 obtain ⟨s2, rfl, p2, n2⟩ := nwx s0 w1 40 ky1
 refine pu rfl rfl rfl rfl rfl ?_
 refine dn ?_
 refine sr ?_
 refine pu rfl rfl rfl rfl rfl ?_
 refine cl rfl rfl rfl rfl rfl Try.func227 rfl rfl rfl (fun r3 m3 => cmp_isNaN_uint64.calls a1 s2.w (fun b => memb [] (s2.g b) = true)  r3 m3) ?_
 rintro r3 _ w3 m3 ⟨rfl, ky3⟩
 obtain ⟨s4, rfl, p4, n4⟩ := nwx s2 w3 41 ky3
 refine pu rfl rfl rfl rfl rfl ?_
 refine dn ?_
 refine sq ?_
 refine sr ?_
 refine pu rfl rfl rfl rfl rfl ?_
 refine dn ?_
 refine cd rfl (fun h5 => ?_) (fun h5 => ?_)
 ·
  refine sq ?_
  refine sr ?_
  refine pu rfl rfl rfl rfl rfl ?_
  refine dn ?_
  refine cd rfl (fun h6 => ?_) (fun h6 => ?_)
  ·
   refine sr ?_
   refine pu rfl rfl rfl rfl rfl ?_
   refine dn ?_
   have K7 := ((kp0.st p2 rfl).st p4 rfl)
   exact re rfl Try.func222 rfl (r_t rfl r_nil) rfl ⟨_, rfl, rfl, z.ky K7⟩
  ·
   refine sk ?_
   refine sr ?_
   refine pu rfl rfl rfl rfl rfl ?_
   refine dn ?_
   have K8 := ((kp0.st p2 rfl).st p4 rfl)
   exact re rfl Try.func222 rfl (r_t rfl r_nil) rfl ⟨_, rfl, rfl, z.ky K8⟩
 ·
  refine sk ?_
  refine sq ?_
  refine sr ?_
  refine pu rfl rfl rfl rfl rfl ?_
  refine dn ?_
  refine cd rfl (fun h9 => ?_) (fun h9 => ?_)
  ·
   refine sr ?_
   refine pu rfl rfl rfl rfl rfl ?_
   refine dn ?_
   have K10 := ((kp0.st p2 rfl).st p4 rfl)
   exact re rfl Try.func222 rfl (r_t rfl r_nil) rfl ⟨_, rfl, rfl, z.ky K10⟩
  ·
   refine sk ?_
   refine sq ?_
   refine sr ?_
   refine pu rfl rfl rfl rfl rfl ?_
   refine pu rfl rfl rfl rfl rfl ?_
   refine pu rfl rfl rfl rfl rfl ?_
   refine dn ?_
   refine cd rfl (fun h11 => ?_) (fun h11 => ?_)
   ·
    refine sr ?_
    refine pu rfl rfl rfl rfl rfl ?_
    refine dn ?_
    have K12 := ((kp0.st p2 rfl).st p4 rfl)
    exact re rfl Try.func222 rfl (r_t rfl r_nil) rfl ⟨_, rfl, rfl, z.ky K12⟩
   ·
    refine sk ?_
    refine sq ?_
    refine sr ?_
    refine pu rfl rfl rfl rfl rfl ?_
    refine pu rfl rfl rfl rfl rfl ?_
    refine pu rfl rfl rfl rfl rfl ?_
    refine dn ?_
    refine cd rfl (fun h13 => ?_) (fun h13 => ?_)
    ·
     refine sr ?_
     refine pu rfl rfl rfl rfl rfl ?_
     refine dn ?_
     have K14 := ((kp0.st p2 rfl).st p4 rfl)
     exact re rfl Try.func222 rfl (r_t rfl r_nil) rfl ⟨_, rfl, rfl, z.ky K14⟩
    ·
     refine sk ?_
     refine sr ?_
     refine pu rfl rfl rfl rfl rfl ?_
     refine dn ?_
     have K15 := ((kp0.st p2 rfl).st p4 rfl)
     exact re rfl Try.func222 rfl (r_t rfl r_nil) rfl ⟨_, rfl, rfl, z.ky K15⟩
noncomputable def impl_FloatCompare.f (a0 : Nat) (a1 : Nat) : Option (Int) :=
 ((impl_FloatRank.f a0).bind fun r1 => ((impl_FloatRank.f a1).bind fun r3 => ((cmp_Compare_uint64.f r1 r3).bind fun r5 => (some r5))))
def impl_FloatCompare.Q (w : World) (F : Nat → Prop) (r : Int) (v : Value) (w' : World) : Prop :=
 v = (.int .i64 r) ∧ Ky [] w w'
set_option maxHeartbeats 4000000 in
set_option maxRecDepth 100000 in
theorem impl_FloatCompare.calls (a0 : Nat) (a1 : Nat) (w : World) (F : Nat → Prop) (w0_0 : Value) (w1_0 : Value) (h0_0 : Kd.flt.rd w [w0_0] a0 F) (h1_0 : Kd.flt.rd w [w1_0] a1 F) (r : Int) (m : impl_FloatCompare.f a0 a1 = some r) :
  Calls Try.prog 205 #[w0_0, w1_0] w fun en w' => ∃ v, en = .returned v ∧ impl_FloatCompare.Q w F r v w' := by
 obtain ⟨s0, rfl, kp0, z⟩ := start0 w F
 have A0_0 := fl_of h0_0
 have A1_0 := fl_of h1_0
 refine calls_of_TM (args := [w0_0, w1_0]) (R := fun r en w' => ∃ v, en = .returned v ∧ impl_FloatCompare.Q s0.w F r v w') Try.func205 Try.ntmps205 rfl rfl m ?_
 unfold impl_FloatCompare.f
 refine sr ?_
 refine pu rfl rfl rfl rfl rfl ?_
 refine dn ?_
 refine sr ?_
 refine mv w0_0 rfl rfl rfl rfl rfl rfl ?_
 refine cl rfl rfl rfl rfl rfl Try.func223 rfl rfl rfl (fun r1 m1 => impl_FloatRank.calls a0 s0.w (fun b => memb [] (s0.g b) = true) w0_0 (fl_rdf (s := s0) A0_0) r1 m1) ?_
 rintro r1 _ w1 m1 ⟨rfl, ky1⟩
 obtain ⟨s2, rfl, p2, n2⟩ := nwx s0 w1 40 ky1
 refine mv w1_0 rfl rfl rfl rfl rfl rfl ?_
 refine cl rfl rfl rfl rfl rfl Try.func223 rfl rfl rfl (fun r3 m3 => impl_FloatRank.calls a1 s2.w (fun b => memb [] (s2.g b) = true) w1_0 (fl_rdf (s := s2) A1_0) r3 m3) ?_
 rintro r3 _ w3 m3 ⟨rfl, ky3⟩
 obtain ⟨s4, rfl, p4, n4⟩ := nwx s2 w3 41 ky3
 refine cl rfl rfl rfl rfl rfl Try.func222 rfl rfl rfl (fun r5 m5 => cmp_Compare_uint64.calls r1 r3 s4.w (fun b => memb [] (s4.g b) = true)  r5 m5) ?_
 rintro r5 _ w5 m5 ⟨rfl, ky5⟩
 obtain ⟨s6, rfl, p6, n6⟩ := nwx s4 w5 42 ky5
 refine pu rfl rfl rfl rfl rfl ?_
 refine dn ?_
 have K7 := (((kp0.st p2 rfl).st p4 rfl).st p6 rfl)
 exact re rfl Try.func205 rfl (r_t rfl r_nil) rfl ⟨_, rfl, rfl, z.ky K7⟩
noncomputable def bytes_Compare.f (a0 : (List Int)) (a1 : (List Int)) : Option (Int) :=
 (some (bcmpS a0 a1))
def bytes_Compare.Q (w : World) (F : Nat → Prop) (r : Int) (v : Value) (w' : World) : Prop :=
 v = (.int .i64 r) ∧ Ky [] w w'
set_option maxHeartbeats 4000000 in
set_option maxRecDepth 100000 in
theorem bytes_Compare.calls (a0 : (List Int)) (a1 : (List Int)) (w : World) (F : Nat → Prop) (w0_0 : Value) (w1_0 : Value) (h0_0 : (Kd.sl 5 (Kd.int .u8)).rd w [w0_0] a0 F) (h1_0 : (Kd.sl 5 (Kd.int .u8)).rd w [w1_0] a1 F) (r : Int) (m : bytes_Compare.f a0 a1 = some r) :
  Calls Try.prog 206 #[w0_0, w1_0] w fun en w' => ∃ v, en = .returned v ∧ bytes_Compare.Q w F r v w' := by
 obtain ⟨s0, rfl, kp0, z⟩ := start0 w F
 have A0_0 := z.rd h0_0
 have A1_0 := z.rd h1_0
 refine calls_of_TM (args := [w0_0, w1_0]) (R := fun r en w' => ∃ v, en = .returned v ∧ bytes_Compare.Q s0.w F r v w') Try.func206 Try.ntmps206 rfl rfl m ?_
 unfold bytes_Compare.f
 refine sr ?_
 refine pu rfl rfl rfl rfl rfl ?_
 refine dn ?_
 refine sr ?_
 refine mv w0_0 rfl rfl rfl rfl rfl rfl ?_
 refine mv w1_0 rfl rfl rfl rfl rfl rfl ?_
 refine bcx A0_0 A1_0 rfl rfl rfl rfl rfl Try.func224 rfl rfl xn224 xf224 rfl rfl ?_
 refine pu rfl rfl rfl rfl rfl ?_
 refine dn ?_
 exact re rfl Try.func206 rfl (r_t rfl r_nil) rfl ⟨_, rfl, rfl, z.ky kp0⟩
noncomputable def cmp_Or_int.b0 (a0 : (List Int)) (x2 : Int) : Option (Int ⊕ Int) :=
 (if (decide (x2 < (a0.length : Int))) = true then (if 0 ≤ x2 ∧ x2 < (a0.length : Int) then (if ((at_ a0 x2) != (0 : Int)) = true then (some (Sum.inr (at_ a0 x2))) else (some (Sum.inl (IntKind.wrap .i64 (x2 + (1 : Int)))))) else none) else ((some (0 : Int)).bind fun o => some (Sum.inr o)))
noncomputable def cmp_Or_int.f (a0 : (List Int)) : Option (Int) :=
 (iter (cmp_Or_int.b0 a0) (0 : Int))
def cmp_Or_int.Q (w : World) (F : Nat → Prop) (r : Int) (v : Value) (w' : World) : Prop :=
 v = (.int .i64 r) ∧ Ky [] w w'
set_option maxHeartbeats 4000000 in
set_option maxRecDepth 100000 in
theorem cmp_Or_int.calls (a0 : (List Int)) (w : World) (F : Nat → Prop) (w0_0 : Value) (h0_0 : (Kd.sl 3 (Kd.int .i64)).rd w [w0_0] a0 F) (r : Int) (m : cmp_Or_int.f a0 = some r) :
  Calls Try.prog 194 #[w0_0] w fun en w' => ∃ v, en = .returned v ∧ cmp_Or_int.Q w F r v w' := by
 obtain ⟨s0, rfl, kp0, z⟩ := start0 w F
 have A0_0 := z.rd h0_0
 refine calls_of_TM (args := [w0_0]) (R := fun r en w' => ∃ v, en = .returned v ∧ cmp_Or_int.Q s0.w F r v w') Try.func194 Try.ntmps194 rfl rfl m ?_
 unfold cmp_Or_int.f
 refine sr ?_
 refine pu rfl rfl rfl rfl rfl ?_
 refine dn ?_
 refine sr ?_
 refine pu rfl rfl rfl rfl rfl ?_
 refine dn ?_
 refine sq ?_
 refine sr ?_
 refine mv w0_0 rfl rfl rfl rfl rfl rfl ?_
 refine ln A0_0 Try.underlying24 rfl rfl rfl rfl rfl rfl ?_
 refine pu rfl rfl rfl rfl rfl ?_
 refine dn ?_
 refine bl ?_
 refine lpI (fun (x2 : Int) (e : Env) (w : World) => ∃ (s : St) (e0 : Env), w = s.w ∧ e = upd (upd (upd (upd e0 3 (.int .i64 (0 : Int))) 6 w0_0) 7 (.int .i64 (a0.length : Int))) 8 (.int .i64 x2) ∧ Kp s0 s) ⟨s0, _, rfl, (ue (ue (ue (ue rfl rfl) rfl) rfl) rfl), kp0⟩ (fun g2 ih2 => ?_)
 rintro x2 _ _ ⟨s3, _, rfl, rfl, Kx2⟩
 unfold cmp_Or_int.b0
 refine sr ?_
 refine pu rfl rfl rfl rfl rfl ?_
 refine dn ?_
 refine sq ?_
 refine cd rfl (fun h4 => ?_) (fun h4 => ?_)
 ·
  refine sk ?_
  refine sq ?_
  refine bl ?_
  refine sr ?_
  have A5 := (A0_0.kp Kx2)
  refine ix A5 Try.underlying24 z3 rfl rfl rfl rfl rfl rfl rfl rfl (fun ad6 es6 h0_6 h1_6 he6 ce6 ia6 => ?_)
  obtain rfl := he6
  refine lc0 ce6 Try.underlying3 rfl rfl rfl rfl rfl rfl rfl rfl ?_
  refine pu rfl rfl rfl rfl rfl ?_
  refine dn ?_
  refine sr ?_
  refine pu rfl rfl rfl rfl rfl ?_
  refine pu rfl rfl rfl rfl rfl ?_
  refine pu rfl rfl rfl rfl rfl ?_
  refine dn ?_
  refine cd rfl (fun h8 => ?_) (fun h8 => ?_)
  ·
   refine sr ?_
   refine pu rfl rfl rfl rfl rfl ?_
   refine pu rfl rfl rfl rfl rfl ?_
   refine dn ?_
   refine sgi ?_
   exact re rfl Try.func194 rfl (r_t rfl r_nil) rfl ⟨_, rfl, rfl, z.ky Kx2⟩
  ·
   refine sk ?_
   refine ib ?_
   refine rg ?_
   refine pu rfl rfl rfl rfl rfl ?_
   refine pu rfl rfl rfl rfl rfl ?_
   refine dn ?_
   exact lb ih2 ⟨s3, _, rfl, (ue (ue (ue (ue rfl rfl) rfl) rfl) rfl), Kx2⟩
 ·
  refine xt rfl ?_
  refine sgb ?_
  refine sr ?_
  refine pu rfl rfl rfl rfl rfl ?_
  refine pu rfl rfl rfl rfl rfl ?_
  refine dn ?_
  exact re rfl Try.func194 rfl (r_t rfl r_nil) rfl ⟨_, rfl, rfl, z.ky Kx2⟩
noncomputable def impl_compareItems.f (a0 : Item) (a1 : Item) : Option (Int) :=
 ((cmp_Compare_int.f a0.Kind a1.Kind).bind fun r41 => ((cmp_Compare_int.f a0.N a1.N).bind fun r51 => ((impl_FloatCompare.f a0.F a1.F).bind fun r59 => ((bytes_Compare.f a0.T a1.T).bind fun r67 => ((cmp_Or_int.f ([r41, r51, r59, r67])).bind fun r71 => (some r71))))))
def impl_compareItems.Q (w : World) (F : Nat → Prop) (r : Int) (v : Value) (w' : World) : Prop :=
 v = (.int .i64 r) ∧ Ky [] w w'
set_option maxHeartbeats 4000000 in
set_option maxRecDepth 100000 in
theorem impl_compareItems.calls (a0 : Item) (a1 : Item) (w : World) (F : Nat → Prop) (w0_0 : Value) (w0_1 : Value) (w1_0 : Value) (w1_1 : Value) (h0_0 : Kd.flt.rd w [w0_0] a0.F F) (h0_1 : (Kd.sl 5 (Kd.int .u8)).rd w [w0_1] a0.T F) (h1_0 : Kd.flt.rd w [w1_0] a1.F F) (h1_1 : (Kd.sl 5 (Kd.int .u8)).rd w [w1_1] a1.T F) (r : Int) (m : impl_compareItems.f a0 a1 = some r) :
  Calls Try.prog 170 #[(.agg #[(.int .i64 a0.Kind), (.int .i64 a0.N), w0_0, w0_1]), (.agg #[(.int .i64 a1.Kind), (.int .i64 a1.N), w1_0, w1_1])] w fun en w' => ∃ v, en = .returned v ∧ impl_compareItems.Q w F r v w' := by
 obtain ⟨s0, rfl, kp0, z⟩ := start0 w F
 have A0_0 := fl_of h0_0
 have A0_1 := z.rd h0_1
 have A1_0 := fl_of h1_0
 have A1_1 := z.rd h1_1
 refine calls_of_TM (args := [(.agg #[(.int .i64 a0.Kind), (.int .i64 a0.N), w0_0, w0_1]), (.agg #[(.int .i64 a1.Kind), (.int .i64 a1.N), w1_0, w1_1])]) (R := fun r en w' => ∃ v, en = .returned v ∧ impl_compareItems.Q s0.w F r v w') Try.func170 Try.ntmps170 rfl rfl m ?_
 unfold impl_compareItems.f
 refine sr ?_
 refine bx (cs := [(.int .i64 a0.Kind), (.int .i64 a0.N), w0_0, w0_1]) 40 rfl rfl rfl rfl rfl rfl (fun b3 s3 p3 B3 => ?_)
 refine bx (cs := [(.int .i64 a1.Kind), (.int .i64 a1.N), w1_0, w1_1]) 41 rfl rfl rfl rfl rfl rfl (fun b5 s5 p5 B5 => ?_)
 refine pu rfl rfl rfl rfl rfl ?_
 refine dn ?_
 refine sq ?_
 refine zdraw [[], [0], [], [2], [1, 3], [], [5], [], [7], [6, 8, 4], [], [10], [], [12], [11, 13, 9], [], [15], [], [17], [16, 18, 14], [4, 9, 14, 19], [20, 19], [21, 21, 0, 1, 2, 3, 4, 5, 6, 7, 8, 9, 10, 11, 12, 13, 14, 15, 16, 17, 18, 19, 20, 21]] [some 5, some 6, some 7, some 8, some 9, some 10, some 11, some 12, some 13, some 14, some 15, some 16, some 17, some 18, some 19, some 20, some 21, some 22, some 23, some 24, some 25, some 26, some 4] [[2], [5], [3], [7], [6, 8], [2], [10], [3], [12], [11, 13], [2], [15], [3], [17], [16, 18], [2], [20], [3], [22], [21, 23], [9, 14, 19, 24], [25], [26]] [0, 1, 2, 3, 4, 5, 6, 7, 8, 9, 10, 11, 12, 13, 14, 15, 16, 17, 18, 19, 20, 21, 22] ⟨by kernel_rfl, by kernel_rfl, by kernel_rfl⟩ (by kernel_rfl) (fun s7 p7 l7 tb7 zd7 => ?_)
 have zd8 := zd7.add 0 5 (.pointer (some ⟨b3, 0, none⟩)) rfl
 have A9 := (BlF.st (BlF.st B3 p5 rfl) p7 rfl)
 have zd10 := zd8.add 1 6 (.int .i64 a0.Kind) rfl
 have zd11 := zd10.add 2 7 (.pointer (some ⟨b5, 0, none⟩)) rfl
 have A12 := (BlF.st B5 p7 rfl)
 have zd13 := zd11.add 3 8 (.int .i64 a1.Kind) rfl
 have zd14 := zd13.add 5 10 (.pointer (some ⟨b3, 1, none⟩)) rfl
 have A15 := (BlF.st (BlF.st B3 p5 rfl) p7 rfl)
 have zd16 := zd14.add 6 11 (.int .i64 a0.N) rfl
 have zd17 := zd16.add 7 12 (.pointer (some ⟨b5, 1, none⟩)) rfl
 have A18 := (BlF.st B5 p7 rfl)
 have zd19 := zd17.add 8 13 (.int .i64 a1.N) rfl
 have zd20 := zd19.add 10 15 (.pointer (some ⟨b3, 2, none⟩)) rfl
 have A21 := (BlF.st (BlF.st B3 p5 rfl) p7 rfl)
 have zd22 := zd20.add 11 16 w0_0 rfl
 have zd23 := zd22.add 12 17 (.pointer (some ⟨b5, 2, none⟩)) rfl
 have A24 := (BlF.st B5 p7 rfl)
 have zd25 := zd23.add 13 18 w1_0 rfl
 have zd26 := zd25.add 15 20 (.pointer (some ⟨b3, 3, none⟩)) rfl
 have A27 := (BlF.st (BlF.st B3 p5 rfl) p7 rfl)
 have zd28 := zd26.add 16 21 w0_1 rfl
 have zd29 := zd28.add 17 22 (.pointer (some ⟨b5, 3, none⟩)) rfl
 have A30 := (BlF.st B5 p7 rfl)
 have zd31 := zd29.add 18 23 w1_1 rfl
 have A33 := (BlF.st (BlF.st B3 p5 rfl) p7 rfl)
 have A34 := (BlF.st B5 p7 rfl)
 have A35 := (BlF.st (BlF.st B3 p5 rfl) p7 rfl)
 have A36 := (BlF.st B5 p7 rfl)
 have A37 := (BlF.st (BlF.st B3 p5 rfl) p7 rfl)
 have A38 := (BlF.st B5 p7 rfl)
 have A39 := (BlF.st (BlF.st B3 p5 rfl) p7 rfl)
 have A40 := (BlF.st B5 p7 rfl)
 refine zstep 4 [some 23, some 22, some 21, some 20, some 18, some 17, some 16, some 15, some 13, some 12, some 11, some 10] tb7 zd31 (pq_cons (ld_q A40 Try.underlying37 rfl rfl rfl rfl rfl rfl rfl rfl) rfl (pq_cons (fa_q fa48_3 rfl rfl rfl rfl rfl rfl) rfl (pq_cons (ld_q A39 Try.underlying37 rfl rfl rfl rfl rfl rfl rfl rfl) rfl (pq_cons (fa_q fa48_3 rfl rfl rfl rfl rfl rfl) rfl (pq_cons (ld_q A38 Try.underlying36 rfl rfl rfl rfl rfl rfl rfl rfl) rfl (pq_cons (fa_q fa48_2 rfl rfl rfl rfl rfl rfl) rfl (pq_cons (ld_q A37 Try.underlying36 rfl rfl rfl rfl rfl rfl rfl rfl) rfl (pq_cons (fa_q fa48_2 rfl rfl rfl rfl rfl rfl) rfl (pq_cons (ld_q A36 Try.underlying3 rfl rfl rfl rfl rfl rfl rfl rfl) rfl (pq_cons (fa_q fa48_1 rfl rfl rfl rfl rfl rfl) rfl (pq_cons (ld_q A35 Try.underlying3 rfl rfl rfl rfl rfl rfl rfl rfl) rfl (pq_cons (fa_q fa48_1 rfl rfl rfl rfl rfl rfl) rfl (pq_cons (ld_q A34 Try.underlying3 rfl rfl rfl rfl rfl rfl rfl rfl) rfl (pq_cons (fa_q fa48_0 rfl rfl rfl rfl rfl rfl) rfl (pq_cons (ld_q A33 Try.underlying3 rfl rfl rfl rfl rfl rfl rfl rfl) rfl (pq_cons (fa_q fa48_0 rfl rfl rfl rfl rfl rfl) rfl pq_nil)))))))))))))))) (by kernel_rfl) rfl (fun l32 e32 zd32 => ?_)
 refine cl rfl rfl rfl rfl rfl Try.func195 rfl rfl rfl (fun r41 m41 => cmp_Compare_int.calls a0.Kind a1.Kind s7.w (fun b => memb [] (s7.g b) = true)  r41 m41) ?_
 rintro r41 _ w41 m41 ⟨rfl, ky41⟩
 obtain ⟨s42, rfl, p42, n42⟩ := nwx s7 w41 42 ky41
 refine zdone (L' := [18, 17, 16, 15, 13, 12, 11, 10, 8, 7, 6, 5]) (D' := [0, 2, 1, 3, 4]) zd32 rfl rfl rfl (fun zd43 => ?_)
 have A45 := (BlF.st (BlF.st (BlF.st B3 p5 rfl) p7 rfl) p42 rfl)
 have A46 := (BlF.st (BlF.st B5 p7 rfl) p42 rfl)
 have A47 := (BlF.st (BlF.st (BlF.st B3 p5 rfl) p7 rfl) p42 rfl)
 have A48 := (BlF.st (BlF.st B5 p7 rfl) p42 rfl)
 have A49 := (BlF.st (BlF.st (BlF.st B3 p5 rfl) p7 rfl) p42 rfl)
 have A50 := (BlF.st (BlF.st B5 p7 rfl) p42 rfl)
 refine zstep 9 [some 23, some 22, some 21, some 20, some 18, some 17, some 16, some 15] tb7 zd43 (pq_cons (ld_q A50 Try.underlying37 rfl rfl rfl rfl rfl rfl rfl rfl) rfl (pq_cons (fa_q fa48_3 rfl rfl rfl rfl rfl rfl) rfl (pq_cons (ld_q A49 Try.underlying37 rfl rfl rfl rfl rfl rfl rfl rfl) rfl (pq_cons (fa_q fa48_3 rfl rfl rfl rfl rfl rfl) rfl (pq_cons (ld_q A48 Try.underlying36 rfl rfl rfl rfl rfl rfl rfl rfl) rfl (pq_cons (fa_q fa48_2 rfl rfl rfl rfl rfl rfl) rfl (pq_cons (ld_q A47 Try.underlying36 rfl rfl rfl rfl rfl rfl rfl rfl) rfl (pq_cons (fa_q fa48_2 rfl rfl rfl rfl rfl rfl) rfl (pq_cons (ld_q A46 Try.underlying3 rfl rfl rfl rfl rfl rfl rfl rfl) rfl (pq_cons (fa_q fa48_1 rfl rfl rfl rfl rfl rfl) rfl (pq_cons (ld_q A45 Try.underlying3 rfl rfl rfl rfl rfl rfl rfl rfl) rfl (pq_cons (fa_q fa48_1 rfl rfl rfl rfl rfl rfl) rfl pq_nil)))))))))))) (by kernel_rfl) rfl (fun l44 e44 zd44 => ?_)
 refine cl rfl rfl rfl rfl rfl Try.func195 rfl rfl rfl (fun r51 m51 => cmp_Compare_int.calls a0.N a1.N s42.w (fun b => memb [] (s42.g b) = true)  r51 m51) ?_
 rintro r51 _ w51 m51 ⟨rfl, ky51⟩
 obtain ⟨s52, rfl, p52, n52⟩ := nwx s42 w51 43 ky51
 refine zdone (L' := [18, 17, 16, 15, 13, 12, 11, 10]) (D' := [5, 7, 6, 8, 9, 0, 2, 1, 3, 4]) zd44 rfl rfl rfl (fun zd53 => ?_)
 have A55 := (BlF.st (BlF.st (BlF.st (BlF.st B3 p5 rfl) p7 rfl) p42 rfl) p52 rfl)
 have A56 := (BlF.st (BlF.st (BlF.st B5 p7 rfl) p42 rfl) p52 rfl)
 have A57 := (BlF.st (BlF.st (BlF.st (BlF.st B3 p5 rfl) p7 rfl) p42 rfl) p52 rfl)
 have A58 := (BlF.st (BlF.st (BlF.st B5 p7 rfl) p42 rfl) p52 rfl)
 refine zstep 14 [some 23, some 22, some 21, some 20] tb7 zd53 (pq_cons (ld_q A58 Try.underlying37 rfl rfl rfl rfl rfl rfl rfl rfl) rfl (pq_cons (fa_q fa48_3 rfl rfl rfl rfl rfl rfl) rfl (pq_cons (ld_q A57 Try.underlying37 rfl rfl rfl rfl rfl rfl rfl rfl) rfl (pq_cons (fa_q fa48_3 rfl rfl rfl rfl rfl rfl) rfl (pq_cons (ld_q A56 Try.underlying36 rfl rfl rfl rfl rfl rfl rfl rfl) rfl (pq_cons (fa_q fa48_2 rfl rfl rfl rfl rfl rfl) rfl (pq_cons (ld_q A55 Try.underlying36 rfl rfl rfl rfl rfl rfl rfl rfl) rfl (pq_cons (fa_q fa48_2 rfl rfl rfl rfl rfl rfl) rfl pq_nil)))))))) (by kernel_rfl) rfl (fun l54 e54 zd54 => ?_)
 refine cl rfl rfl rfl rfl rfl Try.func205 rfl rfl rfl (fun r59 m59 => impl_FloatCompare.calls a0.F a1.F s52.w (fun b => memb [] (s52.g b) = true) w0_0 w1_0 (fl_rdf (s := s52) A0_0) (fl_rdf (s := s52) A1_0) r59 m59) ?_
 rintro r59 _ w59 m59 ⟨rfl, ky59⟩
 obtain ⟨s60, rfl, p60, n60⟩ := nwx s52 w59 44 ky59
 refine zdone (L' := [18, 17, 16, 15]) (D' := [10, 12, 11, 13, 14, 5, 7, 6, 8, 9, 0, 2, 1, 3, 4]) zd54 rfl rfl rfl (fun zd61 => ?_)
 have A62 := (BlF.st (BlF.st (BlF.st (BlF.st (BlF.st B3 p5 rfl) p7 rfl) p42 rfl) p52 rfl) p60 rfl)
 have A63 := (BlF.st (BlF.st (BlF.st (BlF.st B5 p7 rfl) p42 rfl) p52 rfl) p60 rfl)
 refine zfin [19, 20, 21, 22] tb7 zd61 (pq_cons (ld_q A63 Try.underlying37 rfl rfl rfl rfl rfl rfl rfl rfl) rfl (pq_cons (fa_q fa48_3 rfl rfl rfl rfl rfl rfl) rfl (pq_cons (ld_q A62 Try.underlying37 rfl rfl rfl rfl rfl rfl rfl rfl) rfl (pq_cons (fa_q fa48_3 rfl rfl rfl rfl rfl rfl) rfl pq_nil)))) (by kernel_rfl) (by decide) ?_
 have K64 := ((((((kp0.st p3 rfl).st p5 rfl).st p7 rfl).st p42 rfl).st p52 rfl).st p60 rfl)
 have A65 := (A0_1.kp K64)
 have A66 := (A1_1.kp K64)
 refine cl rfl rfl rfl rfl rfl Try.func206 rfl rfl rfl (fun r67 m67 => bytes_Compare.calls a0.T a1.T s60.w (fun b => memb [0] (s60.g b) = true) w0_1 w1_1 A65 A66 r67 m67) ?_
 rintro r67 _ w67 m67 ⟨rfl, ky67⟩
 obtain ⟨s68, rfl, p68, n68⟩ := nwx s60 w67 45 ky67
 refine ltF (K := (Kd.int .i64)) (cells := [(.int .i64 r41), (.int .i64 r51), (.int .i64 r59), (.int .i64 r67)]) [r41, r51, r59, r67] 46 fl_int Try.underlying24 z3 o3 (fun w => (els_flat _ _ _)) rfl rfl rfl rfl rfl rfl rfl rfl rfl rfl (fun v69 s69 p69 A69 => ?_)
 refine cl rfl rfl rfl rfl rfl Try.func194 rfl rfl rfl (fun r71 m71 => cmp_Or_int.calls ([r41, r51, r59, r67]) s69.w (fun b => memb [46] (s69.g b) = true) v69 A69.rd r71 m71) ?_
 rintro r71 _ w71 m71 ⟨rfl, ky71⟩
 obtain ⟨s72, rfl, p72, n72⟩ := nwx s69 w71 47 ky71
 refine pu rfl rfl rfl rfl rfl ?_
 refine dn ?_
 have K73 := (((K64.st p68 rfl).st p69 rfl).st p72 rfl)
 exact re rfl Try.func170 rfl (r_t rfl r_nil) rfl ⟨_, rfl, rfl, z.ky K73⟩
noncomputable def impl_SpanOk.f (a0 : Span) : Option (Bool) :=
 ((impl_KeyOk.f a0.From).bind fun r7 => ((if r7 = true then ((impl_KeyOk.f a0.To).bind fun r13 => (some r13)) else (some false)).bind fun y9 => ((if y9 = true then ((impl_compareItems.f a0.From a0.To).bind fun r24 => (some (decide (r24 ≤ (0 : Int))))) else (some false)).bind fun y21 => (some y21))))
def impl_SpanOk.Q (w : World) (F : Nat → Prop) (r : Bool) (v : Value) (w' : World) : Prop :=
 v = (.bool r) ∧ Ky [] w w'
set_option maxHeartbeats 4000000 in
set_option maxRecDepth 100000 in
theorem impl_SpanOk.calls (a0 : Span) (w : World) (F : Nat → Prop) (w0_0 : Value) (w0_1 : Value) (w0_2 : Value) (w0_3 : Value) (h0_0 : Kd.flt.rd w [w0_0] a0.From.F F) (h0_1 : (Kd.sl 5 (Kd.int .u8)).rd w [w0_1] a0.From.T F) (h0_2 : Kd.flt.rd w [w0_2] a0.To.F F) (h0_3 : (Kd.sl 5 (Kd.int .u8)).rd w [w0_3] a0.To.T F) (r : Bool) (m : impl_SpanOk.f a0 = some r) :
  Calls Try.prog 111 #[(.agg #[(.int .i64 a0.From.Kind), (.int .i64 a0.From.N), w0_0, w0_1, (.int .i64 a0.To.Kind), (.int .i64 a0.To.N), w0_2, w0_3])] w fun en w' => ∃ v, en = .returned v ∧ impl_SpanOk.Q w F r v w' := by
 obtain ⟨s0, rfl, kp0, z⟩ := start0 w F
 have A0_0 := fl_of h0_0
 have A0_1 := z.rd h0_1
 have A0_2 := fl_of h0_2
 have A0_3 := z.rd h0_3
 refine calls_of_TM (args := [(.agg #[(.int .i64 a0.From.Kind), (.int .i64 a0.From.N), w0_0, w0_1, (.int .i64 a0.To.Kind), (.int .i64 a0.To.N), w0_2, w0_3])]) (R := fun r en w' => ∃ v, en = .returned v ∧ impl_SpanOk.Q s0.w F r v w') Try.func111 Try.ntmps111 rfl rfl m ?_
 unfold impl_SpanOk.f
 refine sr ?_
 refine bx (cs := [(.int .i64 a0.From.Kind), (.int .i64 a0.From.N), w0_0, w0_1, (.int .i64 a0.To.Kind), (.int .i64 a0.To.N), w0_2, w0_3]) 40 rfl rfl rfl rfl rfl rfl (fun b3 s3 p3 B3 => ?_)
 refine pu rfl rfl rfl rfl rfl ?_
 refine dn ?_
 refine sr ?_
 refine fa fa80_0 rfl rfl rfl rfl rfl rfl ?_
 refine lda (es := [(.int .i64 a0.From.Kind), (.int .i64 a0.From.N), w0_0, w0_1]) B3 Try.underlying48 z48 rfl rfl rfl rfl rfl rfl rfl rfl ?_
 have K5 := (kp0.st p3 rfl)
 have A6 := (A0_1.kp K5)
 refine cl rfl rfl rfl rfl rfl Try.func141 rfl rfl rfl (fun r7 m7 => impl_KeyOk.calls a0.From s3.w (fun b => memb [0] (s3.g b) = true) w0_0 w0_1 ((fl_rdf (s := s3) A0_0).sub (D := [0]) rfl) A6 r7 m7) ?_
 rintro r7 _ w7 m7 ⟨rfl, ky7⟩
 obtain ⟨s8, rfl, p8, n8⟩ := nwx s3 w7 41 ky7
 refine pu rfl rfl rfl rfl rfl ?_
 refine ji [8, 9, 10, 11, 12, 13, 14, 15, 16] (fun (y9 : Bool) (e : Env) (w : World) => ∃ (s : St) (e0 : Env), w = s.w ∧ e = upd (upd e0 1 (.pointer (some ⟨b3, 0, none⟩))) 10 (.bool y9) ∧ Kp s0 s ∧ BlF s b3 80 [(.int .i64 a0.From.Kind), (.int .i64 a0.From.N), w0_0, w0_1, (.int .i64 a0.To.Kind), (.int .i64 a0.To.N), w0_2, w0_3] 40) (fun Gj9 Kj9 => ?_) ?_
 ·
  rcases Bool.eq_false_or_eq_true r7 with hb9 | hb9
  ·
   refine sbT hb9 ?_
   rw [if_pos hb9]
   refine fa fa80_1 rfl rfl rfl rfl rfl rfl ?_
   have A10 := (BlF.st B3 p8 rfl)
   refine lda (es := [(.int .i64 a0.To.Kind), (.int .i64 a0.To.N), w0_2, w0_3]) A10 Try.underlying48 z48 rfl rfl rfl rfl rfl rfl rfl rfl ?_
   have K11 := (K5.st p8 rfl)
   have A12 := (A0_3.kp K11)
   refine cl rfl rfl rfl rfl rfl Try.func141 rfl rfl rfl (fun r13 m13 => impl_KeyOk.calls a0.To s8.w (fun b => memb [0] (s8.g b) = true) w0_2 w0_3 ((fl_rdf (s := s8) A0_2).sub (D := [0]) rfl) A12 r13 m13) ?_
   rintro r13 _ w13 m13 ⟨rfl, ky13⟩
   obtain ⟨s14, rfl, p14, n14⟩ := nwx s8 w13 42 ky13
   refine pu rfl rfl rfl rfl rfl ?_
   have A15 := (BlF.st A10 p14 rfl)
   have K16 := (K11.st p14 rfl)
   exact Kj9 _ _ _ ⟨s14, _, rfl, (ue (ue rfl rfl) rfl), K16, A15⟩
  ·
   refine sbT hb9 ?_
   rw [if_neg (by rw [hb9]; decide)]
   refine uw rfl rfl rfl rfl ?_
   refine uw rfl rfl rfl rfl ?_
   refine uw rfl rfl rfl rfl ?_
   refine pu rfl rfl rfl rfl rfl ?_
   have A17 := (BlF.st B3 p8 rfl)
   have K18 := (K5.st p8 rfl)
   exact Kj9 _ _ _ ⟨s8, _, rfl, (ue (ue rfl rfl) rfl), K18, A17⟩
 rintro y9 _ _ ⟨s19, _, rfl, rfl, Ky9, By9_b3⟩
 refine pu rfl rfl rfl rfl rfl ?_
 refine ji [16] (fun (y21 : Bool) (e : Env) (w : World) => ∃ (s : St) (e0 : Env), w = s.w ∧ e = upd e0 18 (.bool y21) ∧ Kp s0 s) (fun Gj21 Kj21 => ?_) ?_
 ·
  rcases Bool.eq_false_or_eq_true y9 with hb21 | hb21
  ·
   refine sbT hb21 ?_
   rw [if_pos hb21]
   refine fa fa80_0 rfl rfl rfl rfl rfl rfl ?_
   refine lda (es := [(.int .i64 a0.From.Kind), (.int .i64 a0.From.N), w0_0, w0_1]) By9_b3 Try.underlying48 z48 rfl rfl rfl rfl rfl rfl rfl rfl ?_
   refine fa fa80_1 rfl rfl rfl rfl rfl rfl ?_
   refine lda (es := [(.int .i64 a0.To.Kind), (.int .i64 a0.To.N), w0_2, w0_3]) By9_b3 Try.underlying48 z48 rfl rfl rfl rfl rfl rfl rfl rfl ?_
   have A22 := (A0_1.kp Ky9)
   have A23 := (A0_3.kp Ky9)
   refine cl rfl rfl rfl rfl rfl Try.func170 rfl rfl rfl (fun r24 m24 => impl_compareItems.calls a0.From a0.To s19.w (fun b => memb [0] (s19.g b) = true) w0_0 w0_1 w0_2 w0_3 ((fl_rdf (s := s19) A0_0).sub (D := [0]) rfl) A22 ((fl_rdf (s := s19) A0_2).sub (D := [0]) rfl) A23 r24 m24) ?_
   rintro r24 _ w24 m24 ⟨rfl, ky24⟩
   obtain ⟨s25, rfl, p25, n25⟩ := nwx s19 w24 43 ky24
   refine pu rfl rfl rfl rfl rfl ?_
   refine pu rfl rfl rfl rfl rfl ?_
   have K26 := (Ky9.st p25 rfl)
   exact Kj21 _ _ _ ⟨s25, _, rfl, (ue rfl rfl), K26⟩
  ·
   refine sbT hb21 ?_
   rw [if_neg (by rw [hb21]; decide)]
   refine uw rfl rfl rfl rfl ?_
   refine uw rfl rfl rfl rfl ?_
   refine uw rfl rfl rfl rfl ?_
   refine uw rfl rfl rfl rfl ?_
   refine uw rfl rfl rfl rfl ?_
   refine uw rfl rfl rfl rfl ?_
   refine pu rfl rfl rfl rfl rfl ?_
   exact Kj21 _ _ _ ⟨s19, _, rfl, (ue rfl rfl), Ky9⟩
 rintro y21 _ _ ⟨s27, _, rfl, rfl, Ky21⟩
 refine pu rfl rfl rfl rfl rfl ?_
 refine dn ?_
 exact re rfl Try.func111 rfl (r_t rfl r_nil) rfl ⟨_, rfl, rfl, z.ky Ky21⟩
noncomputable def impl_areAll_impl_Item_1.f (a0 : Item) (a1 : (Item → Option Bool)) : Option (Bool) :=
 ((a1 a0).bind fun r8 => (some (!r8)))
def impl_areAll_impl_Item_1.Q (w : World) (F : Nat → Prop) (r : Bool) (v : Value) (w' : World) : Prop :=
 v = (.bool r) ∧ Ky [] w w'
set_option maxHeartbeats 4000000 in
set_option maxRecDepth 100000 in
theorem impl_areAll_impl_Item_1.calls (a0 : Item) (a1 : (Item → Option Bool)) (w : World) (F : Nat → Prop) (w0_0 : Value) (w0_1 : Value) (c1 : Nat) (f1 : Value) (h0_0 : Kd.flt.rd w [w0_0] a0.F F) (h0_1 : (Kd.sl 5 (Kd.int .u8)).rd w [w0_1] a0.T F) (hf1 : ∀ (x0 : Item) (u0_0 u0_1 : Value) (w' : World), Ky [] w w' → Kd.flt.rd w' [u0_0] x0.F (fun _ => True) → (Kd.sl 5 (Kd.int .u8)).rd w' [u0_1] x0.T (fun _ => True) → ∀ r, a1 x0 = some r → CallV Try.prog f1 [(.agg #[(.int .i64 x0.Kind), (.int .i64 x0.N), u0_0, u0_1])] w' fun en w'' => ∃ v, en = .returned v ∧ v = (.bool r) ∧ Ky [] w' w'') (ho1 : f1.cells = #[f1]) (hb1 : BlW w c1 157 [f1]) (hp1 : F c1) (r : Bool) (m : impl_areAll_impl_Item_1.f a0 a1 = some r) :
  Calls Try.prog 204 #[(.agg #[(.int .i64 a0.Kind), (.int .i64 a0.N), w0_0, w0_1]), (.pointer (some ⟨c1, 0, none⟩))] w fun en w' => ∃ v, en = .returned v ∧ impl_areAll_impl_Item_1.Q w F r v w' := by
 obtain ⟨s0, rfl, kp0, z⟩ := start0 w F
 have A0_0 := fl_of h0_0
 have A0_1 := z.rd h0_1
 have B1 := z.b0 hb1 hp1
 refine calls_of_TM (args := [(.agg #[(.int .i64 a0.Kind), (.int .i64 a0.N), w0_0, w0_1]), (.pointer (some ⟨c1, 0, none⟩))]) (R := fun r en w' => ∃ v, en = .returned v ∧ impl_areAll_impl_Item_1.Q s0.w F r v w') Try.func204 Try.ntmps204 rfl rfl m ?_
 unfold impl_areAll_impl_Item_1.f
 refine sr ?_
 refine bx (cs := [(.int .i64 a0.Kind), (.int .i64 a0.N), w0_0, w0_1]) 40 rfl rfl rfl rfl rfl rfl (fun b3 s3 p3 B3 => ?_)
 refine pu rfl rfl rfl rfl rfl ?_
 refine dn ?_
 refine sr ?_
 have A5 := (BlF.st B1 p3 rfl)
 refine ld A5 Try.underlying157 rfl rfl rfl rfl rfl rfl rfl rfl ?_
 refine lda (es := [(.int .i64 a0.Kind), (.int .i64 a0.N), w0_0, w0_1]) B3 Try.underlying48 z48 rfl rfl rfl rfl rfl rfl rfl rfl ?_
 have K6 := (kp0.st p3 rfl)
 have A7 := (A0_1.kp K6)
 refine clv rfl rfl rfl rfl rfl rfl rfl (fun r8 m8 => hf1 a0 w0_0 w0_1 s3.w (z.ky K6) (fl_rd A0_0) (RdF.top A7) r8 m8) ?_
 rintro r8 _ w8 m8 ⟨rfl, ky8⟩
 obtain ⟨s9, rfl, p9, n9⟩ := nwx s3 w8 41 ky8
 refine pu rfl rfl rfl rfl rfl ?_
 refine pu rfl rfl rfl rfl rfl ?_
 refine dn ?_
 have K10 := (K6.st p9 rfl)
 exact re rfl Try.func204 rfl (r_t rfl r_nil) rfl ⟨_, rfl, rfl, z.ky K10⟩
noncomputable def slices_IndexFunc_impl_Item_impl_Item.b0 (a0 : (List Item)) (a1 : (Item → Option Bool)) (x2 : Int) : Option (Int ⊕ Int) :=
 (if (decide (x2 < (a0.length : Int))) = true then (if 0 ≤ x2 ∧ x2 < (a0.length : Int) then ((a1 (at_ a0 x2)).bind fun r9 => (if r9 = true then (some (Sum.inr x2)) else (some (Sum.inl (IntKind.wrap .i64 (x2 + (1 : Int))))))) else none) else ((some (-1 : Int)).bind fun o => some (Sum.inr o)))
noncomputable def slices_IndexFunc_impl_Item_impl_Item.f (a0 : (List Item)) (a1 : (Item → Option Bool)) : Option (Int) :=
 (iter (slices_IndexFunc_impl_Item_impl_Item.b0 a0 a1) (0 : Int))
def slices_IndexFunc_impl_Item_impl_Item.Q (w : World) (F : Nat → Prop) (r : Int) (v : Value) (w' : World) : Prop :=
 v = (.int .i64 r) ∧ Ky [] w w'
set_option maxHeartbeats 4000000 in
set_option maxRecDepth 100000 in
theorem slices_IndexFunc_impl_Item_impl_Item.calls (a0 : (List Item)) (a1 : (Item → Option Bool)) (w : World) (F : Nat → Prop) (w0_0 : Value) (f1 : Value) (h0_0 : (Kd.sl 48 kd48).rd w [w0_0] a0 F) (hf1 : ∀ (x0 : Item) (u0_0 u0_1 : Value) (w' : World), Ky [] w w' → Kd.flt.rd w' [u0_0] x0.F (fun _ => True) → (Kd.sl 5 (Kd.int .u8)).rd w' [u0_1] x0.T (fun _ => True) → ∀ r, a1 x0 = some r → CallV Try.prog f1 [(.agg #[(.int .i64 x0.Kind), (.int .i64 x0.N), u0_0, u0_1])] w' fun en w'' => ∃ v, en = .returned v ∧ v = (.bool r) ∧ Ky [] w' w'') (ho1 : f1.cells = #[f1]) (r : Int) (m : slices_IndexFunc_impl_Item_impl_Item.f a0 a1 = some r) :
  Calls Try.prog 172 #[w0_0, f1] w fun en w' => ∃ v, en = .returned v ∧ slices_IndexFunc_impl_Item_impl_Item.Q w F r v w' := by
 obtain ⟨s0, rfl, kp0, z⟩ := start0 w F
 have A0_0 := z.rd h0_0
 refine calls_of_TM (args := [w0_0, f1]) (R := fun r en w' => ∃ v, en = .returned v ∧ slices_IndexFunc_impl_Item_impl_Item.Q s0.w F r v w') Try.func172 Try.ntmps172 rfl rfl m ?_
 unfold slices_IndexFunc_impl_Item_impl_Item.f
 refine sr ?_
 refine pu rfl rfl rfl rfl rfl ?_
 refine dn ?_
 refine sq ?_
 refine sr ?_
 refine mv w0_0 rfl rfl rfl rfl rfl rfl ?_
 refine ln A0_0 Try.underlying57 rfl rfl rfl rfl rfl rfl ?_
 refine pu rfl rfl rfl rfl rfl ?_
 refine dn ?_
 refine bl ?_
 refine lpI (fun (x2 : Int) (e : Env) (w : World) => ∃ (s : St) (e0 : Env), w = s.w ∧ e = upd (upd (upd (upd e0 0 w0_0) 1 f1) 7 (.int .i64 (a0.length : Int))) 8 (.int .i64 x2) ∧ Kp s0 s) ⟨s0, _, rfl, (ue (ue (ue (ue rfl rfl) rfl) rfl) rfl), kp0⟩ (fun g2 ih2 => ?_)
 rintro x2 _ _ ⟨s3, _, rfl, rfl, Kx2⟩
 unfold slices_IndexFunc_impl_Item_impl_Item.b0
 refine sr ?_
 refine pu rfl rfl rfl rfl rfl ?_
 refine dn ?_
 refine sq ?_
 refine cd rfl (fun h4 => ?_) (fun h4 => ?_)
 ·
  refine sk ?_
  refine sq ?_
  refine bl ?_
  refine sr ?_
  refine pu rfl rfl rfl rfl rfl ?_
  refine pu rfl rfl rfl rfl rfl ?_
  refine dn ?_
  refine sr ?_
  refine mv f1 rfl rfl rfl rfl rfl rfl ?_
  refine mv w0_0 rfl rfl rfl rfl rfl rfl ?_
  refine pu rfl rfl rfl rfl rfl ?_
  have A5 := (A0_0.kp Kx2)
  refine ix A5 Try.underlying57 z48 rfl rfl rfl rfl rfl rfl rfl rfl (fun ad6 es6 h0_6 h1_6 he6 ce6 ia6 => ?_)
  obtain ⟨v6_0, v6_1, rfl, A6_0, A6_1⟩ := op48 he6
  refine lca ce6 Try.underlying48 z48 rfl rfl rfl rfl rfl rfl rfl ?_
  refine clv rfl rfl rfl rfl rfl rfl rfl (fun r9 m9 => hf1 (at_ a0 x2) v6_0 v6_1 s3.w (z.ky Kx2) (fl_rd A6_0) (RdF.top A6_1) r9 m9) ?_
  rintro r9 _ w9 m9 ⟨rfl, ky9⟩
  obtain ⟨s10, rfl, p10, n10⟩ := nwx s3 w9 40 ky9
  refine dn ?_
  refine cd rfl (fun h11 => ?_) (fun h11 => ?_)
  ·
   refine sr ?_
   refine pu rfl rfl rfl rfl rfl ?_
   refine pu rfl rfl rfl rfl rfl ?_
   refine dn ?_
   refine sgi ?_
   have K12 := (Kx2.st p10 rfl)
   exact re rfl Try.func172 rfl (r_t rfl r_nil) rfl ⟨_, rfl, rfl, z.ky K12⟩
  ·
   refine sk ?_
   refine ib ?_
   refine rg ?_
   refine pu rfl rfl rfl rfl rfl ?_
   refine pu rfl rfl rfl rfl rfl ?_
   refine dn ?_
   have K13 := (Kx2.st p10 rfl)
   exact lb ih2 ⟨s10, _, rfl, (ue (ue (ue (ue rfl rfl) rfl) rfl) rfl), K13⟩
 ·
  refine xt rfl ?_
  refine sgb ?_
  refine sr ?_
  refine pu rfl rfl rfl rfl rfl ?_
  refine dn ?_
  exact re rfl Try.func172 rfl (r_t rfl r_nil) rfl ⟨_, rfl, rfl, z.ky Kx2⟩
noncomputable def slices_ContainsFunc_impl_Item_impl_Item.f (a0 : (List Item)) (a1 : (Item → Option Bool)) : Option (Bool) :=
 ((slices_IndexFunc_impl_Item_impl_Item.f a0 a1).bind fun r2 => (some (decide (r2 ≥ (0 : Int)))))
def slices_ContainsFunc_impl_Item_impl_Item.Q (w : World) (F : Nat → Prop) (r : Bool) (v : Value) (w' : World) : Prop :=
 v = (.bool r) ∧ Ky [] w w'
set_option maxHeartbeats 4000000 in
set_option maxRecDepth 100000 in
theorem slices_ContainsFunc_impl_Item_impl_Item.calls (a0 : (List Item)) (a1 : (Item → Option Bool)) (w : World) (F : Nat → Prop) (w0_0 : Value) (f1 : Value) (h0_0 : (Kd.sl 48 kd48).rd w [w0_0] a0 F) (hf1 : ∀ (x0 : Item) (u0_0 u0_1 : Value) (w' : World), Ky [] w w' → Kd.flt.rd w' [u0_0] x0.F (fun _ => True) → (Kd.sl 5 (Kd.int .u8)).rd w' [u0_1] x0.T (fun _ => True) → ∀ r, a1 x0 = some r → CallV Try.prog f1 [(.agg #[(.int .i64 x0.Kind), (.int .i64 x0.N), u0_0, u0_1])] w' fun en w'' => ∃ v, en = .returned v ∧ v = (.bool r) ∧ Ky [] w' w'') (ho1 : f1.cells = #[f1]) (r : Bool) (m : slices_ContainsFunc_impl_Item_impl_Item.f a0 a1 = some r) :
  Calls Try.prog 115 #[w0_0, f1] w fun en w' => ∃ v, en = .returned v ∧ slices_ContainsFunc_impl_Item_impl_Item.Q w F r v w' := by
 obtain ⟨s0, rfl, kp0, z⟩ := start0 w F
 have A0_0 := z.rd h0_0
 refine calls_of_TM (args := [w0_0, f1]) (R := fun r en w' => ∃ v, en = .returned v ∧ slices_ContainsFunc_impl_Item_impl_Item.Q s0.w F r v w') Try.func115 Try.ntmps115 rfl rfl m ?_
 unfold slices_ContainsFunc_impl_Item_impl_Item.f
 refine sr ?_
 refine pu rfl rfl rfl rfl rfl ?_
 refine dn ?_
 refine sr ?_
 refine mv w0_0 rfl rfl rfl rfl rfl rfl ?_
 refine mv f1 rfl rfl rfl rfl rfl rfl ?_
 refine cl rfl rfl rfl rfl rfl Try.func172 rfl rfl rfl (fun r2 m2 => slices_IndexFunc_impl_Item_impl_Item.calls a0 a1 s0.w (fun b => memb [0] (s0.g b) = true) w0_0 f1 A0_0 (fun x0 u0_0 u0_1 w' k h0 h1 r m =>  hf1 x0 u0_0 u0_1 w' (Ky.trans (z.ky kp0) k) h0 h1 r m) ho1 r2 m2) ?_
 rintro r2 _ w2 m2 ⟨rfl, ky2⟩
 obtain ⟨s3, rfl, p3, n3⟩ := nwx s0 w2 40 ky2
 refine pu rfl rfl rfl rfl rfl ?_
 refine pu rfl rfl rfl rfl rfl ?_
 refine dn ?_
 have K4 := (kp0.st p3 rfl)
 exact re rfl Try.func115 rfl (r_t rfl r_nil) rfl ⟨_, rfl, rfl, z.ky K4⟩
noncomputable def impl_areAll_impl_Item.f (a0 : (List Item)) (a1 : (Item → Option Bool)) : Option (Bool) :=
 ((slices_ContainsFunc_impl_Item_impl_Item.f a0 (fun x0 => impl_areAll_impl_Item_1.f x0 a1)).bind fun r6 => (some (!r6)))
def impl_areAll_impl_Item.Q (w : World) (F : Nat → Prop) (r : Bool) (v : Value) (w' : World) : Prop :=
 v = (.bool r) ∧ Ky [] w w'
set_option maxHeartbeats 4000000 in
set_option maxRecDepth 100000 in
theorem impl_areAll_impl_Item.calls (a0 : (List Item)) (a1 : (Item → Option Bool)) (w : World) (F : Nat → Prop) (w0_0 : Value) (f1 : Value) (h0_0 : (Kd.sl 48 kd48).rd w [w0_0] a0 F) (hf1 : ∀ (x0 : Item) (u0_0 u0_1 : Value) (w' : World), Ky [] w w' → Kd.flt.rd w' [u0_0] x0.F (fun _ => True) → (Kd.sl 5 (Kd.int .u8)).rd w' [u0_1] x0.T (fun _ => True) → ∀ r, a1 x0 = some r → CallV Try.prog f1 [(.agg #[(.int .i64 x0.Kind), (.int .i64 x0.N), u0_0, u0_1])] w' fun en w'' => ∃ v, en = .returned v ∧ v = (.bool r) ∧ Ky [] w' w'') (ho1 : f1.cells = #[f1]) (r : Bool) (m : impl_areAll_impl_Item.f a0 a1 = some r) :
  Calls Try.prog 168 #[w0_0, f1] w fun en w' => ∃ v, en = .returned v ∧ impl_areAll_impl_Item.Q w F r v w' := by
 obtain ⟨s0, rfl, kp0, z⟩ := start0 w F
 have A0_0 := z.rd h0_0
 refine calls_of_TM (args := [w0_0, f1]) (R := fun r en w' => ∃ v, en = .returned v ∧ impl_areAll_impl_Item.Q s0.w F r v w') Try.func168 Try.ntmps168 rfl rfl m ?_
 unfold impl_areAll_impl_Item.f
 refine sr ?_
 refine bx (cs := [f1]) 40 rfl rfl rfl rfl rfl ho1 (fun b2 s2 p2 B2 => ?_)
 refine pu rfl rfl rfl rfl rfl ?_
 refine dn ?_
 refine sr ?_
 refine mv w0_0 rfl rfl rfl rfl rfl rfl ?_
 refine mkf (fs := []) (cs := [(.pointer (some ⟨b2, 0, none⟩))]) rfl rfl rfl rfl rfl rfl rfl ?_
 have K4 := (kp0.st p2 rfl)
 have A5 := (A0_0.kp K4)
 refine cl rfl rfl rfl rfl rfl Try.func115 rfl rfl rfl (fun r6 m6 => slices_ContainsFunc_impl_Item_impl_Item.calls a0 (fun x0 => impl_areAll_impl_Item_1.f x0 a1) s2.w (fun b => memb [0] (s2.g b) = true) w0_0 (.func (.func 204) (List.toArray []) (List.toArray [(.pointer (some ⟨b2, 0, none⟩))])) A5 (fun x0 u0_0 u0_1 w' k h0 h1 r m =>  ⟨204, _, _, [], [(.pointer (some ⟨b2, 0, none⟩))], rfl, Try.func204, rfl, rfl, (impl_areAll_impl_Item_1.calls x0 a1 w' (fun _ => True) u0_0 u0_1 b2 f1 h0 h1 (fun x0c u0_0c u0_1c w'c kc h0c h1c r m =>  hf1 x0c u0_0c u0_1c w'c (Ky.trans (z.ky K4) (Ky.trans k kc)) h0c h1c r m) ho1 (BlF.ky B2 k) trivial r m).mono fun en w2 hq => by obtain ⟨v, e, q⟩ := hq; exact ⟨v, e, q⟩⟩) rfl r6 m6) ?_
 rintro r6 _ w6 m6 ⟨rfl, ky6⟩
 obtain ⟨s7, rfl, p7, n7⟩ := nwx s2 w6 41 ky6
 refine pu rfl rfl rfl rfl rfl ?_
 refine pu rfl rfl rfl rfl rfl ?_
 refine dn ?_
 have K8 := (K4.st p7 rfl)
 exact re rfl Try.func168 rfl (r_t rfl r_nil) rfl ⟨_, rfl, rfl, z.ky K8⟩
noncomputable def impl_isDeed.f (a0 : Deed) : Option (Bool) :=
 ((if (((decide (a0.Begun ≥ (1 : Int))) && (decide (a0.Ended > a0.Begun))) && (decide ((a0.Reads.length : Int) ≤ (200 : Int)))) = true then ((impl_areAll_impl_Span.f a0.Reads impl_SpanOk.f).bind fun r12 => (some r12)) else (some false)).bind fun y9 => ((if (y9 && (decide ((a0.Writes.length : Int) ≤ (200 : Int)))) = true then ((impl_areAll_impl_Item.f a0.Writes impl_KeyOk.f).bind fun r23 => (some r23)) else (some false)).bind fun y21 => (some y21)))
def impl_isDeed.Q (w : World) (F : Nat → Prop) (r : Bool) (v : Value) (w' : World) : Prop :=
 v = (.bool r) ∧ Ky [] w w'
set_option maxHeartbeats 4000000 in
set_option maxRecDepth 100000 in
theorem impl_isDeed.calls (a0 : Deed) (w : World) (F : Nat → Prop) (w0_0 : Value) (w0_1 : Value) (h0_0 : (Kd.sl 80 kd80).rd w [w0_0] a0.Reads F) (h0_1 : (Kd.sl 48 kd48).rd w [w0_1] a0.Writes F) (r : Bool) (m : impl_isDeed.f a0 = some r) :
  Calls Try.prog 125 #[(.agg #[(.int .i64 a0.Xid), (.int .i64 a0.Begun), (.int .i64 a0.Ended), w0_0, w0_1])] w fun en w' => ∃ v, en = .returned v ∧ impl_isDeed.Q w F r v w' := by
 obtain ⟨s0, rfl, kp0, z⟩ := start0 w F
 have A0_0 := z.rd h0_0
 have A0_1 := z.rd h0_1
 refine calls_of_TM (args := [(.agg #[(.int .i64 a0.Xid), (.int .i64 a0.Begun), (.int .i64 a0.Ended), w0_0, w0_1])]) (R := fun r en w' => ∃ v, en = .returned v ∧ impl_isDeed.Q s0.w F r v w') Try.func125 Try.ntmps125 rfl rfl m ?_
 unfold impl_isDeed.f
 refine sr ?_
 refine bx (cs := [(.int .i64 a0.Xid), (.int .i64 a0.Begun), (.int .i64 a0.Ended), w0_0, w0_1]) 40 rfl rfl rfl rfl rfl rfl (fun b3 s3 p3 B3 => ?_)
 refine pu rfl rfl rfl rfl rfl ?_
 refine dn ?_
 refine sr ?_
 refine fa fa99_1 rfl rfl rfl rfl rfl rfl ?_
 refine ld B3 Try.underlying3 rfl rfl rfl rfl rfl rfl rfl rfl ?_
 refine pu rfl rfl rfl rfl rfl ?_
 refine pu rfl rfl rfl rfl rfl ?_
 refine jy [6, 7, 8, 9, 10, 11, 12] [10, 11, 12, 13, 14, 15, 16, 17, 18, 19, 20, 21, 22, 23, 24, 25, 26, 27, 28, 29, 30, 31, 32] 12 (.bool ((decide (a0.Begun ≥ (1 : Int))) && (decide (a0.Ended > a0.Begun)))) rfl (fun Kg5 => ?_) (fun j5 => ?_)
 ·
  rcases Bool.eq_false_or_eq_true (decide (a0.Begun ≥ (1 : Int))) with hb5 | hb5
  ·
   refine sbT hb5 ?_
   refine fa fa99_2 rfl rfl rfl rfl rfl rfl ?_
   refine ld B3 Try.underlying3 rfl rfl rfl rfl rfl rfl rfl rfl ?_
   refine fa fa99_1 rfl rfl rfl rfl rfl rfl ?_
   refine ld B3 Try.underlying3 rfl rfl rfl rfl rfl rfl rfl rfl ?_
   refine pu rfl rfl rfl rfl rfl ?_
   refine pu rfl rfl rfl rfl rfl ?_
   exact Kg5 _ (Ag.put ((Ag.put ((Ag.put ((Ag.put ((Ag.put ((Ag.put (Ag.base rfl) rfl)) rfl)) rfl)) rfl)) rfl)) rfl) (by rw [hb5]; rfl)
  ·
   refine sbT hb5 ?_
   refine uw rfl rfl rfl rfl ?_
   refine uw rfl rfl rfl rfl ?_
   refine uw rfl rfl rfl rfl ?_
   refine uw rfl rfl rfl rfl ?_
   refine uw rfl rfl rfl rfl ?_
   refine pu rfl rfl rfl rfl rfl ?_
   exact Kg5 _ (Ag.put ((Ag.put ((Ag.put ((Ag.put ((Ag.put ((Ag.put (Ag.base rfl) rfl)) rfl)) rfl)) rfl)) rfl)) rfl) (by rw [hb5]; rfl)
 refine pu rfl rfl rfl rfl rfl ?_
 refine jy [13, 14, 15, 16, 17, 18] [16, 17, 18, 19, 20, 21, 22, 23, 24, 25, 26, 27, 28, 29, 30, 31, 32] 18 (.bool (((decide (a0.Begun ≥ (1 : Int))) && (decide (a0.Ended > a0.Begun))) && (decide ((a0.Reads.length : Int) ≤ (200 : Int))))) rfl (fun Kg6 => ?_) (fun j6 => ?_)
 ·
  rcases Bool.eq_false_or_eq_true ((decide (a0.Begun ≥ (1 : Int))) && (decide (a0.Ended > a0.Begun))) with hb6 | hb6
  ·
   refine sbT hb6 ?_
   refine fa fa99_3 rfl rfl rfl rfl rfl rfl ?_
   refine ld B3 Try.underlying56 rfl rfl rfl rfl rfl rfl rfl rfl ?_
   have K7 := (kp0.st p3 rfl)
   have A8 := (A0_0.kp K7)
   refine ln A8 Try.underlying56 rfl rfl rfl rfl rfl rfl ?_
   refine pu rfl rfl rfl rfl rfl ?_
   refine pu rfl rfl rfl rfl rfl ?_
   exact Kg6 _ (Ag.put ((Ag.put ((Ag.put ((Ag.put ((Ag.put (Ag.base rfl) rfl)) rfl)) rfl)) rfl)) rfl) (by rw [hb6]; rfl)
  ·
   refine sbT hb6 ?_
   refine uw rfl rfl rfl rfl ?_
   refine uw rfl rfl rfl rfl ?_
   refine uw rfl rfl rfl rfl ?_
   refine uw rfl rfl rfl rfl ?_
   refine pu rfl rfl rfl rfl rfl ?_
   exact Kg6 _ (Ag.put ((Ag.put ((Ag.put ((Ag.put ((Ag.put (Ag.base rfl) rfl)) rfl)) rfl)) rfl)) rfl) (by rw [hb6]; rfl)
 refine pu rfl rfl rfl rfl rfl ?_
 refine ji [21, 22, 23, 24, 25, 26, 27, 28, 29, 30, 31, 32] (fun (y9 : Bool) (e : Env) (w : World) => ∃ (s : St) (e0 : Env), w = s.w ∧ e = upd (upd e0 1 (.pointer (some ⟨b3, 0, none⟩))) 23 (.bool y9) ∧ Kp s0 s ∧ BlF s b3 99 [(.int .i64 a0.Xid), (.int .i64 a0.Begun), (.int .i64 a0.Ended), w0_0, w0_1] 40) (fun Gj9 Kj9 => ?_) ?_
 ·
  rcases Bool.eq_false_or_eq_true (((decide (a0.Begun ≥ (1 : Int))) && (decide (a0.Ended > a0.Begun))) && (decide ((a0.Reads.length : Int) ≤ (200 : Int)))) with hb9 | hb9
  ·
   refine sbT hb9 ?_
   rw [if_pos hb9]
   refine fa fa99_3 rfl rfl rfl rfl rfl rfl ?_
   refine ld B3 Try.underlying56 rfl rfl rfl rfl rfl rfl rfl rfl ?_
   have K10 := (kp0.st p3 rfl)
   have A11 := (A0_0.kp K10)
   refine cl rfl rfl rfl rfl rfl Try.func167 rfl rfl rfl (fun r12 m12 => impl_areAll_impl_Span.calls a0.Reads impl_SpanOk.f s3.w (fun b => memb [0] (s3.g b) = true) w0_0 (.func (.func 111) #[] #[]) A11 (fun x0 u0_0 u0_1 u0_2 u0_3 w' k h0 h1 h2 h3 r m =>  ⟨111, _, _, [], [], rfl, Try.func111, rfl, rfl, (impl_SpanOk.calls x0 w' (fun _ => True) u0_0 u0_1 u0_2 u0_3 h0 h1 h2 h3 r m).mono fun en w2 hq => by obtain ⟨v, e, q⟩ := hq; exact ⟨v, e, q⟩⟩) rfl r12 m12) ?_
   rintro r12 _ w12 m12 ⟨rfl, ky12⟩
   obtain ⟨s13, rfl, p13, n13⟩ := nwx s3 w12 41 ky12
   refine pu rfl rfl rfl rfl rfl ?_
   have A14 := (BlF.st B3 p13 rfl)
   have K15 := (K10.st p13 rfl)
   exact Kj9 _ _ _ ⟨s13, _, rfl, (ue (ue rfl rfl) rfl), K15, A14⟩
  ·
   refine sbT hb9 ?_
   rw [if_neg (by rw [hb9]; decide)]
   refine uw rfl rfl rfl rfl ?_
   refine uw rfl rfl rfl rfl ?_
   refine uw rfl rfl rfl rfl ?_
   refine pu rfl rfl rfl rfl rfl ?_
   have K16 := (kp0.st p3 rfl)
   exact Kj9 _ _ _ ⟨s3, _, rfl, (ue (ue rfl rfl) rfl), K16, B3⟩
 rintro y9 _ _ ⟨s17, _, rfl, rfl, Ky9, By9_b3⟩
 refine pu rfl rfl rfl rfl rfl ?_
 refine jy [24, 25, 26, 27, 28, 29] [27, 28, 29, 30, 31, 32] 29 (.bool (y9 && (decide ((a0.Writes.length : Int) ≤ (200 : Int))))) rfl (fun Kg19 => ?_) (fun j19 => ?_)
 ·
  rcases Bool.eq_false_or_eq_true y9 with hb19 | hb19
  ·
   refine sbT hb19 ?_
   refine fa fa99_4 rfl rfl rfl rfl rfl rfl ?_
   refine ld By9_b3 Try.underlying57 rfl rfl rfl rfl rfl rfl rfl rfl ?_
   have A20 := (A0_1.kp Ky9)
   refine ln A20 Try.underlying57 rfl rfl rfl rfl rfl rfl ?_
   refine pu rfl rfl rfl rfl rfl ?_
   refine pu rfl rfl rfl rfl rfl ?_
   exact Kg19 _ (Ag.put ((Ag.put ((Ag.put ((Ag.put ((Ag.put (Ag.base rfl) rfl)) rfl)) rfl)) rfl)) rfl) (by rw [hb19]; rfl)
  ·
   refine sbT hb19 ?_
   refine uw rfl rfl rfl rfl ?_
   refine uw rfl rfl rfl rfl ?_
   refine uw rfl rfl rfl rfl ?_
   refine uw rfl rfl rfl rfl ?_
   refine pu rfl rfl rfl rfl rfl ?_
   exact Kg19 _ (Ag.put ((Ag.put ((Ag.put ((Ag.put ((Ag.put (Ag.base rfl) rfl)) rfl)) rfl)) rfl)) rfl) (by rw [hb19]; rfl)
 refine pu rfl rfl rfl rfl rfl ?_
 refine ji [32] (fun (y21 : Bool) (e : Env) (w : World) => ∃ (s : St) (e0 : Env), w = s.w ∧ e = upd e0 34 (.bool y21) ∧ Kp s0 s) (fun Gj21 Kj21 => ?_) ?_
 ·
  rcases Bool.eq_false_or_eq_true (y9 && (decide ((a0.Writes.length : Int) ≤ (200 : Int)))) with hb21 | hb21
  ·
   refine sbT hb21 ?_
   rw [if_pos hb21]
   refine fa fa99_4 rfl rfl rfl rfl rfl rfl ?_
   refine ld By9_b3 Try.underlying57 rfl rfl rfl rfl rfl rfl rfl rfl ?_
   have A22 := (A0_1.kp Ky9)
   refine cl rfl rfl rfl rfl rfl Try.func168 rfl rfl rfl (fun r23 m23 => impl_areAll_impl_Item.calls a0.Writes impl_KeyOk.f s17.w (fun b => memb [0] (s17.g b) = true) w0_1 (.func (.func 141) #[] #[]) A22 (fun x0 u0_0 u0_1 w' k h0 h1 r m =>  ⟨141, _, _, [], [], rfl, Try.func141, rfl, rfl, (impl_KeyOk.calls x0 w' (fun _ => True) u0_0 u0_1 h0 h1 r m).mono fun en w2 hq => by obtain ⟨v, e, q⟩ := hq; exact ⟨v, e, q⟩⟩) rfl r23 m23) ?_
   rintro r23 _ w23 m23 ⟨rfl, ky23⟩
   obtain ⟨s24, rfl, p24, n24⟩ := nwx s17 w23 42 ky23
   refine pu rfl rfl rfl rfl rfl ?_
   have K25 := (Ky9.st p24 rfl)
   exact Kj21 _ _ _ ⟨s24, _, rfl, (ue rfl rfl), K25⟩
  ·
   refine sbT hb21 ?_
   rw [if_neg (by rw [hb21]; decide)]
   refine uw rfl rfl rfl rfl ?_
   refine uw rfl rfl rfl rfl ?_
   refine uw rfl rfl rfl rfl ?_
   refine pu rfl rfl rfl rfl rfl ?_
   exact Kj21 _ _ _ ⟨s17, _, rfl, (ue rfl rfl), Ky9⟩
 rintro y21 _ _ ⟨s26, _, rfl, rfl, Ky21⟩
 refine pu rfl rfl rfl rfl rfl ?_
 refine dn ?_
 exact re rfl Try.func125 rfl (r_t rfl r_nil) rfl ⟨_, rfl, rfl, z.ky Ky21⟩
noncomputable def impl_areDifferent_int.b0 (a0 : (List Int)) (a1 : (Int → Option Int)) (x6 : Int × MD) : Option ((Int × MD) ⊕ Bool) :=
 (if (decide (x6.1 < (a0.length : Int))) = true then (if 0 ≤ x6.1 ∧ x6.1 < (a0.length : Int) then ((a1 (at_ a0 x6.1)).bind fun r13 => (if (mget x6.2 r13) = true then (some (Sum.inr false)) else ((a1 (at_ a0 x6.1)).bind fun r19 => (some (Sum.inl ((IntKind.wrap .i64 (x6.1 + (1 : Int))), (mset x6.2 r19 true))))))) else none) else ((some true).bind fun o => some (Sum.inr o)))
noncomputable def impl_areDifferent_int.f (a0 : (List Int)) (a1 : (Int → Option Int)) : Option (Bool) :=
 (iter (impl_areDifferent_int.b0 a0 a1) ((0 : Int), ([] : MD)))
def impl_areDifferent_int.Q (w : World) (F : Nat → Prop) (r : Bool) (v : Value) (w' : World) : Prop :=
 v = (.bool r) ∧ Ky [] w w'
set_option maxHeartbeats 4000000 in
set_option maxRecDepth 100000 in
theorem impl_areDifferent_int.calls (a0 : (List Int)) (a1 : (Int → Option Int)) (w : World) (F : Nat → Prop) (w0_0 : Value) (f1 : Value) (h0_0 : (Kd.sl 3 (Kd.int .i64)).rd w [w0_0] a0 F) (hf1 : ∀ (x0 : Int) (w' : World), Ky [] w w' → ∀ r, a1 x0 = some r → CallV Try.prog f1 [(.int .i64 x0)] w' fun en w'' => ∃ v, en = .returned v ∧ v = (.int .i64 r) ∧ Ky [] w' w'') (ho1 : f1.cells = #[f1]) (r : Bool) (m : impl_areDifferent_int.f a0 a1 = some r) :
  Calls Try.prog 126 #[w0_0, f1] w fun en w' => ∃ v, en = .returned v ∧ impl_areDifferent_int.Q w F r v w' := by
 obtain ⟨s0, rfl, kp0, z⟩ := start0 w F
 have A0_0 := z.rd h0_0
 refine calls_of_TM (args := [w0_0, f1]) (R := fun r en w' => ∃ v, en = .returned v ∧ impl_areDifferent_int.Q s0.w F r v w') Try.func126 Try.ntmps126 rfl rfl m ?_
 unfold impl_areDifferent_int.f
 refine sr ?_
 refine pu rfl rfl rfl rfl rfl ?_
 refine dn ?_
 refine sr ?_
 refine mkm 40 rfl rfl rfl rfl rfl (fun b2 s2 p2 B2 => ?_)
 refine pu rfl rfl rfl rfl rfl ?_
 refine dn ?_
 refine sq ?_
 refine sr ?_
 refine mv w0_0 rfl rfl rfl rfl rfl rfl ?_
 have K4 := (kp0.st p2 rfl)
 have A5 := (A0_0.kp K4)
 refine ln A5 Try.underlying24 rfl rfl rfl rfl rfl rfl ?_
 refine pu rfl rfl rfl rfl rfl ?_
 refine dn ?_
 refine bl ?_
 refine lpI (fun (x6 : Int × MD) (e : Env) (w : World) => ∃ (s : St) (e0 : Env), w = s.w ∧ e = upd (upd (upd (upd (upd e0 1 f1) 5 (.map (some b2))) 9 w0_0) 10 (.int .i64 (a0.length : Int))) 11 (.int .i64 x6.1) ∧ Kp s0 s ∧ MpF s b2 x6.2 40) ⟨s2, _, rfl, (ue (ue (ue (ue (ue rfl rfl) rfl) rfl) rfl) rfl), K4, B2⟩ (fun g6 ih6 => ?_)
 rintro x6 _ _ ⟨s7, _, rfl, rfl, Kx6, Bx6_b2⟩
 unfold impl_areDifferent_int.b0
 refine sr ?_
 refine pu rfl rfl rfl rfl rfl ?_
 refine dn ?_
 refine sq ?_
 refine cd rfl (fun h9 => ?_) (fun h9 => ?_)
 ·
  refine sk ?_
  refine sq ?_
  refine bl ?_
  refine sr ?_
  have A10 := (A0_0.kp Kx6)
  refine ix A10 Try.underlying24 z3 rfl rfl rfl rfl rfl rfl rfl rfl (fun ad11 es11 h0_11 h1_11 he11 ce11 ia11 => ?_)
  obtain rfl := he11
  refine lc0 ce11 Try.underlying3 rfl rfl rfl rfl rfl rfl rfl rfl ?_
  refine pu rfl rfl rfl rfl rfl ?_
  refine dn ?_
  refine sq ?_
  refine sr ?_
  refine pu rfl rfl rfl rfl rfl ?_
  refine mv f1 rfl rfl rfl rfl rfl rfl ?_
  refine pu rfl rfl rfl rfl rfl ?_
  refine clv rfl rfl rfl rfl rfl rfl rfl (fun r13 m13 => hf1 (at_ a0 x6.1) s7.w (z.ky Kx6)  r13 m13) ?_
  rintro r13 _ w13 m13 ⟨rfl, ky13⟩
  obtain ⟨s14, rfl, p14, n14⟩ := nwx s7 w13 41 ky13
  have A15 := (MpF.st Bx6_b2 p14 rfl)
  refine lkm A15 Try.underlying187 Try.underlying3 o4 rfl rfl rfl rfl rfl rfl rfl ?_
  refine dn ?_
  refine cd rfl (fun h16 => ?_) (fun h16 => ?_)
  ·
   refine sr ?_
   refine pu rfl rfl rfl rfl rfl ?_
   refine dn ?_
   refine sgi ?_
   have K17 := (Kx6.st p14 rfl)
   exact re rfl Try.func126 rfl (r_t rfl r_nil) rfl ⟨_, rfl, rfl, z.ky K17⟩
  ·
   refine sk ?_
   refine rg ?_
   refine pu rfl rfl rfl rfl rfl ?_
   refine mv f1 rfl rfl rfl rfl rfl rfl ?_
   refine pu rfl rfl rfl rfl rfl ?_
   have K18 := (Kx6.st p14 rfl)
   refine clv rfl rfl rfl rfl rfl rfl rfl (fun r19 m19 => hf1 (at_ a0 x6.1) s14.w (z.ky K18)  r19 m19) ?_
   rintro r19 _ w19 m19 ⟨rfl, ky19⟩
   obtain ⟨s20, rfl, p20, n20⟩ := nwx s14 w19 42 ky19
   have A21 := (MpF.st A15 p20 rfl)
   refine upm A21 Try.underlying187 Try.underlying3 rfl rfl rfl rfl rfl rfl rfl (fun s22 p22 B22 => ?_)
   refine dn ?_
   refine ib ?_
   refine rg ?_
   refine pu rfl rfl rfl rfl rfl ?_
   refine pu rfl rfl rfl rfl rfl ?_
   refine dn ?_
   have K24 := ((K18.st p20 rfl).st p22 rfl)
   exact lb ih6 ⟨s22, _, rfl, (ue (ue (ue (ue (ue rfl rfl) rfl) rfl) rfl) rfl), K24, B22⟩
 ·
  refine xt rfl ?_
  refine sgb ?_
  refine sr ?_
  refine pu rfl rfl rfl rfl rfl ?_
  refine dn ?_
  exact re rfl Try.func126 rfl (r_t rfl r_nil) rfl ⟨_, rfl, rfl, z.ky Kx6⟩
noncomputable def impl_DeedsOk_1.f (a0 : Int) : Option (Int) :=
 (some a0)
def impl_DeedsOk_1.Q (w : World) (F : Nat → Prop) (r : Int) (v : Value) (w' : World) : Prop :=
 v = (.int .i64 r) ∧ Ky [] w w'
set_option maxHeartbeats 4000000 in
set_option maxRecDepth 100000 in
theorem impl_DeedsOk_1.calls (a0 : Int) (w : World) (F : Nat → Prop)   (r : Int) (m : impl_DeedsOk_1.f a0 = some r) :
  Calls Try.prog 127 #[(.int .i64 a0)] w fun en w' => ∃ v, en = .returned v ∧ impl_DeedsOk_1.Q w F r v w' := by
 obtain ⟨s0, rfl, kp0, z⟩ := start0 w F
 refine calls_of_TM (args := [(.int .i64 a0)]) (R := fun r en w' => ∃ v, en = .returned v ∧ impl_DeedsOk_1.Q s0.w F r v w') Try.func127 Try.ntmps127 rfl rfl m ?_
 unfold impl_DeedsOk_1.f
 refine sr ?_
 refine pu rfl rfl rfl rfl rfl ?_
 refine dn ?_
 refine sr ?_
 refine pu rfl rfl rfl rfl rfl ?_
 refine pu rfl rfl rfl rfl rfl ?_
 refine dn ?_
 exact re rfl Try.func127 rfl (r_t rfl r_nil) rfl ⟨_, rfl, rfl, z.ky kp0⟩
noncomputable def impl_DeedsOk.b0 (a0 : (List Deed)) (x9 : (List Int) × Int) : Option (((List Int) × Int) ⊕ Bool) :=
 (if (decide (x9.2 < (a0.length : Int))) = true then (if 0 ≤ x9.2 ∧ x9.2 < (a0.length : Int) then (if x9.1.length + ([(at_ a0 x9.2).Begun, (at_ a0 x9.2).Ended]).length ≤ Lim then (some (Sum.inl ((x9.1 ++ [(at_ a0 x9.2).Begun, (at_ a0 x9.2).Ended]), (IntKind.wrap .i64 (x9.2 + (1 : Int)))))) else none) else none) else (((impl_areDifferent_int.f x9.1 impl_DeedsOk_1.f).bind fun r30 => (some r30)).bind fun o => some (Sum.inr o)))
noncomputable def impl_DeedsOk.f (a0 : (List Deed)) : Option (Bool) :=
 ((if (decide ((a0.length : Int) > (100 : Int))) = true then (some true) else ((impl_areAll_impl_Deed.f a0 impl_isDeed.f).bind fun r3 => (some (!r3)))).bind fun y2 => (if y2 = true then (some false) else (iter (impl_DeedsOk.b0 a0) (([] : (List Int)), (0 : Int)))))
def impl_DeedsOk.Q (w : World) (F : Nat → Prop) (r : Bool) (v : Value) (w' : World) : Prop :=
 v = (.bool r) ∧ Ky [] w w'
set_option maxHeartbeats 4000000 in
set_option maxRecDepth 100000 in
theorem impl_DeedsOk.calls (a0 : (List Deed)) (w : World) (F : Nat → Prop) (w0_0 : Value) (h0_0 : (Kd.sl 99 kd99).rd w [w0_0] a0 F) (r : Bool) (m : impl_DeedsOk.f a0 = some r) :
  Calls Try.prog 52 #[w0_0] w fun en w' => ∃ v, en = .returned v ∧ impl_DeedsOk.Q w F r v w' := by
 obtain ⟨s0, rfl, kp0, z⟩ := start0 w F
 have A0_0 := z.rd h0_0
 refine calls_of_TM (args := [w0_0]) (R := fun r en w' => ∃ v, en = .returned v ∧ impl_DeedsOk.Q s0.w F r v w') Try.func52 Try.ntmps52 rfl rfl m ?_
 unfold impl_DeedsOk.f
 refine sr ?_
 refine pu rfl rfl rfl rfl rfl ?_
 refine dn ?_
 refine sq ?_
 refine sr ?_
 refine mv w0_0 rfl rfl rfl rfl rfl rfl ?_
 refine ln A0_0 Try.underlying26 rfl rfl rfl rfl rfl rfl ?_
 refine pu rfl rfl rfl rfl rfl ?_
 refine pu rfl rfl rfl rfl rfl ?_
 refine ji [] (fun (y2 : Bool) (e : Env) (w : World) => ∃ (s : St) (e0 : Env), w = s.w ∧ e = upd (upd e0 0 w0_0) 13 (.bool y2) ∧ Kp s0 s) (fun Gj2 Kj2 => ?_) ?_
 ·
  rcases Bool.eq_false_or_eq_true (decide ((a0.length : Int) > (100 : Int))) with hb2 | hb2
  ·
   refine sbT hb2 ?_
   rw [if_pos hb2]
   refine uw rfl rfl rfl rfl ?_
   refine uw rfl rfl rfl rfl ?_
   refine uw rfl rfl rfl rfl ?_
   refine pu rfl rfl rfl rfl rfl ?_
   exact Kj2 _ _ _ ⟨s0, _, rfl, (ue (ue rfl rfl) rfl), kp0⟩
  ·
   refine sbT hb2 ?_
   rw [if_neg (by rw [hb2]; decide)]
   refine mv w0_0 rfl rfl rfl rfl rfl rfl ?_
   refine cl rfl rfl rfl rfl rfl Try.func124 rfl rfl rfl (fun r3 m3 => impl_areAll_impl_Deed.calls a0 impl_isDeed.f s0.w (fun b => memb [0] (s0.g b) = true) w0_0 (.func (.func 125) #[] #[]) A0_0 (fun x0 u0_0 u0_1 w' k h0 h1 r m =>  ⟨125, _, _, [], [], rfl, Try.func125, rfl, rfl, (impl_isDeed.calls x0 w' (fun _ => True) u0_0 u0_1 h0 h1 r m).mono fun en w2 hq => by obtain ⟨v, e, q⟩ := hq; exact ⟨v, e, q⟩⟩) rfl r3 m3) ?_
   rintro r3 _ w3 m3 ⟨rfl, ky3⟩
   obtain ⟨s4, rfl, p4, n4⟩ := nwx s0 w3 40 ky3
   refine pu rfl rfl rfl rfl rfl ?_
   refine pu rfl rfl rfl rfl rfl ?_
   have K5 := (kp0.st p4 rfl)
   exact Kj2 _ _ _ ⟨s4, _, rfl, (ue (ue rfl rfl) rfl), K5⟩
 rintro y2 _ _ ⟨s6, _, rfl, rfl, Ky2⟩
 refine dn ?_
 refine cd rfl (fun h7 => ?_) (fun h7 => ?_)
 ·
  refine sr ?_
  refine pu rfl rfl rfl rfl rfl ?_
  refine dn ?_
  exact re rfl Try.func52 rfl (r_t rfl r_nil) rfl ⟨_, rfl, rfl, z.ky Ky2⟩
 ·
  refine sk ?_
  refine sr ?_
  refine pu rfl rfl rfl rfl rfl ?_
  refine dn ?_
  refine sq ?_
  refine sr ?_
  refine mv w0_0 rfl rfl rfl rfl rfl rfl ?_
  have A8 := (A0_0.kp Ky2)
  refine ln A8 Try.underlying26 rfl rfl rfl rfl rfl rfl ?_
  refine pu rfl rfl rfl rfl rfl ?_
  refine dn ?_
  refine bl ?_
  refine lpI (fun (x9 : (List Int) × Int) (e : Env) (w : World) => ∃ (s : St) (e0 : Env) (vx9_0 : Value), w = s.w ∧ e = upd (upd (upd (upd e0 3 vx9_0) 14 w0_0) 15 (.int .i64 (a0.length : Int))) 16 (.int .i64 x9.2) ∧ Kp s0 s ∧ OwF (Kd.sl 3 (Kd.int .i64)) s [vx9_0] x9.1 41) ⟨s6, _, (.slice none 0 0), rfl, (ue (ue (ue (ue rfl rfl) rfl) rfl) rfl), Ky2, (ow_nil 3 (Kd.int .i64) _ 41)⟩ (fun g9 ih9 => ?_)
  rintro x9 _ _ ⟨s10, _, vx9_0, rfl, rfl, Kx9, Ax9_0⟩
  unfold impl_DeedsOk.b0
  refine sr ?_
  refine pu rfl rfl rfl rfl rfl ?_
  refine dn ?_
  refine sq ?_
  refine cd rfl (fun h12 => ?_) (fun h12 => ?_)
  ·
   refine sk ?_
   refine sq ?_
   refine bl ?_
   refine sr ?_
   have A13 := (A0_0.kp Kx9)
   refine ix A13 Try.underlying26 z99 rfl rfl rfl rfl rfl rfl rfl rfl (fun ad14 es14 h0_14 h1_14 he14 ce14 ia14 => ?_)
   obtain ⟨v14_0, v14_1, rfl, A14_0, A14_1⟩ := op99 he14
   refine lca ce14 Try.underlying99 z99 rfl rfl rfl rfl rfl rfl rfl ?_
   refine al (cs := [(.int .i64 (0 : Int)), (.int .i64 (0 : Int)), (.int .i64 (0 : Int)), (.slice none 0 0), (.slice none 0 0)]) 42 rfl rfl rfl rfl rfl o99 rfl (fun b18 s18 p18 B18 => ?_)
   have A20 := (A14_1.st p18 rfl)
   have A21 := (A14_0.st p18 rfl)
   refine sva (vs := [(.int .i64 ((at_ a0 x9.2).Xid)), (.int .i64 ((at_ a0 x9.2).Begun)), (.int .i64 ((at_ a0 x9.2).Ended)), v14_0, v14_1]) B18 z99 rfl rfl rfl rfl rfl rfl (on_cons rfl (on_cons rfl (on_cons rfl (on_cons A21.one (on_cons A20.one on_nil))))) rfl (fun s22 p22 B22 => ?_)
   refine dn ?_
   refine rg ?_
   refine mv vx9_0 rfl rfl rfl rfl rfl rfl ?_
   refine fa fa99_1 rfl rfl rfl rfl rfl rfl ?_
   refine ld B22 Try.underlying3 rfl rfl rfl rfl rfl rfl rfl rfl ?_
   refine fa fa99_2 rfl rfl rfl rfl rfl rfl ?_
   refine ld B22 Try.underlying3 rfl rfl rfl rfl rfl rfl rfl rfl ?_
   refine ltF (K := (Kd.int .i64)) (cells := [(.int .i64 ((at_ a0 x9.2).Begun)), (.int .i64 ((at_ a0 x9.2).Ended))]) [(at_ a0 x9.2).Begun, (at_ a0 x9.2).Ended] 43 fl_int Try.underlying24 z3 o3 (fun w => (els_flat _ _ _)) rfl rfl rfl rfl rfl rfl rfl rfl rfl rfl (fun v24 s24 p24 A24 => ?_)
   have A26 := (((Ax9_0.st p18 rfl).st p22 rfl).st p24 rfl)
   refine apF fl_int sl24 A26 A24.rd rfl rfl rfl rfl rfl rfl rfl (fun v27 s27 p27 A27 => ?_)
   refine asg v27 rfl rfl rfl rfl rfl rfl ?_
   refine dn ?_
   refine ib ?_
   refine rg ?_
   refine pu rfl rfl rfl rfl rfl ?_
   refine pu rfl rfl rfl rfl rfl ?_
   refine dn ?_
   have K29 := ((((Kx9.st p18 rfl).st p22 rfl).st p24 rfl).st p27 rfl)
   exact lb ih9 ⟨s27, _, v27, rfl, (ue (ue (ue (ue rfl rfl) rfl) rfl) rfl), K29, A27⟩
  ·
   refine xt rfl ?_
   refine sgb ?_
   refine sr ?_
   refine mv vx9_0 rfl rfl rfl rfl rfl rfl ?_
   refine cl rfl rfl rfl rfl rfl Try.func126 rfl rfl rfl (fun r30 m30 => impl_areDifferent_int.calls x9.1 impl_DeedsOk_1.f s10.w (fun b => memb [41] (s10.g b) = true) vx9_0 (.func (.func 127) #[] #[]) Ax9_0.rd (fun x0 w' k  r m =>  ⟨127, _, _, [], [], rfl, Try.func127, rfl, rfl, (impl_DeedsOk_1.calls x0 w' (fun _ => True)  r m).mono fun en w2 hq => by obtain ⟨v, e, q⟩ := hq; exact ⟨v, e, q⟩⟩) rfl r30 m30) ?_
   rintro r30 _ w30 m30 ⟨rfl, ky30⟩
   obtain ⟨s31, rfl, p31, n31⟩ := nwx s10 w30 44 ky30
   refine pu rfl rfl rfl rfl rfl ?_
   refine dn ?_
   have K32 := (Kx9.st p31 rfl)
   exact re rfl Try.func52 rfl (r_t rfl r_nil) rfl ⟨_, rfl, rfl, z.ky K32⟩
noncomputable def impl_Deed_writes_1.f (a0 : Item) (a1 : Item) : Option (Bool) :=
 ((impl_compareItems.f a0 a1).bind fun r10 => (some (r10 == (0 : Int))))
def impl_Deed_writes_1.Q (w : World) (F : Nat → Prop) (r : Bool) (v : Value) (w' : World) : Prop :=
 v = (.bool r) ∧ Ky [] w w'
set_option maxHeartbeats 4000000 in
set_option maxRecDepth 100000 in
theorem impl_Deed_writes_1.calls (a0 : Item) (a1 : Item) (w : World) (F : Nat → Prop) (w0_0 : Value) (w0_1 : Value) (c1 : Nat) (w1_0 : Value) (w1_1 : Value) (h0_0 : Kd.flt.rd w [w0_0] a0.F F) (h0_1 : (Kd.sl 5 (Kd.int .u8)).rd w [w0_1] a0.T F) (h1_0 : Kd.flt.rd w [w1_0] a1.F F) (h1_1 : (Kd.sl 5 (Kd.int .u8)).rd w [w1_1] a1.T F) (hb1 : BlW w c1 48 [(.int .i64 a1.Kind), (.int .i64 a1.N), w1_0, w1_1]) (hp1 : F c1) (r : Bool) (m : impl_Deed_writes_1.f a0 a1 = some r) :
  Calls Try.prog 209 #[(.agg #[(.int .i64 a0.Kind), (.int .i64 a0.N), w0_0, w0_1]), (.pointer (some ⟨c1, 0, none⟩))] w fun en w' => ∃ v, en = .returned v ∧ impl_Deed_writes_1.Q w F r v w' := by
 obtain ⟨s0, rfl, kp0, z⟩ := start0 w F
 have A0_0 := fl_of h0_0
 have A0_1 := z.rd h0_1
 have B1 := z.b0 hb1 hp1
 have A1_0 := fl_of h1_0
 have A1_1 := z.rd h1_1
 refine calls_of_TM (args := [(.agg #[(.int .i64 a0.Kind), (.int .i64 a0.N), w0_0, w0_1]), (.pointer (some ⟨c1, 0, none⟩))]) (R := fun r en w' => ∃ v, en = .returned v ∧ impl_Deed_writes_1.Q s0.w F r v w') Try.func209 Try.ntmps209 rfl rfl m ?_
 unfold impl_Deed_writes_1.f
 refine sr ?_
 refine bx (cs := [(.int .i64 a0.Kind), (.int .i64 a0.N), w0_0, w0_1]) 40 rfl rfl rfl rfl rfl rfl (fun b4 s4 p4 B4 => ?_)
 refine pu rfl rfl rfl rfl rfl ?_
 refine dn ?_
 refine sr ?_
 refine lda (es := [(.int .i64 a0.Kind), (.int .i64 a0.N), w0_0, w0_1]) B4 Try.underlying48 z48 rfl rfl rfl rfl rfl rfl rfl rfl ?_
 have A6 := (BlF.st B1 p4 rfl)
 refine lda (es := [(.int .i64 a1.Kind), (.int .i64 a1.N), w1_0, w1_1]) A6 Try.underlying48 z48 rfl rfl rfl rfl rfl rfl rfl rfl ?_
 have K7 := (kp0.st p4 rfl)
 have A8 := (A0_1.kp K7)
 have A9 := (A1_1.kp K7)
 refine cl rfl rfl rfl rfl rfl Try.func170 rfl rfl rfl (fun r10 m10 => impl_compareItems.calls a0 a1 s4.w (fun b => memb [0] (s4.g b) = true) w0_0 w0_1 w1_0 w1_1 ((fl_rdf (s := s4) A0_0).sub (D := [0]) rfl) A8 ((fl_rdf (s := s4) A1_0).sub (D := [0]) rfl) A9 r10 m10) ?_
 rintro r10 _ w10 m10 ⟨rfl, ky10⟩
 obtain ⟨s11, rfl, p11, n11⟩ := nwx s4 w10 41 ky10
 refine pu rfl rfl rfl rfl rfl ?_
 refine pu rfl rfl rfl rfl rfl ?_
 refine dn ?_
 have K12 := (K7.st p11 rfl)
 exact re rfl Try.func209 rfl (r_t rfl r_nil) rfl ⟨_, rfl, rfl, z.ky K12⟩
noncomputable def impl_Deed_writes.f (a0 : Deed) (a1 : Item) : Option (Bool) :=
 ((slices_ContainsFunc_impl_Item_impl_Item.f a0.Writes (fun x0 => impl_Deed_writes_1.f x0 a1)).bind fun r12 => (some r12))
def impl_Deed_writes.Q (w : World) (F : Nat → Prop) (r : Bool) (v : Value) (w' : World) : Prop :=
 v = (.bool r) ∧ Ky [] w w'
set_option maxHeartbeats 4000000 in
set_option maxRecDepth 100000 in
theorem impl_Deed_writes.calls (a0 : Deed) (a1 : Item) (w : World) (F : Nat → Prop) (w0_0 : Value) (w0_1 : Value) (w1_0 : Value) (w1_1 : Value) (h0_0 : (Kd.sl 80 kd80).rd w [w0_0] a0.Reads F) (h0_1 : (Kd.sl 48 kd48).rd w [w0_1] a0.Writes F) (h1_0 : Kd.flt.rd w [w1_0] a1.F F) (h1_1 : (Kd.sl 5 (Kd.int .u8)).rd w [w1_1] a1.T F) (r : Bool) (m : impl_Deed_writes.f a0 a1 = some r) :
  Calls Try.prog 180 #[(.agg #[(.int .i64 a0.Xid), (.int .i64 a0.Begun), (.int .i64 a0.Ended), w0_0, w0_1]), (.agg #[(.int .i64 a1.Kind), (.int .i64 a1.N), w1_0, w1_1])] w fun en w' => ∃ v, en = .returned v ∧ impl_Deed_writes.Q w F r v w' := by
 obtain ⟨s0, rfl, kp0, z⟩ := start0 w F
 have A0_0 := z.rd h0_0
 have A0_1 := z.rd h0_1
 have A1_0 := fl_of h1_0
 have A1_1 := z.rd h1_1
 refine calls_of_TM (args := [(.agg #[(.int .i64 a0.Xid), (.int .i64 a0.Begun), (.int .i64 a0.Ended), w0_0, w0_1]), (.agg #[(.int .i64 a1.Kind), (.int .i64 a1.N), w1_0, w1_1])]) (R := fun r en w' => ∃ v, en = .returned v ∧ impl_Deed_writes.Q s0.w F r v w') Try.func180 Try.ntmps180 rfl rfl m ?_
 unfold impl_Deed_writes.f
 refine sr ?_
 refine bx (cs := [(.int .i64 a0.Xid), (.int .i64 a0.Begun), (.int .i64 a0.Ended), w0_0, w0_1]) 40 rfl rfl rfl rfl rfl rfl (fun b4 s4 p4 B4 => ?_)
 refine bx (cs := [(.int .i64 a1.Kind), (.int .i64 a1.N), w1_0, w1_1]) 41 rfl rfl rfl rfl rfl rfl (fun b6 s6 p6 B6 => ?_)
 refine pu rfl rfl rfl rfl rfl ?_
 refine dn ?_
 refine sr ?_
 refine fa fa99_4 rfl rfl rfl rfl rfl rfl ?_
 have A8 := (BlF.st B4 p6 rfl)
 refine ld A8 Try.underlying57 rfl rfl rfl rfl rfl rfl rfl rfl ?_
 refine mkf (fs := []) (cs := [(.pointer (some ⟨b6, 0, none⟩))]) rfl rfl rfl rfl rfl rfl rfl ?_
 have K9 := ((kp0.st p4 rfl).st p6 rfl)
 have A10 := (A0_1.kp K9)
 have A11 := (A1_1.kp K9)
 refine cl rfl rfl rfl rfl rfl Try.func115 rfl rfl rfl (fun r12 m12 => slices_ContainsFunc_impl_Item_impl_Item.calls a0.Writes (fun x0 => impl_Deed_writes_1.f x0 a1) s6.w (fun b => memb [0] (s6.g b) = true) w0_1 (.func (.func 209) (List.toArray []) (List.toArray [(.pointer (some ⟨b6, 0, none⟩))])) A10 (fun x0 u0_0 u0_1 w' k h0 h1 r m =>  ⟨209, _, _, [], [(.pointer (some ⟨b6, 0, none⟩))], rfl, Try.func209, rfl, rfl, (impl_Deed_writes_1.calls x0 a1 w' (fun _ => True) u0_0 u0_1 b6 w1_0 w1_1 h0 h1 (fl_rd A1_0) (RdF.ky A11 k) (BlF.ky B6 k) trivial r m).mono fun en w2 hq => by obtain ⟨v, e, q⟩ := hq; exact ⟨v, e, q⟩⟩) rfl r12 m12) ?_
 rintro r12 _ w12 m12 ⟨rfl, ky12⟩
 obtain ⟨s13, rfl, p13, n13⟩ := nwx s6 w12 42 ky12
 refine pu rfl rfl rfl rfl rfl ?_
 refine dn ?_
 have K14 := (K9.st p13 rfl)
 exact re rfl Try.func180 rfl (r_t rfl r_nil) rfl ⟨_, rfl, rfl, z.ky K14⟩
noncomputable def impl_InSpan.f (a0 : Item) (a1 : Item) (a2 : Item) : Option (Bool) :=
 ((impl_KeyOk.f a0).bind fun r13 => ((if r13 = true then ((impl_KeyOk.f a1).bind fun r19 => (some r19)) else (some false)).bind fun y15 => ((if y15 = true then ((impl_KeyOk.f a2).bind fun r35 => (some r35)) else (some false)).bind fun y33 => ((if y33 = true then ((impl_compareItems.f a0 a2).bind fun r48 => (some (decide (r48 ≤ (0 : Int))))) else (some false)).bind fun y45 => ((if y45 = true then ((impl_compareItems.f a2 a1).bind fun r59 => (some (decide (r59 ≤ (0 : Int))))) else (some false)).bind fun y56 => (some y56))))))
def impl_InSpan.Q (w : World) (F : Nat → Prop) (r : Bool) (v : Value) (w' : World) : Prop :=
 v = (.bool r) ∧ Ky [] w w'
set_option maxHeartbeats 4000000 in
set_option maxRecDepth 100000 in
theorem impl_InSpan.calls (a0 : Item) (a1 : Item) (a2 : Item) (w : World) (F : Nat → Prop) (w0_0 : Value) (w0_1 : Value) (w1_0 : Value) (w1_1 : Value) (w2_0 : Value) (w2_1 : Value) (h0_0 : Kd.flt.rd w [w0_0] a0.F F) (h0_1 : (Kd.sl 5 (Kd.int .u8)).rd w [w0_1] a0.T F) (h1_0 : Kd.flt.rd w [w1_0] a1.F F) (h1_1 : (Kd.sl 5 (Kd.int .u8)).rd w [w1_1] a1.T F) (h2_0 : Kd.flt.rd w [w2_0] a2.F F) (h2_1 : (Kd.sl 5 (Kd.int .u8)).rd w [w2_1] a2.T F) (r : Bool) (m : impl_InSpan.f a0 a1 a2 = some r) :
  Calls Try.prog 173 #[(.agg #[(.int .i64 a0.Kind), (.int .i64 a0.N), w0_0, w0_1]), (.agg #[(.int .i64 a1.Kind), (.int .i64 a1.N), w1_0, w1_1]), (.agg #[(.int .i64 a2.Kind), (.int .i64 a2.N), w2_0, w2_1])] w fun en w' => ∃ v, en = .returned v ∧ impl_InSpan.Q w F r v w' := by
 obtain ⟨s0, rfl, kp0, z⟩ := start0 w F
 have A0_0 := fl_of h0_0
 have A0_1 := z.rd h0_1
 have A1_0 := fl_of h1_0
 have A1_1 := z.rd h1_1
 have A2_0 := fl_of h2_0
 have A2_1 := z.rd h2_1
 refine calls_of_TM (args := [(.agg #[(.int .i64 a0.Kind), (.int .i64 a0.N), w0_0, w0_1]), (.agg #[(.int .i64 a1.Kind), (.int .i64 a1.N), w1_0, w1_1]), (.agg #[(.int .i64 a2.Kind), (.int .i64 a2.N), w2_0, w2_1])]) (R := fun r en w' => ∃ v, en = .returned v ∧ impl_InSpan.Q s0.w F r v w') Try.func173 Try.ntmps173 rfl rfl m ?_
 unfold impl_InSpan.f
 refine sr ?_
 refine bx (cs := [(.int .i64 a0.Kind), (.int .i64 a0.N), w0_0, w0_1]) 40 rfl rfl rfl rfl rfl rfl (fun b4 s4 p4 B4 => ?_)
 refine bx (cs := [(.int .i64 a1.Kind), (.int .i64 a1.N), w1_0, w1_1]) 41 rfl rfl rfl rfl rfl rfl (fun b6 s6 p6 B6 => ?_)
 refine bx (cs := [(.int .i64 a2.Kind), (.int .i64 a2.N), w2_0, w2_1]) 42 rfl rfl rfl rfl rfl rfl (fun b8 s8 p8 B8 => ?_)
 refine pu rfl rfl rfl rfl rfl ?_
 refine dn ?_
 refine sr ?_
 have A10 := (BlF.st (BlF.st B4 p6 rfl) p8 rfl)
 refine lda (es := [(.int .i64 a0.Kind), (.int .i64 a0.N), w0_0, w0_1]) A10 Try.underlying48 z48 rfl rfl rfl rfl rfl rfl rfl rfl ?_
 have K11 := (((kp0.st p4 rfl).st p6 rfl).st p8 rfl)
 have A12 := (A0_1.kp K11)
 refine cl rfl rfl rfl rfl rfl Try.func141 rfl rfl rfl (fun r13 m13 => impl_KeyOk.calls a0 s8.w (fun b => memb [0] (s8.g b) = true) w0_0 w0_1 ((fl_rdf (s := s8) A0_0).sub (D := [0]) rfl) A12 r13 m13) ?_
 rintro r13 _ w13 m13 ⟨rfl, ky13⟩
 obtain ⟨s14, rfl, p14, n14⟩ := nwx s8 w13 43 ky13
 refine pu rfl rfl rfl rfl rfl ?_
 refine ji [6, 7, 8, 9, 10, 11, 12, 13, 14, 15, 16, 17, 18, 19, 20, 21, 22] (fun (y15 : Bool) (e : Env) (w : World) => ∃ (s : St) (e0 : Env), w = s.w ∧ e = upd (upd (upd (upd e0 3 (.pointer (some ⟨b4, 0, none⟩))) 4 (.pointer (some ⟨b6, 0, none⟩))) 5 (.pointer (some ⟨b8, 0, none⟩))) 12 (.bool y15) ∧ Kp s0 s ∧ BlF s b8 48 [(.int .i64 a2.Kind), (.int .i64 a2.N), w2_0, w2_1] 42 ∧ BlF s b6 48 [(.int .i64 a1.Kind), (.int .i64 a1.N), w1_0, w1_1] 41 ∧ BlF s b4 48 [(.int .i64 a0.Kind), (.int .i64 a0.N), w0_0, w0_1] 40) (fun Gj15 Kj15 => ?_) ?_
 ·
  rcases Bool.eq_false_or_eq_true r13 with hb15 | hb15
  ·
   refine sbT hb15 ?_
   rw [if_pos hb15]
   have A16 := (BlF.st (BlF.st B6 p8 rfl) p14 rfl)
   refine lda (es := [(.int .i64 a1.Kind), (.int .i64 a1.N), w1_0, w1_1]) A16 Try.underlying48 z48 rfl rfl rfl rfl rfl rfl rfl rfl ?_
   have K17 := (K11.st p14 rfl)
   have A18 := (A1_1.kp K17)
   refine cl rfl rfl rfl rfl rfl Try.func141 rfl rfl rfl (fun r19 m19 => impl_KeyOk.calls a1 s14.w (fun b => memb [0] (s14.g b) = true) w1_0 w1_1 ((fl_rdf (s := s14) A1_0).sub (D := [0]) rfl) A18 r19 m19) ?_
   rintro r19 _ w19 m19 ⟨rfl, ky19⟩
   obtain ⟨s20, rfl, p20, n20⟩ := nwx s14 w19 44 ky19
   refine pu rfl rfl rfl rfl rfl ?_
   have A21 := (BlF.st (BlF.st B8 p14 rfl) p20 rfl)
   have A22 := (BlF.st A16 p20 rfl)
   have A23 := (BlF.st (BlF.st A10 p14 rfl) p20 rfl)
   have K24 := (K17.st p20 rfl)
   exact Kj15 _ _ _ ⟨s20, _, rfl, (ue (ue (ue (ue rfl rfl) rfl) rfl) rfl), K24, A21, A22, A23⟩
  ·
   refine sbT hb15 ?_
   rw [if_neg (by rw [hb15]; decide)]
   refine uw rfl rfl rfl rfl ?_
   refine uw rfl rfl rfl rfl ?_
   refine pu rfl rfl rfl rfl rfl ?_
   have A25 := (BlF.st B8 p14 rfl)
   have A26 := (BlF.st (BlF.st B6 p8 rfl) p14 rfl)
   have A27 := (BlF.st A10 p14 rfl)
   have K28 := (K11.st p14 rfl)
   exact Kj15 _ _ _ ⟨s14, _, rfl, (ue (ue (ue (ue rfl rfl) rfl) rfl) rfl), K28, A25, A26, A27⟩
 rintro y15 _ _ ⟨s29, _, rfl, rfl, Ky15, By15_b8, By15_b6, By15_b4⟩
 refine pu rfl rfl rfl rfl rfl ?_
 refine ji [10, 11, 12, 13, 14, 15, 16, 17, 18, 19, 20, 21, 22] (fun (y33 : Bool) (e : Env) (w : World) => ∃ (s : St) (e0 : Env), w = s.w ∧ e = upd (upd (upd (upd e0 3 (.pointer (some ⟨b4, 0, none⟩))) 4 (.pointer (some ⟨b6, 0, none⟩))) 5 (.pointer (some ⟨b8, 0, none⟩))) 16 (.bool y33) ∧ Kp s0 s ∧ BlF s b8 48 [(.int .i64 a2.Kind), (.int .i64 a2.N), w2_0, w2_1] 42 ∧ BlF s b6 48 [(.int .i64 a1.Kind), (.int .i64 a1.N), w1_0, w1_1] 41 ∧ BlF s b4 48 [(.int .i64 a0.Kind), (.int .i64 a0.N), w0_0, w0_1] 40) (fun Gj33 Kj33 => ?_) ?_
 ·
  rcases Bool.eq_false_or_eq_true y15 with hb33 | hb33
  ·
   refine sbT hb33 ?_
   rw [if_pos hb33]
   refine lda (es := [(.int .i64 a2.Kind), (.int .i64 a2.N), w2_0, w2_1]) By15_b8 Try.underlying48 z48 rfl rfl rfl rfl rfl rfl rfl rfl ?_
   have A34 := (A2_1.kp Ky15)
   refine cl rfl rfl rfl rfl rfl Try.func141 rfl rfl rfl (fun r35 m35 => impl_KeyOk.calls a2 s29.w (fun b => memb [0] (s29.g b) = true) w2_0 w2_1 ((fl_rdf (s := s29) A2_0).sub (D := [0]) rfl) A34 r35 m35) ?_
   rintro r35 _ w35 m35 ⟨rfl, ky35⟩
   obtain ⟨s36, rfl, p36, n36⟩ := nwx s29 w35 45 ky35
   refine pu rfl rfl rfl rfl rfl ?_
   have A37 := (BlF.st By15_b8 p36 rfl)
   have A38 := (BlF.st By15_b6 p36 rfl)
   have A39 := (BlF.st By15_b4 p36 rfl)
   have K40 := (Ky15.st p36 rfl)
   exact Kj33 _ _ _ ⟨s36, _, rfl, (ue (ue (ue (ue rfl rfl) rfl) rfl) rfl), K40, A37, A38, A39⟩
  ·
   refine sbT hb33 ?_
   rw [if_neg (by rw [hb33]; decide)]
   refine uw rfl rfl rfl rfl ?_
   refine uw rfl rfl rfl rfl ?_
   refine pu rfl rfl rfl rfl rfl ?_
   exact Kj33 _ _ _ ⟨s29, _, rfl, (ue (ue (ue (ue rfl rfl) rfl) rfl) rfl), Ky15, By15_b8, By15_b6, By15_b4⟩
 rintro y33 _ _ ⟨s41, _, rfl, rfl, Ky33, By33_b8, By33_b6, By33_b4⟩
 refine pu rfl rfl rfl rfl rfl ?_
 refine ji [16, 17, 18, 19, 20, 21, 22] (fun (y45 : Bool) (e : Env) (w : World) => ∃ (s : St) (e0 : Env), w = s.w ∧ e = upd (upd (upd e0 4 (.pointer (some ⟨b6, 0, none⟩))) 5 (.pointer (some ⟨b8, 0, none⟩))) 22 (.bool y45) ∧ Kp s0 s ∧ BlF s b8 48 [(.int .i64 a2.Kind), (.int .i64 a2.N), w2_0, w2_1] 42 ∧ BlF s b6 48 [(.int .i64 a1.Kind), (.int .i64 a1.N), w1_0, w1_1] 41) (fun Gj45 Kj45 => ?_) ?_
 ·
  rcases Bool.eq_false_or_eq_true y33 with hb45 | hb45
  ·
   refine sbT hb45 ?_
   rw [if_pos hb45]
   refine lda (es := [(.int .i64 a0.Kind), (.int .i64 a0.N), w0_0, w0_1]) By33_b4 Try.underlying48 z48 rfl rfl rfl rfl rfl rfl rfl rfl ?_
   refine lda (es := [(.int .i64 a2.Kind), (.int .i64 a2.N), w2_0, w2_1]) By33_b8 Try.underlying48 z48 rfl rfl rfl rfl rfl rfl rfl rfl ?_
   have A46 := (A0_1.kp Ky33)
   have A47 := (A2_1.kp Ky33)
   refine cl rfl rfl rfl rfl rfl Try.func170 rfl rfl rfl (fun r48 m48 => impl_compareItems.calls a0 a2 s41.w (fun b => memb [0] (s41.g b) = true) w0_0 w0_1 w2_0 w2_1 ((fl_rdf (s := s41) A0_0).sub (D := [0]) rfl) A46 ((fl_rdf (s := s41) A2_0).sub (D := [0]) rfl) A47 r48 m48) ?_
   rintro r48 _ w48 m48 ⟨rfl, ky48⟩
   obtain ⟨s49, rfl, p49, n49⟩ := nwx s41 w48 46 ky48
   refine pu rfl rfl rfl rfl rfl ?_
   refine pu rfl rfl rfl rfl rfl ?_
   have A50 := (BlF.st By33_b8 p49 rfl)
   have A51 := (BlF.st By33_b6 p49 rfl)
   have K52 := (Ky33.st p49 rfl)
   exact Kj45 _ _ _ ⟨s49, _, rfl, (ue (ue (ue rfl rfl) rfl) rfl), K52, A50, A51⟩
  ·
   refine sbT hb45 ?_
   rw [if_neg (by rw [hb45]; decide)]
   refine uw rfl rfl rfl rfl ?_
   refine uw rfl rfl rfl rfl ?_
   refine uw rfl rfl rfl rfl ?_
   refine uw rfl rfl rfl rfl ?_
   refine pu rfl rfl rfl rfl rfl ?_
   exact Kj45 _ _ _ ⟨s41, _, rfl, (ue (ue (ue rfl rfl) rfl) rfl), Ky33, By33_b8, By33_b6⟩
 rintro y45 _ _ ⟨s53, _, rfl, rfl, Ky45, By45_b8, By45_b6⟩
 refine pu rfl rfl rfl rfl rfl ?_
 refine ji [22] (fun (y56 : Bool) (e : Env) (w : World) => ∃ (s : St) (e0 : Env), w = s.w ∧ e = upd e0 28 (.bool y56) ∧ Kp s0 s) (fun Gj56 Kj56 => ?_) ?_
 ·
  rcases Bool.eq_false_or_eq_true y45 with hb56 | hb56
  ·
   refine sbT hb56 ?_
   rw [if_pos hb56]
   refine lda (es := [(.int .i64 a2.Kind), (.int .i64 a2.N), w2_0, w2_1]) By45_b8 Try.underlying48 z48 rfl rfl rfl rfl rfl rfl rfl rfl ?_
   refine lda (es := [(.int .i64 a1.Kind), (.int .i64 a1.N), w1_0, w1_1]) By45_b6 Try.underlying48 z48 rfl rfl rfl rfl rfl rfl rfl rfl ?_
   have A57 := (A2_1.kp Ky45)
   have A58 := (A1_1.kp Ky45)
   refine cl rfl rfl rfl rfl rfl Try.func170 rfl rfl rfl (fun r59 m59 => impl_compareItems.calls a2 a1 s53.w (fun b => memb [0] (s53.g b) = true) w2_0 w2_1 w1_0 w1_1 ((fl_rdf (s := s53) A2_0).sub (D := [0]) rfl) A57 ((fl_rdf (s := s53) A1_0).sub (D := [0]) rfl) A58 r59 m59) ?_
   rintro r59 _ w59 m59 ⟨rfl, ky59⟩
   obtain ⟨s60, rfl, p60, n60⟩ := nwx s53 w59 47 ky59
   refine pu rfl rfl rfl rfl rfl ?_
   refine pu rfl rfl rfl rfl rfl ?_
   have K61 := (Ky45.st p60 rfl)
   exact Kj56 _ _ _ ⟨s60, _, rfl, (ue rfl rfl), K61⟩
  ·
   refine sbT hb56 ?_
   rw [if_neg (by rw [hb56]; decide)]
   refine uw rfl rfl rfl rfl ?_
   refine uw rfl rfl rfl rfl ?_
   refine uw rfl rfl rfl rfl ?_
   refine uw rfl rfl rfl rfl ?_
   refine pu rfl rfl rfl rfl rfl ?_
   exact Kj56 _ _ _ ⟨s53, _, rfl, (ue rfl rfl), Ky45⟩
 rintro y56 _ _ ⟨s62, _, rfl, rfl, Ky56⟩
 refine pu rfl rfl rfl rfl rfl ?_
 refine dn ?_
 exact re rfl Try.func173 rfl (r_t rfl r_nil) rfl ⟨_, rfl, rfl, z.ky Ky56⟩
noncomputable def impl_Span_has.f (a0 : Span) (a1 : Item) : Option (Bool) :=
 ((impl_InSpan.f a0.From a0.To a1).bind fun r13 => (some r13))
def impl_Span_has.Q (w : World) (F : Nat → Prop) (r : Bool) (v : Value) (w' : World) : Prop :=
 v = (.bool r) ∧ Ky [] w w'
set_option maxHeartbeats 4000000 in
set_option maxRecDepth 100000 in
theorem impl_Span_has.calls (a0 : Span) (a1 : Item) (w : World) (F : Nat → Prop) (w0_0 : Value) (w0_1 : Value) (w0_2 : Value) (w0_3 : Value) (w1_0 : Value) (w1_1 : Value) (h0_0 : Kd.flt.rd w [w0_0] a0.From.F F) (h0_1 : (Kd.sl 5 (Kd.int .u8)).rd w [w0_1] a0.From.T F) (h0_2 : Kd.flt.rd w [w0_2] a0.To.F F) (h0_3 : (Kd.sl 5 (Kd.int .u8)).rd w [w0_3] a0.To.T F) (h1_0 : Kd.flt.rd w [w1_0] a1.F F) (h1_1 : (Kd.sl 5 (Kd.int .u8)).rd w [w1_1] a1.T F) (r : Bool) (m : impl_Span_has.f a0 a1 = some r) :
  Calls Try.prog 116 #[(.agg #[(.int .i64 a0.From.Kind), (.int .i64 a0.From.N), w0_0, w0_1, (.int .i64 a0.To.Kind), (.int .i64 a0.To.N), w0_2, w0_3]), (.agg #[(.int .i64 a1.Kind), (.int .i64 a1.N), w1_0, w1_1])] w fun en w' => ∃ v, en = .returned v ∧ impl_Span_has.Q w F r v w' := by
 obtain ⟨s0, rfl, kp0, z⟩ := start0 w F
 have A0_0 := fl_of h0_0
 have A0_1 := z.rd h0_1
 have A0_2 := fl_of h0_2
 have A0_3 := z.rd h0_3
 have A1_0 := fl_of h1_0
 have A1_1 := z.rd h1_1
 refine calls_of_TM (args := [(.agg #[(.int .i64 a0.From.Kind), (.int .i64 a0.From.N), w0_0, w0_1, (.int .i64 a0.To.Kind), (.int .i64 a0.To.N), w0_2, w0_3]), (.agg #[(.int .i64 a1.Kind), (.int .i64 a1.N), w1_0, w1_1])]) (R := fun r en w' => ∃ v, en = .returned v ∧ impl_Span_has.Q s0.w F r v w') Try.func116 Try.ntmps116 rfl rfl m ?_
 unfold impl_Span_has.f
 refine sr ?_
 refine bx (cs := [(.int .i64 a0.From.Kind), (.int .i64 a0.From.N), w0_0, w0_1, (.int .i64 a0.To.Kind), (.int .i64 a0.To.N), w0_2, w0_3]) 40 rfl rfl rfl rfl rfl rfl (fun b4 s4 p4 B4 => ?_)
 refine bx (cs := [(.int .i64 a1.Kind), (.int .i64 a1.N), w1_0, w1_1]) 41 rfl rfl rfl rfl rfl rfl (fun b6 s6 p6 B6 => ?_)
 refine pu rfl rfl rfl rfl rfl ?_
 refine dn ?_
 refine sr ?_
 refine fa fa80_0 rfl rfl rfl rfl rfl rfl ?_
 have A8 := (BlF.st B4 p6 rfl)
 refine lda (es := [(.int .i64 a0.From.Kind), (.int .i64 a0.From.N), w0_0, w0_1]) A8 Try.underlying48 z48 rfl rfl rfl rfl rfl rfl rfl rfl ?_
 refine fa fa80_1 rfl rfl rfl rfl rfl rfl ?_
 refine lda (es := [(.int .i64 a0.To.Kind), (.int .i64 a0.To.N), w0_2, w0_3]) A8 Try.underlying48 z48 rfl rfl rfl rfl rfl rfl rfl rfl ?_
 refine lda (es := [(.int .i64 a1.Kind), (.int .i64 a1.N), w1_0, w1_1]) B6 Try.underlying48 z48 rfl rfl rfl rfl rfl rfl rfl rfl ?_
 have K9 := ((kp0.st p4 rfl).st p6 rfl)
 have A10 := (A0_1.kp K9)
 have A11 := (A0_3.kp K9)
 have A12 := (A1_1.kp K9)
 refine cl rfl rfl rfl rfl rfl Try.func173 rfl rfl rfl (fun r13 m13 => impl_InSpan.calls a0.From a0.To a1 s6.w (fun b => memb [0] (s6.g b) = true) w0_0 w0_1 w0_2 w0_3 w1_0 w1_1 ((fl_rdf (s := s6) A0_0).sub (D := [0]) rfl) A10 ((fl_rdf (s := s6) A0_2).sub (D := [0]) rfl) A11 ((fl_rdf (s := s6) A1_0).sub (D := [0]) rfl) A12 r13 m13) ?_
 rintro r13 _ w13 m13 ⟨rfl, ky13⟩
 obtain ⟨s14, rfl, p14, n14⟩ := nwx s6 w13 42 ky13
 refine pu rfl rfl rfl rfl rfl ?_
 refine dn ?_
 have K15 := (K9.st p14 rfl)
 exact re rfl Try.func116 rfl (r_t rfl r_nil) rfl ⟨_, rfl, rfl, z.ky K15⟩
noncomputable def impl_Deed_readsKey_1.f (a0 : Span) (a1 : Item) : Option (Bool) :=
 ((impl_Span_has.f a0 a1).bind fun r12 => (some r12))
def impl_Deed_readsKey_1.Q (w : World) (F : Nat → Prop) (r : Bool) (v : Value) (w' : World) : Prop :=
 v = (.bool r) ∧ Ky [] w w'
set_option maxHeartbeats 4000000 in
set_option maxRecDepth 100000 in
theorem impl_Deed_readsKey_1.calls (a0 : Span) (a1 : Item) (w : World) (F : Nat → Prop) (w0_0 : Value) (w0_1 : Value) (w0_2 : Value) (w0_3 : Value) (c1 : Nat) (w1_0 : Value) (w1_1 : Value) (h0_0 : Kd.flt.rd w [w0_0] a0.From.F F) (h0_1 : (Kd.sl 5 (Kd.int .u8)).rd w [w0_1] a0.From.T F) (h0_2 : Kd.flt.rd w [w0_2] a0.To.F F) (h0_3 : (Kd.sl 5 (Kd.int .u8)).rd w [w0_3] a0.To.T F) (h1_0 : Kd.flt.rd w [w1_0] a1.F F) (h1_1 : (Kd.sl 5 (Kd.int .u8)).rd w [w1_1] a1.T F) (hb1 : BlW w c1 48 [(.int .i64 a1.Kind), (.int .i64 a1.N), w1_0, w1_1]) (hp1 : F c1) (r : Bool) (m : impl_Deed_readsKey_1.f a0 a1 = some r) :
  Calls Try.prog 210 #[(.agg #[(.int .i64 a0.From.Kind), (.int .i64 a0.From.N), w0_0, w0_1, (.int .i64 a0.To.Kind), (.int .i64 a0.To.N), w0_2, w0_3]), (.pointer (some ⟨c1, 0, none⟩))] w fun en w' => ∃ v, en = .returned v ∧ impl_Deed_readsKey_1.Q w F r v w' := by
 obtain ⟨s0, rfl, kp0, z⟩ := start0 w F
 have A0_0 := fl_of h0_0
 have A0_1 := z.rd h0_1
 have A0_2 := fl_of h0_2
 have A0_3 := z.rd h0_3
 have B1 := z.b0 hb1 hp1
 have A1_0 := fl_of h1_0
 have A1_1 := z.rd h1_1
 refine calls_of_TM (args := [(.agg #[(.int .i64 a0.From.Kind), (.int .i64 a0.From.N), w0_0, w0_1, (.int .i64 a0.To.Kind), (.int .i64 a0.To.N), w0_2, w0_3]), (.pointer (some ⟨c1, 0, none⟩))]) (R := fun r en w' => ∃ v, en = .returned v ∧ impl_Deed_readsKey_1.Q s0.w F r v w') Try.func210 Try.ntmps210 rfl rfl m ?_
 unfold impl_Deed_readsKey_1.f
 refine sr ?_
 refine bx (cs := [(.int .i64 a0.From.Kind), (.int .i64 a0.From.N), w0_0, w0_1, (.int .i64 a0.To.Kind), (.int .i64 a0.To.N), w0_2, w0_3]) 40 rfl rfl rfl rfl rfl rfl (fun b5 s5 p5 B5 => ?_)
 refine pu rfl rfl rfl rfl rfl ?_
 refine dn ?_
 refine sr ?_
 refine lda (es := [(.int .i64 a0.From.Kind), (.int .i64 a0.From.N), w0_0, w0_1, (.int .i64 a0.To.Kind), (.int .i64 a0.To.N), w0_2, w0_3]) B5 Try.underlying80 z80 rfl rfl rfl rfl rfl rfl rfl rfl ?_
 have A7 := (BlF.st B1 p5 rfl)
 refine lda (es := [(.int .i64 a1.Kind), (.int .i64 a1.N), w1_0, w1_1]) A7 Try.underlying48 z48 rfl rfl rfl rfl rfl rfl rfl rfl ?_
 have K8 := (kp0.st p5 rfl)
 have A9 := (A0_1.kp K8)
 have A10 := (A0_3.kp K8)
 have A11 := (A1_1.kp K8)
 refine cl rfl rfl rfl rfl rfl Try.func116 rfl rfl rfl (fun r12 m12 => impl_Span_has.calls a0 a1 s5.w (fun b => memb [0] (s5.g b) = true) w0_0 w0_1 w0_2 w0_3 w1_0 w1_1 ((fl_rdf (s := s5) A0_0).sub (D := [0]) rfl) A9 ((fl_rdf (s := s5) A0_2).sub (D := [0]) rfl) A10 ((fl_rdf (s := s5) A1_0).sub (D := [0]) rfl) A11 r12 m12) ?_
 rintro r12 _ w12 m12 ⟨rfl, ky12⟩
 obtain ⟨s13, rfl, p13, n13⟩ := nwx s5 w12 41 ky12
 refine pu rfl rfl rfl rfl rfl ?_
 refine dn ?_
 have K14 := (K8.st p13 rfl)
 exact re rfl Try.func210 rfl (r_t rfl r_nil) rfl ⟨_, rfl, rfl, z.ky K14⟩
noncomputable def impl_Deed_readsKey.f (a0 : Deed) (a1 : Item) : Option (Bool) :=
 ((slices_ContainsFunc_impl_Span_impl_Span.f a0.Reads (fun x0 => impl_Deed_readsKey_1.f x0 a1)).bind fun r12 => (some r12))
def impl_Deed_readsKey.Q (w : World) (F : Nat → Prop) (r : Bool) (v : Value) (w' : World) : Prop :=
 v = (.bool r) ∧ Ky [] w w'
set_option maxHeartbeats 4000000 in
set_option maxRecDepth 100000 in
theorem impl_Deed_readsKey.calls (a0 : Deed) (a1 : Item) (w : World) (F : Nat → Prop) (w0_0 : Value) (w0_1 : Value) (w1_0 : Value) (w1_1 : Value) (h0_0 : (Kd.sl 80 kd80).rd w [w0_0] a0.Reads F) (h0_1 : (Kd.sl 48 kd48).rd w [w0_1] a0.Writes F) (h1_0 : Kd.flt.rd w [w1_0] a1.F F) (h1_1 : (Kd.sl 5 (Kd.int .u8)).rd w [w1_1] a1.T F) (r : Bool) (m : impl_Deed_readsKey.f a0 a1 = some r) :
  Calls Try.prog 181 #[(.agg #[(.int .i64 a0.Xid), (.int .i64 a0.Begun), (.int .i64 a0.Ended), w0_0, w0_1]), (.agg #[(.int .i64 a1.Kind), (.int .i64 a1.N), w1_0, w1_1])] w fun en w' => ∃ v, en = .returned v ∧ impl_Deed_readsKey.Q w F r v w' := by
 obtain ⟨s0, rfl, kp0, z⟩ := start0 w F
 have A0_0 := z.rd h0_0
 have A0_1 := z.rd h0_1
 have A1_0 := fl_of h1_0
 have A1_1 := z.rd h1_1
 refine calls_of_TM (args := [(.agg #[(.int .i64 a0.Xid), (.int .i64 a0.Begun), (.int .i64 a0.Ended), w0_0, w0_1]), (.agg #[(.int .i64 a1.Kind), (.int .i64 a1.N), w1_0, w1_1])]) (R := fun r en w' => ∃ v, en = .returned v ∧ impl_Deed_readsKey.Q s0.w F r v w') Try.func181 Try.ntmps181 rfl rfl m ?_
 unfold impl_Deed_readsKey.f
 refine sr ?_
 refine bx (cs := [(.int .i64 a0.Xid), (.int .i64 a0.Begun), (.int .i64 a0.Ended), w0_0, w0_1]) 40 rfl rfl rfl rfl rfl rfl (fun b4 s4 p4 B4 => ?_)
 refine bx (cs := [(.int .i64 a1.Kind), (.int .i64 a1.N), w1_0, w1_1]) 41 rfl rfl rfl rfl rfl rfl (fun b6 s6 p6 B6 => ?_)
 refine pu rfl rfl rfl rfl rfl ?_
 refine dn ?_
 refine sr ?_
 refine fa fa99_3 rfl rfl rfl rfl rfl rfl ?_
 have A8 := (BlF.st B4 p6 rfl)
 refine ld A8 Try.underlying56 rfl rfl rfl rfl rfl rfl rfl rfl ?_
 refine mkf (fs := []) (cs := [(.pointer (some ⟨b6, 0, none⟩))]) rfl rfl rfl rfl rfl rfl rfl ?_
 have K9 := ((kp0.st p4 rfl).st p6 rfl)
 have A10 := (A0_0.kp K9)
 have A11 := (A1_1.kp K9)
 refine cl rfl rfl rfl rfl rfl Try.func202 rfl rfl rfl (fun r12 m12 => slices_ContainsFunc_impl_Span_impl_Span.calls a0.Reads (fun x0 => impl_Deed_readsKey_1.f x0 a1) s6.w (fun b => memb [0] (s6.g b) = true) w0_0 (.func (.func 210) (List.toArray []) (List.toArray [(.pointer (some ⟨b6, 0, none⟩))])) A10 (fun x0 u0_0 u0_1 u0_2 u0_3 w' k h0 h1 h2 h3 r m =>  ⟨210, _, _, [], [(.pointer (some ⟨b6, 0, none⟩))], rfl, Try.func210, rfl, rfl, (impl_Deed_readsKey_1.calls x0 a1 w' (fun _ => True) u0_0 u0_1 u0_2 u0_3 b6 w1_0 w1_1 h0 h1 h2 h3 (fl_rd A1_0) (RdF.ky A11 k) (BlF.ky B6 k) trivial r m).mono fun en w2 hq => by obtain ⟨v, e, q⟩ := hq; exact ⟨v, e, q⟩⟩) rfl r12 m12) ?_
 rintro r12 _ w12 m12 ⟨rfl, ky12⟩
 obtain ⟨s13, rfl, p13, n13⟩ := nwx s6 w12 42 ky12
 refine pu rfl rfl rfl rfl rfl ?_
 refine dn ?_
 have K14 := (K9.st p13 rfl)
 exact re rfl Try.func181 rfl (r_t rfl r_nil) rfl ⟨_, rfl, rfl, z.ky K14⟩
noncomputable def impl_isAhead.f (a0 : Deed) (a1 : Deed) : Option (Bool) :=
 ((if (decide (a0.Ended < a1.Ended)) = true then ((slices_ContainsFunc_impl_Item_impl_Item.f a0.Writes (fun x0 => impl_Deed_writes.f a1 x0)).bind fun r15 => (some r15)) else (some false)).bind fun y10 => (if y10 = true then (some true) else ((if (decide (a0.Ended < a1.Begun)) = true then ((slices_ContainsFunc_impl_Item_impl_Item.f a0.Writes (fun x0 => impl_Deed_readsKey.f a1 x0)).bind fun r29 => (some r29)) else (some false)).bind fun y25 => (if y25 = true then (some true) else ((if (decide (a1.Ended > a0.Begun)) = true then ((slices_ContainsFunc_impl_Item_impl_Item.f a1.Writes (fun x0 => impl_Deed_readsKey.f a0 x0)).bind fun r42 => (some r42)) else (some false)).bind fun y38 => (some y38))))))
def impl_isAhead.Q (w : World) (F : Nat → Prop) (r : Bool) (v : Value) (w' : World) : Prop :=
 v = (.bool r) ∧ Ky [] w w'
set_option maxHeartbeats 4000000 in
set_option maxRecDepth 100000 in
theorem impl_isAhead.calls (a0 : Deed) (a1 : Deed) (w : World) (F : Nat → Prop) (w0_0 : Value) (w0_1 : Value) (w1_0 : Value) (w1_1 : Value) (h0_0 : (Kd.sl 80 kd80).rd w [w0_0] a0.Reads F) (h0_1 : (Kd.sl 48 kd48).rd w [w0_1] a0.Writes F) (h1_0 : (Kd.sl 80 kd80).rd w [w1_0] a1.Reads F) (h1_1 : (Kd.sl 48 kd48).rd w [w1_1] a1.Writes F) (r : Bool) (m : impl_isAhead.f a0 a1 = some r) :
  Calls Try.prog 128 #[(.agg #[(.int .i64 a0.Xid), (.int .i64 a0.Begun), (.int .i64 a0.Ended), w0_0, w0_1]), (.agg #[(.int .i64 a1.Xid), (.int .i64 a1.Begun), (.int .i64 a1.Ended), w1_0, w1_1])] w fun en w' => ∃ v, en = .returned v ∧ impl_isAhead.Q w F r v w' := by
 obtain ⟨s0, rfl, kp0, z⟩ := start0 w F
 have A0_0 := z.rd h0_0
 have A0_1 := z.rd h0_1
 have A1_0 := z.rd h1_0
 have A1_1 := z.rd h1_1
 refine calls_of_TM (args := [(.agg #[(.int .i64 a0.Xid), (.int .i64 a0.Begun), (.int .i64 a0.Ended), w0_0, w0_1]), (.agg #[(.int .i64 a1.Xid), (.int .i64 a1.Begun), (.int .i64 a1.Ended), w1_0, w1_1])]) (R := fun r en w' => ∃ v, en = .returned v ∧ impl_isAhead.Q s0.w F r v w') Try.func128 Try.ntmps128 rfl rfl m ?_
 unfold impl_isAhead.f
 refine sr ?_
 refine bx (cs := [(.int .i64 a0.Xid), (.int .i64 a0.Begun), (.int .i64 a0.Ended), w0_0, w0_1]) 40 rfl rfl rfl rfl rfl rfl (fun b5 s5 p5 B5 => ?_)
 refine bx (cs := [(.int .i64 a1.Xid), (.int .i64 a1.Begun), (.int .i64 a1.Ended), w1_0, w1_1]) 41 rfl rfl rfl rfl rfl rfl (fun b7 s7 p7 B7 => ?_)
 refine pu rfl rfl rfl rfl rfl ?_
 refine dn ?_
 refine sq ?_
 refine bl ?_
 refine sr ?_
 refine fa fa99_2 rfl rfl rfl rfl rfl rfl ?_
 have A9 := (BlF.st B5 p7 rfl)
 refine ld A9 Try.underlying3 rfl rfl rfl rfl rfl rfl rfl rfl ?_
 refine fa fa99_2 rfl rfl rfl rfl rfl rfl ?_
 refine ld B7 Try.underlying3 rfl rfl rfl rfl rfl rfl rfl rfl ?_
 refine pu rfl rfl rfl rfl rfl ?_
 refine pu rfl rfl rfl rfl rfl ?_
 refine ji [12] (fun (y10 : Bool) (e : Env) (w : World) => ∃ (s : St) (e0 : Env), w = s.w ∧ e = upd (upd (upd e0 2 (.pointer (some ⟨b5, 0, none⟩))) 3 (.pointer (some ⟨b7, 0, none⟩))) 17 (.bool y10) ∧ Kp s0 s ∧ BlF s b7 99 [(.int .i64 a1.Xid), (.int .i64 a1.Begun), (.int .i64 a1.Ended), w1_0, w1_1] 41 ∧ BlF s b5 99 [(.int .i64 a0.Xid), (.int .i64 a0.Begun), (.int .i64 a0.Ended), w0_0, w0_1] 40) (fun Gj10 Kj10 => ?_) ?_
 ·
  rcases Bool.eq_false_or_eq_true (decide (a0.Ended < a1.Ended)) with hb10 | hb10
  ·
   refine sbT hb10 ?_
   rw [if_pos hb10]
   refine fa fa99_4 rfl rfl rfl rfl rfl rfl ?_
   refine ld A9 Try.underlying57 rfl rfl rfl rfl rfl rfl rfl rfl ?_
   refine lda (es := [(.int .i64 a1.Xid), (.int .i64 a1.Begun), (.int .i64 a1.Ended), w1_0, w1_1]) B7 Try.underlying99 z99 rfl rfl rfl rfl rfl rfl rfl rfl ?_
   refine mkf (fs := [(.agg #[(.int .i64 a1.Xid), (.int .i64 a1.Begun), (.int .i64 a1.Ended), w1_0, w1_1])]) (cs := []) rfl rfl rfl rfl rfl rfl rfl ?_
   have K11 := ((kp0.st p5 rfl).st p7 rfl)
   have A12 := (A0_1.kp K11)
   have A13 := (A1_0.kp K11)
   have A14 := (A1_1.kp K11)
   refine cl rfl rfl rfl rfl rfl Try.func115 rfl rfl rfl (fun r15 m15 => slices_ContainsFunc_impl_Item_impl_Item.calls a0.Writes (fun x0 => impl_Deed_writes.f a1 x0) s7.w (fun b => memb [0] (s7.g b) = true) w0_1 (.func (.func 180) (List.toArray [(.agg #[(.int .i64 a1.Xid), (.int .i64 a1.Begun), (.int .i64 a1.Ended), w1_0, w1_1])]) (List.toArray [])) A12 (fun x0 u0_0 u0_1 w' k h0 h1 r m =>  ⟨180, _, _, [(.agg #[(.int .i64 a1.Xid), (.int .i64 a1.Begun), (.int .i64 a1.Ended), w1_0, w1_1])], [], rfl, Try.func180, rfl, rfl, (impl_Deed_writes.calls a1 x0 w' (fun _ => True) w1_0 w1_1 u0_0 u0_1 (RdF.ky A13 k) (RdF.ky A14 k) h0 h1 r m).mono fun en w2 hq => by obtain ⟨v, e, q⟩ := hq; exact ⟨v, e, q⟩⟩) rfl r15 m15) ?_
   rintro r15 _ w15 m15 ⟨rfl, ky15⟩
   obtain ⟨s16, rfl, p16, n16⟩ := nwx s7 w15 42 ky15
   refine pu rfl rfl rfl rfl rfl ?_
   have A17 := (BlF.st B7 p16 rfl)
   have A18 := (BlF.st A9 p16 rfl)
   have K19 := (K11.st p16 rfl)
   exact Kj10 _ _ _ ⟨s16, _, rfl, (ue (ue (ue rfl rfl) rfl) rfl), K19, A17, A18⟩
  ·
   refine sbT hb10 ?_
   rw [if_neg (by rw [hb10]; decide)]
   refine uw rfl rfl rfl rfl ?_
   refine uw rfl rfl rfl rfl ?_
   refine uw rfl rfl rfl rfl ?_
   refine uw rfl rfl rfl rfl ?_
   refine uw rfl rfl rfl rfl ?_
   refine pu rfl rfl rfl rfl rfl ?_
   have K20 := ((kp0.st p5 rfl).st p7 rfl)
   exact Kj10 _ _ _ ⟨s7, _, rfl, (ue (ue (ue rfl rfl) rfl) rfl), K20, B7, A9⟩
 rintro y10 _ _ ⟨s21, _, rfl, rfl, Ky10, By10_b7, By10_b5⟩
 refine pu rfl rfl rfl rfl rfl ?_
 refine dn ?_
 refine cd rfl (fun h24 => ?_) (fun h24 => ?_)
 ·
  refine sr ?_
  refine pu rfl rfl rfl rfl rfl ?_
  refine dn ?_
  exact re rfl Try.func128 rfl (r_t rfl r_nil) rfl ⟨_, rfl, rfl, z.ky Ky10⟩
 ·
  refine sr ?_
  refine fa fa99_2 rfl rfl rfl rfl rfl rfl ?_
  refine ld By10_b5 Try.underlying3 rfl rfl rfl rfl rfl rfl rfl rfl ?_
  refine fa fa99_1 rfl rfl rfl rfl rfl rfl ?_
  refine ld By10_b7 Try.underlying3 rfl rfl rfl rfl rfl rfl rfl rfl ?_
  refine pu rfl rfl rfl rfl rfl ?_
  refine pu rfl rfl rfl rfl rfl ?_
  refine ji [12] (fun (y25 : Bool) (e : Env) (w : World) => ∃ (s : St) (e0 : Env), w = s.w ∧ e = upd (upd (upd e0 2 (.pointer (some ⟨b5, 0, none⟩))) 3 (.pointer (some ⟨b7, 0, none⟩))) 30 (.bool y25) ∧ Kp s0 s ∧ BlF s b7 99 [(.int .i64 a1.Xid), (.int .i64 a1.Begun), (.int .i64 a1.Ended), w1_0, w1_1] 41 ∧ BlF s b5 99 [(.int .i64 a0.Xid), (.int .i64 a0.Begun), (.int .i64 a0.Ended), w0_0, w0_1] 40) (fun Gj25 Kj25 => ?_) ?_
  ·
   rcases Bool.eq_false_or_eq_true (decide (a0.Ended < a1.Begun)) with hb25 | hb25
   ·
    refine sbT hb25 ?_
    rw [if_pos hb25]
    refine fa fa99_4 rfl rfl rfl rfl rfl rfl ?_
    refine ld By10_b5 Try.underlying57 rfl rfl rfl rfl rfl rfl rfl rfl ?_
    refine lda (es := [(.int .i64 a1.Xid), (.int .i64 a1.Begun), (.int .i64 a1.Ended), w1_0, w1_1]) By10_b7 Try.underlying99 z99 rfl rfl rfl rfl rfl rfl rfl rfl ?_
    refine mkf (fs := [(.agg #[(.int .i64 a1.Xid), (.int .i64 a1.Begun), (.int .i64 a1.Ended), w1_0, w1_1])]) (cs := []) rfl rfl rfl rfl rfl rfl rfl ?_
    have A26 := (A0_1.kp Ky10)
    have A27 := (A1_0.kp Ky10)
    have A28 := (A1_1.kp Ky10)
    refine cl rfl rfl rfl rfl rfl Try.func115 rfl rfl rfl (fun r29 m29 => slices_ContainsFunc_impl_Item_impl_Item.calls a0.Writes (fun x0 => impl_Deed_readsKey.f a1 x0) s21.w (fun b => memb [0] (s21.g b) = true) w0_1 (.func (.func 181) (List.toArray [(.agg #[(.int .i64 a1.Xid), (.int .i64 a1.Begun), (.int .i64 a1.Ended), w1_0, w1_1])]) (List.toArray [])) A26 (fun x0 u0_0 u0_1 w' k h0 h1 r m =>  ⟨181, _, _, [(.agg #[(.int .i64 a1.Xid), (.int .i64 a1.Begun), (.int .i64 a1.Ended), w1_0, w1_1])], [], rfl, Try.func181, rfl, rfl, (impl_Deed_readsKey.calls a1 x0 w' (fun _ => True) w1_0 w1_1 u0_0 u0_1 (RdF.ky A27 k) (RdF.ky A28 k) h0 h1 r m).mono fun en w2 hq => by obtain ⟨v, e, q⟩ := hq; exact ⟨v, e, q⟩⟩) rfl r29 m29) ?_
    rintro r29 _ w29 m29 ⟨rfl, ky29⟩
    obtain ⟨s30, rfl, p30, n30⟩ := nwx s21 w29 43 ky29
    refine pu rfl rfl rfl rfl rfl ?_
    have A31 := (BlF.st By10_b7 p30 rfl)
    have A32 := (BlF.st By10_b5 p30 rfl)
    have K33 := (Ky10.st p30 rfl)
    exact Kj25 _ _ _ ⟨s30, _, rfl, (ue (ue (ue rfl rfl) rfl) rfl), K33, A31, A32⟩
   ·
    refine sbT hb25 ?_
    rw [if_neg (by rw [hb25]; decide)]
    refine uw rfl rfl rfl rfl ?_
    refine uw rfl rfl rfl rfl ?_
    refine uw rfl rfl rfl rfl ?_
    refine uw rfl rfl rfl rfl ?_
    refine uw rfl rfl rfl rfl ?_
    refine pu rfl rfl rfl rfl rfl ?_
    exact Kj25 _ _ _ ⟨s21, _, rfl, (ue (ue (ue rfl rfl) rfl) rfl), Ky10, By10_b7, By10_b5⟩
  rintro y25 _ _ ⟨s34, _, rfl, rfl, Ky25, By25_b7, By25_b5⟩
  refine pu rfl rfl rfl rfl rfl ?_
  refine dn ?_
  refine cd rfl (fun h37 => ?_) (fun h37 => ?_)
  ·
   refine sr ?_
   refine pu rfl rfl rfl rfl rfl ?_
   refine dn ?_
   exact re rfl Try.func128 rfl (r_t rfl r_nil) rfl ⟨_, rfl, rfl, z.ky Ky25⟩
  ·
   refine sk ?_
   refine ib ?_
   refine sr ?_
   refine fa fa99_2 rfl rfl rfl rfl rfl rfl ?_
   refine ld By25_b7 Try.underlying3 rfl rfl rfl rfl rfl rfl rfl rfl ?_
   refine fa fa99_1 rfl rfl rfl rfl rfl rfl ?_
   refine ld By25_b5 Try.underlying3 rfl rfl rfl rfl rfl rfl rfl rfl ?_
   refine pu rfl rfl rfl rfl rfl ?_
   refine pu rfl rfl rfl rfl rfl ?_
   refine ji [12] (fun (y38 : Bool) (e : Env) (w : World) => ∃ (s : St) (e0 : Env), w = s.w ∧ e = upd e0 42 (.bool y38) ∧ Kp s0 s) (fun Gj38 Kj38 => ?_) ?_
   ·
    rcases Bool.eq_false_or_eq_true (decide (a1.Ended > a0.Begun)) with hb38 | hb38
    ·
     refine sbT hb38 ?_
     rw [if_pos hb38]
     refine fa fa99_4 rfl rfl rfl rfl rfl rfl ?_
     refine ld By25_b7 Try.underlying57 rfl rfl rfl rfl rfl rfl rfl rfl ?_
     refine lda (es := [(.int .i64 a0.Xid), (.int .i64 a0.Begun), (.int .i64 a0.Ended), w0_0, w0_1]) By25_b5 Try.underlying99 z99 rfl rfl rfl rfl rfl rfl rfl rfl ?_
     refine mkf (fs := [(.agg #[(.int .i64 a0.Xid), (.int .i64 a0.Begun), (.int .i64 a0.Ended), w0_0, w0_1])]) (cs := []) rfl rfl rfl rfl rfl rfl rfl ?_
     have A39 := (A1_1.kp Ky25)
     have A40 := (A0_0.kp Ky25)
     have A41 := (A0_1.kp Ky25)
     refine cl rfl rfl rfl rfl rfl Try.func115 rfl rfl rfl (fun r42 m42 => slices_ContainsFunc_impl_Item_impl_Item.calls a1.Writes (fun x0 => impl_Deed_readsKey.f a0 x0) s34.w (fun b => memb [0] (s34.g b) = true) w1_1 (.func (.func 181) (List.toArray [(.agg #[(.int .i64 a0.Xid), (.int .i64 a0.Begun), (.int .i64 a0.Ended), w0_0, w0_1])]) (List.toArray [])) A39 (fun x0 u0_0 u0_1 w' k h0 h1 r m =>  ⟨181, _, _, [(.agg #[(.int .i64 a0.Xid), (.int .i64 a0.Begun), (.int .i64 a0.Ended), w0_0, w0_1])], [], rfl, Try.func181, rfl, rfl, (impl_Deed_readsKey.calls a0 x0 w' (fun _ => True) w0_0 w0_1 u0_0 u0_1 (RdF.ky A40 k) (RdF.ky A41 k) h0 h1 r m).mono fun en w2 hq => by obtain ⟨v, e, q⟩ := hq; exact ⟨v, e, q⟩⟩) rfl r42 m42) ?_
     rintro r42 _ w42 m42 ⟨rfl, ky42⟩
     obtain ⟨s43, rfl, p43, n43⟩ := nwx s34 w42 44 ky42
     refine pu rfl rfl rfl rfl rfl ?_
     have K44 := (Ky25.st p43 rfl)
     exact Kj38 _ _ _ ⟨s43, _, rfl, (ue rfl rfl), K44⟩
    ·
     refine sbT hb38 ?_
     rw [if_neg (by rw [hb38]; decide)]
     refine uw rfl rfl rfl rfl ?_
     refine uw rfl rfl rfl rfl ?_
     refine uw rfl rfl rfl rfl ?_
     refine uw rfl rfl rfl rfl ?_
     refine uw rfl rfl rfl rfl ?_
     refine pu rfl rfl rfl rfl rfl ?_
     exact Kj38 _ _ _ ⟨s34, _, rfl, (ue rfl rfl), Ky25⟩
   rintro y38 _ _ ⟨s45, _, rfl, rfl, Ky38⟩
   refine pu rfl rfl rfl rfl rfl ?_
   refine dn ?_
   exact re rfl Try.func128 rfl (r_t rfl r_nil) rfl ⟨_, rfl, rfl, z.ky Ky38⟩
noncomputable def impl_ahead.b1 (a0 : (List Deed)) (x6 : (List (List Int)) × Int) (x11 : (List (List Int)) × Int) : Option (((List (List Int)) × Int) ⊕ ((List (List Int)) × Int ⊕ (List (List Int)))) :=
 (if (decide (x11.2 < (a0.length : Int))) = true then ((if (x11.2 != x6.2) = true then (if 0 ≤ x11.2 ∧ x11.2 < (a0.length : Int) then (if 0 ≤ x6.2 ∧ x6.2 < (a0.length : Int) then ((impl_isAhead.f (at_ a0 x11.2) (at_ a0 x6.2)).bind fun r39 => (some r39)) else none) else none) else (some false)).bind fun y20 => ((if y20 = true then (if 0 ≤ x6.2 ∧ x6.2 < (x11.1.length : Int) then (if (at_ x11.1 x6.2).length + ([x11.2]).length ≤ Lim then (if 0 ≤ x6.2 ∧ x6.2 < (x11.1.length : Int) then (some (x11.1.set (x6.2).toNat ((at_ x11.1 x6.2) ++ [x11.2]))) else none) else none) else none) else (some x11.1)).bind fun y54 => (some (Sum.inl (y54, (IntKind.wrap .i64 (x11.2 + (1 : Int)))))))) else ((some (Sum.inl (x11.1, (IntKind.wrap .i64 (x6.2 + (1 : Int)))))).bind fun o => some (Sum.inr o)))
noncomputable def impl_ahead.b0 (a0 : (List Deed)) (x6 : (List (List Int)) × Int) : Option (((List (List Int)) × Int) ⊕ (List (List Int))) :=
 (if (decide (x6.2 < (a0.length : Int))) = true then (iter (impl_ahead.b1 a0 x6) (x6.1, (0 : Int))) else ((some x6.1).bind fun o => some (Sum.inr o)))
noncomputable def impl_ahead.f (a0 : (List Deed)) : Option ((List (List Int))) :=
 (if 0 ≤ (a0.length : Int) ∧ (a0.length : Int) ≤ (Lim : Int) then (iter (impl_ahead.b0 a0) ((List.replicate ((a0.length : Int)).toNat ([] : (List Int))), (0 : Int))) else none)
def impl_ahead.Q (w : World) (F : Nat → Prop) (r : (List (List Int))) (v : Value) (w' : World) : Prop :=
 FO (Kd.sl 24 (Kd.sl 3 (Kd.int .i64))) w w' [v] r ∧ Ky [] w w'
set_option maxHeartbeats 4000000 in
set_option maxRecDepth 100000 in
theorem impl_ahead.calls (a0 : (List Deed)) (w : World) (F : Nat → Prop) (w0_0 : Value) (h0_0 : (Kd.sl 99 kd99).rd w [w0_0] a0 F) (r : (List (List Int))) (m : impl_ahead.f a0 = some r) :
  Calls Try.prog 53 #[w0_0] w fun en w' => ∃ v, en = .returned v ∧ impl_ahead.Q w F r v w' := by
 obtain ⟨s0, rfl, kp0, z⟩ := start0 w F
 have A0_0 := z.rd h0_0
 refine calls_of_TM (args := [w0_0]) (R := fun r en w' => ∃ v, en = .returned v ∧ impl_ahead.Q s0.w F r v w') Try.func53 Try.ntmps53 rfl rfl m ?_
 unfold impl_ahead.f
 refine sr ?_
 refine pu rfl rfl rfl rfl rfl ?_
 refine dn ?_
 refine sr ?_
 refine mv w0_0 rfl rfl rfl rfl rfl rfl ?_
 refine ln A0_0 Try.underlying26 rfl rfl rfl rfl rfl rfl ?_
 refine mk (x0 := ([] : (List Int))) (K := (Kd.sl 3 (Kd.int .i64))) 40 sl101 o24 (fun _ => ⟨_, rfl, [], [], [], rfl, ⟨by simp, .inl ⟨rfl, rfl, rfl⟩⟩, ⟨rfl, rfl⟩⟩) rfl rfl rfl rfl rfl rfl rfl (fun v2 s2 p2 A2 => ?_)
 refine asg v2 rfl rfl rfl rfl rfl rfl ?_
 refine dn ?_
 refine sq ?_
 refine sr ?_
 refine mv w0_0 rfl rfl rfl rfl rfl rfl ?_
 have K4 := (kp0.st p2 rfl)
 have A5 := (A0_0.kp K4)
 refine ln A5 Try.underlying26 rfl rfl rfl rfl rfl rfl ?_
 refine pu rfl rfl rfl rfl rfl ?_
 refine dn ?_
 refine bl ?_
 refine lpI (fun (x6 : (List (List Int)) × Int) (e : Env) (w : World) => ∃ (s : St) (e0 : Env), w = s.w ∧ e = upd (upd (upd (upd e0 0 w0_0) 3 v2) 10 (.int .i64 (a0.length : Int))) 11 (.int .i64 x6.2) ∧ Kp s0 s ∧ OwF (Kd.sl 24 (Kd.sl 3 (Kd.int .i64))) s [v2] x6.1 40) ⟨s2, _, rfl, (ue (ue (ue (ue rfl rfl) rfl) rfl) rfl), K4, A2⟩ (fun g6 ih6 => ?_)
 rintro x6 _ _ ⟨s7, _, rfl, rfl, Kx6, Ax6_0⟩
 unfold impl_ahead.b0
 refine sr ?_
 refine pu rfl rfl rfl rfl rfl ?_
 refine dn ?_
 refine sq ?_
 refine cd rfl (fun h9 => ?_) (fun h9 => ?_)
 ·
  refine sk ?_
  refine sq ?_
  refine bl ?_
  refine sr ?_
  refine pu rfl rfl rfl rfl rfl ?_
  refine pu rfl rfl rfl rfl rfl ?_
  refine dn ?_
  refine sr ?_
  refine mv w0_0 rfl rfl rfl rfl rfl rfl ?_
  have A10 := (A0_0.kp Kx6)
  refine ln A10 Try.underlying26 rfl rfl rfl rfl rfl rfl ?_
  refine pu rfl rfl rfl rfl rfl ?_
  refine dn ?_
  refine bl ?_
  refine lpI (fun (x11 : (List (List Int)) × Int) (e : Env) (w : World) => ∃ (s : St) (e0 : Env), w = s.w ∧ e = upd (upd (upd (upd (upd (upd (upd e0 0 w0_0) 3 v2) 4 (.int .i64 x6.2)) 10 (.int .i64 (a0.length : Int))) 11 (.int .i64 x6.2)) 15 (.int .i64 (a0.length : Int))) 16 (.int .i64 x11.2) ∧ Kp s0 s ∧ OwF (Kd.sl 24 (Kd.sl 3 (Kd.int .i64))) s [v2] x11.1 40) ⟨s7, _, rfl, (ue (ue (ue (ue (ue (ue (ue rfl rfl) rfl) rfl) rfl) rfl) rfl) rfl), Kx6, Ax6_0⟩ (fun g11 ih11 => ?_)
  rintro x11 _ _ ⟨s12, _, rfl, rfl, Kx11, Ax11_0⟩
  unfold impl_ahead.b1
  refine sr ?_
  refine pu rfl rfl rfl rfl rfl ?_
  refine dn ?_
  refine sq ?_
  refine cd rfl (fun h14 => ?_) (fun h14 => ?_)
  ·
   refine sk ?_
   refine sq ?_
   refine bl ?_
   refine sr ?_
   refine pu rfl rfl rfl rfl rfl ?_
   refine pu rfl rfl rfl rfl rfl ?_
   refine dn ?_
   refine sq ?_
   refine zdraw [[], [], [0, 1], [2], [3], [3], [4, 5, 3], [6, 3], [3], [3], [8, 9, 3], [10, 3], [7, 11, 3, 3], [3, 12]] [some 19, some 20, some 21, some 22, some 23, some 24, some 25, some 26, some 27, some 28, some 29, some 30, some 31, some 32] [[5], [4], [19, 20], [21], [0, 22], [5, 22], [23, 24, 22], [25, 22], [0, 22], [4, 22], [27, 28, 22], [29, 22], [26, 30, 22], [22, 31]] [0, 1, 2, 3, 4, 5, 6, 7, 8, 9, 10, 11, 12, 13] ⟨by kernel_rfl, by kernel_rfl, by kernel_rfl⟩ (by kernel_rfl) (fun s15 p15 l15 tb15 zd15 => ?_)
   have zd16 := zd15.add 0 19 (.int .i64 x11.2) rfl
   have zd17 := zd16.add 1 20 (.int .i64 x6.2) rfl
   have zd18 := zd17.add 2 21 (.bool (x11.2 != x6.2)) rfl
   have zd19 := zd18.add 3 22 (.bool (x11.2 != x6.2)) rfl
   refine ji [] (fun (y20 : Bool) (e : Env) (w : World) => ∃ (s : St) (e0 : Env), w = s.w ∧ e = upd (upd (upd (upd (upd (upd (upd (upd (upd e0 0 w0_0) 3 v2) 4 (.int .i64 x6.2)) 5 (.int .i64 x11.2)) 10 (.int .i64 (a0.length : Int))) 11 (.int .i64 x6.2)) 15 (.int .i64 (a0.length : Int))) 16 (.int .i64 x11.2)) 32 (.bool y20) ∧ Kp s0 s ∧ OwF (Kd.sl 24 (Kd.sl 3 (Kd.int .i64))) s [v2] x11.1 40) (fun Gj20 Kj20 => ?_) ?_
   ·
    rcases Bool.eq_false_or_eq_true (x11.2 != x6.2) with hb20 | hb20
    ·
     rw [if_pos hb20]
     rw [hb20] at zd19
     try rw [hb20]
     have zd21 := zd19.add 4 23 w0_0 rfl
     have zd22 := zd21.add 5 24 (.int .i64 x11.2) rfl
     have K23 := (Kx11.st p15 rfl)
     have A24 := (A0_0.kp K23)
     refine mg fun hg25 => ?_
     obtain ⟨ad25, es25, he25, ce25, ia25⟩ := ix_e A24 rfl hg25.1 hg25.2
     have h0_25 := hg25.1
     have h1_25 := hg25.2
     obtain ⟨v25_0, v25_1, rfl, A25_0, A25_1⟩ := op99 he25
     have zd29 := zd22.add 6 25 (.pointer (some ad25)) rfl
     have zd30 := zd29.add 7 26 (.agg #[(.int .i64 ((at_ a0 x11.2).Xid)), (.int .i64 ((at_ a0 x11.2).Begun)), (.int .i64 ((at_ a0 x11.2).Ended)), v25_0, v25_1]) rfl
     have zd31 := zd30.add 8 27 w0_0 rfl
     have zd32 := zd31.add 9 28 (.int .i64 x6.2) rfl
     refine mg fun hg33 => ?_
     obtain ⟨ad33, es33, he33, ce33, ia33⟩ := ix_e A24 rfl hg33.1 hg33.2
     have h0_33 := hg33.1
     have h1_33 := hg33.2
     obtain ⟨v33_0, v33_1, rfl, A33_0, A33_1⟩ := op99 he33
     have zd37 := zd32.add 10 29 (.pointer (some ad33)) rfl
     have zd38 := zd37.add 11 30 (.agg #[(.int .i64 ((at_ a0 x6.2).Xid)), (.int .i64 ((at_ a0 x6.2).Begun)), (.int .i64 ((at_ a0 x6.2).Ended)), v33_0, v33_1]) rfl
     refine zfin [12, 13] tb15 zd38 (pq_cons (lca_q ce33 Try.underlying99 z99 rfl rfl rfl rfl rfl rfl rfl) rfl (pq_cons (ix_q A24 Try.underlying26 z99 hg33.1 hg33.2 ia33 rfl rfl rfl rfl rfl rfl rfl) rfl (pq_cons (pu_q rfl rfl rfl rfl rfl rfl) rfl (pq_cons (mv_q w0_0 rfl rfl rfl rfl rfl rfl) rfl (pq_cons (lca_q ce25 Try.underlying99 z99 rfl rfl rfl rfl rfl rfl rfl) rfl (pq_cons (ix_q A24 Try.underlying26 z99 hg25.1 hg25.2 ia25 rfl rfl rfl rfl rfl rfl rfl) rfl (pq_cons (pu_q rfl rfl rfl rfl rfl rfl) rfl (pq_cons (mv_q w0_0 rfl rfl rfl rfl rfl rfl) rfl (pq_cons (pu_q rfl rfl rfl rfl rfl rfl) rfl (pq_cons (qv_b (pu_q rfl rfl rfl rfl rfl rfl) hb20) rfl (pq_cons (pu_q rfl rfl rfl rfl rfl rfl) rfl (pq_cons (pu_q rfl rfl rfl rfl rfl rfl) rfl pq_nil)))))))))))) (by kernel_rfl) (by decide) ?_
     refine cl rfl rfl rfl rfl rfl Try.func128 rfl rfl rfl (fun r39 m39 => impl_isAhead.calls (at_ a0 x11.2) (at_ a0 x6.2) s15.w (fun b => memb [0] (s15.g b) = true) v25_0 v25_1 v33_0 v33_1 A25_0 A25_1 A33_0 A33_1 r39 m39) ?_
     rintro r39 _ w39 m39 ⟨rfl, ky39⟩
     obtain ⟨s40, rfl, p40, n40⟩ := nwx s15 w39 41 ky39
     refine pu rfl rfl rfl rfl rfl ?_
     have A41 := ((Ax11_0.st p15 rfl).st p40 rfl)
     have K42 := (K23.st p40 rfl)
     exact Kj20 _ _ _ ⟨s40, _, rfl, (ue (ue (ue (ue (ue (ue (ue (ue (ue rfl rfl) rfl) rfl) rfl) rfl) rfl) rfl) rfl) rfl), K42, A41⟩
    ·
     rw [if_neg (by rw [hb20]; decide)]
     rw [hb20] at zd19
     try rw [hb20]
     have zd43 := zd19.add 4 23 undef rfl
     have zd44 := zd43.add 5 24 undef rfl
     have zd45 := zd44.add 6 25 undef rfl
     have zd46 := zd45.add 7 26 undef rfl
     have zd47 := zd46.add 8 27 undef rfl
     have zd48 := zd47.add 9 28 undef rfl
     have zd49 := zd48.add 10 29 undef rfl
     have zd50 := zd49.add 11 30 undef rfl
     refine zfin [12, 13] tb15 zd50 (pq_cons (uw_q rfl rfl rfl rfl rfl) rfl (pq_cons (uw_q rfl rfl rfl rfl rfl) rfl (pq_cons (uw_q rfl rfl rfl rfl rfl) rfl (pq_cons (uw_q rfl rfl rfl rfl rfl) rfl (pq_cons (uw_q rfl rfl rfl rfl rfl) rfl (pq_cons (uw_q rfl rfl rfl rfl rfl) rfl (pq_cons (uw_q rfl rfl rfl rfl rfl) rfl (pq_cons (uw_q rfl rfl rfl rfl rfl) rfl (pq_cons (pu_q rfl rfl rfl rfl rfl rfl) rfl (pq_cons (qv_b (pu_q rfl rfl rfl rfl rfl rfl) hb20) rfl (pq_cons (pu_q rfl rfl rfl rfl rfl rfl) rfl (pq_cons (pu_q rfl rfl rfl rfl rfl rfl) rfl pq_nil)))))))))))) (by kernel_rfl) (by decide) ?_
     refine uw rfl rfl rfl rfl ?_
     refine pu rfl rfl rfl rfl rfl ?_
     have A51 := (Ax11_0.st p15 rfl)
     have K52 := (Kx11.st p15 rfl)
     exact Kj20 _ _ _ ⟨s15, _, rfl, (ue (ue (ue (ue (ue (ue (ue (ue (ue rfl rfl) rfl) rfl) rfl) rfl) rfl) rfl) rfl) rfl), K52, A51⟩
   rintro y20 _ _ ⟨s53, _, rfl, rfl, Ky20, Cy20_13⟩
   refine dn ?_
   refine jc (fun (y54 : (List (List Int))) (e : Env) (w : World) => ∃ (s : St) (e0 : Env), w = s.w ∧ e = upd (upd (upd (upd (upd (upd (upd e0 0 w0_0) 3 v2) 4 (.int .i64 x6.2)) 10 (.int .i64 (a0.length : Int))) 11 (.int .i64 x6.2)) 15 (.int .i64 (a0.length : Int))) 16 (.int .i64 x11.2) ∧ Kp s0 s ∧ OwF (Kd.sl 24 (Kd.sl 3 (Kd.int .i64))) s [v2] y54 40) (fun Gj54 Kj54 => ?_) ?_
   ·
    refine cd rfl (fun h55 => ?_) (fun h55 => ?_)
    ·
     refine rg ?_
     refine mv v2 rfl rfl rfl rfl rfl rfl ?_
     refine pu rfl rfl rfl rfl rfl ?_
     refine mv v2 rfl rfl rfl rfl rfl rfl ?_
     refine pu rfl rfl rfl rfl rfl ?_
     refine ix Cy20_13.rd Try.underlying101 z24 rfl rfl rfl rfl rfl rfl rfl rfl (fun ad56 es56 h0_56 h1_56 he56 ce56 ia56 => ?_)
     obtain ⟨v56, rfl, he56'⟩ := he56
     have A56 : RdF (Kd.sl 3 (Kd.int .i64)) s53 [v56] (at_ x11.1 x6.2) [40] := ⟨v56, rfl, he56'⟩
     refine lc0 ce56 Try.underlying24 rfl rfl rfl rfl rfl rfl rfl rfl ?_
     refine pu rfl rfl rfl rfl rfl ?_
     refine ltF (K := (Kd.int .i64)) (cells := [(.int .i64 x11.2)]) [x11.2] 42 fl_int Try.underlying24 z3 o3 (fun w => (els_flat _ _ _)) rfl rfl rfl rfl rfl rfl rfl rfl rfl rfl (fun v59 s59 p59 A59 => ?_)
     have A61 := (Cy20_13.st p59 rfl)
     have ce62 := (ce56.st p59 rfl rfl)
     obtain ⟨s63, hw63, p63, A63, H63, ce63⟩ := take_ 43 lg_id A61 h0_56 h1_56 ia56 ce62 rfl rfl rfl rfl
     rw [hw63]
     have A66 := (A59.st p63 rfl)
     refine apF fl_int sl24 A63 A66.rd rfl rfl rfl rfl rfl rfl rfl (fun v67 s67 p67 A67 => ?_)
     have A70 := (H63.st p67 rfl)
     refine ixh A70 Try.underlying101 z24 rfl rfl rfl rfl rfl rfl rfl (fun ad69 h0_69 h1_69 ia69 => ?_)
     refine soh (x' := ((at_ x11.1 x6.2) ++ [x11.2])) A70 ia69 A67 rfl rfl z24 rfl rfl rfl rfl (by rw [V.add_zero]; rfl) (oc A67.rd.one) (fun s71 p71 A71 => ?_)
     refine dn ?_
     have K73 := ((((Ky20.st p59 rfl).st p63 rfl).st p67 rfl).st p71 rfl)
     exact Kj54 _ _ _ ⟨s71, _, rfl, (ue (ue (ue (ue (ue (ue (ue rfl rfl) rfl) rfl) rfl) rfl) rfl) rfl), K73, A71⟩
    ·
     refine sk ?_
     exact Kj54 _ _ _ ⟨s53, _, rfl, (ue (ue (ue (ue (ue (ue (ue rfl rfl) rfl) rfl) rfl) rfl) rfl) rfl), Ky20, Cy20_13⟩
   rintro y54 _ _ ⟨s74, _, rfl, rfl, Ky54, Ay54_0⟩
   refine ib ?_
   refine rg ?_
   refine pu rfl rfl rfl rfl rfl ?_
   refine pu rfl rfl rfl rfl rfl ?_
   refine dn ?_
   exact lb ih11 ⟨s74, _, rfl, (ue (ue (ue (ue (ue (ue (ue rfl rfl) rfl) rfl) rfl) rfl) rfl) rfl), Ky54, Ay54_0⟩
  ·
   refine xt rfl ?_
   refine sgb ?_
   refine ib ?_
   refine rg ?_
   refine pu rfl rfl rfl rfl rfl ?_
   refine pu rfl rfl rfl rfl rfl ?_
   refine dn ?_
   exact lb ih6 ⟨s12, _, rfl, (ue (ue (ue (ue rfl rfl) rfl) rfl) rfl), Kx11, Ax11_0⟩
 ·
  refine xt rfl ?_
  refine sgb ?_
  refine sr ?_
  refine mv v2 rfl rfl rfl rfl rfl rfl ?_
  refine asg v2 rfl rfl rfl rfl rfl rfl ?_
  refine dn ?_
  exact re rfl Try.func53 rfl (r_t rfl r_nil) rfl ⟨_, rfl, Ax6_0.fo Kx6 rfl z.l, z.ky Kx6⟩
noncomputable def impl_taken_1.f (a0 : Int) (a1 : (List Bool)) : Option (Bool) :=
 (if 0 ≤ a0 ∧ a0 < (a1.length : Int) then (some (at_ a1 a0)) else none)
def impl_taken_1.Q (w : World) (F : Nat → Prop) (r : Bool) (v : Value) (w' : World) : Prop :=
 v = (.bool r) ∧ Ky [] w w'
set_option maxHeartbeats 4000000 in
set_option maxRecDepth 100000 in
theorem impl_taken_1.calls (a0 : Int) (a1 : (List Bool)) (w : World) (F : Nat → Prop) (c1 : Nat) (w1_0 : Value) (h1_0 : (Kd.sl 4 Kd.bool).rd w [w1_0] a1 F) (hb1 : BlW w c1 93 [w1_0]) (hp1 : F c1) (r : Bool) (m : impl_taken_1.f a0 a1 = some r) :
  Calls Try.prog 130 #[(.int .i64 a0), (.pointer (some ⟨c1, 0, none⟩))] w fun en w' => ∃ v, en = .returned v ∧ impl_taken_1.Q w F r v w' := by
 obtain ⟨s0, rfl, kp0, z⟩ := start0 w F
 have B1 := z.b0 hb1 hp1
 have A1_0 := z.rd h1_0
 refine calls_of_TM (args := [(.int .i64 a0), (.pointer (some ⟨c1, 0, none⟩))]) (R := fun r en w' => ∃ v, en = .returned v ∧ impl_taken_1.Q s0.w F r v w') Try.func130 Try.ntmps130 rfl rfl m ?_
 unfold impl_taken_1.f
 refine sr ?_
 refine pu rfl rfl rfl rfl rfl ?_
 refine dn ?_
 refine sr ?_
 refine ld B1 Try.underlying93 rfl rfl rfl rfl rfl rfl rfl rfl ?_
 refine pu rfl rfl rfl rfl rfl ?_
 refine ix A1_0 Try.underlying93 z4 rfl rfl rfl rfl rfl rfl rfl rfl (fun ad3 es3 h0_3 h1_3 he3 ce3 ia3 => ?_)
 obtain rfl := he3
 refine lc0 ce3 Try.underlying4 rfl rfl rfl rfl rfl rfl rfl rfl ?_
 refine pu rfl rfl rfl rfl rfl ?_
 refine dn ?_
 exact re rfl Try.func130 rfl (r_t rfl r_nil) rfl ⟨_, rfl, rfl, z.ky kp0⟩
noncomputable def impl_areAll_int_1.f (a0 : Int) (a1 : (Int → Option Bool)) : Option (Bool) :=
 ((a1 a0).bind fun r2 => (some (!r2)))
def impl_areAll_int_1.Q (w : World) (F : Nat → Prop) (r : Bool) (v : Value) (w' : World) : Prop :=
 v = (.bool r) ∧ Ky [] w w'
set_option maxHeartbeats 4000000 in
set_option maxRecDepth 100000 in
theorem impl_areAll_int_1.calls (a0 : Int) (a1 : (Int → Option Bool)) (w : World) (F : Nat → Prop) (c1 : Nat) (f1 : Value) (hf1 : ∀ (x0 : Int) (w' : World), Ky [] w w' → ∀ r, a1 x0 = some r → CallV Try.prog f1 [(.int .i64 x0)] w' fun en w'' => ∃ v, en = .returned v ∧ v = (.bool r) ∧ Ky [] w' w'') (ho1 : f1.cells = #[f1]) (hb1 : BlW w c1 170 [f1]) (hp1 : F c1) (r : Bool) (m : impl_areAll_int_1.f a0 a1 = some r) :
  Calls Try.prog 183 #[(.int .i64 a0), (.pointer (some ⟨c1, 0, none⟩))] w fun en w' => ∃ v, en = .returned v ∧ impl_areAll_int_1.Q w F r v w' := by
 obtain ⟨s0, rfl, kp0, z⟩ := start0 w F
 have B1 := z.b0 hb1 hp1
 refine calls_of_TM (args := [(.int .i64 a0), (.pointer (some ⟨c1, 0, none⟩))]) (R := fun r en w' => ∃ v, en = .returned v ∧ impl_areAll_int_1.Q s0.w F r v w') Try.func183 Try.ntmps183 rfl rfl m ?_
 unfold impl_areAll_int_1.f
 refine sr ?_
 refine pu rfl rfl rfl rfl rfl ?_
 refine dn ?_
 refine sr ?_
 refine ld B1 Try.underlying170 rfl rfl rfl rfl rfl rfl rfl rfl ?_
 refine pu rfl rfl rfl rfl rfl ?_
 refine clv rfl rfl rfl rfl rfl rfl rfl (fun r2 m2 => hf1 a0 s0.w (z.ky kp0)  r2 m2) ?_
 rintro r2 _ w2 m2 ⟨rfl, ky2⟩
 obtain ⟨s3, rfl, p3, n3⟩ := nwx s0 w2 40 ky2
 refine pu rfl rfl rfl rfl rfl ?_
 refine pu rfl rfl rfl rfl rfl ?_
 refine dn ?_
 have K4 := (kp0.st p3 rfl)
 exact re rfl Try.func183 rfl (r_t rfl r_nil) rfl ⟨_, rfl, rfl, z.ky K4⟩
noncomputable def slices_IndexFunc_int_int.b0 (a0 : (List Int)) (a1 : (Int → Option Bool)) (x2 : Int) : Option (Int ⊕ Int) :=
 (if (decide (x2 < (a0.length : Int))) = true then (if 0 ≤ x2 ∧ x2 < (a0.length : Int) then ((a1 (at_ a0 x2)).bind fun r8 => (if r8 = true then (some (Sum.inr x2)) else (some (Sum.inl (IntKind.wrap .i64 (x2 + (1 : Int))))))) else none) else ((some (-1 : Int)).bind fun o => some (Sum.inr o)))
noncomputable def slices_IndexFunc_int_int.f (a0 : (List Int)) (a1 : (Int → Option Bool)) : Option (Int) :=
 (iter (slices_IndexFunc_int_int.b0 a0 a1) (0 : Int))
def slices_IndexFunc_int_int.Q (w : World) (F : Nat → Prop) (r : Int) (v : Value) (w' : World) : Prop :=
 v = (.int .i64 r) ∧ Ky [] w w'
set_option maxHeartbeats 4000000 in
set_option maxRecDepth 100000 in
theorem slices_IndexFunc_int_int.calls (a0 : (List Int)) (a1 : (Int → Option Bool)) (w : World) (F : Nat → Prop) (w0_0 : Value) (f1 : Value) (h0_0 : (Kd.sl 3 (Kd.int .i64)).rd w [w0_0] a0 F) (hf1 : ∀ (x0 : Int) (w' : World), Ky [] w w' → ∀ r, a1 x0 = some r → CallV Try.prog f1 [(.int .i64 x0)] w' fun en w'' => ∃ v, en = .returned v ∧ v = (.bool r) ∧ Ky [] w' w'') (ho1 : f1.cells = #[f1]) (r : Int) (m : slices_IndexFunc_int_int.f a0 a1 = some r) :
  Calls Try.prog 211 #[w0_0, f1] w fun en w' => ∃ v, en = .returned v ∧ slices_IndexFunc_int_int.Q w F r v w' := by
 obtain ⟨s0, rfl, kp0, z⟩ := start0 w F
 have A0_0 := z.rd h0_0
 refine calls_of_TM (args := [w0_0, f1]) (R := fun r en w' => ∃ v, en = .returned v ∧ slices_IndexFunc_int_int.Q s0.w F r v w') Try.func211 Try.ntmps211 rfl rfl m ?_
 unfold slices_IndexFunc_int_int.f
 refine sr ?_
 refine pu rfl rfl rfl rfl rfl ?_
 refine dn ?_
 refine sq ?_
 refine sr ?_
 refine mv w0_0 rfl rfl rfl rfl rfl rfl ?_
 refine ln A0_0 Try.underlying24 rfl rfl rfl rfl rfl rfl ?_
 refine pu rfl rfl rfl rfl rfl ?_
 refine dn ?_
 refine bl ?_
 refine lpI (fun (x2 : Int) (e : Env) (w : World) => ∃ (s : St) (e0 : Env), w = s.w ∧ e = upd (upd (upd (upd e0 0 w0_0) 1 f1) 7 (.int .i64 (a0.length : Int))) 8 (.int .i64 x2) ∧ Kp s0 s) ⟨s0, _, rfl, (ue (ue (ue (ue rfl rfl) rfl) rfl) rfl), kp0⟩ (fun g2 ih2 => ?_)
 rintro x2 _ _ ⟨s3, _, rfl, rfl, Kx2⟩
 unfold slices_IndexFunc_int_int.b0
 refine sr ?_
 refine pu rfl rfl rfl rfl rfl ?_
 refine dn ?_
 refine sq ?_
 refine cd rfl (fun h4 => ?_) (fun h4 => ?_)
 ·
  refine sk ?_
  refine sq ?_
  refine bl ?_
  refine sr ?_
  refine pu rfl rfl rfl rfl rfl ?_
  refine pu rfl rfl rfl rfl rfl ?_
  refine dn ?_
  refine sr ?_
  refine mv f1 rfl rfl rfl rfl rfl rfl ?_
  refine mv w0_0 rfl rfl rfl rfl rfl rfl ?_
  refine pu rfl rfl rfl rfl rfl ?_
  have A5 := (A0_0.kp Kx2)
  refine ix A5 Try.underlying24 z3 rfl rfl rfl rfl rfl rfl rfl rfl (fun ad6 es6 h0_6 h1_6 he6 ce6 ia6 => ?_)
  obtain rfl := he6
  refine lc0 ce6 Try.underlying3 rfl rfl rfl rfl rfl rfl rfl rfl ?_
  refine clv rfl rfl rfl rfl rfl rfl rfl (fun r8 m8 => hf1 (at_ a0 x2) s3.w (z.ky Kx2)  r8 m8) ?_
  rintro r8 _ w8 m8 ⟨rfl, ky8⟩
  obtain ⟨s9, rfl, p9, n9⟩ := nwx s3 w8 40 ky8
  refine dn ?_
  refine cd rfl (fun h10 => ?_) (fun h10 => ?_)
  ·
   refine sr ?_
   refine pu rfl rfl rfl rfl rfl ?_
   refine pu rfl rfl rfl rfl rfl ?_
   refine dn ?_
   refine sgi ?_
   have K11 := (Kx2.st p9 rfl)
   exact re rfl Try.func211 rfl (r_t rfl r_nil) rfl ⟨_, rfl, rfl, z.ky K11⟩
  ·
   refine sk ?_
   refine ib ?_
   refine rg ?_
   refine pu rfl rfl rfl rfl rfl ?_
   refine pu rfl rfl rfl rfl rfl ?_
   refine dn ?_
   have K12 := (Kx2.st p9 rfl)
   exact lb ih2 ⟨s9, _, rfl, (ue (ue (ue (ue rfl rfl) rfl) rfl) rfl), K12⟩
 ·
  refine xt rfl ?_
  refine sgb ?_
  refine sr ?_
  refine pu rfl rfl rfl rfl rfl ?_
  refine dn ?_
  exact re rfl Try.func211 rfl (r_t rfl r_nil) rfl ⟨_, rfl, rfl, z.ky Kx2⟩
noncomputable def slices_ContainsFunc_int_int.f (a0 : (List Int)) (a1 : (Int → Option Bool)) : Option (Bool) :=
 ((slices_IndexFunc_int_int.f a0 a1).bind fun r2 => (some (decide (r2 ≥ (0 : Int)))))
def slices_ContainsFunc_int_int.Q (w : World) (F : Nat → Prop) (r : Bool) (v : Value) (w' : World) : Prop :=
 v = (.bool r) ∧ Ky [] w w'
set_option maxHeartbeats 4000000 in
set_option maxRecDepth 100000 in
theorem slices_ContainsFunc_int_int.calls (a0 : (List Int)) (a1 : (Int → Option Bool)) (w : World) (F : Nat → Prop) (w0_0 : Value) (f1 : Value) (h0_0 : (Kd.sl 3 (Kd.int .i64)).rd w [w0_0] a0 F) (hf1 : ∀ (x0 : Int) (w' : World), Ky [] w w' → ∀ r, a1 x0 = some r → CallV Try.prog f1 [(.int .i64 x0)] w' fun en w'' => ∃ v, en = .returned v ∧ v = (.bool r) ∧ Ky [] w' w'') (ho1 : f1.cells = #[f1]) (r : Bool) (m : slices_ContainsFunc_int_int.f a0 a1 = some r) :
  Calls Try.prog 182 #[w0_0, f1] w fun en w' => ∃ v, en = .returned v ∧ slices_ContainsFunc_int_int.Q w F r v w' := by
 obtain ⟨s0, rfl, kp0, z⟩ := start0 w F
 have A0_0 := z.rd h0_0
 refine calls_of_TM (args := [w0_0, f1]) (R := fun r en w' => ∃ v, en = .returned v ∧ slices_ContainsFunc_int_int.Q s0.w F r v w') Try.func182 Try.ntmps182 rfl rfl m ?_
 unfold slices_ContainsFunc_int_int.f
 refine sr ?_
 refine pu rfl rfl rfl rfl rfl ?_
 refine dn ?_
 refine sr ?_
 refine mv w0_0 rfl rfl rfl rfl rfl rfl ?_
 refine mv f1 rfl rfl rfl rfl rfl rfl ?_
 refine cl rfl rfl rfl rfl rfl Try.func211 rfl rfl rfl (fun r2 m2 => slices_IndexFunc_int_int.calls a0 a1 s0.w (fun b => memb [0] (s0.g b) = true) w0_0 f1 A0_0 (fun x0 w' k  r m =>  hf1 x0 w' (Ky.trans (z.ky kp0) k)  r m) ho1 r2 m2) ?_
 rintro r2 _ w2 m2 ⟨rfl, ky2⟩
 obtain ⟨s3, rfl, p3, n3⟩ := nwx s0 w2 40 ky2
 refine pu rfl rfl rfl rfl rfl ?_
 refine pu rfl rfl rfl rfl rfl ?_
 refine dn ?_
 have K4 := (kp0.st p3 rfl)
 exact re rfl Try.func182 rfl (r_t rfl r_nil) rfl ⟨_, rfl, rfl, z.ky K4⟩
noncomputable def impl_areAll_int.f (a0 : (List Int)) (a1 : (Int → Option Bool)) : Option (Bool) :=
 ((slices_ContainsFunc_int_int.f a0 (fun x0 => impl_areAll_int_1.f x0 a1)).bind fun r6 => (some (!r6)))
def impl_areAll_int.Q (w : World) (F : Nat → Prop) (r : Bool) (v : Value) (w' : World) : Prop :=
 v = (.bool r) ∧ Ky [] w w'
set_option maxHeartbeats 4000000 in
set_option maxRecDepth 100000 in
theorem impl_areAll_int.calls (a0 : (List Int)) (a1 : (Int → Option Bool)) (w : World) (F : Nat → Prop) (w0_0 : Value) (f1 : Value) (h0_0 : (Kd.sl 3 (Kd.int .i64)).rd w [w0_0] a0 F) (hf1 : ∀ (x0 : Int) (w' : World), Ky [] w w' → ∀ r, a1 x0 = some r → CallV Try.prog f1 [(.int .i64 x0)] w' fun en w'' => ∃ v, en = .returned v ∧ v = (.bool r) ∧ Ky [] w' w'') (ho1 : f1.cells = #[f1]) (r : Bool) (m : impl_areAll_int.f a0 a1 = some r) :
  Calls Try.prog 129 #[w0_0, f1] w fun en w' => ∃ v, en = .returned v ∧ impl_areAll_int.Q w F r v w' := by
 obtain ⟨s0, rfl, kp0, z⟩ := start0 w F
 have A0_0 := z.rd h0_0
 refine calls_of_TM (args := [w0_0, f1]) (R := fun r en w' => ∃ v, en = .returned v ∧ impl_areAll_int.Q s0.w F r v w') Try.func129 Try.ntmps129 rfl rfl m ?_
 unfold impl_areAll_int.f
 refine sr ?_
 refine bx (cs := [f1]) 40 rfl rfl rfl rfl rfl ho1 (fun b2 s2 p2 B2 => ?_)
 refine pu rfl rfl rfl rfl rfl ?_
 refine dn ?_
 refine sr ?_
 refine mv w0_0 rfl rfl rfl rfl rfl rfl ?_
 refine mkf (fs := []) (cs := [(.pointer (some ⟨b2, 0, none⟩))]) rfl rfl rfl rfl rfl rfl rfl ?_
 have K4 := (kp0.st p2 rfl)
 have A5 := (A0_0.kp K4)
 refine cl rfl rfl rfl rfl rfl Try.func182 rfl rfl rfl (fun r6 m6 => slices_ContainsFunc_int_int.calls a0 (fun x0 => impl_areAll_int_1.f x0 a1) s2.w (fun b => memb [0] (s2.g b) = true) w0_0 (.func (.func 183) (List.toArray []) (List.toArray [(.pointer (some ⟨b2, 0, none⟩))])) A5 (fun x0 w' k  r m =>  ⟨183, _, _, [], [(.pointer (some ⟨b2, 0, none⟩))], rfl, Try.func183, rfl, rfl, (impl_areAll_int_1.calls x0 a1 w' (fun _ => True) b2 f1 (fun x0c w'c kc  r m =>  hf1 x0c w'c (Ky.trans (z.ky K4) (Ky.trans k kc))  r m) ho1 (BlF.ky B2 k) trivial r m).mono fun en w2 hq => by obtain ⟨v, e, q⟩ := hq; exact ⟨v, e, q⟩⟩) rfl r6 m6) ?_
 rintro r6 _ w6 m6 ⟨rfl, ky6⟩
 obtain ⟨s7, rfl, p7, n7⟩ := nwx s2 w6 41 ky6
 refine pu rfl rfl rfl rfl rfl ?_
 refine pu rfl rfl rfl rfl rfl ?_
 refine dn ?_
 have K8 := (K4.st p7 rfl)
 exact re rfl Try.func129 rfl (r_t rfl r_nil) rfl ⟨_, rfl, rfl, z.ky K8⟩
noncomputable def impl_taken.b1 (a0 : (List (List Int))) (x9 : (List Int) × (List Bool)) (x18 : Int × Int) : Option ((Int × Int) ⊕ Int) :=
 (if (decide (x18.2 < (a0.length : Int))) = true then (if 0 ≤ x18.2 ∧ x18.2 < (a0.length : Int) then (if 0 ≤ x18.2 ∧ x18.2 < (x9.2.length : Int) then ((if (!(at_ x9.2 x18.2)) = true then ((impl_areAll_int.f (at_ a0 x18.2) (fun x0 => impl_taken_1.f x0 x9.2)).bind fun r29 => (some r29)) else (some false)).bind fun y28 => (if y28 = true then ((some x18.2).bind fun o => some (Sum.inr o)) else (some (Sum.inl (x18.1, (IntKind.wrap .i64 (x18.2 + (1 : Int)))))))) else none) else none) else ((some x18.1).bind fun o => some (Sum.inr o)))
noncomputable def impl_taken.b0 (a0 : (List (List Int))) (x9 : (List Int) × (List Bool)) : Option (((List Int) × (List Bool)) ⊕ ((List Int) × (List Bool))) :=
 ((iter (impl_taken.b1 a0 x9) ((-1 : Int), (0 : Int))).bind fun y17 => (if (decide (y17 < (0 : Int))) = true then (some (Sum.inr (x9.1, x9.2))) else (if 0 ≤ y17 ∧ y17 < (x9.2.length : Int) then (if x9.1.length + ([y17]).length ≤ Lim then (some (Sum.inl ((x9.1 ++ [y17]), (x9.2.set (y17).toNat true)))) else none) else none)))
noncomputable def impl_taken.f (a0 : (List (List Int))) : Option ((List Int) × (List Bool)) :=
 (if 0 ≤ (a0.length : Int) ∧ (a0.length : Int) ≤ (Lim : Int) then (iter (impl_taken.b0 a0) (([] : (List Int)), (List.replicate ((a0.length : Int)).toNat false))) else none)
def impl_taken.Q (w : World) (F : Nat → Prop) (r : (List Int) × (List Bool)) (v : Value) (w' : World) : Prop :=
 ∃ (v0 : Value) (v1 : Value), v = .tuple #[v0, v1] ∧ FO (Kd.sl 3 (Kd.int .i64)) w w' [v0] r.1 ∧ FO (Kd.sl 4 Kd.bool) w w' [v1] r.2 ∧ Ky [] w w'
set_option maxHeartbeats 4000000 in
set_option maxRecDepth 100000 in
theorem impl_taken.calls (a0 : (List (List Int))) (w : World) (F : Nat → Prop) (w0_0 : Value) (h0_0 : (Kd.sl 24 (Kd.sl 3 (Kd.int .i64))).rd w [w0_0] a0 F) (r : (List Int) × (List Bool)) (m : impl_taken.f a0 = some r) :
  Calls Try.prog 54 #[w0_0] w fun en w' => ∃ v, en = .returned v ∧ impl_taken.Q w F r v w' := by
 obtain ⟨s0, rfl, kp0, z⟩ := start0 w F
 have A0_0 := z.rd h0_0
 refine calls_of_TM (args := [w0_0]) (R := fun r en w' => ∃ v, en = .returned v ∧ impl_taken.Q s0.w F r v w') Try.func54 Try.ntmps54 rfl rfl m ?_
 unfold impl_taken.f
 refine sr ?_
 refine pu rfl rfl rfl rfl rfl ?_
 refine pu rfl rfl rfl rfl rfl ?_
 refine dn ?_
 refine sr ?_
 refine pu rfl rfl rfl rfl rfl ?_
 refine dn ?_
 refine sr ?_
 refine mv w0_0 rfl rfl rfl rfl rfl rfl ?_
 refine ln A0_0 Try.underlying101 rfl rfl rfl rfl rfl rfl ?_
 refine mk (x0 := false) (K := Kd.bool) 40 sl93 o4 (fun _ => ⟨rfl, rfl⟩) rfl rfl rfl rfl rfl rfl rfl (fun v2 s2 p2 A2 => ?_)
 refine al (cs := [(.slice none 0 0)]) 41 rfl rfl rfl rfl rfl o93 rfl (fun b4 s4 p4 B4 => ?_)
 have A6 := (A2.st p4 rfl)
 refine sv B4 z93 rfl rfl rfl rfl rfl rfl A6.rd.one rfl (fun s7 p7 B7 => ?_)
 refine dn ?_
 refine bl ?_
 have A10 := (A6.st p7 rfl)
 have K11 := (((kp0.st p2 rfl).st p4 rfl).st p7 rfl)
 refine lpI (fun (x9 : (List Int) × (List Bool)) (e : Env) (w : World) => ∃ (s : St) (e0 : Env) (vx9_0 : Value), w = s.w ∧ e = upd (upd (upd e0 0 w0_0) 4 vx9_0) 5 (.pointer (some ⟨b4, 0, none⟩)) ∧ Kp s0 s ∧ OwF (Kd.sl 3 (Kd.int .i64)) s [vx9_0] x9.1 43 ∧ OwF (Kd.sl 4 Kd.bool) s [v2] x9.2 40 ∧ BlF s b4 93 [v2] 41) ⟨s7, _, (.slice none 0 0), rfl, (ue (ue (ue rfl rfl) rfl) rfl), K11, (ow_nil 3 (Kd.int .i64) _ 43), A10, B7⟩ (fun g9 ih9 => ?_)
 rintro x9 _ _ ⟨s12, _, vx9_0, rfl, rfl, Kx9, Ax9_0, Ax9_1, Bx9_b4⟩
 unfold impl_taken.b0
 refine bl ?_
 refine sr ?_
 refine pu rfl rfl rfl rfl rfl ?_
 refine dn ?_
 refine sq ?_
 refine sr ?_
 refine mv w0_0 rfl rfl rfl rfl rfl rfl ?_
 have A16 := (A0_0.kp Kx9)
 refine ln A16 Try.underlying101 rfl rfl rfl rfl rfl rfl ?_
 refine pu rfl rfl rfl rfl rfl ?_
 refine dn ?_
 refine jc (fun (y17 : Int) (e : Env) (w : World) => ∃ (s : St) (e0 : Env), w = s.w ∧ e = upd (upd (upd (upd e0 0 w0_0) 4 vx9_0) 5 (.pointer (some ⟨b4, 0, none⟩))) 6 (.int .i64 y17) ∧ Kp s0 s ∧ BlF s b4 93 [v2] 41 ∧ OwF (Kd.sl 3 (Kd.int .i64)) s [vx9_0] x9.1 43 ∧ OwF (Kd.sl 4 Kd.bool) s [v2] x9.2 40) (fun Gj17 Kj17 => ?_) ?_
 ·
  refine bl ?_
  refine lpI (fun (x18 : Int × Int) (e : Env) (w : World) => ∃ (s : St) (e0 : Env), w = s.w ∧ e = upd (upd (upd (upd (upd (upd (upd e0 0 w0_0) 4 vx9_0) 5 (.pointer (some ⟨b4, 0, none⟩))) 6 (.int .i64 x18.1)) 12 w0_0) 13 (.int .i64 (a0.length : Int))) 14 (.int .i64 x18.2) ∧ Kp s0 s ∧ BlF s b4 93 [v2] 41 ∧ OwF (Kd.sl 3 (Kd.int .i64)) s [vx9_0] x9.1 43 ∧ OwF (Kd.sl 4 Kd.bool) s [v2] x9.2 40) ⟨s12, _, rfl, (ue (ue (ue (ue (ue (ue (ue rfl rfl) rfl) rfl) rfl) rfl) rfl) rfl), Kx9, Bx9_b4, Ax9_0, Ax9_1⟩ (fun g18 ih18 => ?_)
  rintro x18 _ _ ⟨s19, _, rfl, rfl, Kx18, Bx18_b4, Cx18_13, Cx18_14⟩
  unfold impl_taken.b1
  refine sr ?_
  refine pu rfl rfl rfl rfl rfl ?_
  refine dn ?_
  refine sq ?_
  refine cd rfl (fun h21 => ?_) (fun h21 => ?_)
  ·
   refine sk ?_
   refine sq ?_
   refine bl ?_
   refine sr ?_
   refine pu rfl rfl rfl rfl rfl ?_
   have A22 := (A0_0.kp Kx18)
   refine ix A22 Try.underlying101 z24 rfl rfl rfl rfl rfl rfl rfl rfl (fun ad23 es23 h0_23 h1_23 he23 ce23 ia23 => ?_)
   obtain ⟨v23, rfl, he23'⟩ := he23
   have A23 : RdF (Kd.sl 3 (Kd.int .i64)) s19 [v23] (at_ a0 x18.2) [0] := ⟨v23, rfl, he23'⟩
   refine lc0 ce23 Try.underlying24 rfl rfl rfl rfl rfl rfl rfl rfl ?_
   refine pu rfl rfl rfl rfl rfl ?_
   refine asg v23 rfl rfl rfl rfl rfl rfl ?_
   refine dn ?_
   refine sr ?_
   refine ld Bx18_b4 Try.underlying93 rfl rfl rfl rfl rfl rfl rfl rfl ?_
   refine pu rfl rfl rfl rfl rfl ?_
   refine ix Cx18_14.rd Try.underlying93 z4 rfl rfl rfl rfl rfl rfl rfl rfl (fun ad26 es26 h0_26 h1_26 he26 ce26 ia26 => ?_)
   obtain rfl := he26
   refine lc0 ce26 Try.underlying4 rfl rfl rfl rfl rfl rfl rfl rfl ?_
   refine pu rfl rfl rfl rfl rfl ?_
   refine pu rfl rfl rfl rfl rfl ?_
   refine ji [] (fun (y28 : Bool) (e : Env) (w : World) => ∃ (s : St) (e0 : Env), w = s.w ∧ e = upd (upd (upd (upd (upd (upd (upd (upd (upd e0 0 w0_0) 4 vx9_0) 5 (.pointer (some ⟨b4, 0, none⟩))) 6 (.int .i64 x18.1)) 7 (.int .i64 x18.2)) 12 w0_0) 13 (.int .i64 (a0.length : Int))) 14 (.int .i64 x18.2)) 28 (.bool y28) ∧ Kp s0 s ∧ BlF s b4 93 [v2] 41 ∧ OwF (Kd.sl 3 (Kd.int .i64)) s [vx9_0] x9.1 43 ∧ OwF (Kd.sl 4 Kd.bool) s [v2] x9.2 40) (fun Gj28 Kj28 => ?_) ?_
   ·
    rcases Bool.eq_false_or_eq_true (!(at_ x9.2 x18.2)) with hb28 | hb28
    ·
     refine sbT hb28 ?_
     rw [if_pos hb28]
     refine mv v23 rfl rfl rfl rfl rfl rfl ?_
     refine mkf (fs := []) (cs := [(.pointer (some ⟨b4, 0, none⟩))]) rfl rfl rfl rfl rfl rfl rfl ?_
     refine cl rfl rfl rfl rfl rfl Try.func129 rfl rfl rfl (fun r29 m29 => impl_areAll_int.calls (at_ a0 x18.2) (fun x0 => impl_taken_1.f x0 x9.2) s19.w (fun b => memb [0] (s19.g b) = true) v23 (.func (.func 130) (List.toArray []) (List.toArray [(.pointer (some ⟨b4, 0, none⟩))])) A23 (fun x0 w' k  r m =>  ⟨130, _, _, [], [(.pointer (some ⟨b4, 0, none⟩))], rfl, Try.func130, rfl, rfl, (impl_taken_1.calls x0 x9.2 w' (fun _ => True) b4 v2 (RdF.ky Cx18_14.rd k) (BlF.ky Bx18_b4 k) trivial r m).mono fun en w2 hq => by obtain ⟨v, e, q⟩ := hq; exact ⟨v, e, q⟩⟩) rfl r29 m29) ?_
     rintro r29 _ w29 m29 ⟨rfl, ky29⟩
     obtain ⟨s30, rfl, p30, n30⟩ := nwx s19 w29 44 ky29
     refine pu rfl rfl rfl rfl rfl ?_
     have A31 := (BlF.st Bx18_b4 p30 rfl)
     have A32 := (Cx18_13.st p30 rfl)
     have A33 := (Cx18_14.st p30 rfl)
     have K34 := (Kx18.st p30 rfl)
     exact Kj28 _ _ _ ⟨s30, _, rfl, (ue (ue (ue (ue (ue (ue (ue (ue (ue rfl rfl) rfl) rfl) rfl) rfl) rfl) rfl) rfl) rfl), K34, A31, A32, A33⟩
    ·
     refine sbT hb28 ?_
     rw [if_neg (by rw [hb28]; decide)]
     refine uw rfl rfl rfl rfl ?_
     refine uw rfl rfl rfl rfl ?_
     refine uw rfl rfl rfl rfl ?_
     refine pu rfl rfl rfl rfl rfl ?_
     exact Kj28 _ _ _ ⟨s19, _, rfl, (ue (ue (ue (ue (ue (ue (ue (ue (ue rfl rfl) rfl) rfl) rfl) rfl) rfl) rfl) rfl) rfl), Kx18, Bx18_b4, Cx18_13, Cx18_14⟩
   rintro y28 _ _ ⟨s35, _, rfl, rfl, Ky28, By28_b4, Cy28_13, Cy28_14⟩
   refine dn ?_
   refine cd rfl (fun h37 => ?_) (fun h37 => ?_)
   ·
    refine sr ?_
    refine pu rfl rfl rfl rfl rfl ?_
    refine pu rfl rfl rfl rfl rfl ?_
    refine dn ?_
    refine xt rfl ?_
    refine sgb ?_
    exact Kj17 _ _ _ ⟨s35, _, rfl, (ue (ue (ue (ue rfl rfl) rfl) rfl) rfl), Ky28, By28_b4, Cy28_13, Cy28_14⟩
   ·
    refine sk ?_
    refine ib ?_
    refine rg ?_
    refine pu rfl rfl rfl rfl rfl ?_
    refine pu rfl rfl rfl rfl rfl ?_
    refine dn ?_
    exact lb ih18 ⟨s35, _, rfl, (ue (ue (ue (ue (ue (ue (ue rfl rfl) rfl) rfl) rfl) rfl) rfl) rfl), Ky28, By28_b4, Cy28_13, Cy28_14⟩
  ·
   refine xt rfl ?_
   refine sgb ?_
   exact Kj17 _ _ _ ⟨s19, _, rfl, (ue (ue (ue (ue rfl rfl) rfl) rfl) rfl), Kx18, Bx18_b4, Cx18_13, Cx18_14⟩
 rintro y17 _ _ ⟨s38, _, rfl, rfl, Ky17, By17_b4, Cy17_13, Cy17_14⟩
 refine sq ?_
 refine sr ?_
 refine pu rfl rfl rfl rfl rfl ?_
 refine pu rfl rfl rfl rfl rfl ?_
 refine dn ?_
 refine cd rfl (fun h40 => ?_) (fun h40 => ?_)
 ·
  refine sq ?_
  refine zdraw [[], [], [0, 0], [1, 2, 0, 1, 2]] [some 33, some 34, some 2, some 3] [[4], [5], [33], [34]] [0, 2, 1, 3] ⟨by kernel_rfl, by kernel_rfl, by kernel_rfl⟩ (by kernel_rfl) (fun s41 p41 l41 tb41 zd41 => ?_)
  have zd42 := zd41.add 0 33 vx9_0 rfl
  have A43 := (BlF.st By17_b4 p41 rfl)
  have zd44 := zd42.add 1 34 v2 rfl
  have zd45 := zd44.add 2 2 vx9_0 rfl
  have A46 := (BlF.st By17_b4 p41 rfl)
  refine zfin [3] tb41 zd45 (pq_cons (asg_q vx9_0 rfl rfl rfl rfl rfl rfl) rfl (pq_cons (ld_q A46 Try.underlying93 rfl rfl rfl rfl rfl rfl rfl rfl) rfl (pq_cons (mv_q vx9_0 rfl rfl rfl rfl rfl rfl) rfl pq_nil))) (by kernel_rfl) (by decide) ?_
  refine asg v2 rfl rfl rfl rfl rfl rfl ?_
  refine dn ?_
  refine sgi ?_
  have A47 := (Cy17_13.st p41 rfl)
  have K48 := (Ky17.st p41 rfl)
  have A49 := (Cy17_14.st p41 rfl)
  exact re rfl Try.func54 rfl (r_t rfl (r_t rfl r_nil)) rfl ⟨_, rfl, vx9_0, v2, rfl, A47.fo K48 rfl z.l, A49.fo K48 rfl z.l, z.ky K48⟩
 ·
  refine sk ?_
  refine sr ?_
  refine ld By17_b4 Try.underlying93 rfl rfl rfl rfl rfl rfl rfl rfl ?_
  refine pu rfl rfl rfl rfl rfl ?_
  refine ix Cy17_14.rd Try.underlying93 z4 rfl rfl rfl rfl rfl rfl rfl rfl (fun ad50 es50 h0_50 h1_50 he50 ce50 ia50 => ?_)
  obtain rfl := he50
  refine so (x' := true) Cy17_14 ia50 h0_50 h1_50 cs_flat z4 rfl rfl rfl rfl rfl rfl (fun s52 p52 A52 => ?_)
  refine dn ?_
  refine rg ?_
  refine mv vx9_0 rfl rfl rfl rfl rfl rfl ?_
  refine pu rfl rfl rfl rfl rfl ?_
  refine ltF (K := (Kd.int .i64)) (cells := [(.int .i64 y17)]) [y17] 45 fl_int Try.underlying24 z3 o3 (fun w => (els_flat _ _ _)) rfl rfl rfl rfl rfl rfl rfl rfl rfl rfl (fun v54 s54 p54 A54 => ?_)
  have A56 := ((Cy17_13.st p52 rfl).st p54 rfl)
  refine apF fl_int sl24 A56 A54.rd rfl rfl rfl rfl rfl rfl rfl (fun v57 s57 p57 A57 => ?_)
  refine asg v57 rfl rfl rfl rfl rfl rfl ?_
  refine dn ?_
  refine ib ?_
  have A59 := ((A52.st p54 rfl).st p57 rfl)
  have A60 := (BlF.st (BlF.st (BlF.st By17_b4 p52 rfl) p54 rfl) p57 rfl)
  have K61 := (((Ky17.st p52 rfl).st p54 rfl).st p57 rfl)
  exact lb ih9 ⟨s57, _, v57, rfl, (ue (ue (ue rfl rfl) rfl) rfl), K61, A57, A59, A60⟩
noncomputable def slices_Index_bool_bool.b0 (a0 : (List Bool)) (a1 : Bool) (x2 : Int) : Option (Int ⊕ Int) :=
 (if (decide (x2 < (a0.length : Int))) = true then (if 0 ≤ x2 ∧ x2 < (a0.length : Int) then (if (a1 == (at_ a0 x2)) = true then (some (Sum.inr x2)) else (some (Sum.inl (IntKind.wrap .i64 (x2 + (1 : Int)))))) else none) else ((some (-1 : Int)).bind fun o => some (Sum.inr o)))
noncomputable def slices_Index_bool_bool.f (a0 : (List Bool)) (a1 : Bool) : Option (Int) :=
 (iter (slices_Index_bool_bool.b0 a0 a1) (0 : Int))
def slices_Index_bool_bool.Q (w : World) (F : Nat → Prop) (r : Int) (v : Value) (w' : World) : Prop :=
 v = (.int .i64 r) ∧ Ky [] w w'
set_option maxHeartbeats 4000000 in
set_option maxRecDepth 100000 in
theorem slices_Index_bool_bool.calls (a0 : (List Bool)) (a1 : Bool) (w : World) (F : Nat → Prop) (w0_0 : Value) (h0_0 : (Kd.sl 4 Kd.bool).rd w [w0_0] a0 F) (r : Int) (m : slices_Index_bool_bool.f a0 a1 = some r) :
  Calls Try.prog 55 #[w0_0, (.bool a1)] w fun en w' => ∃ v, en = .returned v ∧ slices_Index_bool_bool.Q w F r v w' := by
 obtain ⟨s0, rfl, kp0, z⟩ := start0 w F
 have A0_0 := z.rd h0_0
 refine calls_of_TM (args := [w0_0, (.bool a1)]) (R := fun r en w' => ∃ v, en = .returned v ∧ slices_Index_bool_bool.Q s0.w F r v w') Try.func55 Try.ntmps55 rfl rfl m ?_
 unfold slices_Index_bool_bool.f
 refine sr ?_
 refine pu rfl rfl rfl rfl rfl ?_
 refine dn ?_
 refine sq ?_
 refine sr ?_
 refine mv w0_0 rfl rfl rfl rfl rfl rfl ?_
 refine ln A0_0 Try.underlying93 rfl rfl rfl rfl rfl rfl ?_
 refine pu rfl rfl rfl rfl rfl ?_
 refine dn ?_
 refine bl ?_
 refine lpI (fun (x2 : Int) (e : Env) (w : World) => ∃ (s : St) (e0 : Env), w = s.w ∧ e = upd (upd (upd (upd e0 0 w0_0) 1 (.bool a1)) 7 (.int .i64 (a0.length : Int))) 8 (.int .i64 x2) ∧ Kp s0 s) ⟨s0, _, rfl, (ue (ue (ue (ue rfl rfl) rfl) rfl) rfl), kp0⟩ (fun g2 ih2 => ?_)
 rintro x2 _ _ ⟨s3, _, rfl, rfl, Kx2⟩
 unfold slices_Index_bool_bool.b0
 refine sr ?_
 refine pu rfl rfl rfl rfl rfl ?_
 refine dn ?_
 refine sq ?_
 refine cd rfl (fun h4 => ?_) (fun h4 => ?_)
 ·
  refine sk ?_
  refine sq ?_
  refine bl ?_
  refine sr ?_
  refine pu rfl rfl rfl rfl rfl ?_
  refine pu rfl rfl rfl rfl rfl ?_
  refine dn ?_
  refine sr ?_
  refine pu rfl rfl rfl rfl rfl ?_
  refine mv w0_0 rfl rfl rfl rfl rfl rfl ?_
  refine pu rfl rfl rfl rfl rfl ?_
  have A5 := (A0_0.kp Kx2)
  refine ix A5 Try.underlying93 z4 rfl rfl rfl rfl rfl rfl rfl rfl (fun ad6 es6 h0_6 h1_6 he6 ce6 ia6 => ?_)
  obtain rfl := he6
  refine lc0 ce6 Try.underlying4 rfl rfl rfl rfl rfl rfl rfl rfl ?_
  refine beq_ Try.underlying4 rfl rfl rfl rfl rfl rfl rfl ?_
  refine dn ?_
  refine cd rfl (fun h8 => ?_) (fun h8 => ?_)
  ·
   refine sr ?_
   refine pu rfl rfl rfl rfl rfl ?_
   refine pu rfl rfl rfl rfl rfl ?_
   refine dn ?_
   refine sgi ?_
   exact re rfl Try.func55 rfl (r_t rfl r_nil) rfl ⟨_, rfl, rfl, z.ky Kx2⟩
  ·
   refine sk ?_
   refine ib ?_
   refine rg ?_
   refine pu rfl rfl rfl rfl rfl ?_
   refine pu rfl rfl rfl rfl rfl ?_
   refine dn ?_
   exact lb ih2 ⟨s3, _, rfl, (ue (ue (ue (ue rfl rfl) rfl) rfl) rfl), Kx2⟩
 ·
  refine xt rfl ?_
  refine sgb ?_
  refine sr ?_
  refine pu rfl rfl rfl rfl rfl ?_
  refine dn ?_
  exact re rfl Try.func55 rfl (r_t rfl r_nil) rfl ⟨_, rfl, rfl, z.ky Kx2⟩
noncomputable def slices_Index_int_int.b0 (a0 : (List Int)) (a1 : Int) (x2 : Int) : Option (Int ⊕ Int) :=
 (if (decide (x2 < (a0.length : Int))) = true then (if 0 ≤ x2 ∧ x2 < (a0.length : Int) then (if (a1 == (at_ a0 x2)) = true then (some (Sum.inr x2)) else (some (Sum.inl (IntKind.wrap .i64 (x2 + (1 : Int)))))) else none) else ((some (-1 : Int)).bind fun o => some (Sum.inr o)))
noncomputable def slices_Index_int_int.f (a0 : (List Int)) (a1 : Int) : Option (Int) :=
 (iter (slices_Index_int_int.b0 a0 a1) (0 : Int))
def slices_Index_int_int.Q (w : World) (F : Nat → Prop) (r : Int) (v : Value) (w' : World) : Prop :=
 v = (.int .i64 r) ∧ Ky [] w w'
set_option maxHeartbeats 4000000 in
set_option maxRecDepth 100000 in
theorem slices_Index_int_int.calls (a0 : (List Int)) (a1 : Int) (w : World) (F : Nat → Prop) (w0_0 : Value) (h0_0 : (Kd.sl 3 (Kd.int .i64)).rd w [w0_0] a0 F) (r : Int) (m : slices_Index_int_int.f a0 a1 = some r) :
  Calls Try.prog 56 #[w0_0, (.int .i64 a1)] w fun en w' => ∃ v, en = .returned v ∧ slices_Index_int_int.Q w F r v w' := by
 obtain ⟨s0, rfl, kp0, z⟩ := start0 w F
 have A0_0 := z.rd h0_0
 refine calls_of_TM (args := [w0_0, (.int .i64 a1)]) (R := fun r en w' => ∃ v, en = .returned v ∧ slices_Index_int_int.Q s0.w F r v w') Try.func56 Try.ntmps56 rfl rfl m ?_
 unfold slices_Index_int_int.f
 refine sr ?_
 refine pu rfl rfl rfl rfl rfl ?_
 refine dn ?_
 refine sq ?_
 refine sr ?_
 refine mv w0_0 rfl rfl rfl rfl rfl rfl ?_
 refine ln A0_0 Try.underlying24 rfl rfl rfl rfl rfl rfl ?_
 refine pu rfl rfl rfl rfl rfl ?_
 refine dn ?_
 refine bl ?_
 refine lpI (fun (x2 : Int) (e : Env) (w : World) => ∃ (s : St) (e0 : Env), w = s.w ∧ e = upd (upd (upd (upd e0 0 w0_0) 1 (.int .i64 a1)) 7 (.int .i64 (a0.length : Int))) 8 (.int .i64 x2) ∧ Kp s0 s) ⟨s0, _, rfl, (ue (ue (ue (ue rfl rfl) rfl) rfl) rfl), kp0⟩ (fun g2 ih2 => ?_)
 rintro x2 _ _ ⟨s3, _, rfl, rfl, Kx2⟩
 unfold slices_Index_int_int.b0
 refine sr ?_
 refine pu rfl rfl rfl rfl rfl ?_
 refine dn ?_
 refine sq ?_
 refine cd rfl (fun h4 => ?_) (fun h4 => ?_)
 ·
  refine sk ?_
  refine sq ?_
  refine bl ?_
  refine sr ?_
  refine pu rfl rfl rfl rfl rfl ?_
  refine pu rfl rfl rfl rfl rfl ?_
  refine dn ?_
  refine sr ?_
  refine pu rfl rfl rfl rfl rfl ?_
  refine mv w0_0 rfl rfl rfl rfl rfl rfl ?_
  refine pu rfl rfl rfl rfl rfl ?_
  have A5 := (A0_0.kp Kx2)
  refine ix A5 Try.underlying24 z3 rfl rfl rfl rfl rfl rfl rfl rfl (fun ad6 es6 h0_6 h1_6 he6 ce6 ia6 => ?_)
  obtain rfl := he6
  refine lc0 ce6 Try.underlying3 rfl rfl rfl rfl rfl rfl rfl rfl ?_
  refine pu rfl rfl rfl rfl rfl ?_
  refine dn ?_
  refine cd rfl (fun h8 => ?_) (fun h8 => ?_)
  ·
   refine sr ?_
   refine pu rfl rfl rfl rfl rfl ?_
   refine pu rfl rfl rfl rfl rfl ?_
   refine dn ?_
   refine sgi ?_
   exact re rfl Try.func56 rfl (r_t rfl r_nil) rfl ⟨_, rfl, rfl, z.ky Kx2⟩
  ·
   refine sk ?_
   refine ib ?_
   refine rg ?_
   refine pu rfl rfl rfl rfl rfl ?_
   refine pu rfl rfl rfl rfl rfl ?_
   refine dn ?_
   exact lb ih2 ⟨s3, _, rfl, (ue (ue (ue (ue rfl rfl) rfl) rfl) rfl), Kx2⟩
 ·
  refine xt rfl ?_
  refine sgb ?_
  refine sr ?_
  refine pu rfl rfl rfl rfl rfl ?_
  refine dn ?_
  exact re rfl Try.func56 rfl (r_t rfl r_nil) rfl ⟨_, rfl, rfl, z.ky Kx2⟩
noncomputable def slices_Clone_int_int.f (a0 : (List Int)) : Option ((List Int)) :=
 (if ([] : (List Int)).length + a0.length ≤ Lim then (some (([] : (List Int)) ++ a0)) else none)
def slices_Clone_int_int.Q (w : World) (F : Nat → Prop) (r : (List Int)) (v : Value) (w' : World) : Prop :=
 FO (Kd.sl 3 (Kd.int .i64)) w w' [v] r ∧ Ky [] w w'
set_option maxHeartbeats 4000000 in
set_option maxRecDepth 100000 in
theorem slices_Clone_int_int.calls (a0 : (List Int)) (w : World) (F : Nat → Prop) (w0_0 : Value) (h0_0 : (Kd.sl 3 (Kd.int .i64)).rd w [w0_0] a0 F) (r : (List Int)) (m : slices_Clone_int_int.f a0 = some r) :
  Calls Try.prog 57 #[w0_0] w fun en w' => ∃ v, en = .returned v ∧ slices_Clone_int_int.Q w F r v w' := by
 obtain ⟨s0, rfl, kp0, z⟩ := start0 w F
 have A0_0 := z.rd h0_0
 refine calls_of_TM (args := [w0_0]) (R := fun r en w' => ∃ v, en = .returned v ∧ slices_Clone_int_int.Q s0.w F r v w') Try.func57 Try.ntmps57 rfl rfl m ?_
 unfold slices_Clone_int_int.f
 refine sr ?_
 refine pu rfl rfl rfl rfl rfl ?_
 refine dn ?_
 refine sq ?_
 refine sr ?_
 refine mv w0_0 rfl rfl rfl rfl rfl rfl ?_
 refine nq A0_0 Try.underlying24 rfl rfl rfl rfl rfl rfl rfl (fun nb2 hn2 => ?_)
 refine dn ?_
 refine cdb rfl (fun h3 => ?_) (fun h3 => ?_)
 ·
  obtain rfl := hn2 h3
  refine mg fun _ => ?_
  refine sr ?_
  refine pu rfl rfl rfl rfl rfl ?_
  refine dn ?_
  exact re rfl Try.func57 rfl (r_t rfl r_nil) rfl ⟨_, rfl, (ow_nil 3 (Kd.int .i64) s0 40).fo kp0 rfl z.l, z.ky kp0⟩
 ·
  refine sk ?_
  refine sr ?_
  refine lt0 (K := (Kd.int .i64)) 40 Try.underlying24 z3 rfl rfl rfl rfl rfl (fun v4 s4 p4 A4 => ?_)
  refine mv w0_0 rfl rfl rfl rfl rfl rfl ?_
  have K6 := (kp0.st p4 rfl)
  have A7 := (A0_0.kp K6)
  refine apF fl_int sl24 A4 A7 rfl rfl rfl rfl rfl rfl rfl (fun v8 s8 p8 A8 => ?_)
  refine asg v8 rfl rfl rfl rfl rfl rfl ?_
  refine dn ?_
  have K10 := (K6.st p8 rfl)
  exact re rfl Try.func57 rfl (r_t rfl r_nil) rfl ⟨_, rfl, A8.fo K10 rfl z.l, z.ky K10⟩
noncomputable def impl_GraphRing.b1 (r8 : (List (List Int))) (r11 : (List Int) × (List Bool)) (x19 : Int × (List Int)) (x45 : Int × Int) : Option ((Int × Int) ⊕ Int) :=
 (if (decide (x45.2 < ((at_ r8 x19.1).length : Int))) = true then (if 0 ≤ x45.2 ∧ x45.2 < ((at_ r8 x19.1).length : Int) then (if 0 ≤ (at_ (at_ r8 x19.1) x45.2) ∧ (at_ (at_ r8 x19.1) x45.2) < (r11.2.length : Int) then (if (!(at_ r11.2 (at_ (at_ r8 x19.1) x45.2))) = true then ((some (at_ (at_ r8 x19.1) x45.2)).bind fun o => some (Sum.inr o)) else (some (Sum.inl (x45.1, (IntKind.wrap .i64 (x45.2 + (1 : Int))))))) else none) else none) else ((some x45.1).bind fun o => some (Sum.inr o)))
noncomputable def impl_GraphRing.b0 (r8 : (List (List Int))) (r11 : (List Int) × (List Bool)) (x19 : Int × (List Int)) : Option ((Int × (List Int)) ⊕ (List Int)) :=
 ((slices_Index_int_int.f x19.2 x19.1).bind fun r25 => (if (decide (r25 ≥ (0 : Int))) = true then (if 0 ≤ r25 ∧ r25 ≤ (x19.2.length : Int) then ((slices_Clone_int_int.f (x19.2.drop (r25).toNat)).bind fun r31 => (some (Sum.inr r31))) else none) else (if x19.2.length + ([x19.1]).length ≤ Lim then (if 0 ≤ x19.1 ∧ x19.1 < (r8.length : Int) then ((iter (impl_GraphRing.b1 r8 r11 x19) (x19.1, (0 : Int))).bind fun y44 => (some (Sum.inl (y44, (x19.2 ++ [x19.1]))))) else none) else none)))
noncomputable def impl_GraphRing.f (a0 : (List Deed)) : Option ((List Int)) :=
 ((impl_DeedsOk.f a0).bind fun r2 => (if (!r2) = true then (some ([] : (List Int))) else ((impl_ahead.f a0).bind fun r8 => ((impl_taken.f r8).bind fun r11 => ((slices_Index_bool_bool.f r11.2 false).bind fun r15 => (if (decide (r15 < (0 : Int))) = true then (some ([] : (List Int))) else (iter (impl_GraphRing.b0 r8 r11) (r15, ([] : (List Int))))))))))
def impl_GraphRing.Q (w : World) (F : Nat → Prop) (r : (List Int)) (v : Value) (w' : World) : Prop :=
 FO (Kd.sl 3 (Kd.int .i64)) w w' [v] r ∧ Ky [] w w'
set_option maxHeartbeats 4000000 in
set_option maxRecDepth 100000 in
theorem impl_GraphRing.calls (a0 : (List Deed)) (w : World) (F : Nat → Prop) (w0_0 : Value) (h0_0 : (Kd.sl 99 kd99).rd w [w0_0] a0 F) (r : (List Int)) (m : impl_GraphRing.f a0 = some r) :
  Calls Try.prog 11 #[w0_0] w fun en w' => ∃ v, en = .returned v ∧ impl_GraphRing.Q w F r v w' := by
 obtain ⟨s0, rfl, kp0, z⟩ := start0 w F
 have A0_0 := z.rd h0_0
 refine calls_of_TM (args := [w0_0]) (R := fun r en w' => ∃ v, en = .returned v ∧ impl_GraphRing.Q s0.w F r v w') Try.func11 Try.ntmps11 rfl rfl m ?_
 unfold impl_GraphRing.f
 refine sr ?_
 refine pu rfl rfl rfl rfl rfl ?_
 refine dn ?_
 refine sq ?_
 refine sr ?_
 refine mv w0_0 rfl rfl rfl rfl rfl rfl ?_
 refine cl rfl rfl rfl rfl rfl Try.func52 rfl rfl rfl (fun r2 m2 => impl_DeedsOk.calls a0 s0.w (fun b => memb [0] (s0.g b) = true) w0_0 A0_0 r2 m2) ?_
 rintro r2 _ w2 m2 ⟨rfl, ky2⟩
 obtain ⟨s3, rfl, p3, n3⟩ := nwx s0 w2 40 ky2
 refine pu rfl rfl rfl rfl rfl ?_
 refine dn ?_
 refine cd rfl (fun h4 => ?_) (fun h4 => ?_)
 ·
  refine sr ?_
  refine pu rfl rfl rfl rfl rfl ?_
  refine dn ?_
  have K5 := (kp0.st p3 rfl)
  exact re rfl Try.func11 rfl (r_t rfl r_nil) rfl ⟨_, rfl, (ow_nil 3 (Kd.int .i64) s3 40).fo K5 rfl z.l, z.ky K5⟩
 ·
  refine sk ?_
  refine sr ?_
  refine mv w0_0 rfl rfl rfl rfl rfl rfl ?_
  have K6 := (kp0.st p3 rfl)
  have A7 := (A0_0.kp K6)
  refine cl rfl rfl rfl rfl rfl Try.func53 rfl rfl rfl (fun r8 m8 => impl_ahead.calls a0 s3.w (fun b => memb [0] (s3.g b) = true) w0_0 A7 r8 m8) ?_
  rintro r8 v8_0 w8 m8 ⟨f8_0, ky8⟩
  obtain ⟨s9, rfl, p9, n9⟩ := nwx s3 w8 41 ky8
  have A8_0 := f8_0.c n9
  refine asg v8_0 rfl rfl rfl rfl rfl rfl ?_
  refine dn ?_
  refine sr ?_
  refine mv v8_0 rfl rfl rfl rfl rfl rfl ?_
  refine cl rfl rfl rfl rfl rfl Try.func54 rfl rfl rfl (fun r11 m11 => impl_taken.calls r8 s9.w (fun b => memb [41] (s9.g b) = true) v8_0 A8_0.rd r11 m11) ?_
  rintro r11 _ w11 m11 ⟨v11_0, v11_1, rfl, f11_0, f11_1, ky11⟩
  obtain ⟨s12, rfl, p12, n12⟩ := nwx s9 w11 42 ky11
  have A11_0 := f11_0.c n12
  have A11_1 := f11_1.c n12
  refine pu rfl rfl rfl rfl rfl ?_
  refine pu (v := v11_0) rfl rfl rfl rfl rfl ?_
  refine pu (v := v11_1) rfl rfl rfl rfl rfl ?_
  refine asg v11_0 rfl rfl rfl rfl rfl rfl ?_
  refine asg v11_1 rfl rfl rfl rfl rfl rfl ?_
  refine dn ?_
  refine sr ?_
  refine mv v11_1 rfl rfl rfl rfl rfl rfl ?_
  refine cl rfl rfl rfl rfl rfl Try.func55 rfl rfl rfl (fun r15 m15 => slices_Index_bool_bool.calls r11.2 false s12.w (fun b => memb [42] (s12.g b) = true) v11_1 A11_1.rd r15 m15) ?_
  rintro r15 _ w15 m15 ⟨rfl, ky15⟩
  obtain ⟨s16, rfl, p16, n16⟩ := nwx s12 w15 43 ky15
  refine pu rfl rfl rfl rfl rfl ?_
  refine dn ?_
  refine sq ?_
  refine sr ?_
  refine pu rfl rfl rfl rfl rfl ?_
  refine pu rfl rfl rfl rfl rfl ?_
  refine dn ?_
  refine cd rfl (fun h17 => ?_) (fun h17 => ?_)
  ·
   refine sr ?_
   refine pu rfl rfl rfl rfl rfl ?_
   refine dn ?_
   have K18 := (((K6.st p9 rfl).st p12 rfl).st p16 rfl)
   exact re rfl Try.func11 rfl (r_t rfl r_nil) rfl ⟨_, rfl, (ow_nil 3 (Kd.int .i64) s16 40).fo K18 rfl z.l, z.ky K18⟩
  ·
   refine sk ?_
   refine sr ?_
   refine pu rfl rfl rfl rfl rfl ?_
   refine dn ?_
   refine bl ?_
   have A20 := ((A8_0.st p12 rfl).st p16 rfl)
   have A21 := (A11_1.st p16 rfl)
   have K22 := (((K6.st p9 rfl).st p12 rfl).st p16 rfl)
   refine lpI (fun (x19 : Int × (List Int)) (e : Env) (w : World) => ∃ (s : St) (e0 : Env) (vx19_0 : Value), w = s.w ∧ e = upd (upd (upd (upd e0 3 v8_0) 5 v11_1) 6 (.int .i64 x19.1)) 7 vx19_0 ∧ Kp s0 s ∧ OwF (Kd.sl 3 (Kd.int .i64)) s [vx19_0] x19.2 44 ∧ OwF (Kd.sl 24 (Kd.sl 3 (Kd.int .i64))) s [v8_0] r8 41 ∧ OwF (Kd.sl 4 Kd.bool) s [v11_1] r11.2 42) ⟨s16, _, (.slice none 0 0), rfl, (ue (ue (ue (ue rfl rfl) rfl) rfl) rfl), K22, (ow_nil 3 (Kd.int .i64) _ 44), A20, A21⟩ (fun g19 ih19 => ?_)
   rintro x19 _ _ ⟨s23, _, vx19_0, rfl, rfl, Kx19, Ax19_0, Cx19_10, Cx19_14⟩
   unfold impl_GraphRing.b0
   refine bl ?_
   refine sq ?_
   refine sr ?_
   refine mv vx19_0 rfl rfl rfl rfl rfl rfl ?_
   refine pu rfl rfl rfl rfl rfl ?_
   refine cl rfl rfl rfl rfl rfl Try.func56 rfl rfl rfl (fun r25 m25 => slices_Index_int_int.calls x19.2 x19.1 s23.w (fun b => memb [44] (s23.g b) = true) vx19_0 Ax19_0.rd r25 m25) ?_
   rintro r25 _ w25 m25 ⟨rfl, ky25⟩
   obtain ⟨s26, rfl, p26, n26⟩ := nwx s23 w25 45 ky25
   refine pu rfl rfl rfl rfl rfl ?_
   refine dn ?_
   refine sr ?_
   refine pu rfl rfl rfl rfl rfl ?_
   refine pu rfl rfl rfl rfl rfl ?_
   refine dn ?_
   refine cd rfl (fun h27 => ?_) (fun h27 => ?_)
   ·
    refine sr ?_
    refine mv vx19_0 rfl rfl rfl rfl rfl rfl ?_
    refine pu rfl rfl rfl rfl rfl ?_
    have A28 := (Ax19_0.st p26 rfl)
    refine sla A28.rd Try.underlying24 z3 rfl rfl rfl rfl rfl rfl rfl (fun v29 A29 => ?_)
    refine cl rfl rfl rfl rfl rfl Try.func57 rfl rfl rfl (fun r31 m31 => slices_Clone_int_int.calls (x19.2.drop (r25).toNat) s26.w (fun b => memb [44] (s26.g b) = true) v29 A29 r31 m31) ?_
    rintro r31 v31_0 w31 m31 ⟨f31_0, ky31⟩
    obtain ⟨s32, rfl, p32, n32⟩ := nwx s26 w31 46 ky31
    have A31_0 := f31_0.c n32
    refine asg v31_0 rfl rfl rfl rfl rfl rfl ?_
    refine dn ?_
    refine sgi ?_
    have K34 := ((Kx19.st p26 rfl).st p32 rfl)
    exact re rfl Try.func11 rfl (r_t rfl r_nil) rfl ⟨_, rfl, A31_0.fo K34 rfl z.l, z.ky K34⟩
   ·
    refine sk ?_
    refine sr ?_
    refine mv vx19_0 rfl rfl rfl rfl rfl rfl ?_
    refine pu rfl rfl rfl rfl rfl ?_
    refine ltF (K := (Kd.int .i64)) (cells := [(.int .i64 x19.1)]) [x19.1] 47 fl_int Try.underlying24 z3 o3 (fun w => (els_flat _ _ _)) rfl rfl rfl rfl rfl rfl rfl rfl rfl rfl (fun v35 s35 p35 A35 => ?_)
    have A37 := ((Ax19_0.st p26 rfl).st p35 rfl)
    refine apF fl_int sl24 A37 A35.rd rfl rfl rfl rfl rfl rfl rfl (fun v38 s38 p38 A38 => ?_)
    refine asg v38 rfl rfl rfl rfl rfl rfl ?_
    refine dn ?_
    refine sr ?_
    refine mv v8_0 rfl rfl rfl rfl rfl rfl ?_
    refine pu rfl rfl rfl rfl rfl ?_
    have A40 := (((Cx19_10.st p26 rfl).st p35 rfl).st p38 rfl)
    refine ix A40.rd Try.underlying101 z24 rfl rfl rfl rfl rfl rfl rfl rfl (fun ad41 es41 h0_41 h1_41 he41 ce41 ia41 => ?_)
    obtain ⟨v41, rfl, he41'⟩ := he41
    have A41 : RdF (Kd.sl 3 (Kd.int .i64)) s38 [v41] (at_ r8 x19.1) [41] := ⟨v41, rfl, he41'⟩
    refine lc0 ce41 Try.underlying24 rfl rfl rfl rfl rfl rfl rfl rfl ?_
    refine ln A41 Try.underlying24 rfl rfl rfl rfl rfl rfl ?_
    refine pu rfl rfl rfl rfl rfl ?_
    refine dn ?_
    refine jc (fun (y44 : Int) (e : Env) (w : World) => ∃ (s : St) (e0 : Env), w = s.w ∧ e = upd (upd (upd (upd e0 3 v8_0) 5 v11_1) 6 (.int .i64 y44)) 7 v38 ∧ Kp s0 s ∧ OwF (Kd.sl 24 (Kd.sl 3 (Kd.int .i64))) s [v8_0] r8 41 ∧ OwF (Kd.sl 4 Kd.bool) s [v11_1] r11.2 42 ∧ OwF (Kd.sl 3 (Kd.int .i64)) s [v38] (x19.2 ++ [x19.1]) 44) (fun Gj44 Kj44 => ?_) ?_
    ·
     refine bl ?_
     have A46 := (((Cx19_14.st p26 rfl).st p35 rfl).st p38 rfl)
     have K47 := (((Kx19.st p26 rfl).st p35 rfl).st p38 rfl)
     refine lpI (fun (x45 : Int × Int) (e : Env) (w : World) => ∃ (s : St) (e0 : Env), w = s.w ∧ e = upd (upd (upd (upd (upd (upd (upd e0 3 v8_0) 5 v11_1) 6 (.int .i64 x45.1)) 7 v38) 41 v41) 42 (.int .i64 ((at_ r8 x19.1).length : Int))) 43 (.int .i64 x45.2) ∧ Kp s0 s ∧ OwF (Kd.sl 24 (Kd.sl 3 (Kd.int .i64))) s [v8_0] r8 41 ∧ OwF (Kd.sl 4 Kd.bool) s [v11_1] r11.2 42 ∧ OwF (Kd.sl 3 (Kd.int .i64)) s [v38] (x19.2 ++ [x19.1]) 44 ∧ RdF (Kd.sl 3 (Kd.int .i64)) s [v41] (at_ r8 x19.1) [41]) ⟨s38, _, rfl, (ue (ue (ue (ue (ue (ue (ue rfl rfl) rfl) rfl) rfl) rfl) rfl) rfl), K47, A40, A46, A38, A41⟩ (fun g45 ih45 => ?_)
     rintro x45 _ _ ⟨s48, _, rfl, rfl, Kx45, Cx45_10, Cx45_14, Cx45_39, Cx45_42⟩
     unfold impl_GraphRing.b1
     refine sr ?_
     refine pu rfl rfl rfl rfl rfl ?_
     refine dn ?_
     refine sq ?_
     refine cd rfl (fun h49 => ?_) (fun h49 => ?_)
     ·
      refine sk ?_
      refine sq ?_
      refine bl ?_
      refine sr ?_
      refine ix Cx45_42 Try.underlying24 z3 rfl rfl rfl rfl rfl rfl rfl rfl (fun ad50 es50 h0_50 h1_50 he50 ce50 ia50 => ?_)
      obtain rfl := he50
      refine lc0 ce50 Try.underlying3 rfl rfl rfl rfl rfl rfl rfl rfl ?_
      refine pu rfl rfl rfl rfl rfl ?_
      refine dn ?_
      refine sr ?_
      refine mv v11_1 rfl rfl rfl rfl rfl rfl ?_
      refine pu rfl rfl rfl rfl rfl ?_
      refine ix Cx45_14.rd Try.underlying93 z4 rfl rfl rfl rfl rfl rfl rfl rfl (fun ad52 es52 h0_52 h1_52 he52 ce52 ia52 => ?_)
      obtain rfl := he52
      refine lc0 ce52 Try.underlying4 rfl rfl rfl rfl rfl rfl rfl rfl ?_
      refine pu rfl rfl rfl rfl rfl ?_
      refine dn ?_
      refine cd rfl (fun h54 => ?_) (fun h54 => ?_)
      ·
       refine sr ?_
       refine pu rfl rfl rfl rfl rfl ?_
       refine pu rfl rfl rfl rfl rfl ?_
       refine dn ?_
       refine xt rfl ?_
       refine sgb ?_
       exact Kj44 _ _ _ ⟨s48, _, rfl, (ue (ue (ue (ue rfl rfl) rfl) rfl) rfl), Kx45, Cx45_10, Cx45_14, Cx45_39⟩
      ·
       refine sk ?_
       refine ib ?_
       refine rg ?_
       refine pu rfl rfl rfl rfl rfl ?_
       refine pu rfl rfl rfl rfl rfl ?_
       refine dn ?_
       exact lb ih45 ⟨s48, _, rfl, (ue (ue (ue (ue (ue (ue (ue rfl rfl) rfl) rfl) rfl) rfl) rfl) rfl), Kx45, Cx45_10, Cx45_14, Cx45_39, Cx45_42⟩
     ·
      refine xt rfl ?_
      refine sgb ?_
      exact Kj44 _ _ _ ⟨s48, _, rfl, (ue (ue (ue (ue rfl rfl) rfl) rfl) rfl), Kx45, Cx45_10, Cx45_14, Cx45_39⟩
    rintro y44 _ _ ⟨s55, _, rfl, rfl, Ky44, Cy44_10, Cy44_14, Cy44_39⟩
    refine ib ?_
    exact lb ih19 ⟨s55, _, v38, rfl, (ue (ue (ue (ue rfl rfl) rfl) rfl) rfl), Ky44, Cy44_39, Cy44_10, Cy44_14⟩
noncomputable def laws_eqIntS.b0 (a0 : (List Int)) (a1 : (List Int)) (x4 : Int) : Option (Int ⊕ Bool) :=
 (if (decide (x4 < (a0.length : Int))) = true then (if 0 ≤ x4 ∧ x4 < (a0.length : Int) then (if 0 ≤ x4 ∧ x4 < (a1.length : Int) then (if ((at_ a0 x4) != (at_ a1 x4)) = true then (some (Sum.inr false)) else (some (Sum.inl (IntKind.wrap .i64 (x4 + (1 : Int)))))) else none) else none) else ((some true).bind fun o => some (Sum.inr o)))
noncomputable def laws_eqIntS.f (a0 : (List Int)) (a1 : (List Int)) : Option (Bool) :=
 (if ((a0.length : Int) != (a1.length : Int)) = true then (some false) else (iter (laws_eqIntS.b0 a0 a1) (0 : Int)))
def laws_eqIntS.Q (w : World) (F : Nat → Prop) (r : Bool) (v : Value) (w' : World) : Prop :=
 v = (.bool r) ∧ Ky [] w w'
set_option maxHeartbeats 4000000 in
set_option maxRecDepth 100000 in
theorem laws_eqIntS.calls (a0 : (List Int)) (a1 : (List Int)) (w : World) (F : Nat → Prop) (w0_0 : Value) (w1_0 : Value) (h0_0 : (Kd.sl 3 (Kd.int .i64)).rd w [w0_0] a0 F) (h1_0 : (Kd.sl 3 (Kd.int .i64)).rd w [w1_0] a1 F) (r : Bool) (m : laws_eqIntS.f a0 a1 = some r) :
  Calls Try.prog 12 #[w0_0, w1_0] w fun en w' => ∃ v, en = .returned v ∧ laws_eqIntS.Q w F r v w' := by
 obtain ⟨s0, rfl, kp0, z⟩ := start0 w F
 have A0_0 := z.rd h0_0
 have A1_0 := z.rd h1_0
 refine calls_of_TM (args := [w0_0, w1_0]) (R := fun r en w' => ∃ v, en = .returned v ∧ laws_eqIntS.Q s0.w F r v w') Try.func12 Try.ntmps12 rfl rfl m ?_
 unfold laws_eqIntS.f
 refine sr ?_
 refine pu rfl rfl rfl rfl rfl ?_
 refine dn ?_
 refine sq ?_
 refine sr ?_
 refine mv w0_0 rfl rfl rfl rfl rfl rfl ?_
 refine ln A0_0 Try.underlying24 rfl rfl rfl rfl rfl rfl ?_
 refine mv w1_0 rfl rfl rfl rfl rfl rfl ?_
 refine ln A1_0 Try.underlying24 rfl rfl rfl rfl rfl rfl ?_
 refine pu rfl rfl rfl rfl rfl ?_
 refine dn ?_
 refine cd rfl (fun h3 => ?_) (fun h3 => ?_)
 ·
  refine sr ?_
  refine pu rfl rfl rfl rfl rfl ?_
  refine dn ?_
  exact re rfl Try.func12 rfl (r_t rfl r_nil) rfl ⟨_, rfl, rfl, z.ky kp0⟩
 ·
  refine sk ?_
  refine sq ?_
  refine sr ?_
  refine pu rfl rfl rfl rfl rfl ?_
  refine dn ?_
  refine bl ?_
  refine lpI (fun (x4 : Int) (e : Env) (w : World) => ∃ (s : St) (e0 : Env), w = s.w ∧ e = upd (upd (upd e0 0 w0_0) 1 w1_0) 5 (.int .i64 x4) ∧ Kp s0 s) ⟨s0, _, rfl, (ue (ue (ue rfl rfl) rfl) rfl), kp0⟩ (fun g4 ih4 => ?_)
  rintro x4 _ _ ⟨s5, _, rfl, rfl, Kx4⟩
  unfold laws_eqIntS.b0
  refine sq ?_
  refine sr ?_
  refine pu rfl rfl rfl rfl rfl ?_
  refine mv w0_0 rfl rfl rfl rfl rfl rfl ?_
  have A6 := (A0_0.kp Kx4)
  refine ln A6 Try.underlying24 rfl rfl rfl rfl rfl rfl ?_
  refine pu rfl rfl rfl rfl rfl ?_
  refine dn ?_
  refine cd rfl (fun h7 => ?_) (fun h7 => ?_)
  ·
   refine sk ?_
   refine sq ?_
   refine bl ?_
   refine sq ?_
   refine zdraw [[], [], [0, 1], [2], [], [], [4, 5], [6], [3, 7]] [some 17, some 18, some 19, some 20, some 21, some 22, some 23, some 24, some 25] [[0], [5], [17, 18], [19], [1], [5], [21, 22], [23], [20, 24]] [0, 1, 2, 3, 4, 5, 6, 7, 8] ⟨by kernel_rfl, by kernel_rfl, by kernel_rfl⟩ (by kernel_rfl) (fun s8 p8 l8 tb8 zd8 => ?_)
   have zd9 := zd8.add 0 17 w0_0 rfl
   have zd10 := zd9.add 1 18 (.int .i64 x4) rfl
   have K11 := (Kx4.st p8 rfl)
   have A12 := (A0_0.kp K11)
   refine mg fun hg13 => ?_
   obtain ⟨ad13, es13, he13, ce13, ia13⟩ := ix_e A12 rfl hg13.1 hg13.2
   have h0_13 := hg13.1
   have h1_13 := hg13.2
   obtain rfl := he13
   have zd15 := zd10.add 2 19 (.pointer (some ad13)) rfl
   have zd16 := zd15.add 3 20 (.int .i64 (at_ a0 x4)) rfl
   have zd17 := zd16.add 4 21 w1_0 rfl
   have zd18 := zd17.add 5 22 (.int .i64 x4) rfl
   have A19 := (A1_0.kp K11)
   refine mg fun hg20 => ?_
   obtain ⟨ad20, es20, he20, ce20, ia20⟩ := ix_e A19 rfl hg20.1 hg20.2
   have h0_20 := hg20.1
   have h1_20 := hg20.2
   obtain rfl := he20
   have zd22 := zd18.add 6 23 (.pointer (some ad20)) rfl
   have zd23 := zd22.add 7 24 (.int .i64 (at_ a1 x4)) rfl
   refine zfin [8] tb8 zd23 (pq_cons (lc0_q ce20 Try.underlying3 rfl rfl rfl rfl rfl rfl rfl rfl) rfl (pq_cons (ix_q A19 Try.underlying24 z3 hg20.1 hg20.2 ia20 rfl rfl rfl rfl rfl rfl rfl) rfl (pq_cons (pu_q rfl rfl rfl rfl rfl rfl) rfl (pq_cons (mv_q w1_0 rfl rfl rfl rfl rfl rfl) rfl (pq_cons (lc0_q ce13 Try.underlying3 rfl rfl rfl rfl rfl rfl rfl rfl) rfl (pq_cons (ix_q A12 Try.underlying24 z3 hg13.1 hg13.2 ia13 rfl rfl rfl rfl rfl rfl rfl) rfl (pq_cons (pu_q rfl rfl rfl rfl rfl rfl) rfl (pq_cons (mv_q w0_0 rfl rfl rfl rfl rfl rfl) rfl pq_nil)))))))) (by kernel_rfl) (by decide) ?_
   refine pu rfl rfl rfl rfl rfl ?_
   refine dn ?_
   refine cd rfl (fun h24 => ?_) (fun h24 => ?_)
   ·
    refine sr ?_
    refine pu rfl rfl rfl rfl rfl ?_
    refine dn ?_
    refine sgi ?_
    exact re rfl Try.func12 rfl (r_t rfl r_nil) rfl ⟨_, rfl, rfl, z.ky K11⟩
   ·
    refine sk ?_
    refine ib ?_
    refine rg ?_
    refine pu rfl rfl rfl rfl rfl ?_
    refine pu rfl rfl rfl rfl rfl ?_
    refine pu rfl rfl rfl rfl rfl ?_
    refine dn ?_
    exact lb ih4 ⟨s8, _, rfl, (ue (ue (ue rfl rfl) rfl) rfl), K11⟩
  ·
   refine xt rfl ?_
   refine sgb ?_
   refine sr ?_
   refine pu rfl rfl rfl rfl rfl ?_
   refine dn ?_
   exact re rfl Try.func12 rfl (r_t rfl r_nil) rfl ⟨_, rfl, rfl, z.ky Kx4⟩
noncomputable def laws_sameFloat.f (a0 : Nat) (a1 : Nat) : Option (Bool) :=
 (if ((fcmp .f64 a0 a0 != some .eq) || (fcmp .f64 a1 a1 != some .eq)) = true then (some ((fcmp .f64 a0 a0 != some .eq) && (fcmp .f64 a1 a1 != some .eq))) else (if ((fcmp .f64 a0 (0 : Nat) == some .eq) && (fcmp .f64 a1 (0 : Nat) == some .eq)) = true then (some ((fcmp .f64 (far .quo (4607182418800017408 : Nat) a0) (0 : Nat) == some .gt) == (fcmp .f64 (far .quo (4607182418800017408 : Nat) a1) (0 : Nat) == some .gt))) else (some (fcmp .f64 a0 a1 == some .eq))))
def laws_sameFloat.Q (w : World) (F : Nat → Prop) (r : Bool) (v : Value) (w' : World) : Prop :=
 v = (.bool r) ∧ Ky [] w w'
set_option maxHeartbeats 4000000 in
set_option maxRecDepth 100000 in
theorem laws_sameFloat.calls (a0 : Nat) (a1 : Nat) (w : World) (F : Nat → Prop) (w0_0 : Value) (w1_0 : Value) (h0_0 : Kd.flt.rd w [w0_0] a0 F) (h1_0 : Kd.flt.rd w [w1_0] a1 F) (r : Bool) (m : laws_sameFloat.f a0 a1 = some r) :
  Calls Try.prog 78 #[w0_0, w1_0] w fun en w' => ∃ v, en = .returned v ∧ laws_sameFloat.Q w F r v w' := by
 obtain ⟨s0, rfl, kp0, z⟩ := start0 w F
 have A0_0 := fl_of h0_0
 have A1_0 := fl_of h1_0
 refine calls_of_TM (args := [w0_0, w1_0]) (R := fun r en w' => ∃ v, en = .returned v ∧ laws_sameFloat.Q s0.w F r v w') Try.func78 Try.ntmps78 rfl rfl m ?_
 unfold laws_sameFloat.f
 refine sr ?_
 refine pu rfl rfl rfl rfl rfl ?_
 refine dn ?_
 refine sq ?_
 refine sr ?_
 refine mv w0_0 rfl rfl rfl rfl rfl rfl ?_
 refine mv w0_0 rfl rfl rfl rfl rfl rfl ?_
 refine fq_ A0_0 A0_0 rfl rfl rfl rfl rfl rfl rfl rfl ?_
 refine pu rfl rfl rfl rfl rfl ?_
 refine jy [8, 9, 10, 11, 12] [] 12 (.bool ((fcmp .f64 a0 a0 != some .eq) || (fcmp .f64 a1 a1 != some .eq))) rfl (fun Kg1 => ?_) (fun j1 => ?_)
 ·
  rcases Bool.eq_false_or_eq_true (fcmp .f64 a0 a0 != some .eq) with hb1 | hb1
  ·
   refine sbT hb1 ?_
   refine uw rfl rfl rfl rfl ?_
   refine uw rfl rfl rfl rfl ?_
   refine uw rfl rfl rfl rfl ?_
   refine pu rfl rfl rfl rfl rfl ?_
   exact Kg1 _ (Ag.put ((Ag.put ((Ag.put ((Ag.put (Ag.base rfl) rfl)) rfl)) rfl)) rfl) (by rw [hb1]; rfl)
  ·
   refine sbT hb1 ?_
   refine mv w1_0 rfl rfl rfl rfl rfl rfl ?_
   refine mv w1_0 rfl rfl rfl rfl rfl rfl ?_
   refine fq_ A1_0 A1_0 rfl rfl rfl rfl rfl rfl rfl rfl ?_
   refine pu rfl rfl rfl rfl rfl ?_
   exact Kg1 _ (Ag.put ((Ag.put ((Ag.put ((Ag.put (Ag.base rfl) rfl)) rfl)) rfl)) rfl) (by rw [hb1]; rfl)
 refine dn ?_
 refine cd rfl (fun h2 => ?_) (fun h2 => ?_)
 ·
  refine sr ?_
  refine mv w0_0 rfl rfl rfl rfl rfl rfl ?_
  refine mv w0_0 rfl rfl rfl rfl rfl rfl ?_
  refine fq_ A0_0 A0_0 rfl rfl rfl rfl rfl rfl rfl rfl ?_
  refine pu rfl rfl rfl rfl rfl ?_
  refine jy [16, 17, 18, 19, 20] [8] 20 (.bool ((fcmp .f64 a0 a0 != some .eq) && (fcmp .f64 a1 a1 != some .eq))) rfl (fun Kg3 => ?_) (fun j3 => ?_)
  ·
   rcases Bool.eq_false_or_eq_true (fcmp .f64 a0 a0 != some .eq) with hb3 | hb3
   ·
    refine sbT hb3 ?_
    refine mv w1_0 rfl rfl rfl rfl rfl rfl ?_
    refine mv w1_0 rfl rfl rfl rfl rfl rfl ?_
    refine fq_ A1_0 A1_0 rfl rfl rfl rfl rfl rfl rfl rfl ?_
    refine pu rfl rfl rfl rfl rfl ?_
    exact Kg3 _ (Ag.put ((Ag.put ((Ag.put ((Ag.put (Ag.base rfl) rfl)) rfl)) rfl)) rfl) (by rw [hb3]; rfl)
   ·
    refine sbT hb3 ?_
    refine uw rfl rfl rfl rfl ?_
    refine uw rfl rfl rfl rfl ?_
    refine uw rfl rfl rfl rfl ?_
    refine pu rfl rfl rfl rfl rfl ?_
    exact Kg3 _ (Ag.put ((Ag.put ((Ag.put ((Ag.put (Ag.base rfl) rfl)) rfl)) rfl)) rfl) (by rw [hb3]; rfl)
  refine pu rfl rfl rfl rfl rfl ?_
  refine dn ?_
  exact re rfl Try.func78 rfl (r_t rfl r_nil) rfl ⟨_, rfl, rfl, z.ky kp0⟩
 ·
  refine sk ?_
  refine sq ?_
  refine sr ?_
  refine mv w0_0 rfl rfl rfl rfl rfl rfl ?_
  refine fq_ A0_0 (fl_c rfl) rfl rfl rfl rfl rfl rfl rfl rfl ?_
  refine pu rfl rfl rfl rfl rfl ?_
  refine jy [23, 24, 25, 26] [] 26 (.bool ((fcmp .f64 a0 (0 : Nat) == some .eq) && (fcmp .f64 a1 (0 : Nat) == some .eq))) rfl (fun Kg4 => ?_) (fun j4 => ?_)
  ·
   rcases Bool.eq_false_or_eq_true (fcmp .f64 a0 (0 : Nat) == some .eq) with hb4 | hb4
   ·
    refine sbT hb4 ?_
    refine mv w1_0 rfl rfl rfl rfl rfl rfl ?_
    refine fq_ A1_0 (fl_c rfl) rfl rfl rfl rfl rfl rfl rfl rfl ?_
    refine pu rfl rfl rfl rfl rfl ?_
    exact Kg4 _ (Ag.put ((Ag.put ((Ag.put (Ag.base rfl) rfl)) rfl)) rfl) (by rw [hb4]; rfl)
   ·
    refine sbT hb4 ?_
    refine uw rfl rfl rfl rfl ?_
    refine uw rfl rfl rfl rfl ?_
    refine pu rfl rfl rfl rfl rfl ?_
    exact Kg4 _ (Ag.put ((Ag.put ((Ag.put (Ag.base rfl) rfl)) rfl)) rfl) (by rw [hb4]; rfl)
  refine dn ?_
  refine cd rfl (fun h5 => ?_) (fun h5 => ?_)
  ·
   refine sr ?_
   refine mv w0_0 rfl rfl rfl rfl rfl rfl ?_
   refine fa_ (fl_c rfl) A0_0 (by simp) rfl rfl rfl rfl rfl rfl rfl (fun v6 s6 p6 A6 => ?_)
   refine fq_ A6 (fl_c rfl) rfl rfl rfl rfl rfl rfl rfl rfl ?_
   refine mv w1_0 rfl rfl rfl rfl rfl rfl ?_
   refine fa_ (fl_c rfl) A1_0 (by simp) rfl rfl rfl rfl rfl rfl rfl (fun v7 s7 p7 A7 => ?_)
   refine fq_ A7 (fl_c rfl) rfl rfl rfl rfl rfl rfl rfl rfl ?_
   refine beq_ Try.underlying4 rfl rfl rfl rfl rfl rfl rfl ?_
   refine pu rfl rfl rfl rfl rfl ?_
   refine dn ?_
   have K8 := ((kp0.st p6 rfl).st p7 rfl)
   exact re rfl Try.func78 rfl (r_t rfl r_nil) rfl ⟨_, rfl, rfl, z.ky K8⟩
  ·
   refine sk ?_
   refine sr ?_
   refine mv w0_0 rfl rfl rfl rfl rfl rfl ?_
   refine mv w1_0 rfl rfl rfl rfl rfl rfl ?_
   refine fq_ A0_0 A1_0 rfl rfl rfl rfl rfl rfl rfl rfl ?_
   refine pu rfl rfl rfl rfl rfl ?_
   refine dn ?_
   exact re rfl Try.func78 rfl (r_t rfl r_nil) rfl ⟨_, rfl, rfl, z.ky kp0⟩
noncomputable def laws_eqByteS.b0 (a0 : (List Int)) (a1 : (List Int)) (x4 : Int) : Option (Int ⊕ Bool) :=
 (if (decide (x4 < (a0.length : Int))) = true then (if 0 ≤ x4 ∧ x4 < (a0.length : Int) then (if 0 ≤ x4 ∧ x4 < (a1.length : Int) then (if ((at_ a0 x4) != (at_ a1 x4)) = true then (some (Sum.inr false)) else (some (Sum.inl (IntKind.wrap .i64 (x4 + (1 : Int)))))) else none) else none) else ((some true).bind fun o => some (Sum.inr o)))
noncomputable def laws_eqByteS.f (a0 : (List Int)) (a1 : (List Int)) : Option (Bool) :=
 (if ((a0.length : Int) != (a1.length : Int)) = true then (some false) else (iter (laws_eqByteS.b0 a0 a1) (0 : Int)))
def laws_eqByteS.Q (w : World) (F : Nat → Prop) (r : Bool) (v : Value) (w' : World) : Prop :=
 v = (.bool r) ∧ Ky [] w w'
set_option maxHeartbeats 4000000 in
set_option maxRecDepth 100000 in
theorem laws_eqByteS.calls (a0 : (List Int)) (a1 : (List Int)) (w : World) (F : Nat → Prop) (w0_0 : Value) (w1_0 : Value) (h0_0 : (Kd.sl 5 (Kd.int .u8)).rd w [w0_0] a0 F) (h1_0 : (Kd.sl 5 (Kd.int .u8)).rd w [w1_0] a1 F) (r : Bool) (m : laws_eqByteS.f a0 a1 = some r) :
  Calls Try.prog 79 #[w0_0, w1_0] w fun en w' => ∃ v, en = .returned v ∧ laws_eqByteS.Q w F r v w' := by
 obtain ⟨s0, rfl, kp0, z⟩ := start0 w F
 have A0_0 := z.rd h0_0
 have A1_0 := z.rd h1_0
 refine calls_of_TM (args := [w0_0, w1_0]) (R := fun r en w' => ∃ v, en = .returned v ∧ laws_eqByteS.Q s0.w F r v w') Try.func79 Try.ntmps79 rfl rfl m ?_
 unfold laws_eqByteS.f
 refine sr ?_
 refine pu rfl rfl rfl rfl rfl ?_
 refine dn ?_
 refine sq ?_
 refine sr ?_
 refine mv w0_0 rfl rfl rfl rfl rfl rfl ?_
 refine ln A0_0 Try.underlying37 rfl rfl rfl rfl rfl rfl ?_
 refine mv w1_0 rfl rfl rfl rfl rfl rfl ?_
 refine ln A1_0 Try.underlying37 rfl rfl rfl rfl rfl rfl ?_
 refine pu rfl rfl rfl rfl rfl ?_
 refine dn ?_
 refine cd rfl (fun h3 => ?_) (fun h3 => ?_)
 ·
  refine sr ?_
  refine pu rfl rfl rfl rfl rfl ?_
  refine dn ?_
  exact re rfl Try.func79 rfl (r_t rfl r_nil) rfl ⟨_, rfl, rfl, z.ky kp0⟩
 ·
  refine sk ?_
  refine sq ?_
  refine sr ?_
  refine pu rfl rfl rfl rfl rfl ?_
  refine dn ?_
  refine bl ?_
  refine lpI (fun (x4 : Int) (e : Env) (w : World) => ∃ (s : St) (e0 : Env), w = s.w ∧ e = upd (upd (upd e0 0 w0_0) 1 w1_0) 5 (.int .i64 x4) ∧ Kp s0 s) ⟨s0, _, rfl, (ue (ue (ue rfl rfl) rfl) rfl), kp0⟩ (fun g4 ih4 => ?_)
  rintro x4 _ _ ⟨s5, _, rfl, rfl, Kx4⟩
  unfold laws_eqByteS.b0
  refine sq ?_
  refine sr ?_
  refine pu rfl rfl rfl rfl rfl ?_
  refine mv w0_0 rfl rfl rfl rfl rfl rfl ?_
  have A6 := (A0_0.kp Kx4)
  refine ln A6 Try.underlying37 rfl rfl rfl rfl rfl rfl ?_
  refine pu rfl rfl rfl rfl rfl ?_
  refine dn ?_
  refine cd rfl (fun h7 => ?_) (fun h7 => ?_)
  ·
   refine sk ?_
   refine sq ?_
   refine bl ?_
   refine sq ?_
   refine zdraw [[], [], [0, 1], [2], [], [], [4, 5], [6], [3, 7]] [some 17, some 18, some 19, some 20, some 21, some 22, some 23, some 24, some 25] [[0], [5], [17, 18], [19], [1], [5], [21, 22], [23], [20, 24]] [0, 1, 2, 3, 4, 5, 6, 7, 8] ⟨by kernel_rfl, by kernel_rfl, by kernel_rfl⟩ (by kernel_rfl) (fun s8 p8 l8 tb8 zd8 => ?_)
   have zd9 := zd8.add 0 17 w0_0 rfl
   have zd10 := zd9.add 1 18 (.int .i64 x4) rfl
   have K11 := (Kx4.st p8 rfl)
   have A12 := (A0_0.kp K11)
   refine mg fun hg13 => ?_
   obtain ⟨ad13, es13, he13, ce13, ia13⟩ := ix_e A12 rfl hg13.1 hg13.2
   have h0_13 := hg13.1
   have h1_13 := hg13.2
   obtain rfl := he13
   have zd15 := zd10.add 2 19 (.pointer (some ad13)) rfl
   have zd16 := zd15.add 3 20 (.int .u8 (at_ a0 x4)) rfl
   have zd17 := zd16.add 4 21 w1_0 rfl
   have zd18 := zd17.add 5 22 (.int .i64 x4) rfl
   have A19 := (A1_0.kp K11)
   refine mg fun hg20 => ?_
   obtain ⟨ad20, es20, he20, ce20, ia20⟩ := ix_e A19 rfl hg20.1 hg20.2
   have h0_20 := hg20.1
   have h1_20 := hg20.2
   obtain rfl := he20
   have zd22 := zd18.add 6 23 (.pointer (some ad20)) rfl
   have zd23 := zd22.add 7 24 (.int .u8 (at_ a1 x4)) rfl
   refine zfin [8] tb8 zd23 (pq_cons (lc0_q ce20 Try.underlying5 rfl rfl rfl rfl rfl rfl rfl rfl) rfl (pq_cons (ix_q A19 Try.underlying37 z5 hg20.1 hg20.2 ia20 rfl rfl rfl rfl rfl rfl rfl) rfl (pq_cons (pu_q rfl rfl rfl rfl rfl rfl) rfl (pq_cons (mv_q w1_0 rfl rfl rfl rfl rfl rfl) rfl (pq_cons (lc0_q ce13 Try.underlying5 rfl rfl rfl rfl rfl rfl rfl rfl) rfl (pq_cons (ix_q A12 Try.underlying37 z5 hg13.1 hg13.2 ia13 rfl rfl rfl rfl rfl rfl rfl) rfl (pq_cons (pu_q rfl rfl rfl rfl rfl rfl) rfl (pq_cons (mv_q w0_0 rfl rfl rfl rfl rfl rfl) rfl pq_nil)))))))) (by kernel_rfl) (by decide) ?_
   refine pu rfl rfl rfl rfl rfl ?_
   refine dn ?_
   refine cd rfl (fun h24 => ?_) (fun h24 => ?_)
   ·
    refine sr ?_
    refine pu rfl rfl rfl rfl rfl ?_
    refine dn ?_
    refine sgi ?_
    exact re rfl Try.func79 rfl (r_t rfl r_nil) rfl ⟨_, rfl, rfl, z.ky K11⟩
   ·
    refine sk ?_
    refine ib ?_
    refine rg ?_
    refine pu rfl rfl rfl rfl rfl ?_
    refine pu rfl rfl rfl rfl rfl ?_
    refine pu rfl rfl rfl rfl rfl ?_
    refine dn ?_
    exact lb ih4 ⟨s8, _, rfl, (ue (ue (ue rfl rfl) rfl) rfl), K11⟩
  ·
   refine xt rfl ?_
   refine sgb ?_
   refine sr ?_
   refine pu rfl rfl rfl rfl rfl ?_
   refine dn ?_
   exact re rfl Try.func79 rfl (r_t rfl r_nil) rfl ⟨_, rfl, rfl, z.ky Kx4⟩
noncomputable def laws_eqItem.f (a0 : Item) (a1 : Item) : Option (Bool) :=
 (if (a0.Kind != a1.Kind) = true then (some false) else (if (a0.N != a1.N) = true then (some false) else ((laws_sameFloat.f a0.F a1.F).bind fun r12 => (if (!r12) = true then (some false) else ((laws_eqByteS.f a0.T a1.T).bind fun r21 => (if (!r21) = true then (some false) else (some true)))))))
def laws_eqItem.Q (w : World) (F : Nat → Prop) (r : Bool) (v : Value) (w' : World) : Prop :=
 v = (.bool r) ∧ Ky [] w w'
set_option maxHeartbeats 4000000 in
set_option maxRecDepth 100000 in
theorem laws_eqItem.calls (a0 : Item) (a1 : Item) (w : World) (F : Nat → Prop) (w0_0 : Value) (w0_1 : Value) (w1_0 : Value) (w1_1 : Value) (h0_0 : Kd.flt.rd w [w0_0] a0.F F) (h0_1 : (Kd.sl 5 (Kd.int .u8)).rd w [w0_1] a0.T F) (h1_0 : Kd.flt.rd w [w1_0] a1.F F) (h1_1 : (Kd.sl 5 (Kd.int .u8)).rd w [w1_1] a1.T F) (r : Bool) (m : laws_eqItem.f a0 a1 = some r) :
  Calls Try.prog 24 #[(.agg #[(.int .i64 a0.Kind), (.int .i64 a0.N), w0_0, w0_1]), (.agg #[(.int .i64 a1.Kind), (.int .i64 a1.N), w1_0, w1_1])] w fun en w' => ∃ v, en = .returned v ∧ laws_eqItem.Q w F r v w' := by
 obtain ⟨s0, rfl, kp0, z⟩ := start0 w F
 have A0_0 := fl_of h0_0
 have A0_1 := z.rd h0_1
 have A1_0 := fl_of h1_0
 have A1_1 := z.rd h1_1
 refine calls_of_TM (args := [(.agg #[(.int .i64 a0.Kind), (.int .i64 a0.N), w0_0, w0_1]), (.agg #[(.int .i64 a1.Kind), (.int .i64 a1.N), w1_0, w1_1])]) (R := fun r en w' => ∃ v, en = .returned v ∧ laws_eqItem.Q s0.w F r v w') Try.func24 Try.ntmps24 rfl rfl m ?_
 unfold laws_eqItem.f
 refine sr ?_
 refine bx (cs := [(.int .i64 a0.Kind), (.int .i64 a0.N), w0_0, w0_1]) 40 rfl rfl rfl rfl rfl rfl (fun b3 s3 p3 B3 => ?_)
 refine bx (cs := [(.int .i64 a1.Kind), (.int .i64 a1.N), w1_0, w1_1]) 41 rfl rfl rfl rfl rfl rfl (fun b5 s5 p5 B5 => ?_)
 refine pu rfl rfl rfl rfl rfl ?_
 refine dn ?_
 refine sq ?_
 refine sr ?_
 refine fa fa48_0 rfl rfl rfl rfl rfl rfl ?_
 have A7 := (BlF.st B3 p5 rfl)
 refine ld A7 Try.underlying3 rfl rfl rfl rfl rfl rfl rfl rfl ?_
 refine fa fa48_0 rfl rfl rfl rfl rfl rfl ?_
 refine ld B5 Try.underlying3 rfl rfl rfl rfl rfl rfl rfl rfl ?_
 refine pu rfl rfl rfl rfl rfl ?_
 refine dn ?_
 refine cd rfl (fun h8 => ?_) (fun h8 => ?_)
 ·
  refine sr ?_
  refine pu rfl rfl rfl rfl rfl ?_
  refine dn ?_
  have K9 := ((kp0.st p3 rfl).st p5 rfl)
  exact re rfl Try.func24 rfl (r_t rfl r_nil) rfl ⟨_, rfl, rfl, z.ky K9⟩
 ·
  refine sk ?_
  refine sq ?_
  refine sr ?_
  refine fa fa48_1 rfl rfl rfl rfl rfl rfl ?_
  refine ld A7 Try.underlying3 rfl rfl rfl rfl rfl rfl rfl rfl ?_
  refine fa fa48_1 rfl rfl rfl rfl rfl rfl ?_
  refine ld B5 Try.underlying3 rfl rfl rfl rfl rfl rfl rfl rfl ?_
  refine pu rfl rfl rfl rfl rfl ?_
  refine dn ?_
  refine cd rfl (fun h10 => ?_) (fun h10 => ?_)
  ·
   refine sr ?_
   refine pu rfl rfl rfl rfl rfl ?_
   refine dn ?_
   have K11 := ((kp0.st p3 rfl).st p5 rfl)
   exact re rfl Try.func24 rfl (r_t rfl r_nil) rfl ⟨_, rfl, rfl, z.ky K11⟩
  ·
   refine sk ?_
   refine sq ?_
   refine sr ?_
   refine fa fa48_2 rfl rfl rfl rfl rfl rfl ?_
   refine ld A7 Try.underlying36 rfl rfl rfl rfl rfl rfl rfl rfl ?_
   refine fa fa48_2 rfl rfl rfl rfl rfl rfl ?_
   refine ld B5 Try.underlying36 rfl rfl rfl rfl rfl rfl rfl rfl ?_
   refine cl rfl rfl rfl rfl rfl Try.func78 rfl rfl rfl (fun r12 m12 => laws_sameFloat.calls a0.F a1.F s5.w (fun b => memb [] (s5.g b) = true) w0_0 w1_0 (fl_rdf (s := s5) A0_0) (fl_rdf (s := s5) A1_0) r12 m12) ?_
   rintro r12 _ w12 m12 ⟨rfl, ky12⟩
   obtain ⟨s13, rfl, p13, n13⟩ := nwx s5 w12 42 ky12
   refine pu rfl rfl rfl rfl rfl ?_
   refine dn ?_
   refine cd rfl (fun h14 => ?_) (fun h14 => ?_)
   ·
    refine sr ?_
    refine pu rfl rfl rfl rfl rfl ?_
    refine dn ?_
    have K15 := (((kp0.st p3 rfl).st p5 rfl).st p13 rfl)
    exact re rfl Try.func24 rfl (r_t rfl r_nil) rfl ⟨_, rfl, rfl, z.ky K15⟩
   ·
    refine sk ?_
    refine sq ?_
    refine sr ?_
    refine fa fa48_3 rfl rfl rfl rfl rfl rfl ?_
    have A16 := (BlF.st A7 p13 rfl)
    refine ld A16 Try.underlying37 rfl rfl rfl rfl rfl rfl rfl rfl ?_
    refine fa fa48_3 rfl rfl rfl rfl rfl rfl ?_
    have A17 := (BlF.st B5 p13 rfl)
    refine ld A17 Try.underlying37 rfl rfl rfl rfl rfl rfl rfl rfl ?_
    have K18 := (((kp0.st p3 rfl).st p5 rfl).st p13 rfl)
    have A19 := (A0_1.kp K18)
    have A20 := (A1_1.kp K18)
    refine cl rfl rfl rfl rfl rfl Try.func79 rfl rfl rfl (fun r21 m21 => laws_eqByteS.calls a0.T a1.T s13.w (fun b => memb [0] (s13.g b) = true) w0_1 w1_1 A19 A20 r21 m21) ?_
    rintro r21 _ w21 m21 ⟨rfl, ky21⟩
    obtain ⟨s22, rfl, p22, n22⟩ := nwx s13 w21 43 ky21
    refine pu rfl rfl rfl rfl rfl ?_
    refine dn ?_
    refine cd rfl (fun h23 => ?_) (fun h23 => ?_)
    ·
     refine sr ?_
     refine pu rfl rfl rfl rfl rfl ?_
     refine dn ?_
     have K24 := (K18.st p22 rfl)
     exact re rfl Try.func24 rfl (r_t rfl r_nil) rfl ⟨_, rfl, rfl, z.ky K24⟩
    ·
     refine sk ?_
     refine sr ?_
     refine pu rfl rfl rfl rfl rfl ?_
     refine dn ?_
     have K25 := (K18.st p22 rfl)
     exact re rfl Try.func24 rfl (r_t rfl r_nil) rfl ⟨_, rfl, rfl, z.ky K25⟩
noncomputable def laws_eqSpan.f (a0 : Span) (a1 : Span) : Option (Bool) :=
 ((laws_eqItem.f a0.From a1.From).bind fun r13 => (if (!r13) = true then (some false) else ((laws_eqItem.f a0.To a1.To).bind fun r22 => (if (!r22) = true then (some false) else (some true)))))
def laws_eqSpan.Q (w : World) (F : Nat → Prop) (r : Bool) (v : Value) (w' : World) : Prop :=
 v = (.bool r) ∧ Ky [] w w'
set_option maxHeartbeats 4000000 in
set_option maxRecDepth 100000 in
theorem laws_eqSpan.calls (a0 : Span) (a1 : Span) (w : World) (F : Nat → Prop) (w0_0 : Value) (w0_1 : Value) (w0_2 : Value) (w0_3 : Value) (w1_0 : Value) (w1_1 : Value) (w1_2 : Value) (w1_3 : Value) (h0_0 : Kd.flt.rd w [w0_0] a0.From.F F) (h0_1 : (Kd.sl 5 (Kd.int .u8)).rd w [w0_1] a0.From.T F) (h0_2 : Kd.flt.rd w [w0_2] a0.To.F F) (h0_3 : (Kd.sl 5 (Kd.int .u8)).rd w [w0_3] a0.To.T F) (h1_0 : Kd.flt.rd w [w1_0] a1.From.F F) (h1_1 : (Kd.sl 5 (Kd.int .u8)).rd w [w1_1] a1.From.T F) (h1_2 : Kd.flt.rd w [w1_2] a1.To.F F) (h1_3 : (Kd.sl 5 (Kd.int .u8)).rd w [w1_3] a1.To.T F) (r : Bool) (m : laws_eqSpan.f a0 a1 = some r) :
  Calls Try.prog 44 #[(.agg #[(.int .i64 a0.From.Kind), (.int .i64 a0.From.N), w0_0, w0_1, (.int .i64 a0.To.Kind), (.int .i64 a0.To.N), w0_2, w0_3]), (.agg #[(.int .i64 a1.From.Kind), (.int .i64 a1.From.N), w1_0, w1_1, (.int .i64 a1.To.Kind), (.int .i64 a1.To.N), w1_2, w1_3])] w fun en w' => ∃ v, en = .returned v ∧ laws_eqSpan.Q w F r v w' := by
 obtain ⟨s0, rfl, kp0, z⟩ := start0 w F
 have A0_0 := fl_of h0_0
 have A0_1 := z.rd h0_1
 have A0_2 := fl_of h0_2
 have A0_3 := z.rd h0_3
 have A1_0 := fl_of h1_0
 have A1_1 := z.rd h1_1
 have A1_2 := fl_of h1_2
 have A1_3 := z.rd h1_3
 refine calls_of_TM (args := [(.agg #[(.int .i64 a0.From.Kind), (.int .i64 a0.From.N), w0_0, w0_1, (.int .i64 a0.To.Kind), (.int .i64 a0.To.N), w0_2, w0_3]), (.agg #[(.int .i64 a1.From.Kind), (.int .i64 a1.From.N), w1_0, w1_1, (.int .i64 a1.To.Kind), (.int .i64 a1.To.N), w1_2, w1_3])]) (R := fun r en w' => ∃ v, en = .returned v ∧ laws_eqSpan.Q s0.w F r v w') Try.func44 Try.ntmps44 rfl rfl m ?_
 unfold laws_eqSpan.f
 refine sr ?_
 refine bx (cs := [(.int .i64 a0.From.Kind), (.int .i64 a0.From.N), w0_0, w0_1, (.int .i64 a0.To.Kind), (.int .i64 a0.To.N), w0_2, w0_3]) 40 rfl rfl rfl rfl rfl rfl (fun b5 s5 p5 B5 => ?_)
 refine bx (cs := [(.int .i64 a1.From.Kind), (.int .i64 a1.From.N), w1_0, w1_1, (.int .i64 a1.To.Kind), (.int .i64 a1.To.N), w1_2, w1_3]) 41 rfl rfl rfl rfl rfl rfl (fun b7 s7 p7 B7 => ?_)
 refine pu rfl rfl rfl rfl rfl ?_
 refine dn ?_
 refine sq ?_
 refine sr ?_
 refine fa fa80_0 rfl rfl rfl rfl rfl rfl ?_
 have A9 := (BlF.st B5 p7 rfl)
 refine lda (es := [(.int .i64 a0.From.Kind), (.int .i64 a0.From.N), w0_0, w0_1]) A9 Try.underlying48 z48 rfl rfl rfl rfl rfl rfl rfl rfl ?_
 refine fa fa80_0 rfl rfl rfl rfl rfl rfl ?_
 refine lda (es := [(.int .i64 a1.From.Kind), (.int .i64 a1.From.N), w1_0, w1_1]) B7 Try.underlying48 z48 rfl rfl rfl rfl rfl rfl rfl rfl ?_
 have K10 := ((kp0.st p5 rfl).st p7 rfl)
 have A11 := (A0_1.kp K10)
 have A12 := (A1_1.kp K10)
 refine cl rfl rfl rfl rfl rfl Try.func24 rfl rfl rfl (fun r13 m13 => laws_eqItem.calls a0.From a1.From s7.w (fun b => memb [0] (s7.g b) = true) w0_0 w0_1 w1_0 w1_1 ((fl_rdf (s := s7) A0_0).sub (D := [0]) rfl) A11 ((fl_rdf (s := s7) A1_0).sub (D := [0]) rfl) A12 r13 m13) ?_
 rintro r13 _ w13 m13 ⟨rfl, ky13⟩
 obtain ⟨s14, rfl, p14, n14⟩ := nwx s7 w13 42 ky13
 refine pu rfl rfl rfl rfl rfl ?_
 refine dn ?_
 refine cd rfl (fun h15 => ?_) (fun h15 => ?_)
 ·
  refine sr ?_
  refine pu rfl rfl rfl rfl rfl ?_
  refine dn ?_
  have K16 := (K10.st p14 rfl)
  exact re rfl Try.func44 rfl (r_t rfl r_nil) rfl ⟨_, rfl, rfl, z.ky K16⟩
 ·
  refine sk ?_
  refine sq ?_
  refine sr ?_
  refine fa fa80_1 rfl rfl rfl rfl rfl rfl ?_
  have A17 := (BlF.st A9 p14 rfl)
  refine lda (es := [(.int .i64 a0.To.Kind), (.int .i64 a0.To.N), w0_2, w0_3]) A17 Try.underlying48 z48 rfl rfl rfl rfl rfl rfl rfl rfl ?_
  refine fa fa80_1 rfl rfl rfl rfl rfl rfl ?_
  have A18 := (BlF.st B7 p14 rfl)
  refine lda (es := [(.int .i64 a1.To.Kind), (.int .i64 a1.To.N), w1_2, w1_3]) A18 Try.underlying48 z48 rfl rfl rfl rfl rfl rfl rfl rfl ?_
  have K19 := (K10.st p14 rfl)
  have A20 := (A0_3.kp K19)
  have A21 := (A1_3.kp K19)
  refine cl rfl rfl rfl rfl rfl Try.func24 rfl rfl rfl (fun r22 m22 => laws_eqItem.calls a0.To a1.To s14.w (fun b => memb [0] (s14.g b) = true) w0_2 w0_3 w1_2 w1_3 ((fl_rdf (s := s14) A0_2).sub (D := [0]) rfl) A20 ((fl_rdf (s := s14) A1_2).sub (D := [0]) rfl) A21 r22 m22) ?_
  rintro r22 _ w22 m22 ⟨rfl, ky22⟩
  obtain ⟨s23, rfl, p23, n23⟩ := nwx s14 w22 43 ky22
  refine pu rfl rfl rfl rfl rfl ?_
  refine dn ?_
  refine cd rfl (fun h24 => ?_) (fun h24 => ?_)
  ·
   refine sr ?_
   refine pu rfl rfl rfl rfl rfl ?_
   refine dn ?_
   have K25 := (K19.st p23 rfl)
   exact re rfl Try.func44 rfl (r_t rfl r_nil) rfl ⟨_, rfl, rfl, z.ky K25⟩
  ·
   refine sk ?_
   refine sr ?_
   refine pu rfl rfl rfl rfl rfl ?_
   refine dn ?_
   have K26 := (K19.st p23 rfl)
   exact re rfl Try.func44 rfl (r_t rfl r_nil) rfl ⟨_, rfl, rfl, z.ky K26⟩
noncomputable def laws_eqSpanS.b0 (a0 : (List Span)) (a1 : (List Span)) (x4 : Int) : Option (Int ⊕ Bool) :=
 (if (decide (x4 < (a0.length : Int))) = true then (if 0 ≤ x4 ∧ x4 < (a0.length : Int) then (if 0 ≤ x4 ∧ x4 < (a1.length : Int) then ((laws_eqSpan.f (Span.mk ((at_ a0 x4).From) ((at_ a0 x4).To)) (Span.mk ((at_ a1 x4).From) ((at_ a1 x4).To))).bind fun r28 => (if (!r28) = true then (some (Sum.inr false)) else (some (Sum.inl (IntKind.wrap .i64 (x4 + (1 : Int))))))) else none) else none) else ((some true).bind fun o => some (Sum.inr o)))
noncomputable def laws_eqSpanS.f (a0 : (List Span)) (a1 : (List Span)) : Option (Bool) :=
 (if ((a0.length : Int) != (a1.length : Int)) = true then (some false) else (iter (laws_eqSpanS.b0 a0 a1) (0 : Int)))
def laws_eqSpanS.Q (w : World) (F : Nat → Prop) (r : Bool) (v : Value) (w' : World) : Prop :=
 v = (.bool r) ∧ Ky [] w w'
set_option maxHeartbeats 4000000 in
set_option maxRecDepth 100000 in
theorem laws_eqSpanS.calls (a0 : (List Span)) (a1 : (List Span)) (w : World) (F : Nat → Prop) (w0_0 : Value) (w1_0 : Value) (h0_0 : (Kd.sl 80 kd80).rd w [w0_0] a0 F) (h1_0 : (Kd.sl 80 kd80).rd w [w1_0] a1 F) (r : Bool) (m : laws_eqSpanS.f a0 a1 = some r) :
  Calls Try.prog 131 #[w0_0, w1_0] w fun en w' => ∃ v, en = .returned v ∧ laws_eqSpanS.Q w F r v w' := by
 obtain ⟨s0, rfl, kp0, z⟩ := start0 w F
 have A0_0 := z.rd h0_0
 have A1_0 := z.rd h1_0
 refine calls_of_TM (args := [w0_0, w1_0]) (R := fun r en w' => ∃ v, en = .returned v ∧ laws_eqSpanS.Q s0.w F r v w') Try.func131 Try.ntmps131 rfl rfl m ?_
 unfold laws_eqSpanS.f
 refine sr ?_
 refine pu rfl rfl rfl rfl rfl ?_
 refine dn ?_
 refine sq ?_
 refine sr ?_
 refine mv w0_0 rfl rfl rfl rfl rfl rfl ?_
 refine ln A0_0 Try.underlying56 rfl rfl rfl rfl rfl rfl ?_
 refine mv w1_0 rfl rfl rfl rfl rfl rfl ?_
 refine ln A1_0 Try.underlying56 rfl rfl rfl rfl rfl rfl ?_
 refine pu rfl rfl rfl rfl rfl ?_
 refine dn ?_
 refine cd rfl (fun h3 => ?_) (fun h3 => ?_)
 ·
  refine sr ?_
  refine pu rfl rfl rfl rfl rfl ?_
  refine dn ?_
  exact re rfl Try.func131 rfl (r_t rfl r_nil) rfl ⟨_, rfl, rfl, z.ky kp0⟩
 ·
  refine sk ?_
  refine sq ?_
  refine sr ?_
  refine pu rfl rfl rfl rfl rfl ?_
  refine dn ?_
  refine bl ?_
  refine lpI (fun (x4 : Int) (e : Env) (w : World) => ∃ (s : St) (e0 : Env), w = s.w ∧ e = upd (upd (upd e0 0 w0_0) 1 w1_0) 5 (.int .i64 x4) ∧ Kp s0 s) ⟨s0, _, rfl, (ue (ue (ue rfl rfl) rfl) rfl), kp0⟩ (fun g4 ih4 => ?_)
  rintro x4 _ _ ⟨s5, _, rfl, rfl, Kx4⟩
  unfold laws_eqSpanS.b0
  refine sq ?_
  refine sr ?_
  refine pu rfl rfl rfl rfl rfl ?_
  refine mv w0_0 rfl rfl rfl rfl rfl rfl ?_
  have A6 := (A0_0.kp Kx4)
  refine ln A6 Try.underlying56 rfl rfl rfl rfl rfl rfl ?_
  refine pu rfl rfl rfl rfl rfl ?_
  refine dn ?_
  refine cd rfl (fun h7 => ?_) (fun h7 => ?_)
  ·
   refine sk ?_
   refine sq ?_
   refine bl ?_
   refine sq ?_
   refine zdraw [[], [], [0, 1], [2], [], [], [4, 5], [6], [3, 7], [8]] [some 17, some 18, some 19, some 20, some 21, some 22, some 23, some 24, some 25, some 26] [[0], [5], [17, 18], [19], [1], [5], [21, 22], [23], [20, 24], [25]] [0, 1, 2, 3, 4, 5, 6, 7, 8, 9] ⟨by kernel_rfl, by kernel_rfl, by kernel_rfl⟩ (by kernel_rfl) (fun s8 p8 l8 tb8 zd8 => ?_)
   have zd9 := zd8.add 0 17 w0_0 rfl
   have zd10 := zd9.add 1 18 (.int .i64 x4) rfl
   have K11 := (Kx4.st p8 rfl)
   have A12 := (A0_0.kp K11)
   refine mg fun hg13 => ?_
   obtain ⟨ad13, es13, he13, ce13, ia13⟩ := ix_e A12 rfl hg13.1 hg13.2
   have h0_13 := hg13.1
   have h1_13 := hg13.2
   obtain ⟨v13_0, v13_1, v13_2, v13_3, rfl, A13_0, A13_1, A13_2, A13_3⟩ := op80 he13
   have zd17 := zd10.add 2 19 (.pointer (some ad13)) rfl
   have zd18 := zd17.add 3 20 (.agg #[(.int .i64 (((at_ a0 x4).From).Kind)), (.int .i64 (((at_ a0 x4).From).N)), v13_0, v13_1, (.int .i64 (((at_ a0 x4).To).Kind)), (.int .i64 (((at_ a0 x4).To).N)), v13_2, v13_3]) rfl
   have zd19 := zd18.add 4 21 w1_0 rfl
   have zd20 := zd19.add 5 22 (.int .i64 x4) rfl
   have A21 := (A1_0.kp K11)
   refine mg fun hg22 => ?_
   obtain ⟨ad22, es22, he22, ce22, ia22⟩ := ix_e A21 rfl hg22.1 hg22.2
   have h0_22 := hg22.1
   have h1_22 := hg22.2
   obtain ⟨v22_0, v22_1, v22_2, v22_3, rfl, A22_0, A22_1, A22_2, A22_3⟩ := op80 he22
   have zd26 := zd20.add 6 23 (.pointer (some ad22)) rfl
   have zd27 := zd26.add 7 24 (.agg #[(.int .i64 (((at_ a1 x4).From).Kind)), (.int .i64 (((at_ a1 x4).From).N)), v22_0, v22_1, (.int .i64 (((at_ a1 x4).To).Kind)), (.int .i64 (((at_ a1 x4).To).N)), v22_2, v22_3]) rfl
   refine zfin [8, 9] tb8 zd27 (pq_cons (lca_q ce22 Try.underlying80 z80 rfl rfl rfl rfl rfl rfl rfl) rfl (pq_cons (ix_q A21 Try.underlying56 z80 hg22.1 hg22.2 ia22 rfl rfl rfl rfl rfl rfl rfl) rfl (pq_cons (pu_q rfl rfl rfl rfl rfl rfl) rfl (pq_cons (mv_q w1_0 rfl rfl rfl rfl rfl rfl) rfl (pq_cons (lca_q ce13 Try.underlying80 z80 rfl rfl rfl rfl rfl rfl rfl) rfl (pq_cons (ix_q A12 Try.underlying56 z80 hg13.1 hg13.2 ia13 rfl rfl rfl rfl rfl rfl rfl) rfl (pq_cons (pu_q rfl rfl rfl rfl rfl rfl) rfl (pq_cons (mv_q w0_0 rfl rfl rfl rfl rfl rfl) rfl pq_nil)))))))) (by kernel_rfl) (by decide) ?_
   refine cl rfl rfl rfl rfl rfl Try.func44 rfl rfl rfl (fun r28 m28 => laws_eqSpan.calls (Span.mk ((at_ a0 x4).From) ((at_ a0 x4).To)) (Span.mk ((at_ a1 x4).From) ((at_ a1 x4).To)) s8.w (fun b => memb [0] (s8.g b) = true) v13_0 v13_1 v13_2 v13_3 v22_0 v22_1 v22_2 v22_3 ((fl_rdf (s := s8) A13_0).sub (D := [0]) rfl) A13_1 ((fl_rdf (s := s8) A13_2).sub (D := [0]) rfl) A13_3 ((fl_rdf (s := s8) A22_0).sub (D := [0]) rfl) A22_1 ((fl_rdf (s := s8) A22_2).sub (D := [0]) rfl) A22_3 r28 m28) ?_
   rintro r28 _ w28 m28 ⟨rfl, ky28⟩
   obtain ⟨s29, rfl, p29, n29⟩ := nwx s8 w28 40 ky28
   refine pu rfl rfl rfl rfl rfl ?_
   refine dn ?_
   refine cd rfl (fun h30 => ?_) (fun h30 => ?_)
   ·
    refine sr ?_
    refine pu rfl rfl rfl rfl rfl ?_
    refine dn ?_
    refine sgi ?_
    have K31 := (K11.st p29 rfl)
    exact re rfl Try.func131 rfl (r_t rfl r_nil) rfl ⟨_, rfl, rfl, z.ky K31⟩
   ·
    refine sk ?_
    refine ib ?_
    refine rg ?_
    refine pu rfl rfl rfl rfl rfl ?_
    refine pu rfl rfl rfl rfl rfl ?_
    refine pu rfl rfl rfl rfl rfl ?_
    refine dn ?_
    have K32 := (K11.st p29 rfl)
    exact lb ih4 ⟨s29, _, rfl, (ue (ue (ue rfl rfl) rfl) rfl), K32⟩
  ·
   refine xt rfl ?_
   refine sgb ?_
   refine sr ?_
   refine pu rfl rfl rfl rfl rfl ?_
   refine dn ?_
   exact re rfl Try.func131 rfl (r_t rfl r_nil) rfl ⟨_, rfl, rfl, z.ky Kx4⟩
noncomputable def laws_eqItemS.b0 (a0 : (List Item)) (a1 : (List Item)) (x4 : Int) : Option (Int ⊕ Bool) :=
 (if (decide (x4 < (a0.length : Int))) = true then (if 0 ≤ x4 ∧ x4 < (a0.length : Int) then (if 0 ≤ x4 ∧ x4 < (a1.length : Int) then ((laws_eqItem.f (at_ a0 x4) (at_ a1 x4)).bind fun r26 => (if (!r26) = true then (some (Sum.inr false)) else (some (Sum.inl (IntKind.wrap .i64 (x4 + (1 : Int))))))) else none) else none) else ((some true).bind fun o => some (Sum.inr o)))
noncomputable def laws_eqItemS.f (a0 : (List Item)) (a1 : (List Item)) : Option (Bool) :=
 (if ((a0.length : Int) != (a1.length : Int)) = true then (some false) else (iter (laws_eqItemS.b0 a0 a1) (0 : Int)))
def laws_eqItemS.Q (w : World) (F : Nat → Prop) (r : Bool) (v : Value) (w' : World) : Prop :=
 v = (.bool r) ∧ Ky [] w w'
set_option maxHeartbeats 4000000 in
set_option maxRecDepth 100000 in
theorem laws_eqItemS.calls (a0 : (List Item)) (a1 : (List Item)) (w : World) (F : Nat → Prop) (w0_0 : Value) (w1_0 : Value) (h0_0 : (Kd.sl 48 kd48).rd w [w0_0] a0 F) (h1_0 : (Kd.sl 48 kd48).rd w [w1_0] a1 F) (r : Bool) (m : laws_eqItemS.f a0 a1 = some r) :
  Calls Try.prog 132 #[w0_0, w1_0] w fun en w' => ∃ v, en = .returned v ∧ laws_eqItemS.Q w F r v w' := by
 obtain ⟨s0, rfl, kp0, z⟩ := start0 w F
 have A0_0 := z.rd h0_0
 have A1_0 := z.rd h1_0
 refine calls_of_TM (args := [w0_0, w1_0]) (R := fun r en w' => ∃ v, en = .returned v ∧ laws_eqItemS.Q s0.w F r v w') Try.func132 Try.ntmps132 rfl rfl m ?_
 unfold laws_eqItemS.f
 refine sr ?_
 refine pu rfl rfl rfl rfl rfl ?_
 refine dn ?_
 refine sq ?_
 refine sr ?_
 refine mv w0_0 rfl rfl rfl rfl rfl rfl ?_
 refine ln A0_0 Try.underlying57 rfl rfl rfl rfl rfl rfl ?_
 refine mv w1_0 rfl rfl rfl rfl rfl rfl ?_
 refine ln A1_0 Try.underlying57 rfl rfl rfl rfl rfl rfl ?_
 refine pu rfl rfl rfl rfl rfl ?_
 refine dn ?_
 refine cd rfl (fun h3 => ?_) (fun h3 => ?_)
 ·
  refine sr ?_
  refine pu rfl rfl rfl rfl rfl ?_
  refine dn ?_
  exact re rfl Try.func132 rfl (r_t rfl r_nil) rfl ⟨_, rfl, rfl, z.ky kp0⟩
 ·
  refine sk ?_
  refine sq ?_
  refine sr ?_
  refine pu rfl rfl rfl rfl rfl ?_
  refine dn ?_
  refine bl ?_
  refine lpI (fun (x4 : Int) (e : Env) (w : World) => ∃ (s : St) (e0 : Env), w = s.w ∧ e = upd (upd (upd e0 0 w0_0) 1 w1_0) 5 (.int .i64 x4) ∧ Kp s0 s) ⟨s0, _, rfl, (ue (ue (ue rfl rfl) rfl) rfl), kp0⟩ (fun g4 ih4 => ?_)
  rintro x4 _ _ ⟨s5, _, rfl, rfl, Kx4⟩
  unfold laws_eqItemS.b0
  refine sq ?_
  refine sr ?_
  refine pu rfl rfl rfl rfl rfl ?_
  refine mv w0_0 rfl rfl rfl rfl rfl rfl ?_
  have A6 := (A0_0.kp Kx4)
  refine ln A6 Try.underlying57 rfl rfl rfl rfl rfl rfl ?_
  refine pu rfl rfl rfl rfl rfl ?_
  refine dn ?_
  refine cd rfl (fun h7 => ?_) (fun h7 => ?_)
  ·
   refine sk ?_
   refine sq ?_
   refine bl ?_
   refine sq ?_
   refine zdraw [[], [], [0, 1], [2], [], [], [4, 5], [6], [3, 7], [8]] [some 17, some 18, some 19, some 20, some 21, some 22, some 23, some 24, some 25, some 26] [[0], [5], [17, 18], [19], [1], [5], [21, 22], [23], [20, 24], [25]] [0, 1, 2, 3, 4, 5, 6, 7, 8, 9] ⟨by kernel_rfl, by kernel_rfl, by kernel_rfl⟩ (by kernel_rfl) (fun s8 p8 l8 tb8 zd8 => ?_)
   have zd9 := zd8.add 0 17 w0_0 rfl
   have zd10 := zd9.add 1 18 (.int .i64 x4) rfl
   have K11 := (Kx4.st p8 rfl)
   have A12 := (A0_0.kp K11)
   refine mg fun hg13 => ?_
   obtain ⟨ad13, es13, he13, ce13, ia13⟩ := ix_e A12 rfl hg13.1 hg13.2
   have h0_13 := hg13.1
   have h1_13 := hg13.2
   obtain ⟨v13_0, v13_1, rfl, A13_0, A13_1⟩ := op48 he13
   have zd16 := zd10.add 2 19 (.pointer (some ad13)) rfl
   have zd17 := zd16.add 3 20 (.agg #[(.int .i64 ((at_ a0 x4).Kind)), (.int .i64 ((at_ a0 x4).N)), v13_0, v13_1]) rfl
   have zd18 := zd17.add 4 21 w1_0 rfl
   have zd19 := zd18.add 5 22 (.int .i64 x4) rfl
   have A20 := (A1_0.kp K11)
   refine mg fun hg21 => ?_
   obtain ⟨ad21, es21, he21, ce21, ia21⟩ := ix_e A20 rfl hg21.1 hg21.2
   have h0_21 := hg21.1
   have h1_21 := hg21.2
   obtain ⟨v21_0, v21_1, rfl, A21_0, A21_1⟩ := op48 he21
   have zd24 := zd19.add 6 23 (.pointer (some ad21)) rfl
   have zd25 := zd24.add 7 24 (.agg #[(.int .i64 ((at_ a1 x4).Kind)), (.int .i64 ((at_ a1 x4).N)), v21_0, v21_1]) rfl
   refine zfin [8, 9] tb8 zd25 (pq_cons (lca_q ce21 Try.underlying48 z48 rfl rfl rfl rfl rfl rfl rfl) rfl (pq_cons (ix_q A20 Try.underlying57 z48 hg21.1 hg21.2 ia21 rfl rfl rfl rfl rfl rfl rfl) rfl (pq_cons (pu_q rfl rfl rfl rfl rfl rfl) rfl (pq_cons (mv_q w1_0 rfl rfl rfl rfl rfl rfl) rfl (pq_cons (lca_q ce13 Try.underlying48 z48 rfl rfl rfl rfl rfl rfl rfl) rfl (pq_cons (ix_q A12 Try.underlying57 z48 hg13.1 hg13.2 ia13 rfl rfl rfl rfl rfl rfl rfl) rfl (pq_cons (pu_q rfl rfl rfl rfl rfl rfl) rfl (pq_cons (mv_q w0_0 rfl rfl rfl rfl rfl rfl) rfl pq_nil)))))))) (by kernel_rfl) (by decide) ?_
   refine cl rfl rfl rfl rfl rfl Try.func24 rfl rfl rfl (fun r26 m26 => laws_eqItem.calls (at_ a0 x4) (at_ a1 x4) s8.w (fun b => memb [0] (s8.g b) = true) v13_0 v13_1 v21_0 v21_1 ((fl_rdf (s := s8) A13_0).sub (D := [0]) rfl) A13_1 ((fl_rdf (s := s8) A21_0).sub (D := [0]) rfl) A21_1 r26 m26) ?_
   rintro r26 _ w26 m26 ⟨rfl, ky26⟩
   obtain ⟨s27, rfl, p27, n27⟩ := nwx s8 w26 40 ky26
   refine pu rfl rfl rfl rfl rfl ?_
   refine dn ?_
   refine cd rfl (fun h28 => ?_) (fun h28 => ?_)
   ·
    refine sr ?_
    refine pu rfl rfl rfl rfl rfl ?_
    refine dn ?_
    refine sgi ?_
    have K29 := (K11.st p27 rfl)
    exact re rfl Try.func132 rfl (r_t rfl r_nil) rfl ⟨_, rfl, rfl, z.ky K29⟩
   ·
    refine sk ?_
    refine ib ?_
    refine rg ?_
    refine pu rfl rfl rfl rfl rfl ?_
    refine pu rfl rfl rfl rfl rfl ?_
    refine pu rfl rfl rfl rfl rfl ?_
    refine dn ?_
    have K30 := (K11.st p27 rfl)
    exact lb ih4 ⟨s27, _, rfl, (ue (ue (ue rfl rfl) rfl) rfl), K30⟩
  ·
   refine xt rfl ?_
   refine sgb ?_
   refine sr ?_
   refine pu rfl rfl rfl rfl rfl ?_
   refine dn ?_
   exact re rfl Try.func132 rfl (r_t rfl r_nil) rfl ⟨_, rfl, rfl, z.ky Kx4⟩
noncomputable def laws_eqDeed.f (a0 : Deed) (a1 : Deed) : Option (Bool) :=
 (if (a0.Xid != a1.Xid) = true then (some false) else (if (a0.Begun != a1.Begun) = true then (some false) else (if (a0.Ended != a1.Ended) = true then (some false) else ((laws_eqSpanS.f a0.Reads a1.Reads).bind fun r19 => (if (!r19) = true then (some false) else ((laws_eqItemS.f a0.Writes a1.Writes).bind fun r28 => (if (!r28) = true then (some false) else (some true))))))))
def laws_eqDeed.Q (w : World) (F : Nat → Prop) (r : Bool) (v : Value) (w' : World) : Prop :=
 v = (.bool r) ∧ Ky [] w w'
set_option maxHeartbeats 4000000 in
set_option maxRecDepth 100000 in
theorem laws_eqDeed.calls (a0 : Deed) (a1 : Deed) (w : World) (F : Nat → Prop) (w0_0 : Value) (w0_1 : Value) (w1_0 : Value) (w1_1 : Value) (h0_0 : (Kd.sl 80 kd80).rd w [w0_0] a0.Reads F) (h0_1 : (Kd.sl 48 kd48).rd w [w0_1] a0.Writes F) (h1_0 : (Kd.sl 80 kd80).rd w [w1_0] a1.Reads F) (h1_1 : (Kd.sl 48 kd48).rd w [w1_1] a1.Writes F) (r : Bool) (m : laws_eqDeed.f a0 a1 = some r) :
  Calls Try.prog 58 #[(.agg #[(.int .i64 a0.Xid), (.int .i64 a0.Begun), (.int .i64 a0.Ended), w0_0, w0_1]), (.agg #[(.int .i64 a1.Xid), (.int .i64 a1.Begun), (.int .i64 a1.Ended), w1_0, w1_1])] w fun en w' => ∃ v, en = .returned v ∧ laws_eqDeed.Q w F r v w' := by
 obtain ⟨s0, rfl, kp0, z⟩ := start0 w F
 have A0_0 := z.rd h0_0
 have A0_1 := z.rd h0_1
 have A1_0 := z.rd h1_0
 have A1_1 := z.rd h1_1
 refine calls_of_TM (args := [(.agg #[(.int .i64 a0.Xid), (.int .i64 a0.Begun), (.int .i64 a0.Ended), w0_0, w0_1]), (.agg #[(.int .i64 a1.Xid), (.int .i64 a1.Begun), (.int .i64 a1.Ended), w1_0, w1_1])]) (R := fun r en w' => ∃ v, en = .returned v ∧ laws_eqDeed.Q s0.w F r v w') Try.func58 Try.ntmps58 rfl rfl m ?_
 unfold laws_eqDeed.f
 refine sr ?_
 refine bx (cs := [(.int .i64 a0.Xid), (.int .i64 a0.Begun), (.int .i64 a0.Ended), w0_0, w0_1]) 40 rfl rfl rfl rfl rfl rfl (fun b5 s5 p5 B5 => ?_)
 refine bx (cs := [(.int .i64 a1.Xid), (.int .i64 a1.Begun), (.int .i64 a1.Ended), w1_0, w1_1]) 41 rfl rfl rfl rfl rfl rfl (fun b7 s7 p7 B7 => ?_)
 refine pu rfl rfl rfl rfl rfl ?_
 refine dn ?_
 refine sq ?_
 refine sr ?_
 refine fa fa99_0 rfl rfl rfl rfl rfl rfl ?_
 have A9 := (BlF.st B5 p7 rfl)
 refine ld A9 Try.underlying3 rfl rfl rfl rfl rfl rfl rfl rfl ?_
 refine fa fa99_0 rfl rfl rfl rfl rfl rfl ?_
 refine ld B7 Try.underlying3 rfl rfl rfl rfl rfl rfl rfl rfl ?_
 refine pu rfl rfl rfl rfl rfl ?_
 refine dn ?_
 refine cd rfl (fun h10 => ?_) (fun h10 => ?_)
 ·
  refine sr ?_
  refine pu rfl rfl rfl rfl rfl ?_
  refine dn ?_
  have K11 := ((kp0.st p5 rfl).st p7 rfl)
  exact re rfl Try.func58 rfl (r_t rfl r_nil) rfl ⟨_, rfl, rfl, z.ky K11⟩
 ·
  refine sk ?_
  refine sq ?_
  refine sr ?_
  refine fa fa99_1 rfl rfl rfl rfl rfl rfl ?_
  refine ld A9 Try.underlying3 rfl rfl rfl rfl rfl rfl rfl rfl ?_
  refine fa fa99_1 rfl rfl rfl rfl rfl rfl ?_
  refine ld B7 Try.underlying3 rfl rfl rfl rfl rfl rfl rfl rfl ?_
  refine pu rfl rfl rfl rfl rfl ?_
  refine dn ?_
  refine cd rfl (fun h12 => ?_) (fun h12 => ?_)
  ·
   refine sr ?_
   refine pu rfl rfl rfl rfl rfl ?_
   refine dn ?_
   have K13 := ((kp0.st p5 rfl).st p7 rfl)
   exact re rfl Try.func58 rfl (r_t rfl r_nil) rfl ⟨_, rfl, rfl, z.ky K13⟩
  ·
   refine sk ?_
   refine sq ?_
   refine sr ?_
   refine fa fa99_2 rfl rfl rfl rfl rfl rfl ?_
   refine ld A9 Try.underlying3 rfl rfl rfl rfl rfl rfl rfl rfl ?_
   refine fa fa99_2 rfl rfl rfl rfl rfl rfl ?_
   refine ld B7 Try.underlying3 rfl rfl rfl rfl rfl rfl rfl rfl ?_
   refine pu rfl rfl rfl rfl rfl ?_
   refine dn ?_
   refine cd rfl (fun h14 => ?_) (fun h14 => ?_)
   ·
    refine sr ?_
    refine pu rfl rfl rfl rfl rfl ?_
    refine dn ?_
    have K15 := ((kp0.st p5 rfl).st p7 rfl)
    exact re rfl Try.func58 rfl (r_t rfl r_nil) rfl ⟨_, rfl, rfl, z.ky K15⟩
   ·
    refine sk ?_
    refine sq ?_
    refine sr ?_
    refine fa fa99_3 rfl rfl rfl rfl rfl rfl ?_
    refine ld A9 Try.underlying56 rfl rfl rfl rfl rfl rfl rfl rfl ?_
    refine fa fa99_3 rfl rfl rfl rfl rfl rfl ?_
    refine ld B7 Try.underlying56 rfl rfl rfl rfl rfl rfl rfl rfl ?_
    have K16 := ((kp0.st p5 rfl).st p7 rfl)
    have A17 := (A0_0.kp K16)
    have A18 := (A1_0.kp K16)
    refine cl rfl rfl rfl rfl rfl Try.func131 rfl rfl rfl (fun r19 m19 => laws_eqSpanS.calls a0.Reads a1.Reads s7.w (fun b => memb [0] (s7.g b) = true) w0_0 w1_0 A17 A18 r19 m19) ?_
    rintro r19 _ w19 m19 ⟨rfl, ky19⟩
    obtain ⟨s20, rfl, p20, n20⟩ := nwx s7 w19 42 ky19
    refine pu rfl rfl rfl rfl rfl ?_
    refine dn ?_
    refine cd rfl (fun h21 => ?_) (fun h21 => ?_)
    ·
     refine sr ?_
     refine pu rfl rfl rfl rfl rfl ?_
     refine dn ?_
     have K22 := (K16.st p20 rfl)
     exact re rfl Try.func58 rfl (r_t rfl r_nil) rfl ⟨_, rfl, rfl, z.ky K22⟩
    ·
     refine sk ?_
     refine sq ?_
     refine sr ?_
     refine fa fa99_4 rfl rfl rfl rfl rfl rfl ?_
     have A23 := (BlF.st A9 p20 rfl)
     refine ld A23 Try.underlying57 rfl rfl rfl rfl rfl rfl rfl rfl ?_
     refine fa fa99_4 rfl rfl rfl rfl rfl rfl ?_
     have A24 := (BlF.st B7 p20 rfl)
     refine ld A24 Try.underlying57 rfl rfl rfl rfl rfl rfl rfl rfl ?_
     have K25 := (K16.st p20 rfl)
     have A26 := (A0_1.kp K25)
     have A27 := (A1_1.kp K25)
     refine cl rfl rfl rfl rfl rfl Try.func132 rfl rfl rfl (fun r28 m28 => laws_eqItemS.calls a0.Writes a1.Writes s20.w (fun b => memb [0] (s20.g b) = true) w0_1 w1_1 A26 A27 r28 m28) ?_
     rintro r28 _ w28 m28 ⟨rfl, ky28⟩
     obtain ⟨s29, rfl, p29, n29⟩ := nwx s20 w28 43 ky28
     refine pu rfl rfl rfl rfl rfl ?_
     refine dn ?_
     refine cd rfl (fun h30 => ?_) (fun h30 => ?_)
     ·
      refine sr ?_
      refine pu rfl rfl rfl rfl rfl ?_
      refine dn ?_
      have K31 := (K25.st p29 rfl)
      exact re rfl Try.func58 rfl (r_t rfl r_nil) rfl ⟨_, rfl, rfl, z.ky K31⟩
     ·
      refine sk ?_
      refine sr ?_
      refine pu rfl rfl rfl rfl rfl ?_
      refine dn ?_
      have K32 := (K25.st p29 rfl)
      exact re rfl Try.func58 rfl (r_t rfl r_nil) rfl ⟨_, rfl, rfl, z.ky K32⟩
noncomputable def laws_eqDeedS.b0 (a0 : (List Deed)) (a1 : (List Deed)) (x4 : Int) : Option (Int ⊕ Bool) :=
 (if (decide (x4 < (a0.length : Int))) = true then (if 0 ≤ x4 ∧ x4 < (a0.length : Int) then (if 0 ≤ x4 ∧ x4 < (a1.length : Int) then ((laws_eqDeed.f (at_ a0 x4) (at_ a1 x4)).bind fun r28 => (if (!r28) = true then (some (Sum.inr false)) else (some (Sum.inl (IntKind.wrap .i64 (x4 + (1 : Int))))))) else none) else none) else ((some true).bind fun o => some (Sum.inr o)))
noncomputable def laws_eqDeedS.f (a0 : (List Deed)) (a1 : (List Deed)) : Option (Bool) :=
 (if ((a0.length : Int) != (a1.length : Int)) = true then (some false) else (iter (laws_eqDeedS.b0 a0 a1) (0 : Int)))
def laws_eqDeedS.Q (w : World) (F : Nat → Prop) (r : Bool) (v : Value) (w' : World) : Prop :=
 v = (.bool r) ∧ Ky [] w w'
set_option maxHeartbeats 4000000 in
set_option maxRecDepth 100000 in
theorem laws_eqDeedS.calls (a0 : (List Deed)) (a1 : (List Deed)) (w : World) (F : Nat → Prop) (w0_0 : Value) (w1_0 : Value) (h0_0 : (Kd.sl 99 kd99).rd w [w0_0] a0 F) (h1_0 : (Kd.sl 99 kd99).rd w [w1_0] a1 F) (r : Bool) (m : laws_eqDeedS.f a0 a1 = some r) :
  Calls Try.prog 13 #[w0_0, w1_0] w fun en w' => ∃ v, en = .returned v ∧ laws_eqDeedS.Q w F r v w' := by
 obtain ⟨s0, rfl, kp0, z⟩ := start0 w F
 have A0_0 := z.rd h0_0
 have A1_0 := z.rd h1_0
 refine calls_of_TM (args := [w0_0, w1_0]) (R := fun r en w' => ∃ v, en = .returned v ∧ laws_eqDeedS.Q s0.w F r v w') Try.func13 Try.ntmps13 rfl rfl m ?_
 unfold laws_eqDeedS.f
 refine sr ?_
 refine pu rfl rfl rfl rfl rfl ?_
 refine dn ?_
 refine sq ?_
 refine sr ?_
 refine mv w0_0 rfl rfl rfl rfl rfl rfl ?_
 refine ln A0_0 Try.underlying26 rfl rfl rfl rfl rfl rfl ?_
 refine mv w1_0 rfl rfl rfl rfl rfl rfl ?_
 refine ln A1_0 Try.underlying26 rfl rfl rfl rfl rfl rfl ?_
 refine pu rfl rfl rfl rfl rfl ?_
 refine dn ?_
 refine cd rfl (fun h3 => ?_) (fun h3 => ?_)
 ·
  refine sr ?_
  refine pu rfl rfl rfl rfl rfl ?_
  refine dn ?_
  exact re rfl Try.func13 rfl (r_t rfl r_nil) rfl ⟨_, rfl, rfl, z.ky kp0⟩
 ·
  refine sk ?_
  refine sq ?_
  refine sr ?_
  refine pu rfl rfl rfl rfl rfl ?_
  refine dn ?_
  refine bl ?_
  refine lpI (fun (x4 : Int) (e : Env) (w : World) => ∃ (s : St) (e0 : Env), w = s.w ∧ e = upd (upd (upd e0 0 w0_0) 1 w1_0) 5 (.int .i64 x4) ∧ Kp s0 s) ⟨s0, _, rfl, (ue (ue (ue rfl rfl) rfl) rfl), kp0⟩ (fun g4 ih4 => ?_)
  rintro x4 _ _ ⟨s5, _, rfl, rfl, Kx4⟩
  unfold laws_eqDeedS.b0
  refine sq ?_
  refine sr ?_
  refine pu rfl rfl rfl rfl rfl ?_
  refine mv w0_0 rfl rfl rfl rfl rfl rfl ?_
  have A6 := (A0_0.kp Kx4)
  refine ln A6 Try.underlying26 rfl rfl rfl rfl rfl rfl ?_
  refine pu rfl rfl rfl rfl rfl ?_
  refine dn ?_
  refine cd rfl (fun h7 => ?_) (fun h7 => ?_)
  ·
   refine sk ?_
   refine sq ?_
   refine bl ?_
   refine sq ?_
   refine zdraw [[], [], [0, 1], [2], [], [], [4, 5], [6], [3, 7], [8]] [some 17, some 18, some 19, some 20, some 21, some 22, some 23, some 24, some 25, some 26] [[0], [5], [17, 18], [19], [1], [5], [21, 22], [23], [20, 24], [25]] [0, 1, 2, 3, 4, 5, 6, 7, 8, 9] ⟨by kernel_rfl, by kernel_rfl, by kernel_rfl⟩ (by kernel_rfl) (fun s8 p8 l8 tb8 zd8 => ?_)
   have zd9 := zd8.add 0 17 w0_0 rfl
   have zd10 := zd9.add 1 18 (.int .i64 x4) rfl
   have K11 := (Kx4.st p8 rfl)
   have A12 := (A0_0.kp K11)
   refine mg fun hg13 => ?_
   obtain ⟨ad13, es13, he13, ce13, ia13⟩ := ix_e A12 rfl hg13.1 hg13.2
   have h0_13 := hg13.1
   have h1_13 := hg13.2
   obtain ⟨v13_0, v13_1, rfl, A13_0, A13_1⟩ := op99 he13
   have zd17 := zd10.add 2 19 (.pointer (some ad13)) rfl
   have zd18 := zd17.add 3 20 (.agg #[(.int .i64 ((at_ a0 x4).Xid)), (.int .i64 ((at_ a0 x4).Begun)), (.int .i64 ((at_ a0 x4).Ended)), v13_0, v13_1]) rfl
   have zd19 := zd18.add 4 21 w1_0 rfl
   have zd20 := zd19.add 5 22 (.int .i64 x4) rfl
   have A21 := (A1_0.kp K11)
   refine mg fun hg22 => ?_
   obtain ⟨ad22, es22, he22, ce22, ia22⟩ := ix_e A21 rfl hg22.1 hg22.2
   have h0_22 := hg22.1
   have h1_22 := hg22.2
   obtain ⟨v22_0, v22_1, rfl, A22_0, A22_1⟩ := op99 he22
   have zd26 := zd20.add 6 23 (.pointer (some ad22)) rfl
   have zd27 := zd26.add 7 24 (.agg #[(.int .i64 ((at_ a1 x4).Xid)), (.int .i64 ((at_ a1 x4).Begun)), (.int .i64 ((at_ a1 x4).Ended)), v22_0, v22_1]) rfl
   refine zfin [8, 9] tb8 zd27 (pq_cons (lca_q ce22 Try.underlying99 z99 rfl rfl rfl rfl rfl rfl rfl) rfl (pq_cons (ix_q A21 Try.underlying26 z99 hg22.1 hg22.2 ia22 rfl rfl rfl rfl rfl rfl rfl) rfl (pq_cons (pu_q rfl rfl rfl rfl rfl rfl) rfl (pq_cons (mv_q w1_0 rfl rfl rfl rfl rfl rfl) rfl (pq_cons (lca_q ce13 Try.underlying99 z99 rfl rfl rfl rfl rfl rfl rfl) rfl (pq_cons (ix_q A12 Try.underlying26 z99 hg13.1 hg13.2 ia13 rfl rfl rfl rfl rfl rfl rfl) rfl (pq_cons (pu_q rfl rfl rfl rfl rfl rfl) rfl (pq_cons (mv_q w0_0 rfl rfl rfl rfl rfl rfl) rfl pq_nil)))))))) (by kernel_rfl) (by decide) ?_
   refine cl rfl rfl rfl rfl rfl Try.func58 rfl rfl rfl (fun r28 m28 => laws_eqDeed.calls (at_ a0 x4) (at_ a1 x4) s8.w (fun b => memb [0] (s8.g b) = true) v13_0 v13_1 v22_0 v22_1 A13_0 A13_1 A22_0 A22_1 r28 m28) ?_
   rintro r28 _ w28 m28 ⟨rfl, ky28⟩
   obtain ⟨s29, rfl, p29, n29⟩ := nwx s8 w28 40 ky28
   refine pu rfl rfl rfl rfl rfl ?_
   refine dn ?_
   refine cd rfl (fun h30 => ?_) (fun h30 => ?_)
   ·
    refine sr ?_
    refine pu rfl rfl rfl rfl rfl ?_
    refine dn ?_
    refine sgi ?_
    have K31 := (K11.st p29 rfl)
    exact re rfl Try.func13 rfl (r_t rfl r_nil) rfl ⟨_, rfl, rfl, z.ky K31⟩
   ·
    refine sk ?_
    refine ib ?_
    refine rg ?_
    refine pu rfl rfl rfl rfl rfl ?_
    refine pu rfl rfl rfl rfl rfl ?_
    refine pu rfl rfl rfl rfl rfl ?_
    refine dn ?_
    have K32 := (K11.st p29 rfl)
    exact lb ih4 ⟨s29, _, rfl, (ue (ue (ue rfl rfl) rfl) rfl), K32⟩
  ·
   refine xt rfl ?_
   refine sgb ?_
   refine sr ?_
   refine pu rfl rfl rfl rfl rfl ?_
   refine dn ?_
   exact re rfl Try.func13 rfl (r_t rfl r_nil) rfl ⟨_, rfl, rfl, z.ky Kx4⟩
noncomputable def laws_markByteS.b0  (x2 : (List Int) × Int × Int) : Option (((List Int) × Int × Int) ⊕ (Int × (List Int))) :=
 (if (decide (x2.2.2 < (x2.1.length : Int))) = true then (if 0 ≤ x2.2.2 ∧ x2.2.2 < (x2.1.length : Int) then (some (Sum.inl ((x2.1.set (x2.2.2).toNat (IntKind.wrap .u8 x2.2.1)), (IntKind.wrap .i64 (x2.2.1 + (1 : Int))), (IntKind.wrap .i64 (x2.2.2 + (1 : Int)))))) else none) else ((some (x2.2.1, x2.1)).bind fun o => some (Sum.inr o)))
noncomputable def laws_markByteS.f (a0 : (List Int)) (a1 : Int) : Option (Int × (List Int)) :=
 (iter laws_markByteS.b0 (a0, a1, (0 : Int)))
def laws_markByteS.Q (w : World) (F : Nat → Prop) (os : List Nat) (w0_0 : Value) (r : Int × (List Int)) (v : Value) (w' : World) : Prop :=
 v = (.int .i64 r.1) ∧ FW (Kd.sl 5 (Kd.int .u8)) os w w' [w0_0] r.2 ∧ Ky os w w'
set_option maxHeartbeats 4000000 in
set_option maxRecDepth 100000 in
theorem laws_markByteS.calls (a0 : (List Int)) (a1 : Int) (w : World) (F : Nat → Prop) (w0_0 : Value) (os : List Nat) (h0_0 : (Kd.sl 5 (Kd.int .u8)).ow w [w0_0] a0 os) (hn : os.Nodup) (hF : ∀ b, F b → b ∉ os) (r : Int × (List Int)) (m : laws_markByteS.f a0 a1 = some r) :
  Calls Try.prog 81 #[w0_0, (.int .i64 a1)] w fun en w' => ∃ v, en = .returned v ∧ laws_markByteS.Q w F os w0_0 r v w' := by
 obtain ⟨s0, rfl, kp0, z⟩ := start1 w F os hF
 have A0_0 := z.ow h0_0 hn
 refine calls_of_TM (args := [w0_0, (.int .i64 a1)]) (R := fun r en w' => ∃ v, en = .returned v ∧ laws_markByteS.Q s0.w F os w0_0 r v w') Try.func81 Try.ntmps81 rfl rfl m ?_
 unfold laws_markByteS.f
 refine sr ?_
 refine pu rfl rfl rfl rfl rfl ?_
 refine dn ?_
 refine sq ?_
 refine sr ?_
 refine pu rfl rfl rfl rfl rfl ?_
 refine dn ?_
 refine bl ?_
 refine lpI (fun (x2 : (List Int) × Int × Int) (e : Env) (w : World) => ∃ (s : St) (e0 : Env), w = s.w ∧ e = upd (upd (upd e0 0 w0_0) 1 (.int .i64 x2.2.1)) 5 (.int .i64 x2.2.2) ∧ Kp s0 s ∧ OwF (Kd.sl 5 (Kd.int .u8)) s [w0_0] x2.1 2) ⟨s0, _, rfl, (ue (ue (ue rfl rfl) rfl) rfl), kp0, A0_0⟩ (fun g2 ih2 => ?_)
 rintro x2 _ _ ⟨s3, _, rfl, rfl, Kx2, Ax2_0⟩
 unfold laws_markByteS.b0
 refine sq ?_
 refine sr ?_
 refine pu rfl rfl rfl rfl rfl ?_
 refine mv w0_0 rfl rfl rfl rfl rfl rfl ?_
 refine ln Ax2_0.rd Try.underlying37 rfl rfl rfl rfl rfl rfl ?_
 refine pu rfl rfl rfl rfl rfl ?_
 refine dn ?_
 refine cd rfl (fun h5 => ?_) (fun h5 => ?_)
 ·
  refine sk ?_
  refine sq ?_
  refine bl ?_
  refine sr ?_
  refine mv w0_0 rfl rfl rfl rfl rfl rfl ?_
  refine pu rfl rfl rfl rfl rfl ?_
  refine pu rfl rfl rfl rfl rfl ?_
  refine cv Try.underlying5 Try.underlying3 rfl rfl rfl rfl rfl rfl ?_
  refine ix Ax2_0.rd Try.underlying37 z5 rfl rfl rfl rfl rfl rfl rfl rfl (fun ad6 es6 h0_6 h1_6 he6 ce6 ia6 => ?_)
  obtain rfl := he6
  refine so (x' := (IntKind.wrap .u8 x2.2.1)) Ax2_0 ia6 h0_6 h1_6 cs_flat z5 rfl rfl rfl rfl rfl rfl (fun s8 p8 A8 => ?_)
  refine dn ?_
  refine rg ?_
  refine pu rfl rfl rfl rfl rfl ?_
  refine pu rfl rfl rfl rfl rfl ?_
  refine pu rfl rfl rfl rfl rfl ?_
  refine dn ?_
  refine ib ?_
  refine rg ?_
  refine pu rfl rfl rfl rfl rfl ?_
  refine pu rfl rfl rfl rfl rfl ?_
  refine pu rfl rfl rfl rfl rfl ?_
  refine dn ?_
  have K10 := (Kx2.st p8 rfl)
  exact lb ih2 ⟨s8, _, rfl, (ue (ue (ue rfl rfl) rfl) rfl), K10, A8⟩
 ·
  refine xt rfl ?_
  refine sgb ?_
  refine sr ?_
  refine pu rfl rfl rfl rfl rfl ?_
  refine pu rfl rfl rfl rfl rfl ?_
  refine dn ?_
  exact re rfl Try.func81 rfl (r_t rfl r_nil) rfl ⟨_, rfl, rfl, z.fw Kx2 Ax2_0, z.ky Kx2⟩
end Go.Proofs.Ytcagjdngannneaa
