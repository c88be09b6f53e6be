/- The functions as models, and that the calls come to what the models tell. -/
import Derived.Test.YtegicanjlefmdaaGreatGsa
set_option linter.unusedVariables false
set_option linter.unusedSimpArgs false
set_option maxHeartbeats 4000000
set_option maxRecDepth 100000
noncomputable section
namespace Go.Proofs.YtegicanjlefmdaaGreat
open Go V Tryz
def slices_ContainsFunc_impl_Span_impl_Span.f (a0 : (List Span)) (a1 : (Span → Option Bool)) : Option (Bool) :=
 ((slices_IndexFunc_impl_Span_impl_Span.f a0 a1).bind fun r2 => (some (decide (r2 ≥ (0 : Int)))))
def slices_ContainsFunc_impl_Span_impl_Span.Q (w : World) (F : Nat → Prop) (r : Bool) (v : Value) (w' : World) : Prop :=
 v = (.bool r) ∧ Ky [] w w'
theorem slices_ContainsFunc_impl_Span_impl_Span.calls (a0 : (List Span)) (a1 : (Span → Option Bool)) (w : World) (F : Nat → Prop) (w0_0 : Value) (f1 : Value) (h0_0 : Yb.rd w [w0_0] a0 F) (hf1 : ∀ (x0 : Span) (u0_0 u0_1 u0_2 u0_3 : Value) (w' : World), Ky [] w w' → Kd.flt.rd w' [u0_0] x0.From.F (fun _ => True) → Xx.rd w' [u0_1] x0.From.T (fun _ => True) → Kd.flt.rd w' [u0_2] x0.To.F (fun _ => True) → Xx.rd w' [u0_3] x0.To.T (fun _ => True) → ∀ r, a1 x0 = some r → CallV prog f1 [(.agg #[(iI x0.From.Kind), (iI x0.From.N), u0_0, u0_1, (iI x0.To.Kind), (iI x0.To.N), u0_2, u0_3])] w' fun en w'' => ∃ v, en = .returned v ∧ v = (.bool r) ∧ Ky [] w' w'') (ho1 : f1.cells = #[f1]) (r : Bool) (m : slices_ContainsFunc_impl_Span_impl_Span.f a0 a1 = some r) :
  Calls prog 211 #[w0_0, f1] w (RT (slices_ContainsFunc_impl_Span_impl_Span.Q w F) r) := by
 obtain ⟨s0, rfl, kp0, z⟩ := Xi w F
 refine Xc (args := [w0_0, f1]) func211 ntmps211 rfl rfl m ?_
 unfold slices_ContainsFunc_impl_Span_impl_Span.f
 refine sr (Xb rfl (dn (sr (Xp w0_0 rfl (Xp f1 rfl (clV 40 rfl func270 rfl (slices_IndexFunc_impl_Span_impl_Span.calls a0 a1 s0.w (mm [0] s0) w0_0 f1 (z.rd h0_0) (fun x0 u0_0 u0_1 u0_2 u0_3 w' k h0 h1 h2 h3 r m =>  hf1 x0 u0_0 u0_1 u0_2 u0_3 w' (Ky.trans (z.ky kp0) k) h0 h1 h2 h3 r m) ho1) (fun r2 s3 p3 n3 => ?_)))))))
 refine Xb rfl (Xb rfl (dn ?_))
 exact re rfl func211 rfl (Xs rfl Xg) rfl ⟨_, rfl, rfl, z.ky (kp0.st p3 rfl)⟩
def impl_areAll_impl_Span.f (a0 : (List Span)) (a1 : (Span → Option Bool)) : Option (Bool) :=
 ((slices_ContainsFunc_impl_Span_impl_Span.f a0 (fun x0 => impl_areAll_impl_Span_1.f x0 a1)).bind fun r6 => (some (!r6)))
def impl_areAll_impl_Span.Q (w : World) (F : Nat → Prop) (r : Bool) (v : Value) (w' : World) : Prop :=
 v = (.bool r) ∧ Ky [] w w'
theorem impl_areAll_impl_Span.calls (a0 : (List Span)) (a1 : (Span → Option Bool)) (w : World) (F : Nat → Prop) (w0_0 : Value) (f1 : Value) (h0_0 : Yb.rd w [w0_0] a0 F) (hf1 : ∀ (x0 : Span) (u0_0 u0_1 u0_2 u0_3 : Value) (w' : World), Ky [] w w' → Kd.flt.rd w' [u0_0] x0.From.F (fun _ => True) → Xx.rd w' [u0_1] x0.From.T (fun _ => True) → Kd.flt.rd w' [u0_2] x0.To.F (fun _ => True) → Xx.rd w' [u0_3] x0.To.T (fun _ => True) → ∀ r, a1 x0 = some r → CallV prog f1 [(.agg #[(iI x0.From.Kind), (iI x0.From.N), u0_0, u0_1, (iI x0.To.Kind), (iI x0.To.N), u0_2, u0_3])] w' fun en w'' => ∃ v, en = .returned v ∧ v = (.bool r) ∧ Ky [] w' w'') (ho1 : f1.cells = #[f1]) (r : Bool) (m : impl_areAll_impl_Span.f a0 a1 = some r) :
  Calls prog 205 #[w0_0, f1] w (RT (impl_areAll_impl_Span.Q w F) r) := by
 obtain ⟨s0, rfl, kp0, z⟩ := Xi w F
 refine Xc (args := [w0_0, f1]) func205 ntmps205 rfl rfl m ?_
 unfold impl_areAll_impl_Span.f
 refine sr (bx' (cs := [f1]) 40 rfl ho1 (fun b2 s2 p2 B2 => ?_))
 refine Xb rfl (dn (sr (Xp w0_0 rfl (mkf (fs := []) (cs := [(pB b2)]) rfl rfl rfl rfl rfl rfl rfl ?_))))
 have K4 := kp0.st p2 rfl
 refine clV 41 rfl func211 rfl (slices_ContainsFunc_impl_Span_impl_Span.calls a0 (fun x0 => impl_areAll_impl_Span_1.f x0 a1) s2.w (mm [0] s2) w0_0 (.func (.func 267) (List.toArray []) (List.toArray [(pB b2)])) ((z.rd h0_0).kp K4) (fun x0 u0_0 u0_1 u0_2 u0_3 w' k h0 h1 h2 h3 r m =>  ⟨267, _, _, [], [(pB b2)], rfl, func267, rfl, rfl, (impl_areAll_impl_Span_1.calls x0 a1 w' (fun _ => True) u0_0 u0_1 u0_2 u0_3 b2 f1 h0 h1 h2 h3 (fun x0c u0_0c u0_1c u0_2c u0_3c w'c kc h0c h1c h2c h3c r m =>  hf1 x0c u0_0c u0_1c u0_2c u0_3c w'c (Ky.trans (z.ky K4) (Ky.trans k kc)) h0c h1c h2c h3c r m) ho1 (B2.ky k) trivial r m).mono fun en w2 hq => by obtain ⟨v, e, q⟩ := hq; exact ⟨v, e, q⟩⟩) rfl) (fun r6 s7 p7 n7 => ?_)
 refine Xb rfl (Xb rfl (dn ?_))
 exact re rfl func205 rfl (Xs rfl Xg) rfl ⟨_, rfl, rfl, z.ky (K4.st p7 rfl)⟩
def impl_SpanOk.f (a0 : Span) : Option (Bool) :=
 ((impl_KeyOk.f a0.From).bind fun r7 => ((if r7 = true then ((impl_KeyOk.f a0.To).bind fun r13 => (some r13)) else (some false)).bind fun y9 => ((if y9 = true then ((impl_compareItems.f a0.From a0.To).bind fun r24 => (some (decide (r24 ≤ (0 : Int))))) else (some false)).bind fun y21 => (some y21))))
def impl_SpanOk.Q (w : World) (F : Nat → Prop) (r : Bool) (v : Value) (w' : World) : Prop :=
 v = (.bool r) ∧ Ky [] w w'
theorem impl_SpanOk.calls (a0 : Span) (w : World) (F : Nat → Prop) (w0_0 : Value) (w0_1 : Value) (w0_2 : Value) (w0_3 : Value) (h0_0 : Kd.flt.rd w [w0_0] a0.From.F F) (h0_1 : Xx.rd w [w0_1] a0.From.T F) (h0_2 : Kd.flt.rd w [w0_2] a0.To.F F) (h0_3 : Xx.rd w [w0_3] a0.To.T F) (r : Bool) (m : impl_SpanOk.f a0 = some r) :
  Calls prog 206 #[(.agg #[(iI a0.From.Kind), (iI a0.From.N), w0_0, w0_1, (iI a0.To.Kind), (iI a0.To.N), w0_2, w0_3])] w (RT (impl_SpanOk.Q w F) r) := by
 obtain ⟨s0, rfl, kp0, z⟩ := Xi w F
 have A0_0 := Xu h0_0
 have A0_1 := z.rd h0_1
 have A0_2 := Xu h0_2
 have A0_3 := z.rd h0_3
 refine Xc (args := [(.agg #[(iI a0.From.Kind), (iI a0.From.N), w0_0, w0_1, (iI a0.To.Kind), (iI a0.To.N), w0_2, w0_3])]) func206 ntmps206 rfl rfl m ?_
 unfold impl_SpanOk.f
 refine sr (bx' (cs := [(iI a0.From.Kind), (iI a0.From.N), w0_0, w0_1, (iI a0.To.Kind), (iI a0.To.N), w0_2, w0_3]) 40 rfl rfl (fun b3 s3 p3 B3 => ?_))
 refine Xb rfl (dn (sr (fa' fa146_0 rfl (lda' (es := [(iI a0.From.Kind), (iI a0.From.N), w0_0, w0_1]) B3 u29 z29 rfl ?_))))
 have K5 := kp0.st p3 rfl
 refine clV 41 rfl func100 rfl (impl_KeyOk.calls a0.From s3.w (mm [0] s3) w0_0 w0_1 ((Xk (s := s3) A0_0).sub (D := [0]) rfl) (A0_1.kp K5)) (fun r7 s8 p8 n8 => ?_)
 refine Xb rfl (ji [8, 9, 10, 11, 12, 13, 14, 15, 16] (fun (y9 : Bool) e w => ∃ (s : St) (e0 : Env), w = s.w ∧ e = upd (upd e0 1 (pB b3)) 10 (.bool y9) ∧ Kp s0 s ∧ BlF s b3 146 [(iI a0.From.Kind), (iI a0.From.N), w0_0, w0_1, (iI a0.To.Kind), (iI a0.To.N), w0_2, w0_3] 40) (fun Gj9 Kj9 => ?_) ?_)
 ·
  rcases bft r7 with hb9 | hb9
  ·
   refine Xv hb9 ?_
   rw [if_pos hb9]
   refine fa' fa146_1 rfl ?_
   have A10 := B3.st p8 rfl
   refine lda' (es := [(iI a0.To.Kind), (iI a0.To.N), w0_2, w0_3]) A10 u29 z29 rfl ?_
   have K11 := K5.st p8 rfl
   refine clV 42 rfl func100 rfl (impl_KeyOk.calls a0.To s8.w (mm [0] s8) w0_2 w0_3 ((Xk (s := s8) A0_2).sub (D := [0]) rfl) (A0_3.kp K11)) (fun r13 s14 p14 n14 => ?_)
   exact Xb rfl (Kj9 _ _ _ ⟨s14, _, rfl, (ue (ue rfl rfl) rfl), (K11.st p14 rfl), (A10.st p14 rfl)⟩)
  refine Xv hb9 ?_
  rw [if_neg (by rw [hb9]; decide)]
  refine Xj rfl (Xj rfl (Xj rfl (Xb rfl ?_)))
  exact Kj9 _ _ _ ⟨s8, _, rfl, (ue (ue rfl rfl) rfl), (K5.st p8 rfl), (B3.st p8 rfl)⟩
 rintro y9 _ _ ⟨s19, _, rfl, rfl, Ky9, By9_b3⟩
 refine Xb rfl (ji [16] (fun (y21 : Bool) e w => ∃ (s : St) (e0 : Env), w = s.w ∧ e = upd e0 18 (.bool y21) ∧ Kp s0 s) (fun Gj21 Kj21 => ?_) ?_)
 ·
  rcases bft y9 with hb21 | hb21
  ·
   refine Xv hb21 ?_
   rw [if_pos hb21]
   refine fa' fa146_0 rfl (lda' (es := [(iI a0.From.Kind), (iI a0.From.N), w0_0, w0_1]) By9_b3 u29 z29 rfl (fa' fa146_1 rfl (lda' (es := [(iI a0.To.Kind), (iI a0.To.N), w0_2, w0_3]) By9_b3 u29 z29 rfl ?_)))
   refine clV 43 rfl func102 rfl (impl_compareItems.calls a0.From a0.To s19.w (mm [0] s19) w0_0 w0_1 w0_2 w0_3 ((Xk (s := s19) A0_0).sub (D := [0]) rfl) (A0_1.kp Ky9) ((Xk (s := s19) A0_2).sub (D := [0]) rfl) (A0_3.kp Ky9)) (fun r24 s25 p25 n25 => ?_)
   refine Xb rfl (Xb rfl ?_)
   exact Kj21 _ _ _ ⟨s25, _, rfl, (ue rfl rfl), (Ky9.st p25 rfl)⟩
  refine Xv hb21 ?_
  rw [if_neg (by rw [hb21]; decide)]
  exact Xj rfl (Xj rfl (Xj rfl (Xj rfl (Xj rfl (Xj rfl (Xb rfl (Kj21 _ _ _ ⟨s19, _, rfl, (ue rfl rfl), Ky9⟩)))))))
 rintro y21 _ _ ⟨s27, _, rfl, rfl, Ky21⟩
 exact Xb rfl (dn (re rfl func206 rfl (Xs rfl Xg) rfl ⟨_, rfl, rfl, z.ky Ky21⟩))
def impl_areAll_impl_Item_1.f (a0 : Item) (a1 : (Item → Option Bool)) : Option (Bool) :=
 ((a1 a0).bind fun r8 => (some (!r8)))
def impl_areAll_impl_Item_1.Q (w : World) (F : Nat → Prop) (r : Bool) (v : Value) (w' : World) : Prop :=
 v = (.bool r) ∧ Ky [] w w'
theorem impl_areAll_impl_Item_1.calls (a0 : Item) (a1 : (Item → Option Bool)) (w : World) (F : Nat → Prop) (w0_0 : Value) (w0_1 : Value) (c1 : Nat) (f1 : Value) (h0_0 : Kd.flt.rd w [w0_0] a0.F F) (h0_1 : Xx.rd w [w0_1] a0.T F) (hf1 : ∀ (x0 : Item) (u0_0 u0_1 : Value) (w' : World), Ky [] w w' → Kd.flt.rd w' [u0_0] x0.F (fun _ => True) → Xx.rd w' [u0_1] x0.T (fun _ => True) → ∀ r, a1 x0 = some r → CallV prog f1 [(.agg #[(iI x0.Kind), (iI x0.N), u0_0, u0_1])] w' fun en w'' => ∃ v, en = .returned v ∧ v = (.bool r) ∧ Ky [] w' w'') (ho1 : f1.cells = #[f1]) (hb1 : BlW w c1 55 [f1]) (hp1 : F c1) (r : Bool) (m : impl_areAll_impl_Item_1.f a0 a1 = some r) :
  Calls prog 268 #[(.agg #[(iI a0.Kind), (iI a0.N), w0_0, w0_1]), (pB c1)] w (RT (impl_areAll_impl_Item_1.Q w F) r) := by
 obtain ⟨s0, rfl, kp0, z⟩ := Xi w F
 refine Xc (args := [(.agg #[(iI a0.Kind), (iI a0.N), w0_0, w0_1]), (pB c1)]) func268 ntmps268 rfl rfl m ?_
 unfold impl_areAll_impl_Item_1.f
 refine sr (bx' (cs := [(iI a0.Kind), (iI a0.N), w0_0, w0_1]) 40 rfl rfl (fun b3 s3 p3 B3 => ?_))
 refine Xb rfl (dn (sr ?_))
 refine ld' (BlF.st (z.b0 hb1 hp1) p3 rfl) u55 rfl (lda' (es := [(iI a0.Kind), (iI a0.N), w0_0, w0_1]) B3 u29 z29 rfl ?_)
 have K6 := kp0.st p3 rfl
 refine clv rfl rfl rfl rfl rfl rfl rfl (fun r8 m8 => hf1 a0 w0_0 w0_1 s3.w (z.ky K6) (fl_rd (Xu h0_0)) (RdF.top ((z.rd h0_1).kp K6)) r8 m8) ?_
 rintro r8 _ w8 m8 ⟨rfl, ky8⟩
 obtain ⟨s9, rfl, p9, n9⟩ := nwx s3 w8 41 ky8
 refine Xb rfl (Xb rfl (dn ?_))
 exact re rfl func268 rfl (Xs rfl Xg) rfl ⟨_, rfl, rfl, z.ky (K6.st p9 rfl)⟩
def slices_IndexFunc_impl_Item_impl_Item.b0 (a0 : (List Item)) (a1 : (Item → Option Bool)) (x2 : Int) : Option (Int ⊕ Int) :=
 (if (decide (x2 < (a0.length : Int))) = true then (if 0 ≤ x2 ∧ x2 < (a0.length : Int) then ((a1 (at_ a0 x2)).bind fun r9 => (if r9 = true then (some (Sum.inr x2)) else (some (Sum.inl (IntKind.wrap .i64 (x2 + (1 : Int))))))) else none) else ((some (-1 : Int)).bind fun o => some (Sum.inr o)))
def slices_IndexFunc_impl_Item_impl_Item.f (a0 : (List Item)) (a1 : (Item → Option Bool)) : Option (Int) :=
 (iter (slices_IndexFunc_impl_Item_impl_Item.b0 a0 a1) (0 : Int))
def slices_IndexFunc_impl_Item_impl_Item.Q (w : World) (F : Nat → Prop) (r : Int) (v : Value) (w' : World) : Prop :=
 v = (iI r) ∧ Ky [] w w'
theorem slices_IndexFunc_impl_Item_impl_Item.calls (a0 : (List Item)) (a1 : (Item → Option Bool)) (w : World) (F : Nat → Prop) (w0_0 : Value) (f1 : Value) (h0_0 : Ya.rd w [w0_0] a0 F) (hf1 : ∀ (x0 : Item) (u0_0 u0_1 : Value) (w' : World), Ky [] w w' → Kd.flt.rd w' [u0_0] x0.F (fun _ => True) → Xx.rd w' [u0_1] x0.T (fun _ => True) → ∀ r, a1 x0 = some r → CallV prog f1 [(.agg #[(iI x0.Kind), (iI x0.N), u0_0, u0_1])] w' fun en w'' => ∃ v, en = .returned v ∧ v = (.bool r) ∧ Ky [] w' w'') (ho1 : f1.cells = #[f1]) (r : Int) (m : slices_IndexFunc_impl_Item_impl_Item.f a0 a1 = some r) :
  Calls prog 286 #[w0_0, f1] w (RT (slices_IndexFunc_impl_Item_impl_Item.Q w F) r) := by
 obtain ⟨s0, rfl, kp0, z⟩ := Xi w F
 have A0_0 := z.rd h0_0
 refine Xc (args := [w0_0, f1]) func286 ntmps286 rfl rfl m ?_
 unfold slices_IndexFunc_impl_Item_impl_Item.f
 refine sr (Xb rfl (dn (sq (sr (Xp w0_0 rfl (ln' A0_0 u141 rfl (Xb rfl (dn (bl (lpI (fun (x2 : Int) e w => ∃ (s : St) (e0 : Env), w = s.w ∧ e = upd (upd (upd (upd e0 0 w0_0) 1 f1) 7 (iI (a0.length : Int))) 8 (iI x2) ∧ Kp s0 s) ⟨s0, _, rfl, (ue (ue (ue (ue rfl rfl) rfl) rfl) rfl), kp0⟩ (fun g2 ih2 => ?_)))))))))))
 rintro x2 _ _ ⟨s3, _, rfl, rfl, Kx2⟩
 unfold slices_IndexFunc_impl_Item_impl_Item.b0
 refine sr (Xb rfl (dn (sq (cd rfl (fun h4 => ?_) (fun h4 => ?_)))))
 ·
  refine sk (sq (bl (sr (Xb rfl (Xb rfl (dn (sr (Xp f1 rfl (Xp w0_0 rfl (Xb rfl ?_))))))))))
  refine ix' (A0_0.kp Kx2) u141 z29 rfl (fun ad6 es6 h0_6 h1_6 he6 ce6 ia6 => ?_)
  obtain ⟨v6_0, v6_1, rfl, A6_0, A6_1⟩ := op29 he6
  refine lca ce6 u29 z29 rfl rfl rfl rfl rfl rfl rfl (clv rfl rfl rfl rfl rfl rfl rfl (fun r9 m9 => hf1 (at_ a0 x2) v6_0 v6_1 s3.w (z.ky Kx2) (fl_rd A6_0) (RdF.top A6_1) r9 m9) ?_)
  rintro r9 _ w9 m9 ⟨rfl, ky9⟩
  obtain ⟨s10, rfl, p10, n10⟩ := nwx s3 w9 40 ky9
  refine dn (cd rfl (fun h11 => ?_) (fun h11 => ?_))
  ·
   refine sr (Xb rfl (Xb rfl (dn (sgi ?_))))
   exact re rfl func286 rfl (Xs rfl Xg) rfl ⟨_, rfl, rfl, z.ky (Kx2.st p10 rfl)⟩
  refine sk (ib (rg (Xb rfl (Xb rfl (dn ?_)))))
  exact lb ih2 ⟨s10, _, rfl, (ue (ue (ue (ue rfl rfl) rfl) rfl) rfl), (Kx2.st p10 rfl)⟩
 exact xt rfl (sgb (sr (Xb rfl (dn (re rfl func286 rfl (Xs rfl Xg) rfl ⟨_, rfl, rfl, z.ky Kx2⟩)))))
def slices_ContainsFunc_impl_Item_impl_Item.f (a0 : (List Item)) (a1 : (Item → Option Bool)) : Option (Bool) :=
 ((slices_IndexFunc_impl_Item_impl_Item.f a0 a1).bind fun r2 => (some (decide (r2 ≥ (0 : Int)))))
def slices_ContainsFunc_impl_Item_impl_Item.Q (w : World) (F : Nat → Prop) (r : Bool) (v : Value) (w' : World) : Prop :=
 v = (.bool r) ∧ Ky [] w w'
theorem slices_ContainsFunc_impl_Item_impl_Item.calls (a0 : (List Item)) (a1 : (Item → Option Bool)) (w : World) (F : Nat → Prop) (w0_0 : Value) (f1 : Value) (h0_0 : Ya.rd w [w0_0] a0 F) (hf1 : ∀ (x0 : Item) (u0_0 u0_1 : Value) (w' : World), Ky [] w w' → Kd.flt.rd w' [u0_0] x0.F (fun _ => True) → Xx.rd w' [u0_1] x0.T (fun _ => True) → ∀ r, a1 x0 = some r → CallV prog f1 [(.agg #[(iI x0.Kind), (iI x0.N), u0_0, u0_1])] w' fun en w'' => ∃ v, en = .returned v ∧ v = (.bool r) ∧ Ky [] w' w'') (ho1 : f1.cells = #[f1]) (r : Bool) (m : slices_ContainsFunc_impl_Item_impl_Item.f a0 a1 = some r) :
  Calls prog 255 #[w0_0, f1] w (RT (slices_ContainsFunc_impl_Item_impl_Item.Q w F) r) := by
 obtain ⟨s0, rfl, kp0, z⟩ := Xi w F
 refine Xc (args := [w0_0, f1]) func255 ntmps255 rfl rfl m ?_
 unfold slices_ContainsFunc_impl_Item_impl_Item.f
 refine sr (Xb rfl (dn (sr (Xp w0_0 rfl (Xp f1 rfl (clV 40 rfl func286 rfl (slices_IndexFunc_impl_Item_impl_Item.calls a0 a1 s0.w (mm [0] s0) w0_0 f1 (z.rd h0_0) (fun x0 u0_0 u0_1 w' k h0 h1 r m =>  hf1 x0 u0_0 u0_1 w' (Ky.trans (z.ky kp0) k) h0 h1 r m) ho1) (fun r2 s3 p3 n3 => ?_)))))))
 refine Xb rfl (Xb rfl (dn ?_))
 exact re rfl func255 rfl (Xs rfl Xg) rfl ⟨_, rfl, rfl, z.ky (kp0.st p3 rfl)⟩
def impl_areAll_impl_Item.f (a0 : (List Item)) (a1 : (Item → Option Bool)) : Option (Bool) :=
 ((slices_ContainsFunc_impl_Item_impl_Item.f a0 (fun x0 => impl_areAll_impl_Item_1.f x0 a1)).bind fun r6 => (some (!r6)))
def impl_areAll_impl_Item.Q (w : World) (F : Nat → Prop) (r : Bool) (v : Value) (w' : World) : Prop :=
 v = (.bool r) ∧ Ky [] w w'
theorem impl_areAll_impl_Item.calls (a0 : (List Item)) (a1 : (Item → Option Bool)) (w : World) (F : Nat → Prop) (w0_0 : Value) (f1 : Value) (h0_0 : Ya.rd w [w0_0] a0 F) (hf1 : ∀ (x0 : Item) (u0_0 u0_1 : Value) (w' : World), Ky [] w w' → Kd.flt.rd w' [u0_0] x0.F (fun _ => True) → Xx.rd w' [u0_1] x0.T (fun _ => True) → ∀ r, a1 x0 = some r → CallV prog f1 [(.agg #[(iI x0.Kind), (iI x0.N), u0_0, u0_1])] w' fun en w'' => ∃ v, en = .returned v ∧ v = (.bool r) ∧ Ky [] w' w'') (ho1 : f1.cells = #[f1]) (r : Bool) (m : impl_areAll_impl_Item.f a0 a1 = some r) :
  Calls prog 207 #[w0_0, f1] w (RT (impl_areAll_impl_Item.Q w F) r) := by
 obtain ⟨s0, rfl, kp0, z⟩ := Xi w F
 refine Xc (args := [w0_0, f1]) func207 ntmps207 rfl rfl m ?_
 unfold impl_areAll_impl_Item.f
 refine sr (bx' (cs := [f1]) 40 rfl ho1 (fun b2 s2 p2 B2 => ?_))
 refine Xb rfl (dn (sr (Xp w0_0 rfl (mkf (fs := []) (cs := [(pB b2)]) rfl rfl rfl rfl rfl rfl rfl ?_))))
 have K4 := kp0.st p2 rfl
 refine clV 41 rfl func255 rfl (slices_ContainsFunc_impl_Item_impl_Item.calls a0 (fun x0 => impl_areAll_impl_Item_1.f x0 a1) s2.w (mm [0] s2) w0_0 (.func (.func 268) (List.toArray []) (List.toArray [(pB b2)])) ((z.rd h0_0).kp K4) (fun x0 u0_0 u0_1 w' k h0 h1 r m =>  ⟨268, _, _, [], [(pB b2)], rfl, func268, rfl, rfl, (impl_areAll_impl_Item_1.calls x0 a1 w' (fun _ => True) u0_0 u0_1 b2 f1 h0 h1 (fun x0c u0_0c u0_1c w'c kc h0c h1c r m =>  hf1 x0c u0_0c u0_1c w'c (Ky.trans (z.ky K4) (Ky.trans k kc)) h0c h1c r m) ho1 (B2.ky k) trivial r m).mono fun en w2 hq => by obtain ⟨v, e, q⟩ := hq; exact ⟨v, e, q⟩⟩) rfl) (fun r6 s7 p7 n7 => ?_)
 refine Xb rfl (Xb rfl (dn ?_))
 exact re rfl func207 rfl (Xs rfl Xg) rfl ⟨_, rfl, rfl, z.ky (K4.st p7 rfl)⟩
def impl_isDeed.f (a0 : Deed) : Option (Bool) :=
 ((if (((decide (a0.Begun ≥ (1 : Int))) && (decide (a0.Ended > a0.Begun))) && (decide ((a0.Reads.length : Int) ≤ (200 : Int)))) = true then ((impl_areAll_impl_Span.f a0.Reads impl_SpanOk.f).bind fun r12 => (some r12)) else (some false)).bind fun y9 => ((if (y9 && (decide ((a0.Writes.length : Int) ≤ (200 : Int)))) = true then ((impl_areAll_impl_Item.f a0.Writes impl_KeyOk.f).bind fun r23 => (some r23)) else (some false)).bind fun y21 => (some y21)))
def impl_isDeed.Q (w : World) (F : Nat → Prop) (r : Bool) (v : Value) (w' : World) : Prop :=
 v = (.bool r) ∧ Ky [] w w'
theorem impl_isDeed.calls (a0 : Deed) (w : World) (F : Nat → Prop) (w0_0 : Value) (w0_1 : Value) (h0_0 : Yb.rd w [w0_0] a0.Reads F) (h0_1 : Ya.rd w [w0_1] a0.Writes F) (r : Bool) (m : impl_isDeed.f a0 = some r) :
  Calls prog 120 #[(.agg #[(iI a0.Xid), (iI a0.Begun), (iI a0.Ended), w0_0, w0_1])] w (RT (impl_isDeed.Q w F) r) := by
 obtain ⟨s0, rfl, kp0, z⟩ := Xi w F
 have A0_0 := z.rd h0_0
 have A0_1 := z.rd h0_1
 refine Xc (args := [(.agg #[(iI a0.Xid), (iI a0.Begun), (iI a0.Ended), w0_0, w0_1])]) func120 ntmps120 rfl rfl m ?_
 unfold impl_isDeed.f
 refine sr (bx' (cs := [(iI a0.Xid), (iI a0.Begun), (iI a0.Ended), w0_0, w0_1]) 40 rfl rfl (fun b3 s3 p3 B3 => ?_))
 refine Xb rfl (dn (sr (fa' fa143_1 rfl (ld' B3 u3 rfl (Xb rfl (Xb rfl (jy [6, 7, 8, 9, 10, 11, 12] [10, 11, 12, 13, 14, 15, 16, 17, 18, 19, 20, 21, 22, 23, 24, 25, 26, 27, 28, 29, 30, 31, 32] 12 (.bool ((decide (a0.Begun ≥ (1 : Int))) && (decide (a0.Ended > a0.Begun)))) rfl (fun Kg5 => ?_) (fun j5 => ?_))))))))
 ·
  rcases bft (decide (a0.Begun ≥ (1 : Int))) with hb5 | hb5
  ·
   exact Xv hb5 (fa' fa143_2 rfl (ld' B3 u3 rfl (fa' fa143_1 rfl (ld' B3 u3 rfl (Xb rfl (Xb rfl (Kg5 _ (Ag.put ((Ag.put ((Ag.put ((Ag.put ((Ag.put ((Ag.put (Ag.base rfl) rfl)) rfl)) rfl)) rfl)) rfl)) rfl) (by rw [hb5]; rfl))))))))
  exact Xv hb5 (Xj rfl (Xj rfl (Xj rfl (Xj rfl (Xj rfl (Xb rfl (Kg5 _ (Ag.put ((Ag.put ((Ag.put ((Ag.put ((Ag.put ((Ag.put (Ag.base rfl) rfl)) rfl)) rfl)) rfl)) rfl)) rfl) (by rw [hb5]; rfl))))))))
 refine Xb rfl (jy [13, 14, 15, 16, 17, 18] [16, 17, 18, 19, 20, 21, 22, 23, 24, 25, 26, 27, 28, 29, 30, 31, 32] 18 (.bool (((decide (a0.Begun ≥ (1 : Int))) && (decide (a0.Ended > a0.Begun))) && (decide ((a0.Reads.length : Int) ≤ (200 : Int))))) rfl (fun Kg6 => ?_) (fun j6 => ?_))
 ·
  rcases bft ((decide (a0.Begun ≥ (1 : Int))) && (decide (a0.Ended > a0.Begun))) with hb6 | hb6
  ·
   refine Xv hb6 (fa' fa143_3 rfl (ld' B3 u140 rfl ?_))
   exact ln' (A0_0.kp (kp0.st p3 rfl)) u140 rfl (Xb rfl (Xb rfl (Kg6 _ (Ag.put ((Ag.put ((Ag.put ((Ag.put ((Ag.put (Ag.base rfl) rfl)) rfl)) rfl)) rfl)) rfl) (by rw [hb6]; rfl))))
  exact Xv hb6 (Xj rfl (Xj rfl (Xj rfl (Xj rfl (Xb rfl (Kg6 _ (Ag.put ((Ag.put ((Ag.put ((Ag.put ((Ag.put (Ag.base rfl) rfl)) rfl)) rfl)) rfl)) rfl) (by rw [hb6]; rfl)))))))
 refine Xb rfl (ji [21, 22, 23, 24, 25, 26, 27, 28, 29, 30, 31, 32] (fun (y9 : Bool) e w => ∃ (s : St) (e0 : Env), w = s.w ∧ e = upd (upd e0 1 (pB b3)) 23 (.bool y9) ∧ Kp s0 s ∧ BlF s b3 143 [(iI a0.Xid), (iI a0.Begun), (iI a0.Ended), w0_0, w0_1] 40) (fun Gj9 Kj9 => ?_) ?_)
 ·
  rcases bft (((decide (a0.Begun ≥ (1 : Int))) && (decide (a0.Ended > a0.Begun))) && (decide ((a0.Reads.length : Int) ≤ (200 : Int)))) with hb9 | hb9
  ·
   refine Xv hb9 ?_
   rw [if_pos hb9]
   refine fa' fa143_3 rfl (ld' B3 u140 rfl ?_)
   have K10 := kp0.st p3 rfl
   refine clV 41 rfl func205 rfl (impl_areAll_impl_Span.calls a0.Reads impl_SpanOk.f s3.w (mm [0] s3) w0_0 (.func (.func 206) #[] #[]) (A0_0.kp K10) (fun x0 u0_0 u0_1 u0_2 u0_3 w' k h0 h1 h2 h3 r m =>  ⟨206, _, _, [], [], rfl, func206, rfl, rfl, (impl_SpanOk.calls x0 w' (fun _ => True) u0_0 u0_1 u0_2 u0_3 h0 h1 h2 h3 r m).mono fun en w2 hq => by obtain ⟨v, e, q⟩ := hq; exact ⟨v, e, q⟩⟩) rfl) (fun r12 s13 p13 n13 => ?_)
   exact Xb rfl (Kj9 _ _ _ ⟨s13, _, rfl, (ue (ue rfl rfl) rfl), (K10.st p13 rfl), (B3.st p13 rfl)⟩)
  refine Xv hb9 ?_
  rw [if_neg (by rw [hb9]; decide)]
  refine Xj rfl (Xj rfl (Xj rfl (Xb rfl ?_)))
  exact Kj9 _ _ _ ⟨s3, _, rfl, (ue (ue rfl rfl) rfl), (kp0.st p3 rfl), B3⟩
 rintro y9 _ _ ⟨s17, _, rfl, rfl, Ky9, By9_b3⟩
 refine Xb rfl (jy [24, 25, 26, 27, 28, 29] [27, 28, 29, 30, 31, 32] 29 (.bool (y9 && (decide ((a0.Writes.length : Int) ≤ (200 : Int))))) rfl (fun Kg19 => ?_) (fun j19 => ?_))
 ·
  rcases bft y9 with hb19 | hb19
  ·
   refine Xv hb19 (fa' fa143_4 rfl (ld' By9_b3 u141 rfl ?_))
   exact ln' (A0_1.kp Ky9) u141 rfl (Xb rfl (Xb rfl (Kg19 _ (Ag.put ((Ag.put ((Ag.put ((Ag.put ((Ag.put (Ag.base rfl) rfl)) rfl)) rfl)) rfl)) rfl) (by rw [hb19]; rfl))))
  exact Xv hb19 (Xj rfl (Xj rfl (Xj rfl (Xj rfl (Xb rfl (Kg19 _ (Ag.put ((Ag.put ((Ag.put ((Ag.put ((Ag.put (Ag.base rfl) rfl)) rfl)) rfl)) rfl)) rfl) (by rw [hb19]; rfl)))))))
 refine Xb rfl (ji [32] (fun (y21 : Bool) e w => ∃ (s : St) (e0 : Env), w = s.w ∧ e = upd e0 34 (.bool y21) ∧ Kp s0 s) (fun Gj21 Kj21 => ?_) ?_)
 ·
  rcases bft (y9 && (decide ((a0.Writes.length : Int) ≤ (200 : Int)))) with hb21 | hb21
  ·
   refine Xv hb21 ?_
   rw [if_pos hb21]
   refine fa' fa143_4 rfl (ld' By9_b3 u141 rfl ?_)
   refine clV 42 rfl func207 rfl (impl_areAll_impl_Item.calls a0.Writes impl_KeyOk.f s17.w (mm [0] s17) w0_1 (.func (.func 100) #[] #[]) (A0_1.kp Ky9) (fun x0 u0_0 u0_1 w' k h0 h1 r m =>  ⟨100, _, _, [], [], rfl, func100, rfl, rfl, (impl_KeyOk.calls x0 w' (fun _ => True) u0_0 u0_1 h0 h1 r m).mono fun en w2 hq => by obtain ⟨v, e, q⟩ := hq; exact ⟨v, e, q⟩⟩) rfl) (fun r23 s24 p24 n24 => ?_)
   exact Xb rfl (Kj21 _ _ _ ⟨s24, _, rfl, (ue rfl rfl), (Ky9.st p24 rfl)⟩)
  refine Xv hb21 ?_
  rw [if_neg (by rw [hb21]; decide)]
  exact Xj rfl (Xj rfl (Xj rfl (Xb rfl (Kj21 _ _ _ ⟨s17, _, rfl, (ue rfl rfl), Ky9⟩))))
 rintro y21 _ _ ⟨s26, _, rfl, rfl, Ky21⟩
 exact Xb rfl (dn (re rfl func120 rfl (Xs rfl Xg) rfl ⟨_, rfl, rfl, z.ky Ky21⟩))
def impl_areDifferent_int.b0 (a0 : (List Int)) (a1 : (Int → Option Int)) (x6 : Int × MD) : Option ((Int × MD) ⊕ Bool) :=
 (if (decide (x6.1 < (a0.length : Int))) = true then (if 0 ≤ x6.1 ∧ x6.1 < (a0.length : Int) then ((a1 (at_ a0 x6.1)).bind fun r13 => (if (mget x6.2 r13) = true then (some (Sum.inr false)) else ((a1 (at_ a0 x6.1)).bind fun r19 => (some (Sum.inl ((IntKind.wrap .i64 (x6.1 + (1 : Int))), (mset x6.2 r19 true))))))) else none) else ((some true).bind fun o => some (Sum.inr o)))
def impl_areDifferent_int.f (a0 : (List Int)) (a1 : (Int → Option Int)) : Option (Bool) :=
 (iter (impl_areDifferent_int.b0 a0 a1) ((0 : Int), ([] : MD)))
def impl_areDifferent_int.Q (w : World) (F : Nat → Prop) (r : Bool) (v : Value) (w' : World) : Prop :=
 v = (.bool r) ∧ Ky [] w w'
theorem impl_areDifferent_int.calls (a0 : (List Int)) (a1 : (Int → Option Int)) (w : World) (F : Nat → Prop) (w0_0 : Value) (f1 : Value) (h0_0 : Xy.rd w [w0_0] a0 F) (hf1 : ∀ (x0 : Int) (w' : World), Ky [] w w' → ∀ r, a1 x0 = some r → CallV prog f1 [(iI x0)] w' fun en w'' => ∃ v, en = .returned v ∧ v = (iI r) ∧ Ky [] w' w'') (ho1 : f1.cells = #[f1]) (r : Bool) (m : impl_areDifferent_int.f a0 a1 = some r) :
  Calls prog 121 #[w0_0, f1] w (RT (impl_areDifferent_int.Q w F) r) := by
 obtain ⟨s0, rfl, kp0, z⟩ := Xi w F
 have A0_0 := z.rd h0_0
 refine Xc (args := [w0_0, f1]) func121 ntmps121 rfl rfl m ?_
 unfold impl_areDifferent_int.f
 refine sr (Xb rfl (dn (sr (mkm 40 rfl rfl rfl rfl rfl (fun b2 s2 p2 B2 => ?_)))))
 refine Xb rfl (dn (sq (sr (Xp w0_0 rfl ?_))))
 have K4 := kp0.st p2 rfl
 refine ln' (A0_0.kp K4) u50 rfl (Xb rfl (dn (bl (lpI (fun (x6 : Int × MD) e w => ∃ (s : St) (e0 : Env), w = s.w ∧ e = upd (upd (upd (upd (upd e0 1 f1) 5 (.map (some b2))) 9 w0_0) 10 (iI (a0.length : Int))) 11 (iI x6.1) ∧ Kp s0 s ∧ MpF s b2 x6.2 40) ⟨s2, _, rfl, (ue (ue (ue (ue (ue rfl rfl) rfl) rfl) rfl) rfl), K4, B2⟩ (fun g6 ih6 => ?_)))))
 rintro x6 _ _ ⟨s7, _, rfl, rfl, Kx6, Bx6_b2⟩
 unfold impl_areDifferent_int.b0
 refine sr (Xb rfl (dn (sq (cd rfl (fun h9 => ?_) (fun h9 => ?_)))))
 ·
  refine sk (sq (bl (sr ?_)))
  refine ix' (A0_0.kp Kx6) u50 z3 rfl (fun ad11 es11 h0_11 h1_11 he11 ce11 ia11 => ?_)
  obtain rfl := he11
  refine lc0' ce11 u3 rfl (Xb rfl (dn (sq (sr (Xb rfl (Xp f1 rfl (Xb rfl (clv rfl rfl rfl rfl rfl rfl rfl (fun r13 m13 => hf1 (at_ a0 x6.1) s7.w (z.ky Kx6)  r13 m13) ?_))))))))
  rintro r13 _ w13 m13 ⟨rfl, ky13⟩
  obtain ⟨s14, rfl, p14, n14⟩ := nwx s7 w13 41 ky13
  have A15 := Bx6_b2.st p14 rfl
  refine lkm A15 u212 u3 o4 rfl rfl rfl rfl rfl rfl rfl (dn (cd rfl (fun h16 => ?_) (fun h16 => ?_)))
  ·
   refine sr (Xb rfl (dn (sgi ?_)))
   exact re rfl func121 rfl (Xs rfl Xg) rfl ⟨_, rfl, rfl, z.ky (Kx6.st p14 rfl)⟩
  refine sk (rg (Xb rfl (Xp f1 rfl (Xb rfl ?_))))
  have K18 := Kx6.st p14 rfl
  refine clv rfl rfl rfl rfl rfl rfl rfl (fun r19 m19 => hf1 (at_ a0 x6.1) s14.w (z.ky K18)  r19 m19) ?_
  rintro r19 _ w19 m19 ⟨rfl, ky19⟩
  obtain ⟨s20, rfl, p20, n20⟩ := nwx s14 w19 42 ky19
  refine upm (A15.st p20 rfl) u212 u3 rfl rfl rfl rfl rfl rfl rfl (fun s22 p22 B22 => ?_)
  refine dn (ib (rg (Xb rfl (Xb rfl (dn ?_)))))
  exact lb ih6 ⟨s22, _, rfl, (ue (ue (ue (ue (ue rfl rfl) rfl) rfl) rfl) rfl), (K18.st (Xq p20 p22) rfl), B22⟩
 exact xt rfl (sgb (sr (Xb rfl (dn (re rfl func121 rfl (Xs rfl Xg) rfl ⟨_, rfl, rfl, z.ky Kx6⟩)))))
def impl_DeedsOk_1.f (a0 : Int) : Option (Int) :=
 (some a0)
def impl_DeedsOk_1.Q (w : World) (F : Nat → Prop) (r : Int) (v : Value) (w' : World) : Prop :=
 v = (iI r) ∧ Ky [] w w'
theorem impl_DeedsOk_1.calls (a0 : Int) (w : World) (F : Nat → Prop)   (r : Int) (m : impl_DeedsOk_1.f a0 = some r) :
  Calls prog 122 #[(iI a0)] w (RT (impl_DeedsOk_1.Q w F) r) := by
 obtain ⟨s0, rfl, kp0, z⟩ := Xi w F
 refine Xc (args := [(iI a0)]) func122 ntmps122 rfl rfl m ?_
 unfold impl_DeedsOk_1.f
 exact sr (Xb rfl (dn (sr (Xb rfl (Xb rfl (dn (re rfl func122 rfl (Xs rfl Xg) rfl ⟨_, rfl, rfl, z.ky kp0⟩)))))))
def impl_DeedsOk.b0 (a0 : (List Deed)) (x9 : (List Int) × Int) : Option (((List Int) × Int) ⊕ Bool) :=
 (if (decide (x9.2 < (a0.length : Int))) = true then (if 0 ≤ x9.2 ∧ x9.2 < (a0.length : Int) then (if x9.1.length + ([(at_ a0 x9.2).Begun, (at_ a0 x9.2).Ended]).length ≤ Lim then (some (Sum.inl ((x9.1 ++ [(at_ a0 x9.2).Begun, (at_ a0 x9.2).Ended]), (IntKind.wrap .i64 (x9.2 + (1 : Int)))))) else none) else none) else (((impl_areDifferent_int.f x9.1 impl_DeedsOk_1.f).bind fun r30 => (some r30)).bind fun o => some (Sum.inr o)))
def impl_DeedsOk.f (a0 : (List Deed)) : Option (Bool) :=
 ((if (decide ((a0.length : Int) > (100 : Int))) = true then (some true) else ((impl_areAll_impl_Deed.f a0 impl_isDeed.f).bind fun r3 => (some (!r3)))).bind fun y2 => (if y2 = true then (some false) else (iter (impl_DeedsOk.b0 a0) (([] : (List Int)), (0 : Int)))))
def impl_DeedsOk.Q (w : World) (F : Nat → Prop) (r : Bool) (v : Value) (w' : World) : Prop :=
 v = (.bool r) ∧ Ky [] w w'
theorem impl_DeedsOk.calls (a0 : (List Deed)) (w : World) (F : Nat → Prop) (w0_0 : Value) (h0_0 : Xz.rd w [w0_0] a0 F) (r : Bool) (m : impl_DeedsOk.f a0 = some r) :
  Calls prog 36 #[w0_0] w (RT (impl_DeedsOk.Q w F) r) := by
 obtain ⟨s0, rfl, kp0, z⟩ := Xi w F
 have A0_0 := z.rd h0_0
 refine Xc (args := [w0_0]) func36 ntmps36 rfl rfl m ?_
 unfold impl_DeedsOk.f
 refine sr (Xb rfl (dn (sq (sr (Xp w0_0 rfl (ln' A0_0 u62 rfl (Xb rfl (Xb rfl (ji [] (fun (y2 : Bool) e w => ∃ (s : St) (e0 : Env), w = s.w ∧ e = upd (upd e0 0 w0_0) 13 (.bool y2) ∧ Kp s0 s) (fun Gj2 Kj2 => ?_) ?_)))))))))
 ·
  rcases bft (decide ((a0.length : Int) > (100 : Int))) with hb2 | hb2
  ·
   refine Xv hb2 ?_
   rw [if_pos hb2]
   exact Xj rfl (Xj rfl (Xj rfl (Xb rfl (Kj2 _ _ _ ⟨s0, _, rfl, (ue (ue rfl rfl) rfl), kp0⟩))))
  refine Xv hb2 ?_
  rw [if_neg (by rw [hb2]; decide)]
  refine Xp w0_0 rfl (clV 40 rfl func119 rfl (impl_areAll_impl_Deed.calls a0 impl_isDeed.f s0.w (mm [0] s0) w0_0 (.func (.func 120) #[] #[]) A0_0 (fun x0 u0_0 u0_1 w' k h0 h1 r m =>  ⟨120, _, _, [], [], rfl, func120, rfl, rfl, (impl_isDeed.calls x0 w' (fun _ => True) u0_0 u0_1 h0 h1 r m).mono fun en w2 hq => by obtain ⟨v, e, q⟩ := hq; exact ⟨v, e, q⟩⟩) rfl) (fun r3 s4 p4 n4 => ?_))
  refine Xb rfl (Xb rfl ?_)
  exact Kj2 _ _ _ ⟨s4, _, rfl, (ue (ue rfl rfl) rfl), (kp0.st p4 rfl)⟩
 rintro y2 _ _ ⟨s6, _, rfl, rfl, Ky2⟩
 refine dn (cd rfl (fun h7 => ?_) (fun h7 => ?_))
 ·
  exact sr (Xb rfl (dn (re rfl func36 rfl (Xs rfl Xg) rfl ⟨_, rfl, rfl, z.ky Ky2⟩)))
 refine sk (sr (Xb rfl (dn (sq (sr (Xp w0_0 rfl ?_))))))
 refine ln' (A0_0.kp Ky2) u62 rfl (Xb rfl (dn (bl (lpI (fun (x9 : (List Int) × Int) e w => ∃ (s : St) (e0 : Env) (vx9_0 : Value), w = s.w ∧ e = upd (upd (upd (upd e0 3 vx9_0) 14 w0_0) 15 (iI (a0.length : Int))) 16 (iI x9.2) ∧ Kp s0 s ∧ OwF Xy s [vx9_0] x9.1 41) ⟨s6, _, (.slice none 0 0), rfl, (ue (ue (ue (ue rfl rfl) rfl) rfl) rfl), Ky2, (ow_nil 3 (Kd.int .i64) _ 41)⟩ (fun g9 ih9 => ?_)))))
 rintro x9 _ _ ⟨s10, _, vx9_0, rfl, rfl, Kx9, Ax9_0⟩
 unfold impl_DeedsOk.b0
 refine sr (Xb rfl (dn (sq (cd rfl (fun h12 => ?_) (fun h12 => ?_)))))
 ·
  refine sk (sq (bl (sr ?_)))
  refine ix' (A0_0.kp Kx9) u62 z143 rfl (fun ad14 es14 h0_14 h1_14 he14 ce14 ia14 => ?_)
  obtain ⟨v14_0, v14_1, rfl, A14_0, A14_1⟩ := op143 he14
  refine lca ce14 u143 z143 rfl rfl rfl rfl rfl rfl rfl (al (cs := [(iI 0), (iI 0), (iI 0), (.slice none 0 0), (.slice none 0 0)]) 42 rfl rfl rfl rfl rfl o143 rfl (fun b18 s18 p18 B18 => ?_))
  refine sva' (vs := [(iI ((at_ a0 x9.2).Xid)), (iI ((at_ a0 x9.2).Begun)), (iI ((at_ a0 x9.2).Ended)), v14_0, v14_1]) B18 z143 rfl (Xe rfl (Xe rfl (Xe rfl (Xe (A14_0.st p18 rfl).one (Xe (A14_1.st p18 rfl).one on_nil))))) rfl (fun s22 p22 B22 => ?_)
  refine dn (rg (Xp vx9_0 rfl (fa' fa143_1 rfl (ld' B22 u3 rfl (fa' fa143_2 rfl (ld' B22 u3 rfl (ltF' (K := (Kd.int .i64)) (cells := [(iI ((at_ a0 x9.2).Begun)), (iI ((at_ a0 x9.2).Ended))]) [(at_ a0 x9.2).Begun, (at_ a0 x9.2).Ended] 43 Xw u50 z3 o3 (fun w => (els_flat _ _ _)) rfl (fun v24 s24 p24 A24 => ?_))))))))
  refine apF Xw sl50 (Ax9_0.st (tr3 p18 p22 p24) rfl) A24.rd rfl rfl rfl rfl rfl rfl rfl (fun v27 s27 p27 A27 => ?_)
  refine asg' v27 rfl (dn (ib (rg (Xb rfl (Xb rfl (dn ?_))))))
  exact lb ih9 ⟨s27, _, v27, rfl, (ue (ue (ue (ue rfl rfl) rfl) rfl) rfl), (Kx9.st (tr4 p18 p22 p24 p27) rfl), A27⟩
 refine xt rfl (sgb (sr (Xp vx9_0 rfl (clV 44 rfl func121 rfl (impl_areDifferent_int.calls x9.1 impl_DeedsOk_1.f s10.w (mm [41] s10) vx9_0 (.func (.func 122) #[] #[]) Ax9_0.rd (fun x0 w' k  r m =>  ⟨122, _, _, [], [], rfl, func122, rfl, rfl, (impl_DeedsOk_1.calls x0 w' (fun _ => True)  r m).mono fun en w2 hq => by obtain ⟨v, e, q⟩ := hq; exact ⟨v, e, q⟩⟩) rfl) (fun r30 s31 p31 n31 => ?_)))))
 refine Xb rfl (dn ?_)
 exact re rfl func36 rfl (Xs rfl Xg) rfl ⟨_, rfl, rfl, z.ky (Kx9.st p31 rfl)⟩
def impl_Deed_writes_1.f (a0 : Item) (a1 : Item) : Option (Bool) :=
 ((impl_compareItems.f a0 a1).bind fun r10 => (some (r10 == (0 : Int))))
def impl_Deed_writes_1.Q (w : World) (F : Nat → Prop) (r : Bool) (v : Value) (w' : World) : Prop :=
 v = (.bool r) ∧ Ky [] w w'
theorem impl_Deed_writes_1.calls (a0 : Item) (a1 : Item) (w : World) (F : Nat → Prop) (w0_0 : Value) (w0_1 : Value) (c1 : Nat) (w1_0 : Value) (w1_1 : Value) (h0_0 : Kd.flt.rd w [w0_0] a0.F F) (h0_1 : Xx.rd w [w0_1] a0.T F) (h1_0 : Kd.flt.rd w [w1_0] a1.F F) (h1_1 : Xx.rd w [w1_1] a1.T F) (hb1 : BlW w c1 29 [(iI a1.Kind), (iI a1.N), w1_0, w1_1]) (hp1 : F c1) (r : Bool) (m : impl_Deed_writes_1.f a0 a1 = some r) :
  Calls prog 272 #[(.agg #[(iI a0.Kind), (iI a0.N), w0_0, w0_1]), (pB c1)] w (RT (impl_Deed_writes_1.Q w F) r) := by
 obtain ⟨s0, rfl, kp0, z⟩ := Xi w F
 refine Xc (args := [(.agg #[(iI a0.Kind), (iI a0.N), w0_0, w0_1]), (pB c1)]) func272 ntmps272 rfl rfl m ?_
 unfold impl_Deed_writes_1.f
 refine sr (bx' (cs := [(iI a0.Kind), (iI a0.N), w0_0, w0_1]) 40 rfl rfl (fun b4 s4 p4 B4 => ?_))
 refine Xb rfl (dn (sr (lda' (es := [(iI a0.Kind), (iI a0.N), w0_0, w0_1]) B4 u29 z29 rfl ?_)))
 refine lda' (es := [(iI a1.Kind), (iI a1.N), w1_0, w1_1]) (BlF.st (z.b0 hb1 hp1) p4 rfl) u29 z29 rfl ?_
 have K7 := kp0.st p4 rfl
 refine clV 41 rfl func102 rfl (impl_compareItems.calls a0 a1 s4.w (mm [0] s4) w0_0 w0_1 w1_0 w1_1 ((Xk (s := s4) (Xu h0_0)).sub (D := [0]) rfl) ((z.rd h0_1).kp K7) ((Xk (s := s4) (Xu h1_0)).sub (D := [0]) rfl) ((z.rd h1_1).kp K7)) (fun r10 s11 p11 n11 => ?_)
 refine Xb rfl (Xb rfl (dn ?_))
 exact re rfl func272 rfl (Xs rfl Xg) rfl ⟨_, rfl, rfl, z.ky (K7.st p11 rfl)⟩
def impl_Deed_writes.f (a0 : Deed) (a1 : Item) : Option (Bool) :=
 ((slices_ContainsFunc_impl_Item_impl_Item.f a0.Writes (fun x0 => impl_Deed_writes_1.f x0 a1)).bind fun r12 => (some r12))
def impl_Deed_writes.Q (w : World) (F : Nat → Prop) (r : Bool) (v : Value) (w' : World) : Prop :=
 v = (.bool r) ∧ Ky [] w w'
theorem impl_Deed_writes.calls (a0 : Deed) (a1 : Item) (w : World) (F : Nat → Prop) (w0_0 : Value) (w0_1 : Value) (w1_0 : Value) (w1_1 : Value) (h0_0 : Yb.rd w [w0_0] a0.Reads F) (h0_1 : Ya.rd w [w0_1] a0.Writes F) (h1_0 : Kd.flt.rd w [w1_0] a1.F F) (h1_1 : Xx.rd w [w1_1] a1.T F) (r : Bool) (m : impl_Deed_writes.f a0 a1 = some r) :
  Calls prog 214 #[(.agg #[(iI a0.Xid), (iI a0.Begun), (iI a0.Ended), w0_0, w0_1]), (.agg #[(iI a1.Kind), (iI a1.N), w1_0, w1_1])] w (RT (impl_Deed_writes.Q w F) r) := by
 obtain ⟨s0, rfl, kp0, z⟩ := Xi w F
 refine Xc (args := [(.agg #[(iI a0.Xid), (iI a0.Begun), (iI a0.Ended), w0_0, w0_1]), (.agg #[(iI a1.Kind), (iI a1.N), w1_0, w1_1])]) func214 ntmps214 rfl rfl m ?_
 unfold impl_Deed_writes.f
 refine sr (bx' (cs := [(iI a0.Xid), (iI a0.Begun), (iI a0.Ended), w0_0, w0_1]) 40 rfl rfl (fun b4 s4 p4 B4 => ?_))
 refine bx' (cs := [(iI a1.Kind), (iI a1.N), w1_0, w1_1]) 41 rfl rfl (fun b6 s6 p6 B6 => ?_)
 refine Xb rfl (dn (sr (fa' fa143_4 rfl ?_)))
 refine ld' (B4.st p6 rfl) u141 rfl (mkf (fs := []) (cs := [(pB b6)]) rfl rfl rfl rfl rfl rfl rfl ?_)
 have K9 := kp0.st (Xq p4 p6) rfl
 refine clV 42 rfl func255 rfl (slices_ContainsFunc_impl_Item_impl_Item.calls a0.Writes (fun x0 => impl_Deed_writes_1.f x0 a1) s6.w (mm [0] s6) w0_1 (.func (.func 272) (List.toArray []) (List.toArray [(pB b6)])) ((z.rd h0_1).kp K9) (fun x0 u0_0 u0_1 w' k h0 h1 r m =>  ⟨272, _, _, [], [(pB b6)], rfl, func272, rfl, rfl, (impl_Deed_writes_1.calls x0 a1 w' (fun _ => True) u0_0 u0_1 b6 w1_0 w1_1 h0 h1 (fl_rd (Xu h1_0)) (RdF.ky ((z.rd h1_1).kp K9) k) (B6.ky k) trivial r m).mono fun en w2 hq => by obtain ⟨v, e, q⟩ := hq; exact ⟨v, e, q⟩⟩) rfl) (fun r12 s13 p13 n13 => ?_)
 refine Xb rfl (dn ?_)
 exact re rfl func214 rfl (Xs rfl Xg) rfl ⟨_, rfl, rfl, z.ky (K9.st p13 rfl)⟩
def impl_InSpan.f (a0 : Item) (a1 : Item) (a2 : Item) : Option (Bool) :=
 ((impl_KeyOk.f a0).bind fun r13 => ((if r13 = true then ((impl_KeyOk.f a1).bind fun r19 => (some r19)) else (some false)).bind fun y15 => ((if y15 = true then ((impl_KeyOk.f a2).bind fun r35 => (some r35)) else (some false)).bind fun y33 => ((if y33 = true then ((impl_compareItems.f a0 a2).bind fun r48 => (some (decide (r48 ≤ (0 : Int))))) else (some false)).bind fun y45 => ((if y45 = true then ((impl_compareItems.f a2 a1).bind fun r59 => (some (decide (r59 ≤ (0 : Int))))) else (some false)).bind fun y56 => (some y56))))))
def impl_InSpan.Q (w : World) (F : Nat → Prop) (r : Bool) (v : Value) (w' : World) : Prop :=
 v = (.bool r) ∧ Ky [] w w'
theorem impl_InSpan.calls (a0 : Item) (a1 : Item) (a2 : Item) (w : World) (F : Nat → Prop) (w0_0 : Value) (w0_1 : Value) (w1_0 : Value) (w1_1 : Value) (w2_0 : Value) (w2_1 : Value) (h0_0 : Kd.flt.rd w [w0_0] a0.F F) (h0_1 : Xx.rd w [w0_1] a0.T F) (h1_0 : Kd.flt.rd w [w1_0] a1.F F) (h1_1 : Xx.rd w [w1_1] a1.T F) (h2_0 : Kd.flt.rd w [w2_0] a2.F F) (h2_1 : Xx.rd w [w2_1] a2.T F) (r : Bool) (m : impl_InSpan.f a0 a1 a2 = some r) :
  Calls prog 271 #[(.agg #[(iI a0.Kind), (iI a0.N), w0_0, w0_1]), (.agg #[(iI a1.Kind), (iI a1.N), w1_0, w1_1]), (.agg #[(iI a2.Kind), (iI a2.N), w2_0, w2_1])] w (RT (impl_InSpan.Q w F) r) := by
 obtain ⟨s0, rfl, kp0, z⟩ := Xi w F
 have A0_0 := Xu h0_0
 have A0_1 := z.rd h0_1
 have A1_0 := Xu h1_0
 have A1_1 := z.rd h1_1
 have A2_0 := Xu h2_0
 have A2_1 := z.rd h2_1
 refine Xc (args := [(.agg #[(iI a0.Kind), (iI a0.N), w0_0, w0_1]), (.agg #[(iI a1.Kind), (iI a1.N), w1_0, w1_1]), (.agg #[(iI a2.Kind), (iI a2.N), w2_0, w2_1])]) func271 ntmps271 rfl rfl m ?_
 unfold impl_InSpan.f
 refine sr (bx' (cs := [(iI a0.Kind), (iI a0.N), w0_0, w0_1]) 40 rfl rfl (fun b4 s4 p4 B4 => ?_))
 refine bx' (cs := [(iI a1.Kind), (iI a1.N), w1_0, w1_1]) 41 rfl rfl (fun b6 s6 p6 B6 => ?_)
 refine bx' (cs := [(iI a2.Kind), (iI a2.N), w2_0, w2_1]) 42 rfl rfl (fun b8 s8 p8 B8 => ?_)
 refine Xb rfl (dn (sr ?_))
 have A10 := B4.st (Xq p6 p8) rfl
 refine lda' (es := [(iI a0.Kind), (iI a0.N), w0_0, w0_1]) A10 u29 z29 rfl ?_
 have K11 := kp0.st (tr3 p4 p6 p8) rfl
 refine clV 43 rfl func100 rfl (impl_KeyOk.calls a0 s8.w (mm [0] s8) w0_0 w0_1 ((Xk (s := s8) A0_0).sub (D := [0]) rfl) (A0_1.kp K11)) (fun r13 s14 p14 n14 => ?_)
 refine Xb rfl (ji [6, 7, 8, 9, 10, 11, 12, 13, 14, 15, 16, 17, 18, 19, 20, 21, 22] (fun (y15 : Bool) e w => ∃ (s : St) (e0 : Env), w = s.w ∧ e = upd (upd (upd (upd e0 3 (pB b4)) 4 (pB b6)) 5 (pB b8)) 12 (.bool y15) ∧ Kp s0 s ∧ BlF s b8 29 [(iI a2.Kind), (iI a2.N), w2_0, w2_1] 42 ∧ BlF s b6 29 [(iI a1.Kind), (iI a1.N), w1_0, w1_1] 41 ∧ BlF s b4 29 [(iI a0.Kind), (iI a0.N), w0_0, w0_1] 40) (fun Gj15 Kj15 => ?_) ?_)
 ·
  rcases bft r13 with hb15 | hb15
  ·
   refine Xv hb15 ?_
   rw [if_pos hb15]
   have A16 := B6.st (Xq p8 p14) rfl
   refine lda' (es := [(iI a1.Kind), (iI a1.N), w1_0, w1_1]) A16 u29 z29 rfl ?_
   have K17 := K11.st p14 rfl
   refine clV 44 rfl func100 rfl (impl_KeyOk.calls a1 s14.w (mm [0] s14) w1_0 w1_1 ((Xk (s := s14) A1_0).sub (D := [0]) rfl) (A1_1.kp K17)) (fun r19 s20 p20 n20 => ?_)
   exact Xb rfl (Kj15 _ _ _ ⟨s20, _, rfl, (ue (ue (ue (ue rfl rfl) rfl) rfl) rfl), (K17.st p20 rfl), (B8.st (Xq p14 p20) rfl), (A16.st p20 rfl), (A10.st (Xq p14 p20) rfl)⟩)
  refine Xv hb15 ?_
  rw [if_neg (by rw [hb15]; decide)]
  refine Xj rfl (Xj rfl (Xb rfl ?_))
  exact Kj15 _ _ _ ⟨s14, _, rfl, (ue (ue (ue (ue rfl rfl) rfl) rfl) rfl), (K11.st p14 rfl), (B8.st p14 rfl), (B6.st (Xq p8 p14) rfl), (A10.st p14 rfl)⟩
 rintro y15 _ _ ⟨s29, _, rfl, rfl, Ky15, By15_b8, By15_b6, By15_b4⟩
 refine Xb rfl (ji [10, 11, 12, 13, 14, 15, 16, 17, 18, 19, 20, 21, 22] (fun (y33 : Bool) e w => ∃ (s : St) (e0 : Env), w = s.w ∧ e = upd (upd (upd (upd e0 3 (pB b4)) 4 (pB b6)) 5 (pB b8)) 16 (.bool y33) ∧ Kp s0 s ∧ BlF s b8 29 [(iI a2.Kind), (iI a2.N), w2_0, w2_1] 42 ∧ BlF s b6 29 [(iI a1.Kind), (iI a1.N), w1_0, w1_1] 41 ∧ BlF s b4 29 [(iI a0.Kind), (iI a0.N), w0_0, w0_1] 40) (fun Gj33 Kj33 => ?_) ?_)
 ·
  rcases bft y15 with hb33 | hb33
  ·
   refine Xv hb33 ?_
   rw [if_pos hb33]
   refine lda' (es := [(iI a2.Kind), (iI a2.N), w2_0, w2_1]) By15_b8 u29 z29 rfl (clV 45 rfl func100 rfl (impl_KeyOk.calls a2 s29.w (mm [0] s29) w2_0 w2_1 ((Xk (s := s29) A2_0).sub (D := [0]) rfl) (A2_1.kp Ky15)) (fun r35 s36 p36 n36 => ?_))
   exact Xb rfl (Kj33 _ _ _ ⟨s36, _, rfl, (ue (ue (ue (ue rfl rfl) rfl) rfl) rfl), (Ky15.st p36 rfl), (By15_b8.st p36 rfl), (By15_b6.st p36 rfl), (By15_b4.st p36 rfl)⟩)
  refine Xv hb33 ?_
  rw [if_neg (by rw [hb33]; decide)]
  exact Xj rfl (Xj rfl (Xb rfl (Kj33 _ _ _ ⟨s29, _, rfl, (ue (ue (ue (ue rfl rfl) rfl) rfl) rfl), Ky15, By15_b8, By15_b6, By15_b4⟩)))
 rintro y33 _ _ ⟨s41, _, rfl, rfl, Ky33, By33_b8, By33_b6, By33_b4⟩
 refine Xb rfl (ji [16, 17, 18, 19, 20, 21, 22] (fun (y45 : Bool) e w => ∃ (s : St) (e0 : Env), w = s.w ∧ e = upd (upd (upd e0 4 (pB b6)) 5 (pB b8)) 22 (.bool y45) ∧ Kp s0 s ∧ BlF s b8 29 [(iI a2.Kind), (iI a2.N), w2_0, w2_1] 42 ∧ BlF s b6 29 [(iI a1.Kind), (iI a1.N), w1_0, w1_1] 41) (fun Gj45 Kj45 => ?_) ?_)
 ·
  rcases bft y33 with hb45 | hb45
  ·
   refine Xv hb45 ?_
   rw [if_pos hb45]
   refine lda' (es := [(iI a0.Kind), (iI a0.N), w0_0, w0_1]) By33_b4 u29 z29 rfl (lda' (es := [(iI a2.Kind), (iI a2.N), w2_0, w2_1]) By33_b8 u29 z29 rfl ?_)
   refine clV 46 rfl func102 rfl (impl_compareItems.calls a0 a2 s41.w (mm [0] s41) w0_0 w0_1 w2_0 w2_1 ((Xk (s := s41) A0_0).sub (D := [0]) rfl) (A0_1.kp Ky33) ((Xk (s := s41) A2_0).sub (D := [0]) rfl) (A2_1.kp Ky33)) (fun r48 s49 p49 n49 => ?_)
   refine Xb rfl (Xb rfl ?_)
   exact Kj45 _ _ _ ⟨s49, _, rfl, (ue (ue (ue rfl rfl) rfl) rfl), (Ky33.st p49 rfl), (By33_b8.st p49 rfl), (By33_b6.st p49 rfl)⟩
  refine Xv hb45 ?_
  rw [if_neg (by rw [hb45]; decide)]
  exact Xj rfl (Xj rfl (Xj rfl (Xj rfl (Xb rfl (Kj45 _ _ _ ⟨s41, _, rfl, (ue (ue (ue rfl rfl) rfl) rfl), Ky33, By33_b8, By33_b6⟩)))))
 rintro y45 _ _ ⟨s53, _, rfl, rfl, Ky45, By45_b8, By45_b6⟩
 refine Xb rfl (ji [22] (fun (y56 : Bool) e w => ∃ (s : St) (e0 : Env), w = s.w ∧ e = upd e0 28 (.bool y56) ∧ Kp s0 s) (fun Gj56 Kj56 => ?_) ?_)
 ·
  rcases bft y45 with hb56 | hb56
  ·
   refine Xv hb56 ?_
   rw [if_pos hb56]
   refine lda' (es := [(iI a2.Kind), (iI a2.N), w2_0, w2_1]) By45_b8 u29 z29 rfl (lda' (es := [(iI a1.Kind), (iI a1.N), w1_0, w1_1]) By45_b6 u29 z29 rfl ?_)
   refine clV 47 rfl func102 rfl (impl_compareItems.calls a2 a1 s53.w (mm [0] s53) w2_0 w2_1 w1_0 w1_1 ((Xk (s := s53) A2_0).sub (D := [0]) rfl) (A2_1.kp Ky45) ((Xk (s := s53) A1_0).sub (D := [0]) rfl) (A1_1.kp Ky45)) (fun r59 s60 p60 n60 => ?_)
   refine Xb rfl (Xb rfl ?_)
   exact Kj56 _ _ _ ⟨s60, _, rfl, (ue rfl rfl), (Ky45.st p60 rfl)⟩
  refine Xv hb56 ?_
  rw [if_neg (by rw [hb56]; decide)]
  exact Xj rfl (Xj rfl (Xj rfl (Xj rfl (Xb rfl (Kj56 _ _ _ ⟨s53, _, rfl, (ue rfl rfl), Ky45⟩)))))
 rintro y56 _ _ ⟨s62, _, rfl, rfl, Ky56⟩
 exact Xb rfl (dn (re rfl func271 rfl (Xs rfl Xg) rfl ⟨_, rfl, rfl, z.ky Ky56⟩))
def impl_Span_has.f (a0 : Span) (a1 : Item) : Option (Bool) :=
 ((impl_InSpan.f a0.From a0.To a1).bind fun r13 => (some r13))
def impl_Span_has.Q (w : World) (F : Nat → Prop) (r : Bool) (v : Value) (w' : World) : Prop :=
 v = (.bool r) ∧ Ky [] w w'
theorem impl_Span_has.calls (a0 : Span) (a1 : Item) (w : World) (F : Nat → Prop) (w0_0 : Value) (w0_1 : Value) (w0_2 : Value) (w0_3 : Value) (w1_0 : Value) (w1_1 : Value) (h0_0 : Kd.flt.rd w [w0_0] a0.From.F F) (h0_1 : Xx.rd w [w0_1] a0.From.T F) (h0_2 : Kd.flt.rd w [w0_2] a0.To.F F) (h0_3 : Xx.rd w [w0_3] a0.To.T F) (h1_0 : Kd.flt.rd w [w1_0] a1.F F) (h1_1 : Xx.rd w [w1_1] a1.T F) (r : Bool) (m : impl_Span_has.f a0 a1 = some r) :
  Calls prog 213 #[(.agg #[(iI a0.From.Kind), (iI a0.From.N), w0_0, w0_1, (iI a0.To.Kind), (iI a0.To.N), w0_2, w0_3]), (.agg #[(iI a1.Kind), (iI a1.N), w1_0, w1_1])] w (RT (impl_Span_has.Q w F) r) := by
 obtain ⟨s0, rfl, kp0, z⟩ := Xi w F
 refine Xc (args := [(.agg #[(iI a0.From.Kind), (iI a0.From.N), w0_0, w0_1, (iI a0.To.Kind), (iI a0.To.N), w0_2, w0_3]), (.agg #[(iI a1.Kind), (iI a1.N), w1_0, w1_1])]) func213 ntmps213 rfl rfl m ?_
 unfold impl_Span_has.f
 refine sr (bx' (cs := [(iI a0.From.Kind), (iI a0.From.N), w0_0, w0_1, (iI a0.To.Kind), (iI a0.To.N), w0_2, w0_3]) 40 rfl rfl (fun b4 s4 p4 B4 => ?_))
 refine bx' (cs := [(iI a1.Kind), (iI a1.N), w1_0, w1_1]) 41 rfl rfl (fun b6 s6 p6 B6 => ?_)
 refine Xb rfl (dn (sr (fa' fa146_0 rfl ?_)))
 have A8 := B4.st p6 rfl
 refine lda' (es := [(iI a0.From.Kind), (iI a0.From.N), w0_0, w0_1]) A8 u29 z29 rfl (fa' fa146_1 rfl (lda' (es := [(iI a0.To.Kind), (iI a0.To.N), w0_2, w0_3]) A8 u29 z29 rfl (lda' (es := [(iI a1.Kind), (iI a1.N), w1_0, w1_1]) B6 u29 z29 rfl ?_)))
 have K9 := kp0.st (Xq p4 p6) rfl
 refine clV 42 rfl func271 rfl (impl_InSpan.calls a0.From a0.To a1 s6.w (mm [0] s6) w0_0 w0_1 w0_2 w0_3 w1_0 w1_1 ((Xk (s := s6) (Xu h0_0)).sub (D := [0]) rfl) ((z.rd h0_1).kp K9) ((Xk (s := s6) (Xu h0_2)).sub (D := [0]) rfl) ((z.rd h0_3).kp K9) ((Xk (s := s6) (Xu h1_0)).sub (D := [0]) rfl) ((z.rd h1_1).kp K9)) (fun r13 s14 p14 n14 => ?_)
 refine Xb rfl (dn ?_)
 exact re rfl func213 rfl (Xs rfl Xg) rfl ⟨_, rfl, rfl, z.ky (K9.st p14 rfl)⟩
def impl_Deed_readsKey_1.f (a0 : Span) (a1 : Item) : Option (Bool) :=
 ((impl_Span_has.f a0 a1).bind fun r12 => (some r12))
def impl_Deed_readsKey_1.Q (w : World) (F : Nat → Prop) (r : Bool) (v : Value) (w' : World) : Prop :=
 v = (.bool r) ∧ Ky [] w w'
theorem impl_Deed_readsKey_1.calls (a0 : Span) (a1 : Item) (w : World) (F : Nat → Prop) (w0_0 : Value) (w0_1 : Value) (w0_2 : Value) (w0_3 : Value) (c1 : Nat) (w1_0 : Value) (w1_1 : Value) (h0_0 : Kd.flt.rd w [w0_0] a0.From.F F) (h0_1 : Xx.rd w [w0_1] a0.From.T F) (h0_2 : Kd.flt.rd w [w0_2] a0.To.F F) (h0_3 : Xx.rd w [w0_3] a0.To.T F) (h1_0 : Kd.flt.rd w [w1_0] a1.F F) (h1_1 : Xx.rd w [w1_1] a1.T F) (hb1 : BlW w c1 29 [(iI a1.Kind), (iI a1.N), w1_0, w1_1]) (hp1 : F c1) (r : Bool) (m : impl_Deed_readsKey_1.f a0 a1 = some r) :
  Calls prog 212 #[(.agg #[(iI a0.From.Kind), (iI a0.From.N), w0_0, w0_1, (iI a0.To.Kind), (iI a0.To.N), w0_2, w0_3]), (pB c1)] w (RT (impl_Deed_readsKey_1.Q w F) r) := by
 obtain ⟨s0, rfl, kp0, z⟩ := Xi w F
 refine Xc (args := [(.agg #[(iI a0.From.Kind), (iI a0.From.N), w0_0, w0_1, (iI a0.To.Kind), (iI a0.To.N), w0_2, w0_3]), (pB c1)]) func212 ntmps212 rfl rfl m ?_
 unfold impl_Deed_readsKey_1.f
 refine sr (bx' (cs := [(iI a0.From.Kind), (iI a0.From.N), w0_0, w0_1, (iI a0.To.Kind), (iI a0.To.N), w0_2, w0_3]) 40 rfl rfl (fun b5 s5 p5 B5 => ?_))
 refine Xb rfl (dn (sr (lda' (es := [(iI a0.From.Kind), (iI a0.From.N), w0_0, w0_1, (iI a0.To.Kind), (iI a0.To.N), w0_2, w0_3]) B5 u146 z146 rfl ?_)))
 refine lda' (es := [(iI a1.Kind), (iI a1.N), w1_0, w1_1]) (BlF.st (z.b0 hb1 hp1) p5 rfl) u29 z29 rfl ?_
 have K8 := kp0.st p5 rfl
 refine clV 41 rfl func213 rfl (impl_Span_has.calls a0 a1 s5.w (mm [0] s5) w0_0 w0_1 w0_2 w0_3 w1_0 w1_1 ((Xk (s := s5) (Xu h0_0)).sub (D := [0]) rfl) ((z.rd h0_1).kp K8) ((Xk (s := s5) (Xu h0_2)).sub (D := [0]) rfl) ((z.rd h0_3).kp K8) ((Xk (s := s5) (Xu h1_0)).sub (D := [0]) rfl) ((z.rd h1_1).kp K8)) (fun r12 s13 p13 n13 => ?_)
 refine Xb rfl (dn ?_)
 exact re rfl func212 rfl (Xs rfl Xg) rfl ⟨_, rfl, rfl, z.ky (K8.st p13 rfl)⟩
def impl_Deed_readsKey.f (a0 : Deed) (a1 : Item) : Option (Bool) :=
 ((slices_ContainsFunc_impl_Span_impl_Span.f a0.Reads (fun x0 => impl_Deed_readsKey_1.f x0 a1)).bind fun r12 => (some r12))
def impl_Deed_readsKey.Q (w : World) (F : Nat → Prop) (r : Bool) (v : Value) (w' : World) : Prop :=
 v = (.bool r) ∧ Ky [] w w'
theorem impl_Deed_readsKey.calls (a0 : Deed) (a1 : Item) (w : World) (F : Nat → Prop) (w0_0 : Value) (w0_1 : Value) (w1_0 : Value) (w1_1 : Value) (h0_0 : Yb.rd w [w0_0] a0.Reads F) (h0_1 : Ya.rd w [w0_1] a0.Writes F) (h1_0 : Kd.flt.rd w [w1_0] a1.F F) (h1_1 : Xx.rd w [w1_1] a1.T F) (r : Bool) (m : impl_Deed_readsKey.f a0 a1 = some r) :
  Calls prog 131 #[(.agg #[(iI a0.Xid), (iI a0.Begun), (iI a0.Ended), w0_0, w0_1]), (.agg #[(iI a1.Kind), (iI a1.N), w1_0, w1_1])] w (RT (impl_Deed_readsKey.Q w F) r) := by
 obtain ⟨s0, rfl, kp0, z⟩ := Xi w F
 refine Xc (args := [(.agg #[(iI a0.Xid), (iI a0.Begun), (iI a0.Ended), w0_0, w0_1]), (.agg #[(iI a1.Kind), (iI a1.N), w1_0, w1_1])]) func131 ntmps131 rfl rfl m ?_
 unfold impl_Deed_readsKey.f
 refine sr (bx' (cs := [(iI a0.Xid), (iI a0.Begun), (iI a0.Ended), w0_0, w0_1]) 40 rfl rfl (fun b4 s4 p4 B4 => ?_))
 refine bx' (cs := [(iI a1.Kind), (iI a1.N), w1_0, w1_1]) 41 rfl rfl (fun b6 s6 p6 B6 => ?_)
 refine Xb rfl (dn (sr (fa' fa143_3 rfl ?_)))
 refine ld' (B4.st p6 rfl) u140 rfl (mkf (fs := []) (cs := [(pB b6)]) rfl rfl rfl rfl rfl rfl rfl ?_)
 have K9 := kp0.st (Xq p4 p6) rfl
 refine clV 42 rfl func211 rfl (slices_ContainsFunc_impl_Span_impl_Span.calls a0.Reads (fun x0 => impl_Deed_readsKey_1.f x0 a1) s6.w (mm [0] s6) w0_0 (.func (.func 212) (List.toArray []) (List.toArray [(pB b6)])) ((z.rd h0_0).kp K9) (fun x0 u0_0 u0_1 u0_2 u0_3 w' k h0 h1 h2 h3 r m =>  ⟨212, _, _, [], [(pB b6)], rfl, func212, rfl, rfl, (impl_Deed_readsKey_1.calls x0 a1 w' (fun _ => True) u0_0 u0_1 u0_2 u0_3 b6 w1_0 w1_1 h0 h1 h2 h3 (fl_rd (Xu h1_0)) (RdF.ky ((z.rd h1_1).kp K9) k) (B6.ky k) trivial r m).mono fun en w2 hq => by obtain ⟨v, e, q⟩ := hq; exact ⟨v, e, q⟩⟩) rfl) (fun r12 s13 p13 n13 => ?_)
 refine Xb rfl (dn ?_)
 exact re rfl func131 rfl (Xs rfl Xg) rfl ⟨_, rfl, rfl, z.ky (K9.st p13 rfl)⟩
def impl_isAhead.f (a0 : Deed) (a1 : Deed) : Option (Bool) :=
 ((if (decide (a0.Ended < a1.Ended)) = true then ((slices_ContainsFunc_impl_Item_impl_Item.f a0.Writes (fun x0 => impl_Deed_writes.f a1 x0)).bind fun r15 => (some r15)) else (some false)).bind fun y10 => (if y10 = true then (some true) else ((if (decide (a0.Ended < a1.Begun)) = true then ((slices_ContainsFunc_impl_Item_impl_Item.f a0.Writes (fun x0 => impl_Deed_readsKey.f a1 x0)).bind fun r29 => (some r29)) else (some false)).bind fun y25 => (if y25 = true then (some true) else ((if (decide (a1.Ended > a0.Begun)) = true then ((slices_ContainsFunc_impl_Item_impl_Item.f a1.Writes (fun x0 => impl_Deed_readsKey.f a0 x0)).bind fun r42 => (some r42)) else (some false)).bind fun y38 => (some y38))))))
def impl_isAhead.Q (w : World) (F : Nat → Prop) (r : Bool) (v : Value) (w' : World) : Prop :=
 v = (.bool r) ∧ Ky [] w w'
theorem impl_isAhead.calls (a0 : Deed) (a1 : Deed) (w : World) (F : Nat → Prop) (w0_0 : Value) (w0_1 : Value) (w1_0 : Value) (w1_1 : Value) (h0_0 : Yb.rd w [w0_0] a0.Reads F) (h0_1 : Ya.rd w [w0_1] a0.Writes F) (h1_0 : Yb.rd w [w1_0] a1.Reads F) (h1_1 : Ya.rd w [w1_1] a1.Writes F) (r : Bool) (m : impl_isAhead.f a0 a1 = some r) :
  Calls prog 200 #[(.agg #[(iI a0.Xid), (iI a0.Begun), (iI a0.Ended), w0_0, w0_1]), (.agg #[(iI a1.Xid), (iI a1.Begun), (iI a1.Ended), w1_0, w1_1])] w (RT (impl_isAhead.Q w F) r) := by
 obtain ⟨s0, rfl, kp0, z⟩ := Xi w F
 have A0_1 := z.rd h0_1
 have A1_0 := z.rd h1_0
 have A1_1 := z.rd h1_1
 refine Xc (args := [(.agg #[(iI a0.Xid), (iI a0.Begun), (iI a0.Ended), w0_0, w0_1]), (.agg #[(iI a1.Xid), (iI a1.Begun), (iI a1.Ended), w1_0, w1_1])]) func200 ntmps200 rfl rfl m ?_
 unfold impl_isAhead.f
 refine sr (bx' (cs := [(iI a0.Xid), (iI a0.Begun), (iI a0.Ended), w0_0, w0_1]) 40 rfl rfl (fun b5 s5 p5 B5 => ?_))
 refine bx' (cs := [(iI a1.Xid), (iI a1.Begun), (iI a1.Ended), w1_0, w1_1]) 41 rfl rfl (fun b7 s7 p7 B7 => ?_)
 refine Xb rfl (dn (sq (bl (sr (fa' fa143_2 rfl ?_)))))
 have A9 := B5.st p7 rfl
 refine ld' A9 u3 rfl (fa' fa143_2 rfl (ld' B7 u3 rfl (Xb rfl (Xb rfl (ji [12] (fun (y10 : Bool) e w => ∃ (s : St) (e0 : Env), w = s.w ∧ e = upd (upd (upd e0 2 (pB b5)) 3 (pB b7)) 17 (.bool y10) ∧ Kp s0 s ∧ BlF s b7 143 [(iI a1.Xid), (iI a1.Begun), (iI a1.Ended), w1_0, w1_1] 41 ∧ BlF s b5 143 [(iI a0.Xid), (iI a0.Begun), (iI a0.Ended), w0_0, w0_1] 40) (fun Gj10 Kj10 => ?_) ?_)))))
 ·
  rcases bft (decide (a0.Ended < a1.Ended)) with hb10 | hb10
  ·
   refine Xv hb10 ?_
   rw [if_pos hb10]
   refine fa' fa143_4 rfl (ld' A9 u141 rfl (lda' (es := [(iI a1.Xid), (iI a1.Begun), (iI a1.Ended), w1_0, w1_1]) B7 u143 z143 rfl (mkf (fs := [(.agg #[(iI a1.Xid), (iI a1.Begun), (iI a1.Ended), w1_0, w1_1])]) (cs := []) rfl rfl rfl rfl rfl rfl rfl ?_)))
   have K11 := kp0.st (Xq p5 p7) rfl
   refine clV 42 rfl func255 rfl (slices_ContainsFunc_impl_Item_impl_Item.calls a0.Writes (fun x0 => impl_Deed_writes.f a1 x0) s7.w (mm [0] s7) w0_1 (.func (.func 214) (List.toArray [(.agg #[(iI a1.Xid), (iI a1.Begun), (iI a1.Ended), w1_0, w1_1])]) (List.toArray [])) (A0_1.kp K11) (fun x0 u0_0 u0_1 w' k h0 h1 r m =>  ⟨214, _, _, [(.agg #[(iI a1.Xid), (iI a1.Begun), (iI a1.Ended), w1_0, w1_1])], [], rfl, func214, rfl, rfl, (impl_Deed_writes.calls a1 x0 w' (fun _ => True) w1_0 w1_1 u0_0 u0_1 (RdF.ky (A1_0.kp K11) k) (RdF.ky (A1_1.kp K11) k) h0 h1 r m).mono fun en w2 hq => by obtain ⟨v, e, q⟩ := hq; exact ⟨v, e, q⟩⟩) rfl) (fun r15 s16 p16 n16 => ?_)
   exact Xb rfl (Kj10 _ _ _ ⟨s16, _, rfl, (ue (ue (ue rfl rfl) rfl) rfl), (K11.st p16 rfl), (B7.st p16 rfl), (A9.st p16 rfl)⟩)
  refine Xv hb10 ?_
  rw [if_neg (by rw [hb10]; decide)]
  refine Xj rfl (Xj rfl (Xj rfl (Xj rfl (Xj rfl (Xb rfl ?_)))))
  exact Kj10 _ _ _ ⟨s7, _, rfl, (ue (ue (ue rfl rfl) rfl) rfl), (kp0.st (Xq p5 p7) rfl), B7, A9⟩
 rintro y10 _ _ ⟨s21, _, rfl, rfl, Ky10, By10_b7, By10_b5⟩
 refine Xb rfl (dn (cd rfl (fun h24 => ?_) (fun h24 => ?_)))
 ·
  exact sr (Xb rfl (dn (re rfl func200 rfl (Xs rfl Xg) rfl ⟨_, rfl, rfl, z.ky Ky10⟩)))
 refine sr (fa' fa143_2 rfl (ld' By10_b5 u3 rfl (fa' fa143_1 rfl (ld' By10_b7 u3 rfl (Xb rfl (Xb rfl (ji [12] (fun (y25 : Bool) e w => ∃ (s : St) (e0 : Env), w = s.w ∧ e = upd (upd (upd e0 2 (pB b5)) 3 (pB b7)) 30 (.bool y25) ∧ Kp s0 s ∧ BlF s b7 143 [(iI a1.Xid), (iI a1.Begun), (iI a1.Ended), w1_0, w1_1] 41 ∧ BlF s b5 143 [(iI a0.Xid), (iI a0.Begun), (iI a0.Ended), w0_0, w0_1] 40) (fun Gj25 Kj25 => ?_) ?_)))))))
 ·
  rcases bft (decide (a0.Ended < a1.Begun)) with hb25 | hb25
  ·
   refine Xv hb25 ?_
   rw [if_pos hb25]
   refine fa' fa143_4 rfl (ld' By10_b5 u141 rfl (lda' (es := [(iI a1.Xid), (iI a1.Begun), (iI a1.Ended), w1_0, w1_1]) By10_b7 u143 z143 rfl (mkf (fs := [(.agg #[(iI a1.Xid), (iI a1.Begun), (iI a1.Ended), w1_0, w1_1])]) (cs := []) rfl rfl rfl rfl rfl rfl rfl ?_)))
   refine clV 43 rfl func255 rfl (slices_ContainsFunc_impl_Item_impl_Item.calls a0.Writes (fun x0 => impl_Deed_readsKey.f a1 x0) s21.w (mm [0] s21) w0_1 (.func (.func 131) (List.toArray [(.agg #[(iI a1.Xid), (iI a1.Begun), (iI a1.Ended), w1_0, w1_1])]) (List.toArray [])) (A0_1.kp Ky10) (fun x0 u0_0 u0_1 w' k h0 h1 r m =>  ⟨131, _, _, [(.agg #[(iI a1.Xid), (iI a1.Begun), (iI a1.Ended), w1_0, w1_1])], [], rfl, func131, rfl, rfl, (impl_Deed_readsKey.calls a1 x0 w' (fun _ => True) w1_0 w1_1 u0_0 u0_1 (RdF.ky (A1_0.kp Ky10) k) (RdF.ky (A1_1.kp Ky10) k) h0 h1 r m).mono fun en w2 hq => by obtain ⟨v, e, q⟩ := hq; exact ⟨v, e, q⟩⟩) rfl) (fun r29 s30 p30 n30 => ?_)
   exact Xb rfl (Kj25 _ _ _ ⟨s30, _, rfl, (ue (ue (ue rfl rfl) rfl) rfl), (Ky10.st p30 rfl), (By10_b7.st p30 rfl), (By10_b5.st p30 rfl)⟩)
  refine Xv hb25 ?_
  rw [if_neg (by rw [hb25]; decide)]
  exact Xj rfl (Xj rfl (Xj rfl (Xj rfl (Xj rfl (Xb rfl (Kj25 _ _ _ ⟨s21, _, rfl, (ue (ue (ue rfl rfl) rfl) rfl), Ky10, By10_b7, By10_b5⟩))))))
 rintro y25 _ _ ⟨s34, _, rfl, rfl, Ky25, By25_b7, By25_b5⟩
 refine Xb rfl (dn (cd rfl (fun h37 => ?_) (fun h37 => ?_)))
 ·
  exact sr (Xb rfl (dn (re rfl func200 rfl (Xs rfl Xg) rfl ⟨_, rfl, rfl, z.ky Ky25⟩)))
 refine sk (ib (sr (fa' fa143_2 rfl (ld' By25_b7 u3 rfl (fa' fa143_1 rfl (ld' By25_b5 u3 rfl (Xb rfl (Xb rfl (ji [12] (fun (y38 : Bool) e w => ∃ (s : St) (e0 : Env), w = s.w ∧ e = upd e0 42 (.bool y38) ∧ Kp s0 s) (fun Gj38 Kj38 => ?_) ?_)))))))))
 ·
  rcases bft (decide (a1.Ended > a0.Begun)) with hb38 | hb38
  ·
   refine Xv hb38 ?_
   rw [if_pos hb38]
   refine fa' fa143_4 rfl (ld' By25_b7 u141 rfl (lda' (es := [(iI a0.Xid), (iI a0.Begun), (iI a0.Ended), w0_0, w0_1]) By25_b5 u143 z143 rfl (mkf (fs := [(.agg #[(iI a0.Xid), (iI a0.Begun), (iI a0.Ended), w0_0, w0_1])]) (cs := []) rfl rfl rfl rfl rfl rfl rfl ?_)))
   refine clV 44 rfl func255 rfl (slices_ContainsFunc_impl_Item_impl_Item.calls a1.Writes (fun x0 => impl_Deed_readsKey.f a0 x0) s34.w (mm [0] s34) w1_1 (.func (.func 131) (List.toArray [(.agg #[(iI a0.Xid), (iI a0.Begun), (iI a0.Ended), w0_0, w0_1])]) (List.toArray [])) (A1_1.kp Ky25) (fun x0 u0_0 u0_1 w' k h0 h1 r m =>  ⟨131, _, _, [(.agg #[(iI a0.Xid), (iI a0.Begun), (iI a0.Ended), w0_0, w0_1])], [], rfl, func131, rfl, rfl, (impl_Deed_readsKey.calls a0 x0 w' (fun _ => True) w0_0 w0_1 u0_0 u0_1 (RdF.ky ((z.rd h0_0).kp Ky25) k) (RdF.ky (A0_1.kp Ky25) k) h0 h1 r m).mono fun en w2 hq => by obtain ⟨v, e, q⟩ := hq; exact ⟨v, e, q⟩⟩) rfl) (fun r42 s43 p43 n43 => ?_)
   exact Xb rfl (Kj38 _ _ _ ⟨s43, _, rfl, (ue rfl rfl), (Ky25.st p43 rfl)⟩)
  refine Xv hb38 ?_
  rw [if_neg (by rw [hb38]; decide)]
  exact Xj rfl (Xj rfl (Xj rfl (Xj rfl (Xj rfl (Xb rfl (Kj38 _ _ _ ⟨s34, _, rfl, (ue rfl rfl), Ky25⟩))))))
 rintro y38 _ _ ⟨s45, _, rfl, rfl, Ky38⟩
 exact Xb rfl (dn (re rfl func200 rfl (Xs rfl Xg) rfl ⟨_, rfl, rfl, z.ky Ky38⟩))
def impl_ahead.b1 (a0 : (List Deed)) (x6 : (List (List Int)) × Int) (x11 : (List (List Int)) × Int) : Option (((List (List Int)) × Int) ⊕ ((List (List Int)) × Int ⊕ (List (List Int)))) :=
 (if (decide (x11.2 < (a0.length : Int))) = true then ((if (x11.2 != x6.2) = true then (if 0 ≤ x11.2 ∧ x11.2 < (a0.length : Int) then (if 0 ≤ x6.2 ∧ x6.2 < (a0.length : Int) then ((impl_isAhead.f (at_ a0 x11.2) (at_ a0 x6.2)).bind fun r39 => (some r39)) else none) else none) else (some false)).bind fun y20 => ((if y20 = true then (if 0 ≤ x6.2 ∧ x6.2 < (x11.1.length : Int) then (if (at_ x11.1 x6.2).length + ([x11.2]).length ≤ Lim then (if 0 ≤ x6.2 ∧ x6.2 < (x11.1.length : Int) then (some (x11.1.set (x6.2).toNat ((at_ x11.1 x6.2) ++ [x11.2]))) else none) else none) else none) else (some x11.1)).bind fun y54 => (some (Sum.inl (y54, (IntKind.wrap .i64 (x11.2 + (1 : Int)))))))) else ((some (Sum.inl (x11.1, (IntKind.wrap .i64 (x6.2 + (1 : Int)))))).bind fun o => some (Sum.inr o)))
def impl_ahead.b0 (a0 : (List Deed)) (x6 : (List (List Int)) × Int) : Option (((List (List Int)) × Int) ⊕ (List (List Int))) :=
 (if (decide (x6.2 < (a0.length : Int))) = true then (iter (impl_ahead.b1 a0 x6) (x6.1, (0 : Int))) else ((some x6.1).bind fun o => some (Sum.inr o)))
def impl_ahead.f (a0 : (List Deed)) : Option ((List (List Int))) :=
 (if 0 ≤ (a0.length : Int) ∧ (a0.length : Int) ≤ (Lim : Int) then (iter (impl_ahead.b0 a0) ((List.replicate ((a0.length : Int)).toNat ([] : (List Int))), (0 : Int))) else none)
def impl_ahead.Q (w : World) (F : Nat → Prop) (r : (List (List Int))) (v : Value) (w' : World) : Prop :=
 FO (Kd.sl 50 Xy) w w' [v] r ∧ Ky [] w w'
theorem impl_ahead.calls (a0 : (List Deed)) (w : World) (F : Nat → Prop) (w0_0 : Value) (h0_0 : Xz.rd w [w0_0] a0 F) (r : (List (List Int))) (m : impl_ahead.f a0 = some r) :
  Calls prog 115 #[w0_0] w (RT (impl_ahead.Q w F) r) := by
 obtain ⟨s0, rfl, kp0, z⟩ := Xi w F
 have A0_0 := z.rd h0_0
 refine Xc (args := [w0_0]) func115 ntmps115 rfl rfl m ?_
 unfold impl_ahead.f
 refine sr (Xb rfl (dn (sr (Xp w0_0 rfl (ln' A0_0 u62 rfl (mk (x0 := ([] : (List Int))) (K := Xy) 40 sl147 o50 (fun _ => ⟨_, rfl, [], [], [], rfl, ⟨by simp, .inl ⟨rfl, rfl, rfl⟩⟩, ⟨rfl, rfl⟩⟩) rfl rfl rfl rfl rfl rfl rfl (fun v2 s2 p2 A2 => ?_)))))))
 refine asg' v2 rfl (dn (sq (sr (Xp w0_0 rfl ?_))))
 have K4 := kp0.st p2 rfl
 refine ln' (A0_0.kp K4) u62 rfl (Xb rfl (dn (bl (lpI (fun (x6 : (List (List Int)) × Int) e w => ∃ (s : St) (e0 : Env), w = s.w ∧ e = upd (upd (upd (upd e0 0 w0_0) 3 v2) 10 (iI (a0.length : Int))) 11 (iI x6.2) ∧ Kp s0 s ∧ OwF (Kd.sl 50 Xy) s [v2] x6.1 40) ⟨s2, _, rfl, (ue (ue (ue (ue rfl rfl) rfl) rfl) rfl), K4, A2⟩ (fun g6 ih6 => ?_)))))
 rintro x6 _ _ ⟨s7, _, rfl, rfl, Kx6, Ax6_0⟩
 unfold impl_ahead.b0
 refine sr (Xb rfl (dn (sq (cd rfl (fun h9 => ?_) (fun h9 => ?_)))))
 ·
  refine sk (sq (bl (sr (Xb rfl (Xb rfl (dn (sr (Xp w0_0 rfl ?_))))))))
  refine ln' (A0_0.kp Kx6) u62 rfl (Xb rfl (dn (bl (lpI (fun (x11 : (List (List Int)) × Int) e w => ∃ (s : St) (e0 : Env), w = s.w ∧ e = upd (upd (upd (upd (upd (upd (upd e0 0 w0_0) 3 v2) 4 (iI x6.2)) 10 (iI (a0.length : Int))) 11 (iI x6.2)) 15 (iI (a0.length : Int))) 16 (iI x11.2) ∧ Kp s0 s ∧ OwF (Kd.sl 50 Xy) s [v2] x11.1 40) ⟨s7, _, rfl, (ue (ue (ue (ue (ue (ue (ue rfl rfl) rfl) rfl) rfl) rfl) rfl) rfl), Kx6, Ax6_0⟩ (fun g11 ih11 => ?_)))))
  rintro x11 _ _ ⟨s12, _, rfl, rfl, Kx11, Ax11_0⟩
  unfold impl_ahead.b1
  refine sr (Xb rfl (dn (sq (cd rfl (fun h14 => ?_) (fun h14 => ?_)))))
  ·
   refine sk (sq (bl (sr (Xb rfl (Xb rfl (dn (sq (zdraw [[], [], [0, 1], [2], [3], [3], [4, 5, 3], [6, 3], [3], [3], [8, 9, 3], [10, 3], [7, 11, 3, 3], [3, 12]] [some 19, some 20, some 21, some 22, some 23, some 24, some 25, some 26, some 27, some 28, some 29, some 30, some 31, some 32] [[5], [4], [19, 20], [21], [0, 22], [5, 22], [23, 24, 22], [25, 22], [0, 22], [4, 22], [27, 28, 22], [29, 22], [26, 30, 22], [22, 31]] [0, 1, 2, 3, 4, 5, 6, 7, 8, 9, 10, 11, 12, 13] ⟨by kernel_rfl, by kernel_rfl, by kernel_rfl⟩ (by kernel_rfl) (fun s15 p15 l15 tb15 zd15 => ?_)))))))))
   have zd19 := (((zd15.add 0 19 (iI x11.2) rfl).add 1 20 (iI x6.2) rfl).add 2 21 (.bool (x11.2 != x6.2)) rfl).add 3 22 (.bool (x11.2 != x6.2)) rfl
   refine ji [] (fun (y20 : Bool) e w => ∃ (s : St) (e0 : Env), w = s.w ∧ e = upd (upd (upd (upd (upd (upd (upd (upd (upd e0 0 w0_0) 3 v2) 4 (iI x6.2)) 5 (iI x11.2)) 10 (iI (a0.length : Int))) 11 (iI x6.2)) 15 (iI (a0.length : Int))) 16 (iI x11.2)) 32 (.bool y20) ∧ Kp s0 s ∧ OwF (Kd.sl 50 Xy) s [v2] x11.1 40) (fun Gj20 Kj20 => ?_) ?_
   ·
    rcases bft (x11.2 != x6.2) with hb20 | hb20
    ·
     rw [if_pos hb20]
     rw [hb20] at zd19
     try rw [hb20]
     have K23 := Kx11.st p15 rfl
     have A24 := A0_0.kp K23
     refine mg fun hg25 => ?_
     obtain ⟨ad25, es25, he25, ce25, ia25⟩ := ix_e A24 rfl hg25.1 hg25.2
     obtain ⟨v25_0, v25_1, rfl, A25_0, A25_1⟩ := op143 he25
     refine mg fun hg33 => ?_
     obtain ⟨ad33, es33, he33, ce33, ia33⟩ := ix_e A24 rfl hg33.1 hg33.2
     obtain ⟨v33_0, v33_1, rfl, A33_0, A33_1⟩ := op143 he33
     refine zfin [12, 13] tb15 ((((((((zd19.add 4 23 w0_0 rfl).add 5 24 (iI x11.2) rfl).add 6 25 (.pointer (some ad25)) rfl).add 7 26 (.agg #[(iI ((at_ a0 x11.2).Xid)), (iI ((at_ a0 x11.2).Begun)), (iI ((at_ a0 x11.2).Ended)), v25_0, v25_1]) rfl).add 8 27 w0_0 rfl).add 9 28 (iI x6.2) rfl).add 10 29 (.pointer (some ad33)) rfl).add 11 30 (.agg #[(iI ((at_ a0 x6.2).Xid)), (iI ((at_ a0 x6.2).Begun)), (iI ((at_ a0 x6.2).Ended)), v33_0, v33_1]) rfl) (Xa (lca_q ce33 u143 z143 rfl rfl rfl rfl rfl rfl rfl) rfl (Xa (Xn A24 u62 z143 hg33.1 hg33.2 ia33 rfl) rfl (Xa (Xd rfl) rfl (Xa (Xl w0_0 rfl) rfl (Xa (lca_q ce25 u143 z143 rfl rfl rfl rfl rfl rfl rfl) rfl (Xa (Xn A24 u62 z143 hg25.1 hg25.2 ia25 rfl) rfl (Xa (Xd rfl) rfl (Xa (Xl w0_0 rfl) rfl (Xa (Xd rfl) rfl (Xa (qv_b (Xd rfl) hb20) rfl (Xa (Xd rfl) rfl (Xa (Xd rfl) rfl Xh)))))))))))) (by kernel_rfl) (by decide) (clV 41 rfl func200 rfl (impl_isAhead.calls (at_ a0 x11.2) (at_ a0 x6.2) s15.w (mm [0] s15) v25_0 v25_1 v33_0 v33_1 A25_0 A25_1 A33_0 A33_1) (fun r39 s40 p40 n40 => ?_))
     exact Xb rfl (Kj20 _ _ _ ⟨s40, _, rfl, (ue (ue (ue (ue (ue (ue (ue (ue (ue rfl rfl) rfl) rfl) rfl) rfl) rfl) rfl) rfl) rfl), (K23.st p40 rfl), (Ax11_0.st (Xq p15 p40) rfl)⟩)
    rw [if_neg (by rw [hb20]; decide)]
    rw [hb20] at zd19
    try rw [hb20]
    refine zfin [12, 13] tb15 ((((((((zd19.add 4 23 undef rfl).add 5 24 undef rfl).add 6 25 undef rfl).add 7 26 undef rfl).add 8 27 undef rfl).add 9 28 undef rfl).add 10 29 undef rfl).add 11 30 undef rfl) (Xa (Xf rfl) rfl (Xa (Xf rfl) rfl (Xa (Xf rfl) rfl (Xa (Xf rfl) rfl (Xa (Xf rfl) rfl (Xa (Xf rfl) rfl (Xa (Xf rfl) rfl (Xa (Xf rfl) rfl (Xa (Xd rfl) rfl (Xa (qv_b (Xd rfl) hb20) rfl (Xa (Xd rfl) rfl (Xa (Xd rfl) rfl Xh)))))))))))) (by kernel_rfl) (by decide) (Xj rfl (Xb rfl ?_))
    exact Kj20 _ _ _ ⟨s15, _, rfl, (ue (ue (ue (ue (ue (ue (ue (ue (ue rfl rfl) rfl) rfl) rfl) rfl) rfl) rfl) rfl) rfl), (Kx11.st p15 rfl), (Ax11_0.st p15 rfl)⟩
   rintro y20 _ _ ⟨s53, _, rfl, rfl, Ky20, Cy20_13⟩
   refine dn (jc (fun (y54 : (List (List Int))) e w => ∃ (s : St) (e0 : Env), w = s.w ∧ e = upd (upd (upd (upd (upd (upd (upd e0 0 w0_0) 3 v2) 4 (iI x6.2)) 10 (iI (a0.length : Int))) 11 (iI x6.2)) 15 (iI (a0.length : Int))) 16 (iI x11.2) ∧ Kp s0 s ∧ OwF (Kd.sl 50 Xy) s [v2] y54 40) (fun Gj54 Kj54 => ?_) ?_)
   ·
    refine cd rfl (fun h55 => ?_) (fun h55 => ?_)
    ·
     refine rg (Xp v2 rfl (Xb rfl (Xp v2 rfl (Xb rfl (ix' Cy20_13.rd u147 z50 rfl (fun ad56 es56 h0_56 h1_56 he56 ce56 ia56 => ?_))))))
     obtain ⟨v56, rfl, he56'⟩ := he56
     have A56 : RdF Xy s53 [v56] (at_ x11.1 x6.2) [40] := ⟨v56, rfl, he56'⟩
     refine lc0' ce56 u50 rfl (Xb rfl (ltF' (K := (Kd.int .i64)) (cells := [(iI x11.2)]) [x11.2] 42 Xw u50 z3 o3 (fun w => (els_flat _ _ _)) rfl (fun v59 s59 p59 A59 => ?_)))
     obtain ⟨s63, hw63, p63, A63, H63, ce63⟩ := take_ 43 lg_id (Cy20_13.st p59 rfl) h0_56 h1_56 ia56 (ce56.st p59 rfl rfl) rfl rfl rfl rfl
     rw [hw63]
     refine apF Xw sl50 A63 (A59.st p63 rfl).rd rfl rfl rfl rfl rfl rfl rfl (fun v67 s67 p67 A67 => ?_)
     have A70 := H63.st p67 rfl
     refine ixh A70 u147 z50 rfl rfl rfl rfl rfl rfl rfl (fun ad69 h0_69 h1_69 ia69 => ?_)
     refine soh (x' := ((at_ x11.1 x6.2) ++ [x11.2])) A70 ia69 A67 rfl rfl z50 rfl rfl rfl rfl (by rw [V.add_zero]; rfl) (oc A67.rd.one) (fun s71 p71 A71 => ?_)
     exact dn (Kj54 _ _ _ ⟨s71, _, rfl, (ue (ue (ue (ue (ue (ue (ue rfl rfl) rfl) rfl) rfl) rfl) rfl) rfl), (Ky20.st (tr4 p59 p63 p67 p71) rfl), A71⟩)
    exact sk (Kj54 _ _ _ ⟨s53, _, rfl, (ue (ue (ue (ue (ue (ue (ue rfl rfl) rfl) rfl) rfl) rfl) rfl) rfl), Ky20, Cy20_13⟩)
   rintro y54 _ _ ⟨s74, _, rfl, rfl, Ky54, Ay54_0⟩
   exact ib (rg (Xb rfl (Xb rfl (dn (lb ih11 ⟨s74, _, rfl, (ue (ue (ue (ue (ue (ue (ue rfl rfl) rfl) rfl) rfl) rfl) rfl) rfl), Ky54, Ay54_0⟩)))))
  exact xt rfl (sgb (ib (rg (Xb rfl (Xb rfl (dn (lb ih6 ⟨s12, _, rfl, (ue (ue (ue (ue rfl rfl) rfl) rfl) rfl), Kx11, Ax11_0⟩)))))))
 exact xt rfl (sgb (sr (Xp v2 rfl (asg' v2 rfl (dn (re rfl func115 rfl (Xs rfl Xg) rfl ⟨_, rfl, Ax6_0.fo Kx6 rfl z.l, z.ky Kx6⟩))))))
def impl_GraphEdges.b1 (r8 : (List (List Int))) (x11 : (List A2Int) × Int) (x19 : (List A2Int) × Int) : Option (((List A2Int) × Int) ⊕ ((List A2Int) × Int ⊕ (List A2Int))) :=
 (if (decide (x19.2 < ((at_ r8 x11.2).length : Int))) = true then (if 0 ≤ x19.2 ∧ x19.2 < ((at_ r8 x11.2).length : Int) then (if x19.1.length + ([(A2Int.mk (at_ (at_ r8 x11.2) x19.2) x11.2)]).length ≤ Lim then (some (Sum.inl ((x19.1 ++ [(A2Int.mk (at_ (at_ r8 x11.2) x19.2) x11.2)]), (IntKind.wrap .i64 (x19.2 + (1 : Int)))))) else none) else none) else ((some (Sum.inl (x19.1, (IntKind.wrap .i64 (x11.2 + (1 : Int)))))).bind fun o => some (Sum.inr o)))
def impl_GraphEdges.b0 (r8 : (List (List Int))) (x11 : (List A2Int) × Int) : Option (((List A2Int) × Int) ⊕ (List A2Int)) :=
 (if (decide (x11.2 < (r8.length : Int))) = true then (if 0 ≤ x11.2 ∧ x11.2 < (r8.length : Int) then (iter (impl_GraphEdges.b1 r8 x11) (x11.1, (0 : Int))) else none) else (none.bind fun o => some (Sum.inr o)))
def impl_GraphEdges.f (a0 : (List Deed)) : Option ((List A2Int)) :=
 ((impl_DeedsOk.f a0).bind fun r2 => (if (!r2) = true then (some ([] : (List A2Int))) else ((impl_ahead.f a0).bind fun r8 => (iter (impl_GraphEdges.b0 r8) (([] : (List A2Int)), (0 : Int))))))
def impl_GraphEdges.Q (w : World) (F : Nat → Prop) (r : (List A2Int)) (v : Value) (w' : World) : Prop :=
 FO Yc w w' [v] r ∧ Ky [] w w'
theorem impl_GraphEdges.calls (a0 : (List Deed)) (w : World) (F : Nat → Prop) (w0_0 : Value) (h0_0 : Xz.rd w [w0_0] a0 F) (r : (List A2Int)) (m : impl_GraphEdges.f a0 = some r) :
  Calls prog 35 #[w0_0] w (RT (impl_GraphEdges.Q w F) r) := by
 obtain ⟨s0, rfl, kp0, z⟩ := Xi w F
 have A0_0 := z.rd h0_0
 refine Xc (args := [w0_0]) func35 ntmps35 rfl rfl m ?_
 unfold impl_GraphEdges.f
 refine sr (Xb rfl (dn (sq (sr (Xp w0_0 rfl (clV 40 rfl func36 rfl (impl_DeedsOk.calls a0 s0.w (mm [0] s0) w0_0 A0_0) (fun r2 s3 p3 n3 => ?_)))))))
 refine Xb rfl (dn (cd rfl (fun h4 => ?_) (fun h4 => ?_)))
 ·
  refine sr (Xb rfl (dn ?_))
  have K5 := kp0.st p3 rfl
  exact re rfl func35 rfl (Xs rfl Xg) rfl ⟨_, rfl, (ow_nil 70 kd70 s3 40).fo K5 rfl z.l, z.ky K5⟩
 refine sk (sr (Xb rfl (dn (sq (sr (Xp w0_0 rfl ?_))))))
 have K6 := kp0.st p3 rfl
 refine clO 41 rfl func115 rfl (impl_ahead.calls a0 s3.w (mm [0] s3) w0_0 (A0_0.kp K6)) (fun r8 v8_0 s9 p9 A8_0 => ?_)
 refine ln' A8_0.rd u147 rfl (Xb rfl (dn (bl ?_)))
 refine lpI (fun (x11 : (List A2Int) × Int) e w => ∃ (s : St) (e0 : Env) (vx11_0 : Value), w = s.w ∧ e = upd (upd (upd (upd e0 3 vx11_0) 12 v8_0) 13 (iI (r8.length : Int))) 14 (iI x11.2) ∧ Kp s0 s ∧ OwF Yc s [vx11_0] x11.1 42 ∧ OwF (Kd.sl 50 Xy) s [v8_0] r8 41) ⟨s9, _, (.slice none 0 0), rfl, (ue (ue (ue (ue rfl rfl) rfl) rfl) rfl), (K6.st p9 rfl), (ow_nil 70 kd70 _ 42), A8_0⟩ (fun g11 ih11 => ?_)
 rintro x11 _ _ ⟨s13, _, vx11_0, rfl, rfl, Kx11, Ax11_0, Cx11_10⟩
 unfold impl_GraphEdges.b0
 refine sr (Xb rfl (dn (sq (cd rfl (fun h15 => ?_) (fun h15 => ?_)))))
 ·
  refine sk (sq (bl (sr (Xb rfl (ix' Cx11_10.rd u147 z50 rfl (fun ad16 es16 h0_16 h1_16 he16 ce16 ia16 => ?_))))))
  obtain ⟨v16, rfl, he16'⟩ := he16
  have A16 : RdF Xy s13 [v16] (at_ r8 x11.2) [41] := ⟨v16, rfl, he16'⟩
  refine lc0' ce16 u50 rfl (Xb rfl (asg' v16 rfl (dn (sr (Xp v16 rfl (ln' A16 u50 rfl (Xb rfl (dn (bl (lpI (fun (x19 : (List A2Int) × Int) e w => ∃ (s : St) (e0 : Env) (vx19_0 : Value), w = s.w ∧ e = upd (upd (upd (upd (upd (upd (upd (upd e0 3 vx19_0) 4 (iI x11.2)) 12 v8_0) 13 (iI (r8.length : Int))) 14 (iI x11.2)) 19 v16) 20 (iI ((at_ r8 x11.2).length : Int))) 21 (iI x19.2) ∧ Kp s0 s ∧ OwF Yc s [vx19_0] x19.1 42 ∧ OwF (Kd.sl 50 Xy) s [v8_0] r8 41 ∧ RdF Xy s [v16] (at_ r8 x11.2) [41]) ⟨s13, _, vx11_0, rfl, (ue (ue (ue (ue (ue (ue (ue (ue rfl rfl) rfl) rfl) rfl) rfl) rfl) rfl) rfl), Kx11, Ax11_0, Cx11_10, A16⟩ (fun g19 ih19 => ?_)))))))))))
  rintro x19 _ _ ⟨s20, _, vx19_0, rfl, rfl, Kx19, Ax19_0, Cx19_10, Cx19_17⟩
  unfold impl_GraphEdges.b1
  refine sr (Xb rfl (dn (sq (cd rfl (fun h22 => ?_) (fun h22 => ?_)))))
  ·
   refine sk (sq (bl (sr (ix' Cx19_17 u50 z3 rfl (fun ad23 es23 h0_23 h1_23 he23 ce23 ia23 => ?_)))))
   obtain rfl := he23
   refine lc0' ce23 u3 rfl (Xb rfl (dn (rg (Xp vx19_0 rfl (Xb rfl (Xb rfl (bdA (cells := [(iI (at_ (at_ r8 x11.2) x19.2)), (iI x11.2)]) u70 z3 o70 rfl rfl rfl rfl rfl rfl (ltF' (K := kd70) (cells := [(iI (at_ (at_ r8 x11.2) x19.2)), (iI x11.2)]) [(A2Int.mk (at_ (at_ r8 x11.2) x19.2) x11.2)] 43 (fl_iso (fl_pair Xw Xw)) u65 z70 o70 (fun w => ⟨[(iI (at_ (at_ r8 x11.2) x19.2)), (iI x11.2)], [], rfl, ⟨[(iI (at_ (at_ r8 x11.2) x19.2))], [(iI x11.2)], rfl, rfl, rfl⟩, rfl⟩) rfl (fun v25 s25 p25 A25 => ?_)))))))))
   refine apF (fl_iso (fl_pair Xw Xw)) sl65 (Ax19_0.st p25 rfl) A25.rd rfl rfl rfl rfl rfl rfl rfl (fun v28 s28 p28 A28 => ?_)
   refine asg' v28 rfl (dn (ib (rg (Xb rfl (Xb rfl (dn ?_))))))
   exact lb ih19 ⟨s28, _, v28, rfl, (ue (ue (ue (ue (ue (ue (ue (ue rfl rfl) rfl) rfl) rfl) rfl) rfl) rfl) rfl), (Kx19.st (Xq p25 p28) rfl), A28, (Cx19_10.st (Xq p25 p28) rfl), (Cx19_17.st (Xq p25 p28) rfl)⟩
  exact xt rfl (sgb (ib (rg (Xb rfl (Xb rfl (dn (lb ih11 ⟨s20, _, vx19_0, rfl, (ue (ue (ue (ue rfl rfl) rfl) rfl) rfl), Kx19, Ax19_0, Cx19_10⟩)))))))
 exact xt rfl (sgb (sr (Xp vx11_0 rfl mn)))
def impl_taken_1.f (a0 : Int) (a1 : (List Bool)) : Option (Bool) :=
 (if 0 ≤ a0 ∧ a0 < (a1.length : Int) then (some (at_ a1 a0)) else none)
def impl_taken_1.Q (w : World) (F : Nat → Prop) (r : Bool) (v : Value) (w' : World) : Prop :=
 v = (.bool r) ∧ Ky [] w w'
theorem impl_taken_1.calls (a0 : Int) (a1 : (List Bool)) (w : World) (F : Nat → Prop) (c1 : Nat) (w1_0 : Value) (h1_0 : (Kd.sl 4 Kd.bool).rd w [w1_0] a1 F) (hb1 : BlW w c1 156 [w1_0]) (hp1 : F c1) (r : Bool) (m : impl_taken_1.f a0 a1 = some r) :
  Calls prog 208 #[(iI a0), (pB c1)] w (RT (impl_taken_1.Q w F) r) := by
 obtain ⟨s0, rfl, kp0, z⟩ := Xi w F
 refine Xc (args := [(iI a0), (pB c1)]) func208 ntmps208 rfl rfl m ?_
 unfold impl_taken_1.f
 refine sr (Xb rfl (dn (sr (ld' (z.b0 hb1 hp1) u156 rfl (Xb rfl (ix' (z.rd h1_0) u156 z4 rfl (fun ad3 es3 h0_3 h1_3 he3 ce3 ia3 => ?_)))))))
 obtain rfl := he3
 exact lc0' ce3 u4 rfl (Xb rfl (dn (re rfl func208 rfl (Xs rfl Xg) rfl ⟨_, rfl, rfl, z.ky kp0⟩)))
def impl_areAll_int_1.f (a0 : Int) (a1 : (Int → Option Bool)) : Option (Bool) :=
 ((a1 a0).bind fun r2 => (some (!r2)))
def impl_areAll_int_1.Q (w : World) (F : Nat → Prop) (r : Bool) (v : Value) (w' : World) : Prop :=
 v = (.bool r) ∧ Ky [] w w'
theorem impl_areAll_int_1.calls (a0 : Int) (a1 : (Int → Option Bool)) (w : World) (F : Nat → Prop) (c1 : Nat) (f1 : Value) (hf1 : ∀ (x0 : Int) (w' : World), Ky [] w w' → ∀ r, a1 x0 = some r → CallV prog f1 [(iI x0)] w' fun en w'' => ∃ v, en = .returned v ∧ v = (.bool r) ∧ Ky [] w' w'') (ho1 : f1.cells = #[f1]) (hb1 : BlW w c1 162 [f1]) (hp1 : F c1) (r : Bool) (m : impl_areAll_int_1.f a0 a1 = some r) :
  Calls prog 210 #[(iI a0), (pB c1)] w (RT (impl_areAll_int_1.Q w F) r) := by
 obtain ⟨s0, rfl, kp0, z⟩ := Xi w F
 refine Xc (args := [(iI a0), (pB c1)]) func210 ntmps210 rfl rfl m ?_
 unfold impl_areAll_int_1.f
 refine sr (Xb rfl (dn (sr (ld' (z.b0 hb1 hp1) u162 rfl (Xb rfl (clv rfl rfl rfl rfl rfl rfl rfl (fun r2 m2 => hf1 a0 s0.w (z.ky kp0)  r2 m2) ?_))))))
 rintro r2 _ w2 m2 ⟨rfl, ky2⟩
 obtain ⟨s3, rfl, p3, n3⟩ := nwx s0 w2 40 ky2
 refine Xb rfl (Xb rfl (dn ?_))
 exact re rfl func210 rfl (Xs rfl Xg) rfl ⟨_, rfl, rfl, z.ky (kp0.st p3 rfl)⟩
def slices_IndexFunc_int_int.b0 (a0 : (List Int)) (a1 : (Int → Option Bool)) (x2 : Int) : Option (Int ⊕ Int) :=
 (if (decide (x2 < (a0.length : Int))) = true then (if 0 ≤ x2 ∧ x2 < (a0.length : Int) then ((a1 (at_ a0 x2)).bind fun r8 => (if r8 = true then (some (Sum.inr x2)) else (some (Sum.inl (IntKind.wrap .i64 (x2 + (1 : Int))))))) else none) else ((some (-1 : Int)).bind fun o => some (Sum.inr o)))
def slices_IndexFunc_int_int.f (a0 : (List Int)) (a1 : (Int → Option Bool)) : Option (Int) :=
 (iter (slices_IndexFunc_int_int.b0 a0 a1) (0 : Int))
def slices_IndexFunc_int_int.Q (w : World) (F : Nat → Prop) (r : Int) (v : Value) (w' : World) : Prop :=
 v = (iI r) ∧ Ky [] w w'
theorem slices_IndexFunc_int_int.calls (a0 : (List Int)) (a1 : (Int → Option Bool)) (w : World) (F : Nat → Prop) (w0_0 : Value) (f1 : Value) (h0_0 : Xy.rd w [w0_0] a0 F) (hf1 : ∀ (x0 : Int) (w' : World), Ky [] w w' → ∀ r, a1 x0 = some r → CallV prog f1 [(iI x0)] w' fun en w'' => ∃ v, en = .returned v ∧ v = (.bool r) ∧ Ky [] w' w'') (ho1 : f1.cells = #[f1]) (r : Int) (m : slices_IndexFunc_int_int.f a0 a1 = some r) :
  Calls prog 269 #[w0_0, f1] w (RT (slices_IndexFunc_int_int.Q w F) r) := by
 obtain ⟨s0, rfl, kp0, z⟩ := Xi w F
 have A0_0 := z.rd h0_0
 refine Xc (args := [w0_0, f1]) func269 ntmps269 rfl rfl m ?_
 unfold slices_IndexFunc_int_int.f
 refine sr (Xb rfl (dn (sq (sr (Xp w0_0 rfl (ln' A0_0 u50 rfl (Xb rfl (dn (bl (lpI (fun (x2 : Int) e w => ∃ (s : St) (e0 : Env), w = s.w ∧ e = upd (upd (upd (upd e0 0 w0_0) 1 f1) 7 (iI (a0.length : Int))) 8 (iI x2) ∧ Kp s0 s) ⟨s0, _, rfl, (ue (ue (ue (ue rfl rfl) rfl) rfl) rfl), kp0⟩ (fun g2 ih2 => ?_)))))))))))
 rintro x2 _ _ ⟨s3, _, rfl, rfl, Kx2⟩
 unfold slices_IndexFunc_int_int.b0
 refine sr (Xb rfl (dn (sq (cd rfl (fun h4 => ?_) (fun h4 => ?_)))))
 ·
  refine sk (sq (bl (sr (Xb rfl (Xb rfl (dn (sr (Xp f1 rfl (Xp w0_0 rfl (Xb rfl ?_))))))))))
  refine ix' (A0_0.kp Kx2) u50 z3 rfl (fun ad6 es6 h0_6 h1_6 he6 ce6 ia6 => ?_)
  obtain rfl := he6
  refine lc0' ce6 u3 rfl (clv rfl rfl rfl rfl rfl rfl rfl (fun r8 m8 => hf1 (at_ a0 x2) s3.w (z.ky Kx2)  r8 m8) ?_)
  rintro r8 _ w8 m8 ⟨rfl, ky8⟩
  obtain ⟨s9, rfl, p9, n9⟩ := nwx s3 w8 40 ky8
  refine dn (cd rfl (fun h10 => ?_) (fun h10 => ?_))
  ·
   refine sr (Xb rfl (Xb rfl (dn (sgi ?_))))
   exact re rfl func269 rfl (Xs rfl Xg) rfl ⟨_, rfl, rfl, z.ky (Kx2.st p9 rfl)⟩
  refine sk (ib (rg (Xb rfl (Xb rfl (dn ?_)))))
  exact lb ih2 ⟨s9, _, rfl, (ue (ue (ue (ue rfl rfl) rfl) rfl) rfl), (Kx2.st p9 rfl)⟩
 exact xt rfl (sgb (sr (Xb rfl (dn (re rfl func269 rfl (Xs rfl Xg) rfl ⟨_, rfl, rfl, z.ky Kx2⟩)))))
def slices_ContainsFunc_int_int.f (a0 : (List Int)) (a1 : (Int → Option Bool)) : Option (Bool) :=
 ((slices_IndexFunc_int_int.f a0 a1).bind fun r2 => (some (decide (r2 ≥ (0 : Int)))))
def slices_ContainsFunc_int_int.Q (w : World) (F : Nat → Prop) (r : Bool) (v : Value) (w' : World) : Prop :=
 v = (.bool r) ∧ Ky [] w w'
theorem slices_ContainsFunc_int_int.calls (a0 : (List Int)) (a1 : (Int → Option Bool)) (w : World) (F : Nat → Prop) (w0_0 : Value) (f1 : Value) (h0_0 : Xy.rd w [w0_0] a0 F) (hf1 : ∀ (x0 : Int) (w' : World), Ky [] w w' → ∀ r, a1 x0 = some r → CallV prog f1 [(iI x0)] w' fun en w'' => ∃ v, en = .returned v ∧ v = (.bool r) ∧ Ky [] w' w'') (ho1 : f1.cells = #[f1]) (r : Bool) (m : slices_ContainsFunc_int_int.f a0 a1 = some r) :
  Calls prog 209 #[w0_0, f1] w (RT (slices_ContainsFunc_int_int.Q w F) r) := by
 obtain ⟨s0, rfl, kp0, z⟩ := Xi w F
 refine Xc (args := [w0_0, f1]) func209 ntmps209 rfl rfl m ?_
 unfold slices_ContainsFunc_int_int.f
 refine sr (Xb rfl (dn (sr (Xp w0_0 rfl (Xp f1 rfl (clV 40 rfl func269 rfl (slices_IndexFunc_int_int.calls a0 a1 s0.w (mm [0] s0) w0_0 f1 (z.rd h0_0) (fun x0 w' k  r m =>  hf1 x0 w' (Ky.trans (z.ky kp0) k)  r m) ho1) (fun r2 s3 p3 n3 => ?_)))))))
 refine Xb rfl (Xb rfl (dn ?_))
 exact re rfl func209 rfl (Xs rfl Xg) rfl ⟨_, rfl, rfl, z.ky (kp0.st p3 rfl)⟩
def impl_areAll_int.f (a0 : (List Int)) (a1 : (Int → Option Bool)) : Option (Bool) :=
 ((slices_ContainsFunc_int_int.f a0 (fun x0 => impl_areAll_int_1.f x0 a1)).bind fun r6 => (some (!r6)))
def impl_areAll_int.Q (w : World) (F : Nat → Prop) (r : Bool) (v : Value) (w' : World) : Prop :=
 v = (.bool r) ∧ Ky [] w w'
theorem impl_areAll_int.calls (a0 : (List Int)) (a1 : (Int → Option Bool)) (w : World) (F : Nat → Prop) (w0_0 : Value) (f1 : Value) (h0_0 : Xy.rd w [w0_0] a0 F) (hf1 : ∀ (x0 : Int) (w' : World), Ky [] w w' → ∀ r, a1 x0 = some r → CallV prog f1 [(iI x0)] w' fun en w'' => ∃ v, en = .returned v ∧ v = (.bool r) ∧ Ky [] w' w'') (ho1 : f1.cells = #[f1]) (r : Bool) (m : impl_areAll_int.f a0 a1 = some r) :
  Calls prog 129 #[w0_0, f1] w (RT (impl_areAll_int.Q w F) r) := by
 obtain ⟨s0, rfl, kp0, z⟩ := Xi w F
 refine Xc (args := [w0_0, f1]) func129 ntmps129 rfl rfl m ?_
 unfold impl_areAll_int.f
 refine sr (bx' (cs := [f1]) 40 rfl ho1 (fun b2 s2 p2 B2 => ?_))
 refine Xb rfl (dn (sr (Xp w0_0 rfl (mkf (fs := []) (cs := [(pB b2)]) rfl rfl rfl rfl rfl rfl rfl ?_))))
 have K4 := kp0.st p2 rfl
 refine clV 41 rfl func209 rfl (slices_ContainsFunc_int_int.calls a0 (fun x0 => impl_areAll_int_1.f x0 a1) s2.w (mm [0] s2) w0_0 (.func (.func 210) (List.toArray []) (List.toArray [(pB b2)])) ((z.rd h0_0).kp K4) (fun x0 w' k  r m =>  ⟨210, _, _, [], [(pB b2)], rfl, func210, rfl, rfl, (impl_areAll_int_1.calls x0 a1 w' (fun _ => True) b2 f1 (fun x0c w'c kc  r m =>  hf1 x0c w'c (Ky.trans (z.ky K4) (Ky.trans k kc))  r m) ho1 (B2.ky k) trivial r m).mono fun en w2 hq => by obtain ⟨v, e, q⟩ := hq; exact ⟨v, e, q⟩⟩) rfl) (fun r6 s7 p7 n7 => ?_)
 refine Xb rfl (Xb rfl (dn ?_))
 exact re rfl func129 rfl (Xs rfl Xg) rfl ⟨_, rfl, rfl, z.ky (K4.st p7 rfl)⟩
def impl_taken.b1 (a0 : (List (List Int))) (x9 : (List Int) × (List Bool)) (x18 : Int × Int) : Option ((Int × Int) ⊕ Int) :=
 (if (decide (x18.2 < (a0.length : Int))) = true then (if 0 ≤ x18.2 ∧ x18.2 < (a0.length : Int) then (if 0 ≤ x18.2 ∧ x18.2 < (x9.2.length : Int) then ((if (!(at_ x9.2 x18.2)) = true then ((impl_areAll_int.f (at_ a0 x18.2) (fun x0 => impl_taken_1.f x0 x9.2)).bind fun r29 => (some r29)) else (some false)).bind fun y28 => (if y28 = true then ((some x18.2).bind fun o => some (Sum.inr o)) else (some (Sum.inl (x18.1, (IntKind.wrap .i64 (x18.2 + (1 : Int)))))))) else none) else none) else ((some x18.1).bind fun o => some (Sum.inr o)))
def impl_taken.b0 (a0 : (List (List Int))) (x9 : (List Int) × (List Bool)) : Option (((List Int) × (List Bool)) ⊕ ((List Int) × (List Bool))) :=
 ((iter (impl_taken.b1 a0 x9) ((-1 : Int), (0 : Int))).bind fun y17 => (if (decide (y17 < (0 : Int))) = true then (some (Sum.inr (x9.1, x9.2))) else (if 0 ≤ y17 ∧ y17 < (x9.2.length : Int) then (if x9.1.length + ([y17]).length ≤ Lim then (some (Sum.inl ((x9.1 ++ [y17]), (x9.2.set (y17).toNat true)))) else none) else none)))
def impl_taken.f (a0 : (List (List Int))) : Option ((List Int) × (List Bool)) :=
 (if 0 ≤ (a0.length : Int) ∧ (a0.length : Int) ≤ (Lim : Int) then (iter (impl_taken.b0 a0) (([] : (List Int)), (List.replicate ((a0.length : Int)).toNat false))) else none)
def impl_taken.Q (w : World) (F : Nat → Prop) (r : (List Int) × (List Bool)) (v : Value) (w' : World) : Prop :=
 ∃ (v0 : Value) (v1 : Value), v = .tuple #[v0, v1] ∧ FO Xy w w' [v0] r.1 ∧ FO (Kd.sl 4 Kd.bool) w w' [v1] r.2 ∧ Ky [] w w'
theorem impl_taken.calls (a0 : (List (List Int))) (w : World) (F : Nat → Prop) (w0_0 : Value) (h0_0 : (Kd.sl 50 Xy).rd w [w0_0] a0 F) (r : (List Int) × (List Bool)) (m : impl_taken.f a0 = some r) :
  Calls prog 123 #[w0_0] w (RT (impl_taken.Q w F) r) := by
 obtain ⟨s0, rfl, kp0, z⟩ := Xi w F
 have A0_0 := z.rd h0_0
 refine Xc (args := [w0_0]) func123 ntmps123 rfl rfl m ?_
 unfold impl_taken.f
 refine sr (Xb rfl (Xb rfl (dn (sr (Xb rfl (dn (sr (Xp w0_0 rfl (ln' A0_0 u147 rfl (mk (x0 := false) (K := Kd.bool) 40 sl156 o4 (fun _ => ⟨rfl, rfl⟩) rfl rfl rfl rfl rfl rfl rfl (fun v2 s2 p2 A2 => ?_)))))))))))
 refine al (cs := [(.slice none 0 0)]) 41 rfl rfl rfl rfl rfl o156 rfl (fun b4 s4 p4 B4 => ?_)
 have A6 := A2.st p4 rfl
 refine sv B4 z156 rfl rfl rfl rfl rfl rfl A6.rd.one rfl (fun s7 p7 B7 => ?_)
 refine dn (bl ?_)
 refine lpI (fun (x9 : (List Int) × (List Bool)) e w => ∃ (s : St) (e0 : Env) (vx9_0 : Value), w = s.w ∧ e = upd (upd (upd e0 0 w0_0) 4 vx9_0) 5 (pB b4) ∧ Kp s0 s ∧ OwF Xy s [vx9_0] x9.1 43 ∧ OwF (Kd.sl 4 Kd.bool) s [v2] x9.2 40 ∧ BlF s b4 156 [v2] 41) ⟨s7, _, (.slice none 0 0), rfl, (ue (ue (ue rfl rfl) rfl) rfl), (kp0.st (tr3 p2 p4 p7) rfl), (ow_nil 3 (Kd.int .i64) _ 43), (A6.st p7 rfl), B7⟩ (fun g9 ih9 => ?_)
 rintro x9 _ _ ⟨s12, _, vx9_0, rfl, rfl, Kx9, Ax9_0, Ax9_1, Bx9_b4⟩
 unfold impl_taken.b0
 refine bl (sr (Xb rfl (dn (sq (sr (Xp w0_0 rfl ?_))))))
 refine ln' (A0_0.kp Kx9) u147 rfl (Xb rfl (dn (jc (fun (y17 : Int) e w => ∃ (s : St) (e0 : Env), w = s.w ∧ e = upd (upd (upd (upd e0 0 w0_0) 4 vx9_0) 5 (pB b4)) 6 (iI y17) ∧ Kp s0 s ∧ BlF s b4 156 [v2] 41 ∧ OwF Xy s [vx9_0] x9.1 43 ∧ OwF (Kd.sl 4 Kd.bool) s [v2] x9.2 40) (fun Gj17 Kj17 => ?_) ?_)))
 ·
  refine bl (lpI (fun (x18 : Int × Int) e w => ∃ (s : St) (e0 : Env), w = s.w ∧ e = upd (upd (upd (upd (upd (upd (upd e0 0 w0_0) 4 vx9_0) 5 (pB b4)) 6 (iI x18.1)) 12 w0_0) 13 (iI (a0.length : Int))) 14 (iI x18.2) ∧ Kp s0 s ∧ BlF s b4 156 [v2] 41 ∧ OwF Xy s [vx9_0] x9.1 43 ∧ OwF (Kd.sl 4 Kd.bool) s [v2] x9.2 40) ⟨s12, _, rfl, (ue (ue (ue (ue (ue (ue (ue rfl rfl) rfl) rfl) rfl) rfl) rfl) rfl), Kx9, Bx9_b4, Ax9_0, Ax9_1⟩ (fun g18 ih18 => ?_))
  rintro x18 _ _ ⟨s19, _, rfl, rfl, Kx18, Bx18_b4, Cx18_13, Cx18_14⟩
  unfold impl_taken.b1
  refine sr (Xb rfl (dn (sq (cd rfl (fun h21 => ?_) (fun h21 => ?_)))))
  ·
   refine sk (sq (bl (sr (Xb rfl ?_))))
   refine ix' (A0_0.kp Kx18) u147 z50 rfl (fun ad23 es23 h0_23 h1_23 he23 ce23 ia23 => ?_)
   obtain ⟨v23, rfl, he23'⟩ := he23
   have A23 : RdF Xy s19 [v23] (at_ a0 x18.2) [0] := ⟨v23, rfl, he23'⟩
   refine lc0' ce23 u50 rfl (Xb rfl (asg' v23 rfl (dn (sr (ld' Bx18_b4 u156 rfl (Xb rfl (ix' Cx18_14.rd u156 z4 rfl (fun ad26 es26 h0_26 h1_26 he26 ce26 ia26 => ?_))))))))
   obtain rfl := he26
   refine lc0' ce26 u4 rfl (Xb rfl (Xb rfl (ji [] (fun (y28 : Bool) e w => ∃ (s : St) (e0 : Env), w = s.w ∧ e = upd (upd (upd (upd (upd (upd (upd (upd (upd e0 0 w0_0) 4 vx9_0) 5 (pB b4)) 6 (iI x18.1)) 7 (iI x18.2)) 12 w0_0) 13 (iI (a0.length : Int))) 14 (iI x18.2)) 28 (.bool y28) ∧ Kp s0 s ∧ BlF s b4 156 [v2] 41 ∧ OwF Xy s [vx9_0] x9.1 43 ∧ OwF (Kd.sl 4 Kd.bool) s [v2] x9.2 40) (fun Gj28 Kj28 => ?_) ?_)))
   ·
    rcases bft (!(at_ x9.2 x18.2)) with hb28 | hb28
    ·
     refine Xv hb28 ?_
     rw [if_pos hb28]
     refine Xp v23 rfl (mkf (fs := []) (cs := [(pB b4)]) rfl rfl rfl rfl rfl rfl rfl (clV 44 rfl func129 rfl (impl_areAll_int.calls (at_ a0 x18.2) (fun x0 => impl_taken_1.f x0 x9.2) s19.w (mm [0] s19) v23 (.func (.func 208) (List.toArray []) (List.toArray [(pB b4)])) A23 (fun x0 w' k  r m =>  ⟨208, _, _, [], [(pB b4)], rfl, func208, rfl, rfl, (impl_taken_1.calls x0 x9.2 w' (fun _ => True) b4 v2 (RdF.ky Cx18_14.rd k) (Bx18_b4.ky k) trivial r m).mono fun en w2 hq => by obtain ⟨v, e, q⟩ := hq; exact ⟨v, e, q⟩⟩) rfl) (fun r29 s30 p30 n30 => ?_)))
     exact Xb rfl (Kj28 _ _ _ ⟨s30, _, rfl, (ue (ue (ue (ue (ue (ue (ue (ue (ue rfl rfl) rfl) rfl) rfl) rfl) rfl) rfl) rfl) rfl), (Kx18.st p30 rfl), (Bx18_b4.st p30 rfl), (Cx18_13.st p30 rfl), (Cx18_14.st p30 rfl)⟩)
    refine Xv hb28 ?_
    rw [if_neg (by rw [hb28]; decide)]
    exact Xj rfl (Xj rfl (Xj rfl (Xb rfl (Kj28 _ _ _ ⟨s19, _, rfl, (ue (ue (ue (ue (ue (ue (ue (ue (ue rfl rfl) rfl) rfl) rfl) rfl) rfl) rfl) rfl) rfl), Kx18, Bx18_b4, Cx18_13, Cx18_14⟩))))
   rintro y28 _ _ ⟨s35, _, rfl, rfl, Ky28, By28_b4, Cy28_13, Cy28_14⟩
   refine dn (cd rfl (fun h37 => ?_) (fun h37 => ?_))
   ·
    exact sr (Xb rfl (Xb rfl (dn (xt rfl (sgb (Kj17 _ _ _ ⟨s35, _, rfl, (ue (ue (ue (ue rfl rfl) rfl) rfl) rfl), Ky28, By28_b4, Cy28_13, Cy28_14⟩))))))
   exact sk (ib (rg (Xb rfl (Xb rfl (dn (lb ih18 ⟨s35, _, rfl, (ue (ue (ue (ue (ue (ue (ue rfl rfl) rfl) rfl) rfl) rfl) rfl) rfl), Ky28, By28_b4, Cy28_13, Cy28_14⟩))))))
  exact xt rfl (sgb (Kj17 _ _ _ ⟨s19, _, rfl, (ue (ue (ue (ue rfl rfl) rfl) rfl) rfl), Kx18, Bx18_b4, Cx18_13, Cx18_14⟩))
 rintro y17 _ _ ⟨s38, _, rfl, rfl, Ky17, By17_b4, Cy17_13, Cy17_14⟩
 refine sq (sr (Xb rfl (Xb rfl (dn (cd rfl (fun h40 => ?_) (fun h40 => ?_))))))
 ·
  refine sq (zdraw [[], [], [0, 0], [1, 2, 0, 1, 2]] [some 33, some 34, some 2, some 3] [[4], [5], [33], [34]] [0, 2, 1, 3] ⟨by kernel_rfl, by kernel_rfl, by kernel_rfl⟩ (by kernel_rfl) (fun s41 p41 l41 tb41 zd41 => ?_))
  refine zfin [3] tb41 (((zd41.add 0 33 vx9_0 rfl).add 1 34 v2 rfl).add 2 2 vx9_0 rfl) (Xa (asg_q vx9_0 rfl rfl rfl rfl rfl rfl) rfl (Xa (Xr (By17_b4.st p41 rfl) u156 rfl) rfl (Xa (Xl vx9_0 rfl) rfl Xh))) (by kernel_rfl) (by decide) (asg' v2 rfl (dn (sgi ?_)))
  have K48 := Ky17.st p41 rfl
  exact re rfl func123 rfl (Xs rfl (Xs rfl Xg)) rfl ⟨_, rfl, vx9_0, v2, rfl, (Cy17_13.st p41 rfl).fo K48 rfl z.l, (Cy17_14.st p41 rfl).fo K48 rfl z.l, z.ky K48⟩
 refine sk (sr (ld' By17_b4 u156 rfl (Xb rfl (ix' Cy17_14.rd u156 z4 rfl (fun ad50 es50 h0_50 h1_50 he50 ce50 ia50 => ?_)))))
 obtain rfl := he50
 refine so (x' := true) Cy17_14 ia50 h0_50 h1_50 cs_flat z4 rfl rfl rfl rfl rfl rfl (fun s52 p52 A52 => ?_)
 refine dn (rg (Xp vx9_0 rfl (Xb rfl (ltF' (K := (Kd.int .i64)) (cells := [(iI y17)]) [y17] 45 Xw u50 z3 o3 (fun w => (els_flat _ _ _)) rfl (fun v54 s54 p54 A54 => ?_)))))
 refine apF Xw sl50 (Cy17_13.st (Xq p52 p54) rfl) A54.rd rfl rfl rfl rfl rfl rfl rfl (fun v57 s57 p57 A57 => ?_)
 refine asg' v57 rfl (dn (ib ?_))
 exact lb ih9 ⟨s57, _, v57, rfl, (ue (ue (ue rfl rfl) rfl) rfl), (Ky17.st (tr3 p52 p54 p57) rfl), A57, (A52.st (Xq p54 p57) rfl), (By17_b4.st (tr3 p52 p54 p57) rfl)⟩
def impl_GraphOrder.f (a0 : (List Deed)) : Option ((List Int) × Bool) :=
 ((impl_DeedsOk.f a0).bind fun r2 => (if (!r2) = true then (some (([] : (List Int)), false)) else ((impl_ahead.f a0).bind fun r8 => ((impl_taken.f r8).bind fun r11 => (if (decide ((r11.1.length : Int) < (a0.length : Int))) = true then (some (([] : (List Int)), false)) else (some (r11.1, true)))))))
def impl_GraphOrder.Q (w : World) (F : Nat → Prop) (r : (List Int) × Bool) (v : Value) (w' : World) : Prop :=
 ∃ (v0 : Value), v = .tuple #[v0, (.bool r.2)] ∧ FO Xy w w' [v0] r.1 ∧ Ky [] w w'
theorem impl_GraphOrder.calls (a0 : (List Deed)) (w : World) (F : Nat → Prop) (w0_0 : Value) (h0_0 : Xz.rd w [w0_0] a0 F) (r : (List Int) × Bool) (m : impl_GraphOrder.f a0 = some r) :
  Calls prog 37 #[w0_0] w (RT (impl_GraphOrder.Q w F) r) := by
 obtain ⟨s0, rfl, kp0, z⟩ := Xi w F
 have A0_0 := z.rd h0_0
 refine Xc (args := [w0_0]) func37 ntmps37 rfl rfl m ?_
 unfold impl_GraphOrder.f
 refine sr (Xb rfl (Xb rfl (dn (sq (sr (Xp w0_0 rfl (clV 40 rfl func36 rfl (impl_DeedsOk.calls a0 s0.w (mm [0] s0) w0_0 A0_0) (fun r2 s3 p3 n3 => ?_))))))))
 refine Xb rfl (dn (cd rfl (fun h4 => ?_) (fun h4 => ?_)))
 ·
  refine sr (Xb rfl (Xb rfl (dn ?_)))
  have K5 := kp0.st p3 rfl
  exact re rfl func37 rfl (Xs rfl (Xs rfl Xg)) rfl ⟨_, rfl, (.slice none 0 0), rfl, (ow_nil 3 (Kd.int .i64) s3 40).fo K5 rfl z.l, z.ky K5⟩
 refine sk (sr (Xp w0_0 rfl ?_))
 have K6 := kp0.st p3 rfl
 refine clO 41 rfl func115 rfl (impl_ahead.calls a0 s3.w (mm [0] s3) w0_0 (A0_0.kp K6)) (fun r8 v8_0 s9 p9 A8_0 => ?_)
 refine cl' rfl func123 rfl (impl_taken.calls r8 s9.w (mm [41] s9) v8_0 A8_0.rd) ?_
 rintro r11 _ w11 m11 ⟨v11_0, v11_1, rfl, f11_0, f11_1, ky11⟩
 obtain ⟨s12, rfl, p12, n12⟩ := nwx s9 w11 42 ky11
 have A11_0 := f11_0.c n12
 refine Xb rfl (Xb (v := v11_0) rfl (Xb (v := v11_1) rfl (asg' v11_0 rfl (asg' v11_1 rfl (dn (sq (sr (Xp v11_0 rfl (ln' A11_0.rd u50 rfl (Xp w0_0 rfl ?_))))))))))
 have K15 := K6.st (Xq p9 p12) rfl
 refine ln' (A0_0.kp K15) u62 rfl (Xb rfl (dn (cd rfl (fun h17 => ?_) (fun h17 => ?_))))
 ·
  exact sr (Xb rfl (Xb rfl (dn (re rfl func37 rfl (Xs rfl (Xs rfl Xg)) rfl ⟨_, rfl, (.slice none 0 0), rfl, (ow_nil 3 (Kd.int .i64) s12 40).fo K15 rfl z.l, z.ky K15⟩))))
 exact sk (sr (Xp v11_0 rfl (asg' v11_0 rfl (Xb rfl (dn (re rfl func37 rfl (Xs rfl (Xs rfl Xg)) rfl ⟨_, rfl, v11_0, rfl, A11_0.fo K15 rfl z.l, z.ky K15⟩))))))
def slices_Index_bool_bool.b0 (a0 : (List Bool)) (a1 : Bool) (x2 : Int) : Option (Int ⊕ Int) :=
 (if (decide (x2 < (a0.length : Int))) = true then (if 0 ≤ x2 ∧ x2 < (a0.length : Int) then (if (a1 == (at_ a0 x2)) = true then (some (Sum.inr x2)) else (some (Sum.inl (IntKind.wrap .i64 (x2 + (1 : Int)))))) else none) else ((some (-1 : Int)).bind fun o => some (Sum.inr o)))
def slices_Index_bool_bool.f (a0 : (List Bool)) (a1 : Bool) : Option (Int) :=
 (iter (slices_Index_bool_bool.b0 a0 a1) (0 : Int))
def slices_Index_bool_bool.Q (w : World) (F : Nat → Prop) (r : Int) (v : Value) (w' : World) : Prop :=
 v = (iI r) ∧ Ky [] w w'
theorem slices_Index_bool_bool.calls (a0 : (List Bool)) (a1 : Bool) (w : World) (F : Nat → Prop) (w0_0 : Value) (h0_0 : (Kd.sl 4 Kd.bool).rd w [w0_0] a0 F) (r : Int) (m : slices_Index_bool_bool.f a0 a1 = some r) :
  Calls prog 124 #[w0_0, (.bool a1)] w (RT (slices_Index_bool_bool.Q w F) r) := by
 obtain ⟨s0, rfl, kp0, z⟩ := Xi w F
 have A0_0 := z.rd h0_0
 refine Xc (args := [w0_0, (.bool a1)]) func124 ntmps124 rfl rfl m ?_
 unfold slices_Index_bool_bool.f
 refine sr (Xb rfl (dn (sq (sr (Xp w0_0 rfl (ln' A0_0 u156 rfl (Xb rfl (dn (bl (lpI (fun (x2 : Int) e w => ∃ (s : St) (e0 : Env), w = s.w ∧ e = upd (upd (upd (upd e0 0 w0_0) 1 (.bool a1)) 7 (iI (a0.length : Int))) 8 (iI x2) ∧ Kp s0 s) ⟨s0, _, rfl, (ue (ue (ue (ue rfl rfl) rfl) rfl) rfl), kp0⟩ (fun g2 ih2 => ?_)))))))))))
 rintro x2 _ _ ⟨s3, _, rfl, rfl, Kx2⟩
 unfold slices_Index_bool_bool.b0
 refine sr (Xb rfl (dn (sq (cd rfl (fun h4 => ?_) (fun h4 => ?_)))))
 ·
  refine sk (sq (bl (sr (Xb rfl (Xb rfl (dn (sr (Xb rfl (Xp w0_0 rfl (Xb rfl ?_))))))))))
  refine ix' (A0_0.kp Kx2) u156 z4 rfl (fun ad6 es6 h0_6 h1_6 he6 ce6 ia6 => ?_)
  obtain rfl := he6
  refine lc0' ce6 u4 rfl (beq_ u4 rfl rfl rfl rfl rfl rfl rfl (dn (cd rfl (fun h8 => ?_) (fun h8 => ?_))))
  ·
   exact sr (Xb rfl (Xb rfl (dn (sgi (re rfl func124 rfl (Xs rfl Xg) rfl ⟨_, rfl, rfl, z.ky Kx2⟩)))))
  exact sk (ib (rg (Xb rfl (Xb rfl (dn (lb ih2 ⟨s3, _, rfl, (ue (ue (ue (ue rfl rfl) rfl) rfl) rfl), Kx2⟩))))))
 exact xt rfl (sgb (sr (Xb rfl (dn (re rfl func124 rfl (Xs rfl Xg) rfl ⟨_, rfl, rfl, z.ky Kx2⟩)))))
def slices_Index_int_int.b0 (a0 : (List Int)) (a1 : Int) (x2 : Int) : Option (Int ⊕ Int) :=
 (if (decide (x2 < (a0.length : Int))) = true then (if 0 ≤ x2 ∧ x2 < (a0.length : Int) then (if (a1 == (at_ a0 x2)) = true then (some (Sum.inr x2)) else (some (Sum.inl (IntKind.wrap .i64 (x2 + (1 : Int)))))) else none) else ((some (-1 : Int)).bind fun o => some (Sum.inr o)))
def slices_Index_int_int.f (a0 : (List Int)) (a1 : Int) : Option (Int) :=
 (iter (slices_Index_int_int.b0 a0 a1) (0 : Int))
def slices_Index_int_int.Q (w : World) (F : Nat → Prop) (r : Int) (v : Value) (w' : World) : Prop :=
 v = (iI r) ∧ Ky [] w w'
theorem slices_Index_int_int.calls (a0 : (List Int)) (a1 : Int) (w : World) (F : Nat → Prop) (w0_0 : Value) (h0_0 : Xy.rd w [w0_0] a0 F) (r : Int) (m : slices_Index_int_int.f a0 a1 = some r) :
  Calls prog 125 #[w0_0, (iI a1)] w (RT (slices_Index_int_int.Q w F) r) := by
 obtain ⟨s0, rfl, kp0, z⟩ := Xi w F
 have A0_0 := z.rd h0_0
 refine Xc (args := [w0_0, (iI a1)]) func125 ntmps125 rfl rfl m ?_
 unfold slices_Index_int_int.f
 refine sr (Xb rfl (dn (sq (sr (Xp w0_0 rfl (ln' A0_0 u50 rfl (Xb rfl (dn (bl (lpI (fun (x2 : Int) e w => ∃ (s : St) (e0 : Env), w = s.w ∧ e = upd (upd (upd (upd e0 0 w0_0) 1 (iI a1)) 7 (iI (a0.length : Int))) 8 (iI x2) ∧ Kp s0 s) ⟨s0, _, rfl, (ue (ue (ue (ue rfl rfl) rfl) rfl) rfl), kp0⟩ (fun g2 ih2 => ?_)))))))))))
 rintro x2 _ _ ⟨s3, _, rfl, rfl, Kx2⟩
 unfold slices_Index_int_int.b0
 refine sr (Xb rfl (dn (sq (cd rfl (fun h4 => ?_) (fun h4 => ?_)))))
 ·
  refine sk (sq (bl (sr (Xb rfl (Xb rfl (dn (sr (Xb rfl (Xp w0_0 rfl (Xb rfl ?_))))))))))
  refine ix' (A0_0.kp Kx2) u50 z3 rfl (fun ad6 es6 h0_6 h1_6 he6 ce6 ia6 => ?_)
  obtain rfl := he6
  refine lc0' ce6 u3 rfl (Xb rfl (dn (cd rfl (fun h8 => ?_) (fun h8 => ?_))))
  ·
   exact sr (Xb rfl (Xb rfl (dn (sgi (re rfl func125 rfl (Xs rfl Xg) rfl ⟨_, rfl, rfl, z.ky Kx2⟩)))))
  exact sk (ib (rg (Xb rfl (Xb rfl (dn (lb ih2 ⟨s3, _, rfl, (ue (ue (ue (ue rfl rfl) rfl) rfl) rfl), Kx2⟩))))))
 exact xt rfl (sgb (sr (Xb rfl (dn (re rfl func125 rfl (Xs rfl Xg) rfl ⟨_, rfl, rfl, z.ky Kx2⟩)))))
def slices_Clone_int_int.f (a0 : (List Int)) : Option ((List Int)) :=
 (if ([] : (List Int)).length + a0.length ≤ Lim then (some (([] : (List Int)) ++ a0)) else none)
def slices_Clone_int_int.Q (w : World) (F : Nat → Prop) (r : (List Int)) (v : Value) (w' : World) : Prop :=
 FO Xy w w' [v] r ∧ Ky [] w w'
theorem slices_Clone_int_int.calls (a0 : (List Int)) (w : World) (F : Nat → Prop) (w0_0 : Value) (h0_0 : Xy.rd w [w0_0] a0 F) (r : (List Int)) (m : slices_Clone_int_int.f a0 = some r) :
  Calls prog 126 #[w0_0] w (RT (slices_Clone_int_int.Q w F) r) := by
 obtain ⟨s0, rfl, kp0, z⟩ := Xi w F
 have A0_0 := z.rd h0_0
 refine Xc (args := [w0_0]) func126 ntmps126 rfl rfl m ?_
 unfold slices_Clone_int_int.f
 refine sr (Xb rfl (dn (sq (sr (Xp w0_0 rfl (nq A0_0 u50 rfl rfl rfl rfl rfl rfl rfl (fun nb2 hn2 => ?_)))))))
 refine dn (cdb rfl (fun h3 => ?_) (fun h3 => ?_))
 ·
  obtain rfl := hn2 h3
  exact mg fun _ => (sr (Xb rfl (dn (re rfl func126 rfl (Xs rfl Xg) rfl ⟨_, rfl, (ow_nil 3 (Kd.int .i64) s0 40).fo kp0 rfl z.l, z.ky kp0⟩))))
 refine sk (sr (lt0 (K := (Kd.int .i64)) 40 u50 z3 rfl rfl rfl rfl rfl (fun v4 s4 p4 A4 => ?_)))
 refine Xp w0_0 rfl ?_
 have K6 := kp0.st p4 rfl
 refine apF Xw sl50 A4 (A0_0.kp K6) rfl rfl rfl rfl rfl rfl rfl (fun v8 s8 p8 A8 => ?_)
 refine asg' v8 rfl (dn ?_)
 have K10 := K6.st p8 rfl
 exact re rfl func126 rfl (Xs rfl Xg) rfl ⟨_, rfl, A8.fo K10 rfl z.l, z.ky K10⟩
def impl_GraphRing.b1 (r8 : (List (List Int))) (r11 : (List Int) × (List Bool)) (x19 : Int × (List Int)) (x45 : Int × Int) : Option ((Int × Int) ⊕ Int) :=
 (if (decide (x45.2 < ((at_ r8 x19.1).length : Int))) = true then (if 0 ≤ x45.2 ∧ x45.2 < ((at_ r8 x19.1).length : Int) then (if 0 ≤ (at_ (at_ r8 x19.1) x45.2) ∧ (at_ (at_ r8 x19.1) x45.2) < (r11.2.length : Int) then (if (!(at_ r11.2 (at_ (at_ r8 x19.1) x45.2))) = true then ((some (at_ (at_ r8 x19.1) x45.2)).bind fun o => some (Sum.inr o)) else (some (Sum.inl (x45.1, (IntKind.wrap .i64 (x45.2 + (1 : Int))))))) else none) else none) else ((some x45.1).bind fun o => some (Sum.inr o)))
def impl_GraphRing.b0 (r8 : (List (List Int))) (r11 : (List Int) × (List Bool)) (x19 : Int × (List Int)) : Option ((Int × (List Int)) ⊕ (List Int)) :=
 ((slices_Index_int_int.f x19.2 x19.1).bind fun r25 => (if (decide (r25 ≥ (0 : Int))) = true then (if 0 ≤ r25 ∧ r25 ≤ (x19.2.length : Int) then ((slices_Clone_int_int.f (x19.2.drop (r25).toNat)).bind fun r31 => (some (Sum.inr r31))) else none) else (if x19.2.length + ([x19.1]).length ≤ Lim then (if 0 ≤ x19.1 ∧ x19.1 < (r8.length : Int) then ((iter (impl_GraphRing.b1 r8 r11 x19) (x19.1, (0 : Int))).bind fun y44 => (some (Sum.inl (y44, (x19.2 ++ [x19.1]))))) else none) else none)))
def impl_GraphRing.f (a0 : (List Deed)) : Option ((List Int)) :=
 ((impl_DeedsOk.f a0).bind fun r2 => (if (!r2) = true then (some ([] : (List Int))) else ((impl_ahead.f a0).bind fun r8 => ((impl_taken.f r8).bind fun r11 => ((slices_Index_bool_bool.f r11.2 false).bind fun r15 => (if (decide (r15 < (0 : Int))) = true then (some ([] : (List Int))) else (iter (impl_GraphRing.b0 r8 r11) (r15, ([] : (List Int))))))))))
def impl_GraphRing.Q (w : World) (F : Nat → Prop) (r : (List Int)) (v : Value) (w' : World) : Prop :=
 FO Xy w w' [v] r ∧ Ky [] w w'
theorem impl_GraphRing.calls (a0 : (List Deed)) (w : World) (F : Nat → Prop) (w0_0 : Value) (h0_0 : Xz.rd w [w0_0] a0 F) (r : (List Int)) (m : impl_GraphRing.f a0 = some r) :
  Calls prog 38 #[w0_0] w (RT (impl_GraphRing.Q w F) r) := by
 obtain ⟨s0, rfl, kp0, z⟩ := Xi w F
 have A0_0 := z.rd h0_0
 refine Xc (args := [w0_0]) func38 ntmps38 rfl rfl m ?_
 unfold impl_GraphRing.f
 refine sr (Xb rfl (dn (sq (sr (Xp w0_0 rfl (clV 40 rfl func36 rfl (impl_DeedsOk.calls a0 s0.w (mm [0] s0) w0_0 A0_0) (fun r2 s3 p3 n3 => ?_)))))))
 refine Xb rfl (dn (cd rfl (fun h4 => ?_) (fun h4 => ?_)))
 ·
  refine sr (Xb rfl (dn ?_))
  have K5 := kp0.st p3 rfl
  exact re rfl func38 rfl (Xs rfl Xg) rfl ⟨_, rfl, (ow_nil 3 (Kd.int .i64) s3 40).fo K5 rfl z.l, z.ky K5⟩
 refine sk (sr (Xp w0_0 rfl ?_))
 have K6 := kp0.st p3 rfl
 refine clO 41 rfl func115 rfl (impl_ahead.calls a0 s3.w (mm [0] s3) w0_0 (A0_0.kp K6)) (fun r8 v8_0 s9 p9 A8_0 => ?_)
 refine asg' v8_0 rfl (dn (sr (Xp v8_0 rfl (cl' rfl func123 rfl (impl_taken.calls r8 s9.w (mm [41] s9) v8_0 A8_0.rd) ?_))))
 rintro r11 _ w11 m11 ⟨v11_0, v11_1, rfl, f11_0, f11_1, ky11⟩
 obtain ⟨s12, rfl, p12, n12⟩ := nwx s9 w11 42 ky11
 have A11_1 := f11_1.c n12
 refine Xb rfl (Xb (v := v11_0) rfl (Xb (v := v11_1) rfl (asg' v11_0 rfl (asg' v11_1 rfl (dn (sr (Xp v11_1 rfl (clV 43 rfl func124 rfl (slices_Index_bool_bool.calls r11.2 false s12.w (mm [42] s12) v11_1 A11_1.rd) (fun r15 s16 p16 n16 => ?_)))))))))
 refine Xb rfl (dn (sq (sr (Xb rfl (Xb rfl (dn (cd rfl (fun h17 => ?_) (fun h17 => ?_))))))))
 ·
  refine sr (Xb rfl (dn ?_))
  have K18 := K6.st (tr3 p9 p12 p16) rfl
  exact re rfl func38 rfl (Xs rfl Xg) rfl ⟨_, rfl, (ow_nil 3 (Kd.int .i64) s16 40).fo K18 rfl z.l, z.ky K18⟩
 refine sk (sr (Xb rfl (dn (bl ?_))))
 refine lpI (fun (x19 : Int × (List Int)) e w => ∃ (s : St) (e0 : Env) (vx19_0 : Value), w = s.w ∧ e = upd (upd (upd (upd e0 3 v8_0) 5 v11_1) 6 (iI x19.1)) 7 vx19_0 ∧ Kp s0 s ∧ OwF Xy s [vx19_0] x19.2 44 ∧ OwF (Kd.sl 50 Xy) s [v8_0] r8 41 ∧ OwF (Kd.sl 4 Kd.bool) s [v11_1] r11.2 42) ⟨s16, _, (.slice none 0 0), rfl, (ue (ue (ue (ue rfl rfl) rfl) rfl) rfl), (K6.st (tr3 p9 p12 p16) rfl), (ow_nil 3 (Kd.int .i64) _ 44), (A8_0.st (Xq p12 p16) rfl), (A11_1.st p16 rfl)⟩ (fun g19 ih19 => ?_)
 rintro x19 _ _ ⟨s23, _, vx19_0, rfl, rfl, Kx19, Ax19_0, Cx19_10, Cx19_14⟩
 unfold impl_GraphRing.b0
 refine bl (sq (sr (Xp vx19_0 rfl (Xb rfl (clV 45 rfl func125 rfl (slices_Index_int_int.calls x19.2 x19.1 s23.w (mm [44] s23) vx19_0 Ax19_0.rd) (fun r25 s26 p26 n26 => ?_))))))
 refine Xb rfl (dn (sr (Xb rfl (Xb rfl (dn (cd rfl (fun h27 => ?_) (fun h27 => ?_)))))))
 ·
  refine sr (Xp vx19_0 rfl (Xb rfl ?_))
  refine sla (Ax19_0.st p26 rfl).rd u50 z3 rfl rfl rfl rfl rfl rfl rfl (fun v29 A29 => ?_)
  refine clO 46 rfl func126 rfl (slices_Clone_int_int.calls (x19.2.drop (r25).toNat) s26.w (mm [44] s26) v29 A29) (fun r31 v31_0 s32 p32 A31_0 => ?_)
  refine asg' v31_0 rfl (dn (sgi ?_))
  have K34 := Kx19.st (Xq p26 p32) rfl
  exact re rfl func38 rfl (Xs rfl Xg) rfl ⟨_, rfl, A31_0.fo K34 rfl z.l, z.ky K34⟩
 refine sk (sr (Xp vx19_0 rfl (Xb rfl (ltF' (K := (Kd.int .i64)) (cells := [(iI x19.1)]) [x19.1] 47 Xw u50 z3 o3 (fun w => (els_flat _ _ _)) rfl (fun v35 s35 p35 A35 => ?_)))))
 refine apF Xw sl50 (Ax19_0.st (Xq p26 p35) rfl) A35.rd rfl rfl rfl rfl rfl rfl rfl (fun v38 s38 p38 A38 => ?_)
 refine asg' v38 rfl (dn (sr (Xp v8_0 rfl (Xb rfl ?_))))
 have A40 := Cx19_10.st (tr3 p26 p35 p38) rfl
 refine ix' A40.rd u147 z50 rfl (fun ad41 es41 h0_41 h1_41 he41 ce41 ia41 => ?_)
 obtain ⟨v41, rfl, he41'⟩ := he41
 have A41 : RdF Xy s38 [v41] (at_ r8 x19.1) [41] := ⟨v41, rfl, he41'⟩
 refine lc0' ce41 u50 rfl (ln' A41 u50 rfl (Xb rfl (dn (jc (fun (y44 : Int) e w => ∃ (s : St) (e0 : Env), w = s.w ∧ e = upd (upd (upd (upd e0 3 v8_0) 5 v11_1) 6 (iI y44)) 7 v38 ∧ Kp s0 s ∧ OwF (Kd.sl 50 Xy) s [v8_0] r8 41 ∧ OwF (Kd.sl 4 Kd.bool) s [v11_1] r11.2 42 ∧ OwF Xy s [v38] (x19.2 ++ [x19.1]) 44) (fun Gj44 Kj44 => ?_) ?_))))
 ·
  refine bl (lpI (fun (x45 : Int × Int) e w => ∃ (s : St) (e0 : Env), w = s.w ∧ e = upd (upd (upd (upd (upd (upd (upd e0 3 v8_0) 5 v11_1) 6 (iI x45.1)) 7 v38) 41 v41) 42 (iI ((at_ r8 x19.1).length : Int))) 43 (iI x45.2) ∧ Kp s0 s ∧ OwF (Kd.sl 50 Xy) s [v8_0] r8 41 ∧ OwF (Kd.sl 4 Kd.bool) s [v11_1] r11.2 42 ∧ OwF Xy s [v38] (x19.2 ++ [x19.1]) 44 ∧ RdF Xy s [v41] (at_ r8 x19.1) [41]) ⟨s38, _, rfl, (ue (ue (ue (ue (ue (ue (ue rfl rfl) rfl) rfl) rfl) rfl) rfl) rfl), (Kx19.st (tr3 p26 p35 p38) rfl), A40, (Cx19_14.st (tr3 p26 p35 p38) rfl), A38, A41⟩ (fun g45 ih45 => ?_))
  rintro x45 _ _ ⟨s48, _, rfl, rfl, Kx45, Cx45_10, Cx45_14, Cx45_39, Cx45_42⟩
  unfold impl_GraphRing.b1
  refine sr (Xb rfl (dn (sq (cd rfl (fun h49 => ?_) (fun h49 => ?_)))))
  ·
   refine sk (sq (bl (sr (ix' Cx45_42 u50 z3 rfl (fun ad50 es50 h0_50 h1_50 he50 ce50 ia50 => ?_)))))
   obtain rfl := he50
   refine lc0' ce50 u3 rfl (Xb rfl (dn (sr (Xp v11_1 rfl (Xb rfl (ix' Cx45_14.rd u156 z4 rfl (fun ad52 es52 h0_52 h1_52 he52 ce52 ia52 => ?_)))))))
   obtain rfl := he52
   refine lc0' ce52 u4 rfl (Xb rfl (dn (cd rfl (fun h54 => ?_) (fun h54 => ?_))))
   ·
    exact sr (Xb rfl (Xb rfl (dn (xt rfl (sgb (Kj44 _ _ _ ⟨s48, _, rfl, (ue (ue (ue (ue rfl rfl) rfl) rfl) rfl), Kx45, Cx45_10, Cx45_14, Cx45_39⟩))))))
   exact sk (ib (rg (Xb rfl (Xb rfl (dn (lb ih45 ⟨s48, _, rfl, (ue (ue (ue (ue (ue (ue (ue rfl rfl) rfl) rfl) rfl) rfl) rfl) rfl), Kx45, Cx45_10, Cx45_14, Cx45_39, Cx45_42⟩))))))
  exact xt rfl (sgb (Kj44 _ _ _ ⟨s48, _, rfl, (ue (ue (ue (ue rfl rfl) rfl) rfl) rfl), Kx45, Cx45_10, Cx45_14, Cx45_39⟩))
 rintro y44 _ _ ⟨s55, _, rfl, rfl, Ky44, Cy44_10, Cy44_14, Cy44_39⟩
 exact ib (lb ih19 ⟨s55, _, v38, rfl, (ue (ue (ue (ue rfl rfl) rfl) rfl) rfl), Ky44, Cy44_39, Cy44_10, Cy44_14⟩)
def spec_l13has.b0 (a0 : (List Item)) (a1 : Item) (x5 : Int) : Option (Int ⊕ Bool) :=
 (if (decide (x5 < (a0.length : Int))) = true then (if 0 ≤ x5 ∧ x5 < (a0.length : Int) then ((spec_ItemCompare.f (at_ a0 x5) a1).bind fun r25 => (if (r25 == (0 : Int)) = true then (some (Sum.inr true)) else (some (Sum.inl (IntKind.wrap .i64 (x5 + (1 : Int))))))) else none) else ((some false).bind fun o => some (Sum.inr o)))
def spec_l13has.f (a0 : (List Item)) (a1 : Item) : Option (Bool) :=
 (iter (spec_l13has.b0 a0 a1) (0 : Int))
def spec_l13has.Q (w : World) (F : Nat → Prop) (r : Bool) (v : Value) (w' : World) : Prop :=
 v = (.bool r) ∧ Ky [] w w'
theorem spec_l13has.calls (a0 : (List Item)) (a1 : Item) (w : World) (F : Nat → Prop) (w0_0 : Value) (w1_0 : Value) (w1_1 : Value) (h0_0 : Ya.rd w [w0_0] a0 F) (h1_0 : Kd.flt.rd w [w1_0] a1.F F) (h1_1 : Xx.rd w [w1_1] a1.T F) (r : Bool) (m : spec_l13has.f a0 a1 = some r) :
  Calls prog 134 #[w0_0, (.agg #[(iI a1.Kind), (iI a1.N), w1_0, w1_1])] w (RT (spec_l13has.Q w F) r) := by
 obtain ⟨s0, rfl, kp0, z⟩ := Xi w F
 have A0_0 := z.rd h0_0
 refine Xc (args := [w0_0, (.agg #[(iI a1.Kind), (iI a1.N), w1_0, w1_1])]) func134 ntmps134 rfl rfl m ?_
 unfold spec_l13has.f
 refine sr (bx' (cs := [(iI a1.Kind), (iI a1.N), w1_0, w1_1]) 40 rfl rfl (fun b3 s3 p3 B3 => ?_))
 refine Xb rfl (dn (sq (sr (Xb rfl (dn (bl ?_))))))
 refine lpI (fun (x5 : Int) e w => ∃ (s : St) (e0 : Env), w = s.w ∧ e = upd (upd (upd e0 0 w0_0) 3 (pB b3)) 5 (iI x5) ∧ Kp s0 s ∧ BlF s b3 29 [(iI a1.Kind), (iI a1.N), w1_0, w1_1] 40) ⟨s3, _, rfl, (ue (ue (ue rfl rfl) rfl) rfl), (kp0.st p3 rfl), B3⟩ (fun g5 ih5 => ?_)
 rintro x5 _ _ ⟨s7, _, rfl, rfl, Kx5, Bx5_b3⟩
 unfold spec_l13has.b0
 refine sq (sr (Xb rfl (Xp w0_0 rfl ?_)))
 refine ln' (A0_0.kp Kx5) u141 rfl (Xb rfl (dn (cd rfl (fun h10 => ?_) (fun h10 => ?_))))
 ·
  refine sk (sq (bl (sq (zdraw [[], [], [0, 1], [2], [], [3, 4], [5]] [some 12, some 13, some 14, some 15, some 16, some 17, some 18] [[0], [5], [12, 13], [14], [3], [15, 16], [17]] [0, 1, 2, 3, 4, 5, 6] ⟨by kernel_rfl, by kernel_rfl, by kernel_rfl⟩ (by kernel_rfl) (fun s11 p11 l11 tb11 zd11 => ?_)))))
  have K14 := Kx5.st p11 rfl
  have A15 := A0_0.kp K14
  refine mg fun hg16 => ?_
  obtain ⟨ad16, es16, he16, ce16, ia16⟩ := ix_e A15 rfl hg16.1 hg16.2
  obtain ⟨v16_0, v16_1, rfl, A16_0, A16_1⟩ := op29 he16
  refine zfin [5, 6] tb11 (((((zd11.add 0 12 w0_0 rfl).add 1 13 (iI x5) rfl).add 2 14 (.pointer (some ad16)) rfl).add 3 15 (.agg #[(iI ((at_ a0 x5).Kind)), (iI ((at_ a0 x5).N)), v16_0, v16_1]) rfl).add 4 16 (.agg #[(iI a1.Kind), (iI a1.N), w1_0, w1_1]) rfl) (Xa (lda_q (es := [(iI a1.Kind), (iI a1.N), w1_0, w1_1]) (Bx5_b3.st p11 rfl) u29 z29 rfl rfl rfl rfl rfl rfl rfl rfl) rfl (Xa (lca_q ce16 u29 z29 rfl rfl rfl rfl rfl rfl rfl) rfl (Xa (Xn A15 u141 z29 hg16.1 hg16.2 ia16 rfl) rfl (Xa (Xd rfl) rfl (Xa (Xl w0_0 rfl) rfl Xh))))) (by kernel_rfl) (by decide) (clV 41 rfl func199 rfl (spec_ItemCompare.calls (at_ a0 x5) a1 s11.w (mm [0] s11) v16_0 v16_1 w1_0 w1_1 ((Xk (s := s11) A16_0).sub (D := [0]) rfl) A16_1 ((Xk (s := s11) (Xu h1_0)).sub (D := [0]) rfl) ((z.rd h1_1).kp K14)) (fun r25 s26 p26 n26 => ?_))
  refine Xb rfl (dn (cd rfl (fun h27 => ?_) (fun h27 => ?_)))
  ·
   refine sr (Xb rfl (dn (sgi ?_)))
   exact re rfl func134 rfl (Xs rfl Xg) rfl ⟨_, rfl, rfl, z.ky (K14.st p26 rfl)⟩
  refine sk (ib (rg (Xb rfl (Xb rfl (Xb rfl (dn ?_))))))
  exact lb ih5 ⟨s26, _, rfl, (ue (ue (ue rfl rfl) rfl) rfl), (K14.st p26 rfl), (Bx5_b3.st (Xq p11 p26) rfl)⟩
 exact xt rfl (sgb (sr (Xb rfl (dn (re rfl func134 rfl (Xs rfl Xg) rfl ⟨_, rfl, rfl, z.ky Kx5⟩)))))
def spec_InSpan.f (a0 : Item) (a1 : Item) (a2 : Item) : Option (Bool) :=
 ((spec_KeyOk.f a0).bind fun r13 => ((if r13 = true then ((spec_KeyOk.f a1).bind fun r19 => (some r19)) else (some false)).bind fun y15 => ((if y15 = true then ((spec_KeyOk.f a2).bind fun r35 => (some r35)) else (some false)).bind fun y33 => ((if y33 = true then ((spec_ItemCompare.f a0 a2).bind fun r48 => (some (decide (r48 ≤ (0 : Int))))) else (some false)).bind fun y45 => ((if y45 = true then ((spec_ItemCompare.f a2 a1).bind fun r59 => (some (decide (r59 ≤ (0 : Int))))) else (some false)).bind fun y56 => (some y56))))))
def spec_InSpan.Q (w : World) (F : Nat → Prop) (r : Bool) (v : Value) (w' : World) : Prop :=
 v = (.bool r) ∧ Ky [] w w'
theorem spec_InSpan.calls (a0 : Item) (a1 : Item) (a2 : Item) (w : World) (F : Nat → Prop) (w0_0 : Value) (w0_1 : Value) (w1_0 : Value) (w1_1 : Value) (w2_0 : Value) (w2_1 : Value) (h0_0 : Kd.flt.rd w [w0_0] a0.F F) (h0_1 : Xx.rd w [w0_1] a0.T F) (h1_0 : Kd.flt.rd w [w1_0] a1.F F) (h1_1 : Xx.rd w [w1_1] a1.T F) (h2_0 : Kd.flt.rd w [w2_0] a2.F F) (h2_1 : Xx.rd w [w2_1] a2.T F) (r : Bool) (m : spec_InSpan.f a0 a1 a2 = some r) :
  Calls prog 216 #[(.agg #[(iI a0.Kind), (iI a0.N), w0_0, w0_1]), (.agg #[(iI a1.Kind), (iI a1.N), w1_0, w1_1]), (.agg #[(iI a2.Kind), (iI a2.N), w2_0, w2_1])] w (RT (spec_InSpan.Q w F) r) := by
 obtain ⟨s0, rfl, kp0, z⟩ := Xi w F
 have A0_0 := Xu h0_0
 have A0_1 := z.rd h0_1
 have A1_0 := Xu h1_0
 have A1_1 := z.rd h1_1
 have A2_0 := Xu h2_0
 have A2_1 := z.rd h2_1
 refine Xc (args := [(.agg #[(iI a0.Kind), (iI a0.N), w0_0, w0_1]), (.agg #[(iI a1.Kind), (iI a1.N), w1_0, w1_1]), (.agg #[(iI a2.Kind), (iI a2.N), w2_0, w2_1])]) func216 ntmps216 rfl rfl m ?_
 unfold spec_InSpan.f
 refine sr (bx' (cs := [(iI a0.Kind), (iI a0.N), w0_0, w0_1]) 40 rfl rfl (fun b4 s4 p4 B4 => ?_))
 refine bx' (cs := [(iI a1.Kind), (iI a1.N), w1_0, w1_1]) 41 rfl rfl (fun b6 s6 p6 B6 => ?_)
 refine bx' (cs := [(iI a2.Kind), (iI a2.N), w2_0, w2_1]) 42 rfl rfl (fun b8 s8 p8 B8 => ?_)
 refine Xb rfl (dn (sr ?_))
 have A10 := B4.st (Xq p6 p8) rfl
 refine lda' (es := [(iI a0.Kind), (iI a0.N), w0_0, w0_1]) A10 u29 z29 rfl ?_
 have K11 := kp0.st (tr3 p4 p6 p8) rfl
 refine clV 43 rfl func26 rfl (spec_KeyOk.calls a0 s8.w (mm [0] s8) w0_0 w0_1 ((Xk (s := s8) A0_0).sub (D := [0]) rfl) (A0_1.kp K11)) (fun r13 s14 p14 n14 => ?_)
 refine Xb rfl (ji [6, 7, 8, 9, 10, 11, 12, 13, 14, 15, 16, 17, 18, 19, 20, 21, 22] (fun (y15 : Bool) e w => ∃ (s : St) (e0 : Env), w = s.w ∧ e = upd (upd (upd (upd e0 3 (pB b4)) 4 (pB b6)) 5 (pB b8)) 12 (.bool y15) ∧ Kp s0 s ∧ BlF s b8 29 [(iI a2.Kind), (iI a2.N), w2_0, w2_1] 42 ∧ BlF s b6 29 [(iI a1.Kind), (iI a1.N), w1_0, w1_1] 41 ∧ BlF s b4 29 [(iI a0.Kind), (iI a0.N), w0_0, w0_1] 40) (fun Gj15 Kj15 => ?_) ?_)
 ·
  rcases bft r13 with hb15 | hb15
  ·
   refine Xv hb15 ?_
   rw [if_pos hb15]
   have A16 := B6.st (Xq p8 p14) rfl
   refine lda' (es := [(iI a1.Kind), (iI a1.N), w1_0, w1_1]) A16 u29 z29 rfl ?_
   have K17 := K11.st p14 rfl
   refine clV 44 rfl func26 rfl (spec_KeyOk.calls a1 s14.w (mm [0] s14) w1_0 w1_1 ((Xk (s := s14) A1_0).sub (D := [0]) rfl) (A1_1.kp K17)) (fun r19 s20 p20 n20 => ?_)
   exact Xb rfl (Kj15 _ _ _ ⟨s20, _, rfl, (ue (ue (ue (ue rfl rfl) rfl) rfl) rfl), (K17.st p20 rfl), (B8.st (Xq p14 p20) rfl), (A16.st p20 rfl), (A10.st (Xq p14 p20) rfl)⟩)
  refine Xv hb15 ?_
  rw [if_neg (by rw [hb15]; decide)]
  refine Xj rfl (Xj rfl (Xb rfl ?_))
  exact Kj15 _ _ _ ⟨s14, _, rfl, (ue (ue (ue (ue rfl rfl) rfl) rfl) rfl), (K11.st p14 rfl), (B8.st p14 rfl), (B6.st (Xq p8 p14) rfl), (A10.st p14 rfl)⟩
 rintro y15 _ _ ⟨s29, _, rfl, rfl, Ky15, By15_b8, By15_b6, By15_b4⟩
 refine Xb rfl (ji [10, 11, 12, 13, 14, 15, 16, 17, 18, 19, 20, 21, 22] (fun (y33 : Bool) e w => ∃ (s : St) (e0 : Env), w = s.w ∧ e = upd (upd (upd (upd e0 3 (pB b4)) 4 (pB b6)) 5 (pB b8)) 16 (.bool y33) ∧ Kp s0 s ∧ BlF s b8 29 [(iI a2.Kind), (iI a2.N), w2_0, w2_1] 42 ∧ BlF s b6 29 [(iI a1.Kind), (iI a1.N), w1_0, w1_1] 41 ∧ BlF s b4 29 [(iI a0.Kind), (iI a0.N), w0_0, w0_1] 40) (fun Gj33 Kj33 => ?_) ?_)
 ·
  rcases bft y15 with hb33 | hb33
  ·
   refine Xv hb33 ?_
   rw [if_pos hb33]
   refine lda' (es := [(iI a2.Kind), (iI a2.N), w2_0, w2_1]) By15_b8 u29 z29 rfl (clV 45 rfl func26 rfl (spec_KeyOk.calls a2 s29.w (mm [0] s29) w2_0 w2_1 ((Xk (s := s29) A2_0).sub (D := [0]) rfl) (A2_1.kp Ky15)) (fun r35 s36 p36 n36 => ?_))
   exact Xb rfl (Kj33 _ _ _ ⟨s36, _, rfl, (ue (ue (ue (ue rfl rfl) rfl) rfl) rfl), (Ky15.st p36 rfl), (By15_b8.st p36 rfl), (By15_b6.st p36 rfl), (By15_b4.st p36 rfl)⟩)
  refine Xv hb33 ?_
  rw [if_neg (by rw [hb33]; decide)]
  exact Xj rfl (Xj rfl (Xb rfl (Kj33 _ _ _ ⟨s29, _, rfl, (ue (ue (ue (ue rfl rfl) rfl) rfl) rfl), Ky15, By15_b8, By15_b6, By15_b4⟩)))
 rintro y33 _ _ ⟨s41, _, rfl, rfl, Ky33, By33_b8, By33_b6, By33_b4⟩
 refine Xb rfl (ji [16, 17, 18, 19, 20, 21, 22] (fun (y45 : Bool) e w => ∃ (s : St) (e0 : Env), w = s.w ∧ e = upd (upd (upd e0 4 (pB b6)) 5 (pB b8)) 22 (.bool y45) ∧ Kp s0 s ∧ BlF s b8 29 [(iI a2.Kind), (iI a2.N), w2_0, w2_1] 42 ∧ BlF s b6 29 [(iI a1.Kind), (iI a1.N), w1_0, w1_1] 41) (fun Gj45 Kj45 => ?_) ?_)
 ·
  rcases bft y33 with hb45 | hb45
  ·
   refine Xv hb45 ?_
   rw [if_pos hb45]
   refine lda' (es := [(iI a0.Kind), (iI a0.N), w0_0, w0_1]) By33_b4 u29 z29 rfl (lda' (es := [(iI a2.Kind), (iI a2.N), w2_0, w2_1]) By33_b8 u29 z29 rfl ?_)
   refine clV 46 rfl func199 rfl (spec_ItemCompare.calls a0 a2 s41.w (mm [0] s41) w0_0 w0_1 w2_0 w2_1 ((Xk (s := s41) A0_0).sub (D := [0]) rfl) (A0_1.kp Ky33) ((Xk (s := s41) A2_0).sub (D := [0]) rfl) (A2_1.kp Ky33)) (fun r48 s49 p49 n49 => ?_)
   refine Xb rfl (Xb rfl ?_)
   exact Kj45 _ _ _ ⟨s49, _, rfl, (ue (ue (ue rfl rfl) rfl) rfl), (Ky33.st p49 rfl), (By33_b8.st p49 rfl), (By33_b6.st p49 rfl)⟩
  refine Xv hb45 ?_
  rw [if_neg (by rw [hb45]; decide)]
  exact Xj rfl (Xj rfl (Xj rfl (Xj rfl (Xb rfl (Kj45 _ _ _ ⟨s41, _, rfl, (ue (ue (ue rfl rfl) rfl) rfl), Ky33, By33_b8, By33_b6⟩)))))
 rintro y45 _ _ ⟨s53, _, rfl, rfl, Ky45, By45_b8, By45_b6⟩
 refine Xb rfl (ji [22] (fun (y56 : Bool) e w => ∃ (s : St) (e0 : Env), w = s.w ∧ e = upd e0 28 (.bool y56) ∧ Kp s0 s) (fun Gj56 Kj56 => ?_) ?_)
 ·
  rcases bft y45 with hb56 | hb56
  ·
   refine Xv hb56 ?_
   rw [if_pos hb56]
   refine lda' (es := [(iI a2.Kind), (iI a2.N), w2_0, w2_1]) By45_b8 u29 z29 rfl (lda' (es := [(iI a1.Kind), (iI a1.N), w1_0, w1_1]) By45_b6 u29 z29 rfl ?_)
   refine clV 47 rfl func199 rfl (spec_ItemCompare.calls a2 a1 s53.w (mm [0] s53) w2_0 w2_1 w1_0 w1_1 ((Xk (s := s53) A2_0).sub (D := [0]) rfl) (A2_1.kp Ky45) ((Xk (s := s53) A1_0).sub (D := [0]) rfl) (A1_1.kp Ky45)) (fun r59 s60 p60 n60 => ?_)
   refine Xb rfl (Xb rfl ?_)
   exact Kj56 _ _ _ ⟨s60, _, rfl, (ue rfl rfl), (Ky45.st p60 rfl)⟩
  refine Xv hb56 ?_
  rw [if_neg (by rw [hb56]; decide)]
  exact Xj rfl (Xj rfl (Xj rfl (Xj rfl (Xb rfl (Kj56 _ _ _ ⟨s53, _, rfl, (ue rfl rfl), Ky45⟩)))))
 rintro y56 _ _ ⟨s62, _, rfl, rfl, Ky56⟩
 exact Xb rfl (dn (re rfl func216 rfl (Xs rfl Xg) rfl ⟨_, rfl, rfl, z.ky Ky56⟩))
def spec_l14reads.b0 (a0 : Deed) (a1 : Item) (x8 : Int) : Option (Int ⊕ Bool) :=
 (if (decide (x8 < (a0.Reads.length : Int))) = true then (if 0 ≤ x8 ∧ x8 < (a0.Reads.length : Int) then (if 0 ≤ x8 ∧ x8 < (a0.Reads.length : Int) then ((spec_InSpan.f ((at_ a0.Reads x8).From) ((at_ a0.Reads x8).To) a1).bind fun r47 => (if r47 = true then (some (Sum.inr true)) else (some (Sum.inl (IntKind.wrap .i64 (x8 + (1 : Int))))))) else none) else none) else ((some false).bind fun o => some (Sum.inr o)))
def spec_l14reads.f (a0 : Deed) (a1 : Item) : Option (Bool) :=
 (iter (spec_l14reads.b0 a0 a1) (0 : Int))
def spec_l14reads.Q (w : World) (F : Nat → Prop) (r : Bool) (v : Value) (w' : World) : Prop :=
 v = (.bool r) ∧ Ky [] w w'
theorem spec_l14reads.calls (a0 : Deed) (a1 : Item) (w : World) (F : Nat → Prop) (w0_0 : Value) (w0_1 : Value) (w1_0 : Value) (w1_1 : Value) (h0_0 : Yb.rd w [w0_0] a0.Reads F) (h0_1 : Ya.rd w [w0_1] a0.Writes F) (h1_0 : Kd.flt.rd w [w1_0] a1.F F) (h1_1 : Xx.rd w [w1_1] a1.T F) (r : Bool) (m : spec_l14reads.f a0 a1 = some r) :
  Calls prog 133 #[(.agg #[(iI a0.Xid), (iI a0.Begun), (iI a0.Ended), w0_0, w0_1]), (.agg #[(iI a1.Kind), (iI a1.N), w1_0, w1_1])] w (RT (spec_l14reads.Q w F) r) := by
 obtain ⟨s0, rfl, kp0, z⟩ := Xi w F
 have A0_0 := z.rd h0_0
 refine Xc (args := [(.agg #[(iI a0.Xid), (iI a0.Begun), (iI a0.Ended), w0_0, w0_1]), (.agg #[(iI a1.Kind), (iI a1.N), w1_0, w1_1])]) func133 ntmps133 rfl rfl m ?_
 unfold spec_l14reads.f
 refine sr (bx' (cs := [(iI a0.Xid), (iI a0.Begun), (iI a0.Ended), w0_0, w0_1]) 40 rfl rfl (fun b4 s4 p4 B4 => ?_))
 refine bx' (cs := [(iI a1.Kind), (iI a1.N), w1_0, w1_1]) 41 rfl rfl (fun b6 s6 p6 B6 => ?_)
 refine Xb rfl (dn (sq (sr (Xb rfl (dn (bl ?_))))))
 refine lpI (fun (x8 : Int) e w => ∃ (s : St) (e0 : Env), w = s.w ∧ e = upd (upd (upd e0 2 (pB b4)) 3 (pB b6)) 5 (iI x8) ∧ Kp s0 s ∧ BlF s b6 29 [(iI a1.Kind), (iI a1.N), w1_0, w1_1] 41 ∧ BlF s b4 143 [(iI a0.Xid), (iI a0.Begun), (iI a0.Ended), w0_0, w0_1] 40) ⟨s6, _, rfl, (ue (ue (ue rfl rfl) rfl) rfl), (kp0.st (Xq p4 p6) rfl), B6, (B4.st p6 rfl)⟩ (fun g8 ih8 => ?_)
 rintro x8 _ _ ⟨s11, _, rfl, rfl, Kx8, Bx8_b6, Bx8_b4⟩
 unfold spec_l14reads.b0
 refine sq (sr (Xb rfl (fa' fa143_3 rfl (ld' Bx8_b4 u140 rfl ?_))))
 refine ln' (A0_0.kp Kx8) u140 rfl (Xb rfl (dn (cd rfl (fun h15 => ?_) (fun h15 => ?_))))
 ·
  refine sk (sq (bl (sq (zdraw [[], [0], [], [1, 2], [3], [4], [], [6], [], [7, 8], [9], [10], [], [5, 11, 12]] [some 13, some 14, some 15, some 16, some 17, some 18, some 19, some 20, some 21, some 22, some 23, some 24, some 25, some 26] [[2], [13], [5], [14, 15], [16], [17], [2], [19], [5], [20, 21], [22], [23], [3], [18, 24, 25]] [0, 1, 2, 3, 4, 5, 6, 7, 8, 9, 10, 11, 12, 13] ⟨by kernel_rfl, by kernel_rfl, by kernel_rfl⟩ (by kernel_rfl) (fun s16 p16 l16 tb16 zd16 => ?_)))))
  have K21 := Kx8.st p16 rfl
  have A22 := A0_0.kp K21
  refine mg fun hg23 => ?_
  obtain ⟨ad23, es23, he23, ce23, ia23⟩ := ix_e A22 rfl hg23.1 hg23.2
  obtain ⟨v23_0, v23_1, v23_2, v23_3, rfl, A23_0, A23_1, A23_2, A23_3⟩ := op146 he23
  have zd29 := (((((zd16.add 0 13 (pO b4 3) rfl).add 1 14 w0_0 rfl).add 2 15 (iI x8) rfl).add 3 16 (.pointer (some ad23)) rfl).add 4 17 (.pointer (some ad23)) rfl).add 5 18 (.agg #[(iI (((at_ a0.Reads x8).From).Kind)), (iI (((at_ a0.Reads x8).From).N)), v23_0, v23_1]) rfl
  refine mg fun hg34 => ?_
  obtain ⟨ad34, es34, he34, ce34, ia34⟩ := ix_e A22 rfl hg34.1 hg34.2
  obtain ⟨v34_0, v34_1, v34_2, v34_3, rfl, A34_0, A34_1, A34_2, A34_3⟩ := op146 he34
  refine zfin [13] tb16 (((((((zd29.add 6 19 (pO b4 3) rfl).add 7 20 w0_0 rfl).add 8 21 (iI x8) rfl).add 9 22 (.pointer (some ad34)) rfl).add 10 23 (.pointer (some (ad34.add 4))) rfl).add 11 24 (.agg #[(iI (((at_ a0.Reads x8).To).Kind)), (iI (((at_ a0.Reads x8).To).N)), v34_2, v34_3]) rfl).add 12 25 (.agg #[(iI a1.Kind), (iI a1.N), w1_0, w1_1]) rfl) (Xa (lda_q (es := [(iI a1.Kind), (iI a1.N), w1_0, w1_1]) (Bx8_b6.st p16 rfl) u29 z29 rfl rfl rfl rfl rfl rfl rfl rfl) rfl (Xa (lcq_q (q := 4) (es' := [(iI (((at_ a0.Reads x8).To).Kind)), (iI (((at_ a0.Reads x8).To).N)), v34_2, v34_3]) ce34 u29 z29 rfl rfl rfl rfl rfl rfl rfl rfl) rfl (Xa (Xm fa146_1 rfl) rfl (Xa (Xn A22 u140 z146 hg34.1 hg34.2 ia34 rfl) rfl (Xa (Xd rfl) rfl (Xa (Xr (Bx8_b4.st p16 rfl) u140 rfl) rfl (Xa (Xm fa143_3 rfl) rfl (Xa (lcq_q (q := 0) (es' := [(iI (((at_ a0.Reads x8).From).Kind)), (iI (((at_ a0.Reads x8).From).N)), v23_0, v23_1]) ce23 u29 z29 rfl rfl rfl rfl rfl rfl rfl rfl) rfl (Xa (Xm fa146_0 rfl) rfl (Xa (Xn A22 u140 z146 hg23.1 hg23.2 ia23 rfl) rfl (Xa (Xd rfl) rfl (Xa (Xr (Bx8_b4.st p16 rfl) u140 rfl) rfl (Xa (Xm fa143_3 rfl) rfl Xh))))))))))))) (by kernel_rfl) (by decide) (clV 42 rfl func216 rfl (spec_InSpan.calls ((at_ a0.Reads x8).From) ((at_ a0.Reads x8).To) a1 s16.w (mm [0] s16) v23_0 v23_1 v34_2 v34_3 w1_0 w1_1 ((Xk (s := s16) A23_0).sub (D := [0]) rfl) A23_1 ((Xk (s := s16) A34_2).sub (D := [0]) rfl) A34_3 ((Xk (s := s16) (Xu h1_0)).sub (D := [0]) rfl) ((z.rd h1_1).kp K21)) (fun r47 s48 p48 n48 => ?_))
  refine dn (cd rfl (fun h49 => ?_) (fun h49 => ?_))
  ·
   refine sr (Xb rfl (dn (sgi ?_)))
   exact re rfl func133 rfl (Xs rfl Xg) rfl ⟨_, rfl, rfl, z.ky (K21.st p48 rfl)⟩
  refine sk (ib (rg (Xb rfl (Xb rfl (Xb rfl (dn ?_))))))
  exact lb ih8 ⟨s48, _, rfl, (ue (ue (ue rfl rfl) rfl) rfl), (K21.st p48 rfl), (Bx8_b6.st (Xq p16 p48) rfl), (Bx8_b4.st (Xq p16 p48) rfl)⟩
 exact xt rfl (sgb (sr (Xb rfl (dn (re rfl func133 rfl (Xs rfl Xg) rfl ⟨_, rfl, rfl, z.ky Kx8⟩)))))
def spec_l14edge.b1 (a0 : Deed) (a1 : Deed) (x116 : Int) : Option (Int ⊕ Bool) :=
 (if (decide (x116 < (a1.Writes.length : Int))) = true then ((if (decide (a1.Ended > a0.Begun)) = true then (if 0 ≤ x116 ∧ x116 < (a1.Writes.length : Int) then ((spec_l14reads.f a0 (at_ a1.Writes x116)).bind fun r151 => (some r151)) else none) else (some false)).bind fun y131 => (if y131 = true then (some (Sum.inr true)) else (some (Sum.inl (IntKind.wrap .i64 (x116 + (1 : Int))))))) else ((some false).bind fun o => some (Sum.inr o)))
def spec_l14edge.b0 (a0 : Deed) (a1 : Deed) (x9 : Int) : Option (Int ⊕ Bool) :=
 (if (decide (x9 < (a0.Writes.length : Int))) = true then ((if (decide (a0.Ended < a1.Ended)) = true then (if 0 ≤ x9 ∧ x9 < (a0.Writes.length : Int) then ((spec_l13has.f a1.Writes (at_ a0.Writes x9)).bind fun r46 => (some r46)) else none) else (some false)).bind fun y26 => (if y26 = true then (some (Sum.inr true)) else ((if (decide (a0.Ended < a1.Begun)) = true then (if 0 ≤ x9 ∧ x9 < (a0.Writes.length : Int) then ((spec_l14reads.f a1 (at_ a0.Writes x9)).bind fun r96 => (some r96)) else none) else (some false)).bind fun y76 => (if y76 = true then (some (Sum.inr true)) else (some (Sum.inl (IntKind.wrap .i64 (x9 + (1 : Int))))))))) else ((iter (spec_l14edge.b1 a0 a1) (0 : Int)).bind fun o => some (Sum.inr o)))
def spec_l14edge.f (a0 : Deed) (a1 : Deed) : Option (Bool) :=
 (iter (spec_l14edge.b0 a0 a1) (0 : Int))
def spec_l14edge.Q (w : World) (F : Nat → Prop) (r : Bool) (v : Value) (w' : World) : Prop :=
 v = (.bool r) ∧ Ky [] w w'
theorem spec_l14edge.calls (a0 : Deed) (a1 : Deed) (w : World) (F : Nat → Prop) (w0_0 : Value) (w0_1 : Value) (w1_0 : Value) (w1_1 : Value) (h0_0 : Yb.rd w [w0_0] a0.Reads F) (h0_1 : Ya.rd w [w0_1] a0.Writes F) (h1_0 : Yb.rd w [w1_0] a1.Reads F) (h1_1 : Ya.rd w [w1_1] a1.Writes F) (r : Bool) (m : spec_l14edge.f a0 a1 = some r) :
  Calls prog 127 #[(.agg #[(iI a0.Xid), (iI a0.Begun), (iI a0.Ended), w0_0, w0_1]), (.agg #[(iI a1.Xid), (iI a1.Begun), (iI a1.Ended), w1_0, w1_1])] w (RT (spec_l14edge.Q w F) r) := by
 obtain ⟨s0, rfl, kp0, z⟩ := Xi w F
 have A0_0 := z.rd h0_0
 have A0_1 := z.rd h0_1
 have A1_0 := z.rd h1_0
 have A1_1 := z.rd h1_1
 refine Xc (args := [(.agg #[(iI a0.Xid), (iI a0.Begun), (iI a0.Ended), w0_0, w0_1]), (.agg #[(iI a1.Xid), (iI a1.Begun), (iI a1.Ended), w1_0, w1_1])]) func127 ntmps127 rfl rfl m ?_
 unfold spec_l14edge.f
 refine sr (bx' (cs := [(iI a0.Xid), (iI a0.Begun), (iI a0.Ended), w0_0, w0_1]) 40 rfl rfl (fun b5 s5 p5 B5 => ?_))
 refine bx' (cs := [(iI a1.Xid), (iI a1.Begun), (iI a1.Ended), w1_0, w1_1]) 41 rfl rfl (fun b7 s7 p7 B7 => ?_)
 refine Xb rfl (dn (sq (sr (Xb rfl (dn (bl ?_))))))
 refine lpI (fun (x9 : Int) e w => ∃ (s : St) (e0 : Env), w = s.w ∧ e = upd (upd (upd e0 2 (pB b5)) 3 (pB b7)) 5 (iI x9) ∧ Kp s0 s ∧ BlF s b7 143 [(iI a1.Xid), (iI a1.Begun), (iI a1.Ended), w1_0, w1_1] 41 ∧ BlF s b5 143 [(iI a0.Xid), (iI a0.Begun), (iI a0.Ended), w0_0, w0_1] 40) ⟨s7, _, rfl, (ue (ue (ue rfl rfl) rfl) rfl), (kp0.st (Xq p5 p7) rfl), B7, (B5.st p7 rfl)⟩ (fun g9 ih9 => ?_)
 rintro x9 _ _ ⟨s12, _, rfl, rfl, Kx9, Bx9_b7, Bx9_b5⟩
 unfold spec_l14edge.b0
 refine sq (sr (Xb rfl (fa' fa143_4 rfl (ld' Bx9_b5 u141 rfl ?_))))
 refine ln' (A0_1.kp Kx9) u141 rfl (Xb rfl (dn (cd rfl (fun h16 => ?_) (fun h16 => ?_))))
 ·
  refine sk (sq (bl (sq (sq (zdraw [[], [0], [], [2], [1, 3], [4], [5], [6, 5], [5], [8, 5], [5], [9, 10, 5], [11, 5], [7, 12, 5, 5], [5, 13]] [some 14, some 15, some 16, some 17, some 18, some 19, some 20, some 21, some 22, some 23, some 24, some 25, some 26, some 27, some 28] [[2], [14], [3], [16], [15, 17], [18], [3, 19], [20, 19], [2, 19], [22, 19], [5, 19], [23, 24, 19], [25, 19], [21, 26, 19], [19, 27]] [0, 1, 2, 3, 4, 5, 6, 7, 8, 9, 10, 11, 12, 13, 14] ⟨by kernel_rfl, by kernel_rfl, by kernel_rfl⟩ (by kernel_rfl) (fun s17 p17 l17 tb17 zd17 => ?_))))))
  have zd25 := (((((zd17.add 0 14 (pO b5 2) rfl).add 1 15 (iI a0.Ended) rfl).add 2 16 (pO b7 2) rfl).add 3 17 (iI a1.Ended) rfl).add 4 18 (.bool (decide (a0.Ended < a1.Ended))) rfl).add 5 19 (.bool (decide (a0.Ended < a1.Ended))) rfl
  refine ji [] (fun (y26 : Bool) e w => ∃ (s : St) (e0 : Env), w = s.w ∧ e = upd (upd (upd (upd e0 2 (pB b5)) 3 (pB b7)) 5 (iI x9)) 28 (.bool y26) ∧ Kp s0 s ∧ BlF s b7 143 [(iI a1.Xid), (iI a1.Begun), (iI a1.Ended), w1_0, w1_1] 41 ∧ BlF s b5 143 [(iI a0.Xid), (iI a0.Begun), (iI a0.Ended), w0_0, w0_1] 40) (fun Gj26 Kj26 => ?_) ?_
  ·
   rcases bft (decide (a0.Ended < a1.Ended)) with hb26 | hb26
   ·
    rw [if_pos hb26]
    rw [hb26] at zd25
    try rw [hb26]
    have K34 := Kx9.st p17 rfl
    have A35 := A0_1.kp K34
    refine mg fun hg36 => ?_
    obtain ⟨ad36, es36, he36, ce36, ia36⟩ := ix_e A35 rfl hg36.1 hg36.2
    obtain ⟨v36_0, v36_1, rfl, A36_0, A36_1⟩ := op29 he36
    refine zfin [13, 14] tb17 (((((((zd25.add 6 20 (pO b7 4) rfl).add 7 21 w1_1 rfl).add 8 22 (pO b5 4) rfl).add 9 23 w0_1 rfl).add 10 24 (iI x9) rfl).add 11 25 (.pointer (some ad36)) rfl).add 12 26 (.agg #[(iI ((at_ a0.Writes x9).Kind)), (iI ((at_ a0.Writes x9).N)), v36_0, v36_1]) rfl) (Xa (lca_q ce36 u29 z29 rfl rfl rfl rfl rfl rfl rfl) rfl (Xa (Xn A35 u141 z29 hg36.1 hg36.2 ia36 rfl) rfl (Xa (Xd rfl) rfl (Xa (Xr (Bx9_b5.st p17 rfl) u141 rfl) rfl (Xa (Xm fa143_4 rfl) rfl (Xa (Xr (Bx9_b7.st p17 rfl) u141 rfl) rfl (Xa (Xm fa143_4 rfl) rfl (Xa (Xd rfl) rfl (Xa (qv_b (Xd rfl) hb26) rfl (Xa (Xr (Bx9_b7.st p17 rfl) u3 rfl) rfl (Xa (Xm fa143_2 rfl) rfl (Xa (Xr (Bx9_b5.st p17 rfl) u3 rfl) rfl (Xa (Xm fa143_2 rfl) rfl Xh))))))))))))) (by kernel_rfl) (by decide) (clV 42 rfl func134 rfl (spec_l13has.calls a1.Writes (at_ a0.Writes x9) s17.w (mm [0] s17) w1_1 v36_0 v36_1 (A1_1.kp K34) ((Xk (s := s17) A36_0).sub (D := [0]) rfl) A36_1) (fun r46 s47 p47 n47 => ?_))
    exact Xb rfl (Kj26 _ _ _ ⟨s47, _, rfl, (ue (ue (ue (ue rfl rfl) rfl) rfl) rfl), (K34.st p47 rfl), (Bx9_b7.st (Xq p17 p47) rfl), (Bx9_b5.st (Xq p17 p47) rfl)⟩)
   rw [if_neg (by rw [hb26]; decide)]
   rw [hb26] at zd25
   try rw [hb26]
   refine zfin [13, 14] tb17 (((((((zd25.add 6 20 undef rfl).add 7 21 undef rfl).add 8 22 undef rfl).add 9 23 undef rfl).add 10 24 undef rfl).add 11 25 undef rfl).add 12 26 undef rfl) (Xa (Xf rfl) rfl (Xa (Xf rfl) rfl (Xa (Xf rfl) rfl (Xa (Xf rfl) rfl (Xa (Xf rfl) rfl (Xa (Xf rfl) rfl (Xa (Xf rfl) rfl (Xa (Xd rfl) rfl (Xa (qv_b (Xd rfl) hb26) rfl (Xa (Xr (Bx9_b7.st p17 rfl) u3 rfl) rfl (Xa (Xm fa143_2 rfl) rfl (Xa (Xr (Bx9_b5.st p17 rfl) u3 rfl) rfl (Xa (Xm fa143_2 rfl) rfl Xh))))))))))))) (by kernel_rfl) (by decide) (Xj rfl (Xb rfl ?_))
   exact Kj26 _ _ _ ⟨s17, _, rfl, (ue (ue (ue (ue rfl rfl) rfl) rfl) rfl), (Kx9.st p17 rfl), (Bx9_b7.st p17 rfl), (Bx9_b5.st p17 rfl)⟩
  rintro y26 _ _ ⟨s63, _, rfl, rfl, Ky26, By26_b7, By26_b5⟩
  refine dn (cd rfl (fun h66 => ?_) (fun h66 => ?_))
  ·
   exact sr (Xb rfl (dn (sgi (re rfl func127 rfl (Xs rfl Xg) rfl ⟨_, rfl, rfl, z.ky Ky26⟩))))
  refine sk (sq (zdraw [[], [0], [], [2], [1, 3], [4], [5], [5], [7, 5], [5], [8, 9, 5], [10, 5], [6, 11, 5, 5], [5, 12]] [some 29, some 30, some 31, some 32, some 33, some 34, some 35, some 36, some 37, some 38, some 39, some 40, some 41, some 42] [[2], [29], [3], [31], [30, 32], [33], [3, 34], [2, 34], [36, 34], [5, 34], [37, 38, 34], [39, 34], [35, 40, 34], [34, 41]] [0, 1, 2, 3, 4, 5, 6, 7, 8, 9, 10, 11, 12, 13] ⟨by kernel_rfl, by kernel_rfl, by kernel_rfl⟩ (by kernel_rfl) (fun s67 p67 l67 tb67 zd67 => ?_)))
  have zd75 := (((((zd67.add 0 29 (pO b5 2) rfl).add 1 30 (iI a0.Ended) rfl).add 2 31 (pO b7 1) rfl).add 3 32 (iI a1.Begun) rfl).add 4 33 (.bool (decide (a0.Ended < a1.Begun))) rfl).add 5 34 (.bool (decide (a0.Ended < a1.Begun))) rfl
  refine ji [] (fun (y76 : Bool) e w => ∃ (s : St) (e0 : Env), w = s.w ∧ e = upd (upd (upd (upd e0 2 (pB b5)) 3 (pB b7)) 5 (iI x9)) 42 (.bool y76) ∧ Kp s0 s ∧ BlF s b7 143 [(iI a1.Xid), (iI a1.Begun), (iI a1.Ended), w1_0, w1_1] 41 ∧ BlF s b5 143 [(iI a0.Xid), (iI a0.Begun), (iI a0.Ended), w0_0, w0_1] 40) (fun Gj76 Kj76 => ?_) ?_
  ·
   rcases bft (decide (a0.Ended < a1.Begun)) with hb76 | hb76
   ·
    rw [if_pos hb76]
    rw [hb76] at zd75
    try rw [hb76]
    have K83 := Ky26.st p67 rfl
    have A84 := A0_1.kp K83
    refine mg fun hg85 => ?_
    obtain ⟨ad85, es85, he85, ce85, ia85⟩ := ix_e A84 rfl hg85.1 hg85.2
    obtain ⟨v85_0, v85_1, rfl, A85_0, A85_1⟩ := op29 he85
    refine zfin [12, 13] tb67 ((((((zd75.add 6 35 (.agg #[(iI a1.Xid), (iI a1.Begun), (iI a1.Ended), w1_0, w1_1]) rfl).add 7 36 (pO b5 4) rfl).add 8 37 w0_1 rfl).add 9 38 (iI x9) rfl).add 10 39 (.pointer (some ad85)) rfl).add 11 40 (.agg #[(iI ((at_ a0.Writes x9).Kind)), (iI ((at_ a0.Writes x9).N)), v85_0, v85_1]) rfl) (Xa (lca_q ce85 u29 z29 rfl rfl rfl rfl rfl rfl rfl) rfl (Xa (Xn A84 u141 z29 hg85.1 hg85.2 ia85 rfl) rfl (Xa (Xd rfl) rfl (Xa (Xr (By26_b5.st p67 rfl) u141 rfl) rfl (Xa (Xm fa143_4 rfl) rfl (Xa (lda_q (es := [(iI a1.Xid), (iI a1.Begun), (iI a1.Ended), w1_0, w1_1]) (By26_b7.st p67 rfl) u143 z143 rfl rfl rfl rfl rfl rfl rfl rfl) rfl (Xa (Xd rfl) rfl (Xa (qv_b (Xd rfl) hb76) rfl (Xa (Xr (By26_b7.st p67 rfl) u3 rfl) rfl (Xa (Xm fa143_1 rfl) rfl (Xa (Xr (By26_b5.st p67 rfl) u3 rfl) rfl (Xa (Xm fa143_2 rfl) rfl Xh)))))))))))) (by kernel_rfl) (by decide) (clV 43 rfl func133 rfl (spec_l14reads.calls a1 (at_ a0.Writes x9) s67.w (mm [0] s67) w1_0 w1_1 v85_0 v85_1 (A1_0.kp K83) (A1_1.kp K83) ((Xk (s := s67) A85_0).sub (D := [0]) rfl) A85_1) (fun r96 s97 p97 n97 => ?_))
    exact Xb rfl (Kj76 _ _ _ ⟨s97, _, rfl, (ue (ue (ue (ue rfl rfl) rfl) rfl) rfl), (K83.st p97 rfl), (By26_b7.st (Xq p67 p97) rfl), (By26_b5.st (Xq p67 p97) rfl)⟩)
   rw [if_neg (by rw [hb76]; decide)]
   rw [hb76] at zd75
   try rw [hb76]
   refine zfin [12, 13] tb67 ((((((zd75.add 6 35 undef rfl).add 7 36 undef rfl).add 8 37 undef rfl).add 9 38 undef rfl).add 10 39 undef rfl).add 11 40 undef rfl) (Xa (Xf rfl) rfl (Xa (Xf rfl) rfl (Xa (Xf rfl) rfl (Xa (Xf rfl) rfl (Xa (Xf rfl) rfl (Xa (Xf rfl) rfl (Xa (Xd rfl) rfl (Xa (qv_b (Xd rfl) hb76) rfl (Xa (Xr (By26_b7.st p67 rfl) u3 rfl) rfl (Xa (Xm fa143_1 rfl) rfl (Xa (Xr (By26_b5.st p67 rfl) u3 rfl) rfl (Xa (Xm fa143_2 rfl) rfl Xh)))))))))))) (by kernel_rfl) (by decide) (Xj rfl (Xb rfl ?_))
   exact Kj76 _ _ _ ⟨s67, _, rfl, (ue (ue (ue (ue rfl rfl) rfl) rfl) rfl), (Ky26.st p67 rfl), (By26_b7.st p67 rfl), (By26_b5.st p67 rfl)⟩
  rintro y76 _ _ ⟨s112, _, rfl, rfl, Ky76, By76_b7, By76_b5⟩
  refine dn (cd rfl (fun h115 => ?_) (fun h115 => ?_))
  ·
   exact sr (Xb rfl (dn (sgi (re rfl func127 rfl (Xs rfl Xg) rfl ⟨_, rfl, rfl, z.ky Ky76⟩))))
  exact sk (ib (rg (Xb rfl (Xb rfl (Xb rfl (dn (lb ih9 ⟨s112, _, rfl, (ue (ue (ue rfl rfl) rfl) rfl), Ky76, By76_b7, By76_b5⟩)))))))
 refine xt rfl (sgb (sq (sr (Xb rfl (dn (bl (lpI (fun (x116 : Int) e w => ∃ (s : St) (e0 : Env), w = s.w ∧ e = upd (upd (upd e0 2 (pB b5)) 3 (pB b7)) 6 (iI x116) ∧ Kp s0 s ∧ BlF s b7 143 [(iI a1.Xid), (iI a1.Begun), (iI a1.Ended), w1_0, w1_1] 41 ∧ BlF s b5 143 [(iI a0.Xid), (iI a0.Begun), (iI a0.Ended), w0_0, w0_1] 40) ⟨s12, _, rfl, (ue (ue (ue rfl rfl) rfl) rfl), Kx9, Bx9_b7, Bx9_b5⟩ (fun g116 ih116 => ?_))))))))
 rintro x116 _ _ ⟨s117, _, rfl, rfl, Kx116, Bx116_b7, Bx116_b5⟩
 unfold spec_l14edge.b1
 refine sq (sr (Xb rfl (fa' fa143_4 rfl (ld' Bx116_b7 u141 rfl ?_))))
 refine ln' (A1_1.kp Kx116) u141 rfl (Xb rfl (dn (cd rfl (fun h121 => ?_) (fun h121 => ?_))))
 ·
  refine sk (sq (bl (sq (zdraw [[], [0], [], [2], [1, 3], [4], [5], [5], [7, 5], [5], [8, 9, 5], [10, 5], [6, 11, 5, 5], [5, 12]] [some 50, some 51, some 52, some 53, some 54, some 55, some 56, some 57, some 58, some 59, some 60, some 61, some 62, some 63] [[3], [50], [2], [52], [51, 53], [54], [2, 55], [3, 55], [57, 55], [6, 55], [58, 59, 55], [60, 55], [56, 61, 55], [55, 62]] [0, 1, 2, 3, 4, 5, 6, 7, 8, 9, 10, 11, 12, 13] ⟨by kernel_rfl, by kernel_rfl, by kernel_rfl⟩ (by kernel_rfl) (fun s122 p122 l122 tb122 zd122 => ?_)))))
  have zd130 := (((((zd122.add 0 50 (pO b7 2) rfl).add 1 51 (iI a1.Ended) rfl).add 2 52 (pO b5 1) rfl).add 3 53 (iI a0.Begun) rfl).add 4 54 (.bool (decide (a1.Ended > a0.Begun))) rfl).add 5 55 (.bool (decide (a1.Ended > a0.Begun))) rfl
  refine ji [] (fun (y131 : Bool) e w => ∃ (s : St) (e0 : Env), w = s.w ∧ e = upd (upd (upd (upd e0 2 (pB b5)) 3 (pB b7)) 6 (iI x116)) 63 (.bool y131) ∧ Kp s0 s ∧ BlF s b7 143 [(iI a1.Xid), (iI a1.Begun), (iI a1.Ended), w1_0, w1_1] 41 ∧ BlF s b5 143 [(iI a0.Xid), (iI a0.Begun), (iI a0.Ended), w0_0, w0_1] 40) (fun Gj131 Kj131 => ?_) ?_
  ·
   rcases bft (decide (a1.Ended > a0.Begun)) with hb131 | hb131
   ·
    rw [if_pos hb131]
    rw [hb131] at zd130
    try rw [hb131]
    have K138 := Kx116.st p122 rfl
    have A139 := A1_1.kp K138
    refine mg fun hg140 => ?_
    obtain ⟨ad140, es140, he140, ce140, ia140⟩ := ix_e A139 rfl hg140.1 hg140.2
    obtain ⟨v140_0, v140_1, rfl, A140_0, A140_1⟩ := op29 he140
    refine zfin [12, 13] tb122 ((((((zd130.add 6 56 (.agg #[(iI a0.Xid), (iI a0.Begun), (iI a0.Ended), w0_0, w0_1]) rfl).add 7 57 (pO b7 4) rfl).add 8 58 w1_1 rfl).add 9 59 (iI x116) rfl).add 10 60 (.pointer (some ad140)) rfl).add 11 61 (.agg #[(iI ((at_ a1.Writes x116).Kind)), (iI ((at_ a1.Writes x116).N)), v140_0, v140_1]) rfl) (Xa (lca_q ce140 u29 z29 rfl rfl rfl rfl rfl rfl rfl) rfl (Xa (Xn A139 u141 z29 hg140.1 hg140.2 ia140 rfl) rfl (Xa (Xd rfl) rfl (Xa (Xr (Bx116_b7.st p122 rfl) u141 rfl) rfl (Xa (Xm fa143_4 rfl) rfl (Xa (lda_q (es := [(iI a0.Xid), (iI a0.Begun), (iI a0.Ended), w0_0, w0_1]) (Bx116_b5.st p122 rfl) u143 z143 rfl rfl rfl rfl rfl rfl rfl rfl) rfl (Xa (Xd rfl) rfl (Xa (qv_b (Xd rfl) hb131) rfl (Xa (Xr (Bx116_b5.st p122 rfl) u3 rfl) rfl (Xa (Xm fa143_1 rfl) rfl (Xa (Xr (Bx116_b7.st p122 rfl) u3 rfl) rfl (Xa (Xm fa143_2 rfl) rfl Xh)))))))))))) (by kernel_rfl) (by decide) (clV 44 rfl func133 rfl (spec_l14reads.calls a0 (at_ a1.Writes x116) s122.w (mm [0] s122) w0_0 w0_1 v140_0 v140_1 (A0_0.kp K138) (A0_1.kp K138) ((Xk (s := s122) A140_0).sub (D := [0]) rfl) A140_1) (fun r151 s152 p152 n152 => ?_))
    exact Xb rfl (Kj131 _ _ _ ⟨s152, _, rfl, (ue (ue (ue (ue rfl rfl) rfl) rfl) rfl), (K138.st p152 rfl), (Bx116_b7.st (Xq p122 p152) rfl), (Bx116_b5.st (Xq p122 p152) rfl)⟩)
   rw [if_neg (by rw [hb131]; decide)]
   rw [hb131] at zd130
   try rw [hb131]
   refine zfin [12, 13] tb122 ((((((zd130.add 6 56 undef rfl).add 7 57 undef rfl).add 8 58 undef rfl).add 9 59 undef rfl).add 10 60 undef rfl).add 11 61 undef rfl) (Xa (Xf rfl) rfl (Xa (Xf rfl) rfl (Xa (Xf rfl) rfl (Xa (Xf rfl) rfl (Xa (Xf rfl) rfl (Xa (Xf rfl) rfl (Xa (Xd rfl) rfl (Xa (qv_b (Xd rfl) hb131) rfl (Xa (Xr (Bx116_b5.st p122 rfl) u3 rfl) rfl (Xa (Xm fa143_1 rfl) rfl (Xa (Xr (Bx116_b7.st p122 rfl) u3 rfl) rfl (Xa (Xm fa143_2 rfl) rfl Xh)))))))))))) (by kernel_rfl) (by decide) (Xj rfl (Xb rfl ?_))
   exact Kj131 _ _ _ ⟨s122, _, rfl, (ue (ue (ue (ue rfl rfl) rfl) rfl) rfl), (Kx116.st p122 rfl), (Bx116_b7.st p122 rfl), (Bx116_b5.st p122 rfl)⟩
  rintro y131 _ _ ⟨s167, _, rfl, rfl, Ky131, By131_b7, By131_b5⟩
  refine dn (cd rfl (fun h170 => ?_) (fun h170 => ?_))
  ·
   exact sr (Xb rfl (dn (sgi (re rfl func127 rfl (Xs rfl Xg) rfl ⟨_, rfl, rfl, z.ky Ky131⟩))))
  exact sk (ib (rg (Xb rfl (Xb rfl (Xb rfl (dn (lb ih116 ⟨s167, _, rfl, (ue (ue (ue rfl rfl) rfl) rfl), Ky131, By131_b7, By131_b5⟩)))))))
 exact xt rfl (sgb (sr (Xb rfl (dn (re rfl func127 rfl (Xs rfl Xg) rfl ⟨_, rfl, rfl, z.ky Kx116⟩)))))
def spec_GraphEdges.b1 (a0 : (List Deed)) (x6 : (List A2Int) × Int) (x12 : (List A2Int) × Int) : Option (((List A2Int) × Int) ⊕ ((List A2Int) × Int ⊕ (List A2Int))) :=
 (if (decide (x12.2 < (a0.length : Int))) = true then ((if (x6.2 != x12.2) = true then (if 0 ≤ x6.2 ∧ x6.2 < (a0.length : Int) then (if 0 ≤ x12.2 ∧ x12.2 < (a0.length : Int) then ((spec_l14edge.f (at_ a0 x6.2) (at_ a0 x12.2)).bind fun r41 => (some r41)) else none) else none) else (some false)).bind fun y22 => ((if y22 = true then (if x12.1.length + ([(A2Int.mk x6.2 x12.2)]).length ≤ Lim then (some (x12.1 ++ [(A2Int.mk x6.2 x12.2)])) else none) else (some x12.1)).bind fun y56 => (some (Sum.inl (y56, (IntKind.wrap .i64 (x12.2 + (1 : Int)))))))) else ((some (Sum.inl (x12.1, (IntKind.wrap .i64 (x6.2 + (1 : Int)))))).bind fun o => some (Sum.inr o)))
def spec_GraphEdges.b0 (a0 : (List Deed)) (x6 : (List A2Int) × Int) : Option (((List A2Int) × Int) ⊕ (List A2Int)) :=
 (if (decide (x6.2 < (a0.length : Int))) = true then (iter (spec_GraphEdges.b1 a0 x6) (x6.1, (0 : Int))) else ((some x6.1).bind fun o => some (Sum.inr o)))
def spec_GraphEdges.f (a0 : (List Deed)) : Option ((List A2Int)) :=
 ((spec_DeedsOk.f a0).bind fun r2 => (if (!r2) = true then (some ([] : (List A2Int))) else (iter (spec_GraphEdges.b0 a0) (([] : (List A2Int)), (0 : Int)))))
def spec_GraphEdges.Q (w : World) (F : Nat → Prop) (r : (List A2Int)) (v : Value) (w' : World) : Prop :=
 FO Yc w w' [v] r ∧ Ky [] w w'
theorem spec_GraphEdges.calls (a0 : (List Deed)) (w : World) (F : Nat → Prop) (w0_0 : Value) (h0_0 : Xz.rd w [w0_0] a0 F) (r : (List A2Int)) (m : spec_GraphEdges.f a0 = some r) :
  Calls prog 39 #[w0_0] w (RT (spec_GraphEdges.Q w F) r) := by
 obtain ⟨s0, rfl, kp0, z⟩ := Xi w F
 have A0_0 := z.rd h0_0
 refine Xc (args := [w0_0]) func39 ntmps39 rfl rfl m ?_
 unfold spec_GraphEdges.f
 refine sr (Xb rfl (dn (sr (Xb rfl (dn (sq (sr (Xp w0_0 rfl (clV 40 rfl func34 rfl (spec_DeedsOk.calls a0 s0.w (mm [0] s0) w0_0 A0_0) (fun r2 s3 p3 n3 => ?_))))))))))
 refine Xb rfl (dn (cd rfl (fun h4 => ?_) (fun h4 => ?_)))
 ·
  refine sr (Xb rfl (Xb rfl (dn ?_)))
  have K5 := kp0.st p3 rfl
  exact re rfl func39 rfl (Xs rfl Xg) rfl ⟨_, rfl, (ow_nil 70 kd70 s3 40).fo K5 rfl z.l, z.ky K5⟩
 refine sk (sq (sr (Xb rfl (dn (bl ?_)))))
 refine lpI (fun (x6 : (List A2Int) × Int) e w => ∃ (s : St) (e0 : Env) (vx6_0 : Value), w = s.w ∧ e = upd (upd (upd e0 0 w0_0) 3 vx6_0) 4 (iI x6.2) ∧ Kp s0 s ∧ OwF Yc s [vx6_0] x6.1 41) ⟨s3, _, (.slice none 0 0), rfl, (ue (ue (ue rfl rfl) rfl) rfl), (kp0.st p3 rfl), (ow_nil 70 kd70 _ 41)⟩ (fun g6 ih6 => ?_)
 rintro x6 _ _ ⟨s8, _, vx6_0, rfl, rfl, Kx6, Ax6_0⟩
 unfold spec_GraphEdges.b0
 refine sq (sr (Xb rfl (Xp w0_0 rfl ?_)))
 refine ln' (A0_0.kp Kx6) u62 rfl (Xb rfl (dn (cd rfl (fun h11 => ?_) (fun h11 => ?_))))
 ·
  refine sk (sq (bl (sr (Xb rfl (dn (bl (lpI (fun (x12 : (List A2Int) × Int) e w => ∃ (s : St) (e0 : Env) (vx12_0 : Value), w = s.w ∧ e = upd (upd (upd (upd e0 0 w0_0) 3 vx12_0) 4 (iI x6.2)) 5 (iI x12.2) ∧ Kp s0 s ∧ OwF Yc s [vx12_0] x12.1 41) ⟨s8, _, vx6_0, rfl, (ue (ue (ue (ue rfl rfl) rfl) rfl) rfl), Kx6, Ax6_0⟩ (fun g12 ih12 => ?_))))))))
  rintro x12 _ _ ⟨s13, _, vx12_0, rfl, rfl, Kx12, Ax12_0⟩
  unfold spec_GraphEdges.b1
  refine sq (sr (Xb rfl (Xp w0_0 rfl ?_)))
  refine ln' (A0_0.kp Kx12) u62 rfl (Xb rfl (dn (cd rfl (fun h16 => ?_) (fun h16 => ?_))))
  ·
   refine sk (sq (bl (sq (zdraw [[], [], [0, 1], [2], [3], [3], [4, 5, 3], [6, 3], [3], [3], [8, 9, 3], [10, 3], [7, 11, 3, 3], [3, 12]] [some 22, some 23, some 24, some 25, some 26, some 27, some 28, some 29, some 30, some 31, some 32, some 33, some 34, some 35] [[4], [5], [22, 23], [24], [0, 25], [4, 25], [26, 27, 25], [28, 25], [0, 25], [5, 25], [30, 31, 25], [32, 25], [29, 33, 25], [25, 34]] [0, 1, 2, 3, 4, 5, 6, 7, 8, 9, 10, 11, 12, 13] ⟨by kernel_rfl, by kernel_rfl, by kernel_rfl⟩ (by kernel_rfl) (fun s17 p17 l17 tb17 zd17 => ?_)))))
   have zd21 := (((zd17.add 0 22 (iI x6.2) rfl).add 1 23 (iI x12.2) rfl).add 2 24 (.bool (x6.2 != x12.2)) rfl).add 3 25 (.bool (x6.2 != x12.2)) rfl
   refine ji [] (fun (y22 : Bool) e w => ∃ (s : St) (e0 : Env), w = s.w ∧ e = upd (upd (upd (upd (upd e0 0 w0_0) 3 vx12_0) 4 (iI x6.2)) 5 (iI x12.2)) 35 (.bool y22) ∧ Kp s0 s ∧ OwF Yc s [vx12_0] x12.1 41) (fun Gj22 Kj22 => ?_) ?_
   ·
    rcases bft (x6.2 != x12.2) with hb22 | hb22
    ·
     rw [if_pos hb22]
     rw [hb22] at zd21
     try rw [hb22]
     have K25 := Kx12.st p17 rfl
     have A26 := A0_0.kp K25
     refine mg fun hg27 => ?_
     obtain ⟨ad27, es27, he27, ce27, ia27⟩ := ix_e A26 rfl hg27.1 hg27.2
     obtain ⟨v27_0, v27_1, rfl, A27_0, A27_1⟩ := op143 he27
     refine mg fun hg35 => ?_
     obtain ⟨ad35, es35, he35, ce35, ia35⟩ := ix_e A26 rfl hg35.1 hg35.2
     obtain ⟨v35_0, v35_1, rfl, A35_0, A35_1⟩ := op143 he35
     refine zfin [12, 13] tb17 ((((((((zd21.add 4 26 w0_0 rfl).add 5 27 (iI x6.2) rfl).add 6 28 (.pointer (some ad27)) rfl).add 7 29 (.agg #[(iI ((at_ a0 x6.2).Xid)), (iI ((at_ a0 x6.2).Begun)), (iI ((at_ a0 x6.2).Ended)), v27_0, v27_1]) rfl).add 8 30 w0_0 rfl).add 9 31 (iI x12.2) rfl).add 10 32 (.pointer (some ad35)) rfl).add 11 33 (.agg #[(iI ((at_ a0 x12.2).Xid)), (iI ((at_ a0 x12.2).Begun)), (iI ((at_ a0 x12.2).Ended)), v35_0, v35_1]) rfl) (Xa (lca_q ce35 u143 z143 rfl rfl rfl rfl rfl rfl rfl) rfl (Xa (Xn A26 u62 z143 hg35.1 hg35.2 ia35 rfl) rfl (Xa (Xd rfl) rfl (Xa (Xl w0_0 rfl) rfl (Xa (lca_q ce27 u143 z143 rfl rfl rfl rfl rfl rfl rfl) rfl (Xa (Xn A26 u62 z143 hg27.1 hg27.2 ia27 rfl) rfl (Xa (Xd rfl) rfl (Xa (Xl w0_0 rfl) rfl (Xa (Xd rfl) rfl (Xa (qv_b (Xd rfl) hb22) rfl (Xa (Xd rfl) rfl (Xa (Xd rfl) rfl Xh)))))))))))) (by kernel_rfl) (by decide) (clV 42 rfl func127 rfl (spec_l14edge.calls (at_ a0 x6.2) (at_ a0 x12.2) s17.w (mm [0] s17) v27_0 v27_1 v35_0 v35_1 A27_0 A27_1 A35_0 A35_1) (fun r41 s42 p42 n42 => ?_))
     exact Xb rfl (Kj22 _ _ _ ⟨s42, _, rfl, (ue (ue (ue (ue (ue rfl rfl) rfl) rfl) rfl) rfl), (K25.st p42 rfl), (Ax12_0.st (Xq p17 p42) rfl)⟩)
    rw [if_neg (by rw [hb22]; decide)]
    rw [hb22] at zd21
    try rw [hb22]
    refine zfin [12, 13] tb17 ((((((((zd21.add 4 26 undef rfl).add 5 27 undef rfl).add 6 28 undef rfl).add 7 29 undef rfl).add 8 30 undef rfl).add 9 31 undef rfl).add 10 32 undef rfl).add 11 33 undef rfl) (Xa (Xf rfl) rfl (Xa (Xf rfl) rfl (Xa (Xf rfl) rfl (Xa (Xf rfl) rfl (Xa (Xf rfl) rfl (Xa (Xf rfl) rfl (Xa (Xf rfl) rfl (Xa (Xf rfl) rfl (Xa (Xd rfl) rfl (Xa (qv_b (Xd rfl) hb22) rfl (Xa (Xd rfl) rfl (Xa (Xd rfl) rfl Xh)))))))))))) (by kernel_rfl) (by decide) (Xj rfl (Xb rfl ?_))
    exact Kj22 _ _ _ ⟨s17, _, rfl, (ue (ue (ue (ue (ue rfl rfl) rfl) rfl) rfl) rfl), (Kx12.st p17 rfl), (Ax12_0.st p17 rfl)⟩
   rintro y22 _ _ ⟨s55, _, rfl, rfl, Ky22, Cy22_14⟩
   refine dn (jc (fun (y56 : (List A2Int)) e w => ∃ (s : St) (e0 : Env) (vy56_0 : Value), w = s.w ∧ e = upd (upd (upd (upd e0 0 w0_0) 3 vy56_0) 4 (iI x6.2)) 5 (iI x12.2) ∧ Kp s0 s ∧ OwF Yc s [vy56_0] y56 41) (fun Gj56 Kj56 => ?_) ?_)
   ·
    refine cd rfl (fun h57 => ?_) (fun h57 => ?_)
    ·
     refine rg (Xp vx12_0 rfl (Xb rfl (Xb rfl (bdA (cells := [(iI x6.2), (iI x12.2)]) u70 z3 o70 rfl rfl rfl rfl rfl rfl (ltF' (K := kd70) (cells := [(iI x6.2), (iI x12.2)]) [(A2Int.mk x6.2 x12.2)] 43 (fl_iso (fl_pair Xw Xw)) u65 z70 o70 (fun w => ⟨[(iI x6.2), (iI x12.2)], [], rfl, ⟨[(iI x6.2)], [(iI x12.2)], rfl, rfl, rfl⟩, rfl⟩) rfl (fun v58 s58 p58 A58 => ?_))))))
     refine apF (fl_iso (fl_pair Xw Xw)) sl65 (Cy22_14.st p58 rfl) A58.rd rfl rfl rfl rfl rfl rfl rfl (fun v61 s61 p61 A61 => ?_)
     refine asg' v61 rfl (dn ?_)
     exact Kj56 _ _ _ ⟨s61, _, v61, rfl, (ue (ue (ue (ue rfl rfl) rfl) rfl) rfl), (Ky22.st (Xq p58 p61) rfl), A61⟩
    exact sk (Kj56 _ _ _ ⟨s55, _, vx12_0, rfl, (ue (ue (ue (ue rfl rfl) rfl) rfl) rfl), Ky22, Cy22_14⟩)
   rintro y56 _ _ ⟨s64, _, vy56_0, rfl, rfl, Ky56, Ay56_0⟩
   exact ib (rg (Xb rfl (Xb rfl (Xb rfl (dn (lb ih12 ⟨s64, _, vy56_0, rfl, (ue (ue (ue (ue rfl rfl) rfl) rfl) rfl), Ky56, Ay56_0⟩))))))
  exact xt rfl (sgb (ib (rg (Xb rfl (Xb rfl (Xb rfl (dn (lb ih6 ⟨s13, _, vx12_0, rfl, (ue (ue (ue rfl rfl) rfl) rfl), Kx12, Ax12_0⟩))))))))
 exact xt rfl (sgb (sr (Xp vx6_0 rfl (asg' vx6_0 rfl (dn (re rfl func39 rfl (Xs rfl Xg) rfl ⟨_, rfl, Ax6_0.fo Kx6 rfl z.l, z.ky Kx6⟩))))))
def impl_GraphSerial_2.f (a0 : Int) (a1 : (List Deed)) : Option (Bool) :=
 ((impl_within.f a0 (0 : Int) (IntKind.wrap .i64 ((a1.length : Int) - (1 : Int)))).bind fun r3 => (some r3))
def impl_GraphSerial_2.Q (w : World) (F : Nat → Prop) (r : Bool) (v : Value) (w' : World) : Prop :=
 v = (.bool r) ∧ Ky [] w w'
theorem impl_GraphSerial_2.calls (a0 : Int) (a1 : (List Deed)) (w : World) (F : Nat → Prop) (c1 : Nat) (w1_0 : Value) (h1_0 : Xz.rd w [w1_0] a1 F) (hb1 : BlW w c1 62 [w1_0]) (hp1 : F c1) (r : Bool) (m : impl_GraphSerial_2.f a0 a1 = some r) :
  Calls prog 130 #[(iI a0), (pB c1)] w (RT (impl_GraphSerial_2.Q w F) r) := by
 obtain ⟨s0, rfl, kp0, z⟩ := Xi w F
 refine Xc (args := [(iI a0), (pB c1)]) func130 ntmps130 rfl rfl m ?_
 unfold impl_GraphSerial_2.f
 refine sr (Xb rfl (dn (sr (Xb rfl (ld' (z.b0 hb1 hp1) u62 rfl (ln' (z.rd h1_0) u62 rfl (Xb rfl (clV 40 rfl func94 rfl (impl_within.calls a0 (0 : Int) (IntKind.wrap .i64 ((a1.length : Int) - (1 : Int))) s0.w (mm [] s0)) (fun r3 s4 p4 n4 => ?_)))))))))
 refine Xb rfl (dn ?_)
 exact re rfl func130 rfl (Xs rfl Xg) rfl ⟨_, rfl, rfl, z.ky (kp0.st p4 rfl)⟩
def impl_GraphSerial_1.f (a0 : Int) : Option (Int) :=
 (some a0)
def impl_GraphSerial_1.Q (w : World) (F : Nat → Prop) (r : Int) (v : Value) (w' : World) : Prop :=
 v = (iI r) ∧ Ky [] w w'
theorem impl_GraphSerial_1.calls (a0 : Int) (w : World) (F : Nat → Prop)   (r : Int) (m : impl_GraphSerial_1.f a0 = some r) :
  Calls prog 128 #[(iI a0)] w (RT (impl_GraphSerial_1.Q w F) r) := by
 obtain ⟨s0, rfl, kp0, z⟩ := Xi w F
 refine Xc (args := [(iI a0)]) func128 ntmps128 rfl rfl m ?_
 unfold impl_GraphSerial_1.f
 exact sr (Xb rfl (dn (sr (Xb rfl (Xb rfl (dn (re rfl func128 rfl (Xs rfl Xg) rfl ⟨_, rfl, rfl, z.ky kp0⟩)))))))
def impl_behind.b0 (a0 : (List Deed)) (a1 : Int) (a2 : Item) (x7 : Int × Int) : Option ((Int × Int) ⊕ Int) :=
 (if (decide (x7.2 < (a0.length : Int))) = true then (if 0 ≤ x7.2 ∧ x7.2 < (a0.length : Int) then ((if (x7.2 != a1) = true then (if 0 ≤ a1 ∧ a1 < (a0.length : Int) then ((if (decide ((at_ a0 x7.2).Ended < (at_ a0 a1).Begun)) = true then ((impl_Deed_writes.f (at_ a0 x7.2) a2).bind fun r57 => ((if r57 = true then ((if (decide (x7.1 < (0 : Int))) = true then (some (true, true, true)) else (if 0 ≤ x7.1 ∧ x7.1 < (a0.length : Int) then (some (false, false, (decide ((at_ a0 x7.2).Ended > (at_ a0 x7.1).Ended)))) else none)).bind fun y66 => (some (true, y66.2.2))) else (some (false, false))).bind fun y62 => (some (true, y62.2)))) else (some (false, false))).bind fun y45 => (some y45.2)) else none) else (some false)).bind fun y27 => ((if y27 = true then (some x7.2) else (some x7.1)).bind fun y171 => (some (Sum.inl (y171, (IntKind.wrap .i64 (x7.2 + (1 : Int)))))))) else none) else ((some x7.1).bind fun o => some (Sum.inr o)))
def impl_behind.f (a0 : (List Deed)) (a1 : Int) (a2 : Item) : Option (Int) :=
 (iter (impl_behind.b0 a0 a1 a2) ((-1 : Int), (0 : Int)))
def impl_behind.Q (w : World) (F : Nat → Prop) (r : Int) (v : Value) (w' : World) : Prop :=
 v = (iI r) ∧ Ky [] w w'
theorem impl_behind.calls (a0 : (List Deed)) (a1 : Int) (a2 : Item) (w : World) (F : Nat → Prop) (w0_0 : Value) (w2_0 : Value) (w2_1 : Value) (h0_0 : Xz.rd w [w0_0] a0 F) (h2_0 : Kd.flt.rd w [w2_0] a2.F F) (h2_1 : Xx.rd w [w2_1] a2.T F) (r : Int) (m : impl_behind.f a0 a1 a2 = some r) :
  Calls prog 215 #[w0_0, (iI a1), (.agg #[(iI a2.Kind), (iI a2.N), w2_0, w2_1])] w (RT (impl_behind.Q w F) r) := by
 obtain ⟨s0, rfl, kp0, z⟩ := Xi w F
 have A0_0 := z.rd h0_0
 have A2_0 := Xu h2_0
 have A2_1 := z.rd h2_1
 refine Xc (args := [w0_0, (iI a1), (.agg #[(iI a2.Kind), (iI a2.N), w2_0, w2_1])]) func215 ntmps215 rfl rfl m ?_
 unfold impl_behind.f
 refine sr (bx' (cs := [(iI a2.Kind), (iI a2.N), w2_0, w2_1]) 40 rfl rfl (fun b3 s3 p3 B3 => ?_))
 refine Xb rfl (dn (sr (Xb rfl (dn (sq (sr (Xp w0_0 rfl ?_)))))))
 have K5 := kp0.st p3 rfl
 refine ln' (A0_0.kp K5) u62 rfl (Xb rfl (dn (bl (lpI (fun (x7 : Int × Int) e w => ∃ (s : St) (e0 : Env), w = s.w ∧ e = upd (upd (upd (upd (upd (upd (upd e0 0 w0_0) 1 (iI a1)) 5 (pB b3)) 7 (iI x7.1)) 10 w0_0) 11 (iI (a0.length : Int))) 12 (iI x7.2) ∧ Kp s0 s ∧ BlF s b3 29 [(iI a2.Kind), (iI a2.N), w2_0, w2_1] 40) ⟨s3, _, rfl, (ue (ue (ue (ue (ue (ue (ue rfl rfl) rfl) rfl) rfl) rfl) rfl) rfl), K5, B3⟩ (fun g7 ih7 => ?_)))))
 rintro x7 _ _ ⟨s8, _, rfl, rfl, Kx7, Bx7_b3⟩
 unfold impl_behind.b0
 refine sr (Xb rfl (dn (sq (cd rfl (fun h10 => ?_) (fun h10 => ?_)))))
 ·
  refine sk (sq (bl (sr (Xb rfl ?_))))
  refine ix' (A0_0.kp Kx7) u62 z143 rfl (fun ad12 es12 h0_12 h1_12 he12 ce12 ia12 => ?_)
  obtain ⟨v12_0, v12_1, rfl, A12_0, A12_1⟩ := op143 he12
  refine lca ce12 u143 z143 rfl rfl rfl rfl rfl rfl rfl (al (cs := [(iI 0), (iI 0), (iI 0), (.slice none 0 0), (.slice none 0 0)]) 41 rfl rfl rfl rfl rfl o143 rfl (fun b16 s16 p16 B16 => ?_))
  refine Xb rfl ?_
  have A18 := A12_1.st p16 rfl
  have A19 := A12_0.st p16 rfl
  refine sva' (vs := [(iI ((at_ a0 x7.2).Xid)), (iI ((at_ a0 x7.2).Begun)), (iI ((at_ a0 x7.2).Ended)), v12_0, v12_1]) B16 z143 rfl (Xe rfl (Xe rfl (Xe rfl (Xe A19.one (Xe A18.one on_nil))))) rfl (fun s20 p20 B20 => ?_)
  refine dn (sq (zdraw [[], [], [0, 1], [2], [3], [4, 3], [3], [3], [6, 7, 3], [8, 3], [9, 3], [5, 10, 3], [3, 11], [12, 3], [13], [13], [14, 15, 13, 13], [13, 16], [17, 16], [18], [19, 18], [20, 18, 18], [21], [22, 21], [21], [21], [24, 25, 21], [26, 21], [27, 21], [23, 28, 21], [21, 29, 18], [18, 30]] [some 17, some 18, some 19, some 20, some 21, some 22, some 23, some 24, some 25, some 26, some 27, some 28, some 29, some 30, some 31, some 32, some 33, some 34, some 35, some 36, some 37, some 38, some 39, some 40, some 41, some 42, some 43, some 44, some 45, some 46, some 47, some 48] [[8], [1], [17, 18], [19], [9, 20], [21, 20], [0, 20], [1, 20], [23, 24, 20], [25, 20], [26, 20], [22, 27, 20], [20, 28], [29], [9, 30], [5, 30], [31, 32, 30], [30, 33], [34], [7, 35], [36, 35], [37, 35], [9, 38], [39, 38], [0, 38], [7, 38], [41, 42, 38], [43, 38], [44, 38], [40, 45, 38], [38, 46, 35], [35, 47]] [0, 1, 2, 3, 4, 5, 6, 7, 8, 9, 10, 11, 12, 13, 14, 15, 16, 17, 18, 19, 20, 21, 22, 23, 24, 25, 26, 27, 28, 29, 30, 31] ⟨by kernel_rfl, by kernel_rfl, by kernel_rfl⟩ (by kernel_rfl) (fun s22 p22 l22 tb22 zd22 => ?_)))
  have zd26 := (((zd22.add 0 17 (iI x7.2) rfl).add 1 18 (iI a1) rfl).add 2 19 (.bool (x7.2 != a1)) rfl).add 3 20 (.bool (x7.2 != a1)) rfl
  refine ji [] (fun (y27 : Bool) e w => ∃ (s : St) (e0 : Env), w = s.w ∧ e = upd (upd (upd (upd (upd (upd (upd (upd (upd e0 0 w0_0) 1 (iI a1)) 5 (pB b3)) 7 (iI x7.1)) 8 (iI x7.2)) 10 w0_0) 11 (iI (a0.length : Int))) 12 (iI x7.2)) 48 (.bool y27) ∧ Kp s0 s ∧ BlF s b3 29 [(iI a2.Kind), (iI a2.N), w2_0, w2_1] 40) (fun Gj27 Kj27 => ?_) ?_
  ·
   rcases bft (x7.2 != a1) with hb27 | hb27
   ·
    rw [if_pos hb27]
    rw [hb27] at zd26
    try rw [hb27]
    have K33 := Kx7.st (tr3 p16 p20 p22) rfl
    have A34 := A0_0.kp K33
    refine mg fun hg35 => ?_
    obtain ⟨ad35, es35, he35, ce35, ia35⟩ := ix_e A34 rfl hg35.1 hg35.2
    obtain ⟨v35_0, v35_1, rfl, A35_0, A35_1⟩ := op143 he35
    have zd44 := (((((((((zd26.add 4 21 (pO b16 2) rfl).add 5 22 (iI ((at_ a0 x7.2).Ended)) rfl).add 6 23 w0_0 rfl).add 7 24 (iI a1) rfl).add 8 25 (.pointer (some ad35)) rfl).add 9 26 (.pointer (some (ad35.add 1))) rfl).add 10 27 (iI ((at_ a0 a1).Begun)) rfl).add 11 28 (.bool (decide ((at_ a0 x7.2).Ended < (at_ a0 a1).Begun))) rfl).add 12 29 (.bool (decide ((at_ a0 x7.2).Ended < (at_ a0 a1).Begun))) rfl).add 13 30 (.bool (decide ((at_ a0 x7.2).Ended < (at_ a0 a1).Begun))) rfl
    refine ji [] (fun (y45 : Bool × Bool) e w => ∃ (s : St) (e0 : Env), w = s.w ∧ e = upd (upd (upd (upd (upd (upd (upd (upd (upd (upd (upd (upd (upd (upd (upd (upd (upd e0 0 w0_0) 1 (iI a1)) 5 (pB b3)) 7 (iI x7.1)) 8 (iI x7.2)) 10 w0_0) 11 (iI (a0.length : Int))) 12 (iI x7.2)) 21 (pO b16 2)) 22 (iI ((at_ a0 x7.2).Ended))) 23 w0_0) 24 (iI a1)) 25 (.pointer (some ad35))) 26 (.pointer (some (ad35.add 1)))) 27 (iI ((at_ a0 a1).Begun))) 28 (.bool y45.1)) 48 (.bool y45.2) ∧ Kp s0 s ∧ BlF s b16 143 [(iI ((at_ a0 x7.2).Xid)), (iI ((at_ a0 x7.2).Begun)), (iI ((at_ a0 x7.2).Ended)), v12_0, v12_1] 41 ∧ BlF s b3 29 [(iI a2.Kind), (iI a2.N), w2_0, w2_1] 40 ∧ RdF Yb s [v12_0] ((at_ a0 x7.2).Reads) [0] ∧ RdF Ya s [v12_1] ((at_ a0 x7.2).Writes) [0]) (fun Gj45 Kj45 => ?_) ?_
    ·
     rcases bft (decide ((at_ a0 x7.2).Ended < (at_ a0 a1).Begun)) with hb45 | hb45
     ·
      rw [if_pos hb45]
      rw [hb45] at zd44
      try rw [hb45]
      refine zstep 16 [] tb22 ((zd44.add 14 31 (.agg #[(iI ((at_ a0 x7.2).Xid)), (iI ((at_ a0 x7.2).Begun)), (iI ((at_ a0 x7.2).Ended)), v12_0, v12_1]) rfl).add 15 32 (.agg #[(iI a2.Kind), (iI a2.N), w2_0, w2_1]) rfl) (Xa (lda_q (es := [(iI a2.Kind), (iI a2.N), w2_0, w2_1]) (Bx7_b3.st (tr3 p16 p20 p22) rfl) u29 z29 rfl rfl rfl rfl rfl rfl rfl rfl) rfl (Xa (lda_q (es := [(iI ((at_ a0 x7.2).Xid)), (iI ((at_ a0 x7.2).Begun)), (iI ((at_ a0 x7.2).Ended)), v12_0, v12_1]) (B20.st p22 rfl) u143 z143 rfl rfl rfl rfl rfl rfl rfl rfl) rfl (Xa (Xd rfl) rfl (Xa (Xd rfl) rfl (Xa (qv_b (Xd rfl) hb45) rfl (Xa (lc_q' ce35 u3 rfl) rfl (Xa (Xm fa143_1 rfl) rfl (Xa (Xn A34 u62 z143 hg35.1 hg35.2 ia35 rfl) rfl (Xa (Xd rfl) rfl (Xa (Xl w0_0 rfl) rfl (Xa (Xr (B20.st p22 rfl) u3 rfl) rfl (Xa (Xm fa143_2 rfl) rfl (Xa (Xd rfl) rfl (Xa (qv_b (Xd rfl) hb27) rfl (Xa (Xd rfl) rfl (Xa (Xd rfl) rfl Xh)))))))))))))))) (by kernel_rfl) rfl (fun l50 e50 zd50 => ?_)
      have A54 := A19.st (Xq p20 p22) rfl
      have A55 := A18.st (Xq p20 p22) rfl
      refine clV 42 rfl func214 rfl (impl_Deed_writes.calls (at_ a0 x7.2) a2 s22.w (mm [0] s22) v12_0 v12_1 w2_0 w2_1 A54 A55 ((Xk (s := s22) A2_0).sub (D := [0]) rfl) (A2_1.kp K33)) (fun r57 s58 p58 n58 => ?_)
      refine zdone (L' := []) (D' := [0, 1, 2, 4, 6, 7, 8, 9, 5, 10, 11, 12, 3, 14, 15, 13, 13, 16]) zd50 rfl rfl rfl (fun zd59 => ?_)
      have zd61 := (zd59.add 17 34 (.bool r57) rfl).add 18 35 (.bool r57) rfl
      refine ji [] (fun (y62 : Bool × Bool) e w => ∃ (s : St) (e0 : Env), w = s.w ∧ e = upd (upd (upd (upd (upd (upd (upd (upd (upd (upd (upd (upd (upd (upd (upd (upd (upd (upd (upd (upd e0 0 w0_0) 1 (iI a1)) 5 (pB b3)) 7 (iI x7.1)) 8 (iI x7.2)) 10 w0_0) 11 (iI (a0.length : Int))) 12 (iI x7.2)) 21 (pO b16 2)) 22 (iI ((at_ a0 x7.2).Ended))) 23 w0_0) 24 (iI a1)) 25 (.pointer (some ad35))) 26 (.pointer (some (ad35.add 1)))) 27 (iI ((at_ a0 a1).Begun))) 28 (.bool true)) 31 (.agg #[(iI ((at_ a0 x7.2).Xid)), (iI ((at_ a0 x7.2).Begun)), (iI ((at_ a0 x7.2).Ended)), v12_0, v12_1])) 32 (.agg #[(iI a2.Kind), (iI a2.N), w2_0, w2_1])) 33 (.bool y62.1)) 48 (.bool y62.2) ∧ Kp s0 s ∧ BlF s b16 143 [(iI ((at_ a0 x7.2).Xid)), (iI ((at_ a0 x7.2).Begun)), (iI ((at_ a0 x7.2).Ended)), v12_0, v12_1] 41 ∧ BlF s b3 29 [(iI a2.Kind), (iI a2.N), w2_0, w2_1] 40 ∧ RdF Yb s [v12_0] ((at_ a0 x7.2).Reads) [0] ∧ RdF Ya s [v12_1] ((at_ a0 x7.2).Writes) [0]) (fun Gj62 Kj62 => ?_) ?_
      ·
       rcases bft r57 with hb62 | hb62
       ·
        rw [if_pos hb62]
        rw [hb62] at zd61
        try rw [hb62]
        have zd65 := ((zd61.add 19 36 (iI x7.1) rfl).add 20 37 (.bool (decide (x7.1 < (0 : Int)))) rfl).add 21 38 (.bool (decide (x7.1 < (0 : Int)))) rfl
        refine ji [31] (fun (y66 : Bool × Bool × Bool) e w => ∃ (s : St) (e0 : Env), w = s.w ∧ e = upd (upd (upd (upd (upd (upd (upd (upd (upd (upd (upd (upd (upd (upd (upd (upd (upd (upd (upd (upd (upd (upd (upd (upd e0 0 w0_0) 1 (iI a1)) 5 (pB b3)) 7 (iI x7.1)) 8 (iI x7.2)) 10 w0_0) 11 (iI (a0.length : Int))) 12 (iI x7.2)) 21 (pO b16 2)) 22 (iI ((at_ a0 x7.2).Ended))) 23 w0_0) 24 (iI a1)) 25 (.pointer (some ad35))) 26 (.pointer (some (ad35.add 1)))) 27 (iI ((at_ a0 a1).Begun))) 28 (.bool true)) 31 (.agg #[(iI ((at_ a0 x7.2).Xid)), (iI ((at_ a0 x7.2).Begun)), (iI ((at_ a0 x7.2).Ended)), v12_0, v12_1])) 32 (.agg #[(iI a2.Kind), (iI a2.N), w2_0, w2_1])) 33 (.bool true)) 35 (.bool true)) 36 (iI x7.1)) 37 (.bool y66.1)) 38 (.bool y66.2.1)) 47 (.bool y66.2.2) ∧ Kp s0 s ∧ BlF s b16 143 [(iI ((at_ a0 x7.2).Xid)), (iI ((at_ a0 x7.2).Begun)), (iI ((at_ a0 x7.2).Ended)), v12_0, v12_1] 41 ∧ BlF s b3 29 [(iI a2.Kind), (iI a2.N), w2_0, w2_1] 40 ∧ RdF Yb s [v12_0] ((at_ a0 x7.2).Reads) [0] ∧ RdF Ya s [v12_1] ((at_ a0 x7.2).Writes) [0]) (fun Gj66 Kj66 => ?_) ?_
        ·
         rcases bft (decide (x7.1 < (0 : Int))) with hb66 | hb66
         ·
          rw [if_pos hb66]
          rw [hb66] at zd65
          try rw [hb66]
          refine zfin [29, 30, 31] tb22 (((((((zd65.add 22 39 undef rfl).add 23 40 undef rfl).add 24 41 undef rfl).add 25 42 undef rfl).add 26 43 undef rfl).add 27 44 undef rfl).add 28 45 undef rfl) (Xa (Xf rfl) rfl (Xa (Xf rfl) rfl (Xa (Xf rfl) rfl (Xa (Xf rfl) rfl (Xa (Xf rfl) rfl (Xa (Xf rfl) rfl (Xa (Xf rfl) rfl (Xa (Xd rfl) rfl (Xa (qv_b (Xd rfl) hb66) rfl (Xa (Xd rfl) rfl (Xa (Xd rfl) rfl (Xa (Xd rfl) rfl Xh)))))))))))) (by kernel_rfl) (by decide) (Xj rfl (Xb rfl ?_))
          exact Kj66 _ _ _ ⟨s58, _, rfl, (ue (ue (ue (ue (ue (ue (ue (ue (ue (ue (ue (ue (ue (ue (ue (ue (ue (ue (ue (ue (ue (ue (ue (ue rfl rfl) rfl) rfl) rfl) rfl) rfl) rfl) rfl) rfl) rfl) rfl) rfl) rfl) rfl) rfl) rfl) rfl) rfl) rfl) rfl) rfl) rfl) rfl) rfl), (K33.st p58 rfl), (B20.st (Xq p22 p58) rfl), (Bx7_b3.st (tr4 p16 p20 p22 p58) rfl), (A54.st p58 rfl), (A55.st p58 rfl)⟩
         rw [if_neg (by rw [hb66]; decide)]
         rw [hb66] at zd65
         try rw [hb66]
         have K84 := K33.st p58 rfl
         have A85 := A0_0.kp K84
         refine mg fun hg86 => ?_
         obtain ⟨ad86, es86, he86, ce86, ia86⟩ := ix_e A85 rfl hg86.1 hg86.2
         obtain ⟨v86_0, v86_1, rfl, A86_0, A86_1⟩ := op143 he86
         refine zfin [29, 30, 31] tb22 (((((((zd65.add 22 39 (pO b16 2) rfl).add 23 40 (iI ((at_ a0 x7.2).Ended)) rfl).add 24 41 w0_0 rfl).add 25 42 (iI x7.1) rfl).add 26 43 (.pointer (some ad86)) rfl).add 27 44 (.pointer (some (ad86.add 2))) rfl).add 28 45 (iI ((at_ a0 x7.1).Ended)) rfl) (Xa (lc_q' ce86 u3 rfl) rfl (Xa (Xm fa143_2 rfl) rfl (Xa (Xn A85 u62 z143 hg86.1 hg86.2 ia86 rfl) rfl (Xa (Xd rfl) rfl (Xa (Xl w0_0 rfl) rfl (Xa (Xr (B20.st (Xq p22 p58) rfl) u3 rfl) rfl (Xa (Xm fa143_2 rfl) rfl (Xa (Xd rfl) rfl (Xa (qv_b (Xd rfl) hb66) rfl (Xa (Xd rfl) rfl (Xa (Xd rfl) rfl (Xa (Xd rfl) rfl Xh)))))))))))) (by kernel_rfl) (by decide) (Xb rfl (Xb rfl ?_))
         exact Kj66 _ _ _ ⟨s58, _, rfl, (ue (ue (ue (ue (ue (ue (ue (ue (ue (ue (ue (ue (ue (ue (ue (ue (ue (ue (ue (ue (ue (ue (ue (ue rfl rfl) rfl) rfl) rfl) rfl) rfl) rfl) rfl) rfl) rfl) rfl) rfl) rfl) rfl) rfl) rfl) rfl) rfl) rfl) rfl) rfl) rfl) rfl) rfl), K84, (B20.st (Xq p22 p58) rfl), (Bx7_b3.st (tr4 p16 p20 p22 p58) rfl), (A54.st p58 rfl), (A55.st p58 rfl)⟩
        rintro y66 _ _ ⟨s98, _, rfl, rfl, Ky66, By66_b16, By66_b3, Cy66_13, Cy66_14⟩
        exact Xb rfl (Kj62 _ _ _ ⟨s98, _, rfl, (ue (ue (ue (ue (ue (ue (ue (ue (ue (ue (ue (ue (ue (ue (ue (ue (ue (ue (ue (ue rfl rfl) rfl) rfl) rfl) rfl) rfl) rfl) rfl) rfl) rfl) rfl) rfl) rfl) rfl) rfl) rfl) rfl) rfl) rfl) rfl), Ky66, By66_b16, By66_b3, Cy66_13, Cy66_14⟩)
       rw [if_neg (by rw [hb62]; decide)]
       rw [hb62] at zd61
       try rw [hb62]
       refine zfin [29, 30, 31] tb22 ((((((((((zd61.add 19 36 undef rfl).add 20 37 undef rfl).add 21 38 undef rfl).add 22 39 undef rfl).add 23 40 undef rfl).add 24 41 undef rfl).add 25 42 undef rfl).add 26 43 undef rfl).add 27 44 undef rfl).add 28 45 undef rfl) (Xa (Xf rfl) rfl (Xa (Xf rfl) rfl (Xa (Xf rfl) rfl (Xa (Xf rfl) rfl (Xa (Xf rfl) rfl (Xa (Xf rfl) rfl (Xa (Xf rfl) rfl (Xa (Xf rfl) rfl (Xa (Xf rfl) rfl (Xa (Xf rfl) rfl (Xa (Xd rfl) rfl (Xa (Xd rfl) rfl Xh)))))))))))) (by kernel_rfl) (by decide) (Xj rfl (Xj rfl (Xb rfl ?_)))
       exact Kj62 _ _ _ ⟨s58, _, rfl, (ue (ue (ue (ue (ue (ue (ue (ue (ue (ue (ue (ue (ue (ue (ue (ue (ue (ue (ue (ue rfl rfl) rfl) rfl) rfl) rfl) rfl) rfl) rfl) rfl) rfl) rfl) rfl) rfl) rfl) rfl) rfl) rfl) rfl) rfl) rfl), (K33.st p58 rfl), (B20.st (Xq p22 p58) rfl), (Bx7_b3.st (tr4 p16 p20 p22 p58) rfl), (A54.st p58 rfl), (A55.st p58 rfl)⟩
      rintro y62 _ _ ⟨s116, _, rfl, rfl, Ky62, By62_b16, By62_b3, Cy62_13, Cy62_14⟩
      exact Kj45 _ _ _ ⟨s116, _, rfl, (ue (ue (ue (ue (ue (ue (ue (ue (ue (ue (ue (ue (ue (ue (ue (ue (ue rfl rfl) rfl) rfl) rfl) rfl) rfl) rfl) rfl) rfl) rfl) rfl) rfl) rfl) rfl) rfl) rfl) rfl), Ky62, By62_b16, By62_b3, Cy62_13, Cy62_14⟩
     rw [if_neg (by rw [hb45]; decide)]
     rw [hb45] at zd44
     try rw [hb45]
     refine zfin [29, 30, 31] tb22 (((((((((((((((zd44.add 14 31 undef rfl).add 15 32 undef rfl).add 16 33 undef rfl).add 17 34 (.bool false) rfl).add 18 35 (.bool false) rfl).add 19 36 undef rfl).add 20 37 undef rfl).add 21 38 undef rfl).add 22 39 undef rfl).add 23 40 undef rfl).add 24 41 undef rfl).add 25 42 undef rfl).add 26 43 undef rfl).add 27 44 undef rfl).add 28 45 undef rfl) (Xa (Xf rfl) rfl (Xa (Xf rfl) rfl (Xa (Xf rfl) rfl (Xa (Xf rfl) rfl (Xa (Xf rfl) rfl (Xa (Xf rfl) rfl (Xa (Xf rfl) rfl (Xa (Xf rfl) rfl (Xa (Xf rfl) rfl (Xa (Xf rfl) rfl (Xa (Xd rfl) rfl (Xa (Xd rfl) rfl (Xa (Xf rfl) rfl (Xa (Xf rfl) rfl (Xa (Xf rfl) rfl (Xa (Xd rfl) rfl (Xa (Xd rfl) rfl (Xa (qv_b (Xd rfl) hb45) rfl (Xa (lc_q' ce35 u3 rfl) rfl (Xa (Xm fa143_1 rfl) rfl (Xa (Xn A34 u62 z143 hg35.1 hg35.2 ia35 rfl) rfl (Xa (Xd rfl) rfl (Xa (Xl w0_0 rfl) rfl (Xa (Xr (B20.st p22 rfl) u3 rfl) rfl (Xa (Xm fa143_2 rfl) rfl (Xa (Xd rfl) rfl (Xa (qv_b (Xd rfl) hb27) rfl (Xa (Xd rfl) rfl (Xa (Xd rfl) rfl Xh))))))))))))))))))))))))))))) (by kernel_rfl) (by decide) (Xj rfl ?_)
     refine Xj rfl (Xb rfl ?_)
     exact Kj45 _ _ _ ⟨s22, _, rfl, (ue (ue (ue (ue (ue (ue (ue (ue (ue (ue (ue (ue (ue (ue (ue (ue (ue rfl rfl) rfl) rfl) rfl) rfl) rfl) rfl) rfl) rfl) rfl) rfl) rfl) rfl) rfl) rfl) rfl) rfl), K33, (B20.st p22 rfl), (Bx7_b3.st (tr3 p16 p20 p22) rfl), (A19.st (Xq p20 p22) rfl), (A18.st (Xq p20 p22) rfl)⟩
    rintro y45 _ _ ⟨s139, _, rfl, rfl, Ky45, By45_b16, By45_b3, Cy45_13, Cy45_14⟩
    exact Kj27 _ _ _ ⟨s139, _, rfl, (ue (ue (ue (ue (ue (ue (ue (ue (ue rfl rfl) rfl) rfl) rfl) rfl) rfl) rfl) rfl) rfl), Ky45, By45_b3⟩
   rw [if_neg (by rw [hb27]; decide)]
   rw [hb27] at zd26
   try rw [hb27]
   refine zfin [29, 30, 31] tb22 (((((((((((((((((((((((((zd26.add 4 21 undef rfl).add 5 22 undef rfl).add 6 23 undef rfl).add 7 24 undef rfl).add 8 25 undef rfl).add 9 26 undef rfl).add 10 27 undef rfl).add 11 28 undef rfl).add 12 29 (.bool false) rfl).add 13 30 (.bool false) rfl).add 14 31 undef rfl).add 15 32 undef rfl).add 16 33 undef rfl).add 17 34 (.bool false) rfl).add 18 35 (.bool false) rfl).add 19 36 undef rfl).add 20 37 undef rfl).add 21 38 undef rfl).add 22 39 undef rfl).add 23 40 undef rfl).add 24 41 undef rfl).add 25 42 undef rfl).add 26 43 undef rfl).add 27 44 undef rfl).add 28 45 undef rfl) (Xa (Xf rfl) rfl (Xa (Xf rfl) rfl (Xa (Xf rfl) rfl (Xa (Xf rfl) rfl (Xa (Xf rfl) rfl (Xa (Xf rfl) rfl (Xa (Xf rfl) rfl (Xa (Xf rfl) rfl (Xa (Xf rfl) rfl (Xa (Xf rfl) rfl (Xa (Xd rfl) rfl (Xa (Xd rfl) rfl (Xa (Xf rfl) rfl (Xa (Xf rfl) rfl (Xa (Xf rfl) rfl (Xa (Xd rfl) rfl (Xa (Xd rfl) rfl (Xa (Xf rfl) rfl (Xa (Xf rfl) rfl (Xa (Xf rfl) rfl (Xa (Xf rfl) rfl (Xa (Xf rfl) rfl (Xa (Xf rfl) rfl (Xa (Xf rfl) rfl (Xa (Xf rfl) rfl (Xa (Xd rfl) rfl (Xa (qv_b (Xd rfl) hb27) rfl (Xa (Xd rfl) rfl (Xa (Xd rfl) rfl Xh))))))))))))))))))))))))))))) (by kernel_rfl) (by decide) (Xj rfl (Xj rfl (Xb rfl ?_)))
   exact Kj27 _ _ _ ⟨s22, _, rfl, (ue (ue (ue (ue (ue (ue (ue (ue (ue rfl rfl) rfl) rfl) rfl) rfl) rfl) rfl) rfl) rfl), (Kx7.st (tr3 p16 p20 p22) rfl), (Bx7_b3.st (tr3 p16 p20 p22) rfl)⟩
  rintro y27 _ _ ⟨s169, _, rfl, rfl, Ky27, By27_b3⟩
  refine dn (jc (fun (y171 : Int) e w => ∃ (s : St) (e0 : Env), w = s.w ∧ e = upd (upd (upd (upd (upd (upd (upd e0 0 w0_0) 1 (iI a1)) 5 (pB b3)) 7 (iI y171)) 10 w0_0) 11 (iI (a0.length : Int))) 12 (iI x7.2) ∧ Kp s0 s ∧ BlF s b3 29 [(iI a2.Kind), (iI a2.N), w2_0, w2_1] 40) (fun Gj171 Kj171 => ?_) ?_)
  ·
   refine cd rfl (fun h172 => ?_) (fun h172 => ?_)
   ·
    exact rg (Xb rfl (Xb rfl (dn (Kj171 _ _ _ ⟨s169, _, rfl, (ue (ue (ue (ue (ue (ue (ue rfl rfl) rfl) rfl) rfl) rfl) rfl) rfl), Ky27, By27_b3⟩))))
   exact sk (Kj171 _ _ _ ⟨s169, _, rfl, (ue (ue (ue (ue (ue (ue (ue rfl rfl) rfl) rfl) rfl) rfl) rfl) rfl), Ky27, By27_b3⟩)
  rintro y171 _ _ ⟨s173, _, rfl, rfl, Ky171, By171_b3⟩
  exact ib (rg (Xb rfl (Xb rfl (dn (lb ih7 ⟨s173, _, rfl, (ue (ue (ue (ue (ue (ue (ue rfl rfl) rfl) rfl) rfl) rfl) rfl) rfl), Ky171, By171_b3⟩)))))
 exact xt rfl (sgb (sr (Xb rfl (Xb rfl (dn (re rfl func215 rfl (Xs rfl Xg) rfl ⟨_, rfl, rfl, z.ky Kx7⟩))))))
def impl_readsSame.b0 (a0 : (List Deed)) (a1 : (List Int)) (a2 : Int) (a3 : Item) (x12 : Int × Int) : Option ((Int × Int) ⊕ Bool) :=
 (if (decide (x12.2 < ((a1.take (a2).toNat).length : Int))) = true then (if 0 ≤ x12.2 ∧ x12.2 < ((a1.take (a2).toNat).length : Int) then (if 0 ≤ (at_ (a1.take (a2).toNat) x12.2) ∧ (at_ (a1.take (a2).toNat) x12.2) < (a0.length : Int) then ((impl_Deed_writes.f (at_ a0 (at_ (a1.take (a2).toNat) x12.2)) a3).bind fun r33 => ((if r33 = true then (some (at_ (a1.take (a2).toNat) x12.2)) else (some x12.1)).bind fun y35 => (some (Sum.inl (y35, (IntKind.wrap .i64 (x12.2 + (1 : Int)))))))) else none) else none) else (((impl_behind.f a0 (at_ a1 a2) a3).bind fun r47 => (some (x12.1 == r47))).bind fun o => some (Sum.inr o)))
def impl_readsSame.f (a0 : (List Deed)) (a1 : (List Int)) (a2 : Int) (a3 : Item) : Option (Bool) :=
 (if 0 ≤ a2 ∧ a2 < (a1.length : Int) then (if 0 ≤ a2 ∧ a2 ≤ (a1.length : Int) then (iter (impl_readsSame.b0 a0 a1 a2 a3) ((-1 : Int), (0 : Int))) else none) else none)
def impl_readsSame.Q (w : World) (F : Nat → Prop) (r : Bool) (v : Value) (w' : World) : Prop :=
 v = (.bool r) ∧ Ky [] w w'
theorem impl_readsSame.calls (a0 : (List Deed)) (a1 : (List Int)) (a2 : Int) (a3 : Item) (w : World) (F : Nat → Prop) (w0_0 : Value) (w1_0 : Value) (w3_0 : Value) (w3_1 : Value) (h0_0 : Xz.rd w [w0_0] a0 F) (h1_0 : Xy.rd w [w1_0] a1 F) (h3_0 : Kd.flt.rd w [w3_0] a3.F F) (h3_1 : Xx.rd w [w3_1] a3.T F) (r : Bool) (m : impl_readsSame.f a0 a1 a2 a3 = some r) :
  Calls prog 132 #[w0_0, w1_0, (iI a2), (.agg #[(iI a3.Kind), (iI a3.N), w3_0, w3_1])] w (RT (impl_readsSame.Q w F) r) := by
 obtain ⟨s0, rfl, kp0, z⟩ := Xi w F
 have A0_0 := z.rd h0_0
 have A3_0 := Xu h3_0
 have A3_1 := z.rd h3_1
 refine Xc (args := [w0_0, w1_0, (iI a2), (.agg #[(iI a3.Kind), (iI a3.N), w3_0, w3_1])]) func132 ntmps132 rfl rfl m ?_
 unfold impl_readsSame.f
 refine sr (bx' (cs := [(iI a3.Kind), (iI a3.N), w3_0, w3_1]) 40 rfl rfl (fun b4 s4 p4 B4 => ?_))
 refine Xb rfl (dn (sr (Xp w1_0 rfl (Xb rfl ?_))))
 have K6 := kp0.st p4 rfl
 have A7 := (z.rd h1_0).kp K6
 refine ix' A7 u50 z3 rfl (fun ad8 es8 h0_8 h1_8 he8 ce8 ia8 => ?_)
 obtain rfl := he8
 refine lc0' ce8 u3 rfl (Xb rfl (Xb rfl (dn (sq (sr (Xp w1_0 rfl (Xb rfl (slh A7 u50 z3 rfl rfl rfl rfl rfl rfl rfl (fun v10 A10 => ?_)))))))))
 refine ln' A10 u50 rfl (Xb rfl (dn (bl (lpI (fun (x12 : Int × Int) e w => ∃ (s : St) (e0 : Env), w = s.w ∧ e = upd (upd (upd (upd (upd (upd (upd e0 0 w0_0) 7 (pB b4)) 9 (iI (at_ a1 a2))) 10 (iI x12.1)) 19 v10) 20 (iI ((a1.take (a2).toNat).length : Int))) 21 (iI x12.2) ∧ Kp s0 s ∧ BlF s b4 29 [(iI a3.Kind), (iI a3.N), w3_0, w3_1] 40 ∧ RdF Xy s [v10] (a1.take (a2).toNat) [0]) ⟨s4, _, rfl, (ue (ue (ue (ue (ue (ue (ue rfl rfl) rfl) rfl) rfl) rfl) rfl) rfl), K6, B4, A10⟩ (fun g12 ih12 => ?_)))))
 rintro x12 _ _ ⟨s13, _, rfl, rfl, Kx12, Bx12_b4, Cx12_11⟩
 unfold impl_readsSame.b0
 refine sr (Xb rfl (dn (sq (cd rfl (fun h15 => ?_) (fun h15 => ?_)))))
 ·
  refine sk (sq (bl (sr (ix' Cx12_11 u50 z3 rfl (fun ad16 es16 h0_16 h1_16 he16 ce16 ia16 => ?_)))))
  obtain rfl := he16
  refine lc0' ce16 u3 rfl (Xb rfl (dn (sq (zdraw [[], [], [0, 1], [2], [], [3, 4]] [some 25, some 26, some 27, some 28, some 29, some 30] [[0], [12], [25, 26], [27], [7], [28, 29]] [0, 1, 2, 3, 4, 5] ⟨by kernel_rfl, by kernel_rfl, by kernel_rfl⟩ (by kernel_rfl) (fun s18 p18 l18 tb18 zd18 => ?_)))))
  have K21 := Kx12.st p18 rfl
  have A22 := A0_0.kp K21
  refine mg fun hg23 => ?_
  obtain ⟨ad23, es23, he23, ce23, ia23⟩ := ix_e A22 rfl hg23.1 hg23.2
  obtain ⟨v23_0, v23_1, rfl, A23_0, A23_1⟩ := op143 he23
  refine zfin [5] tb18 (((((zd18.add 0 25 w0_0 rfl).add 1 26 (iI (at_ (a1.take (a2).toNat) x12.2)) rfl).add 2 27 (.pointer (some ad23)) rfl).add 3 28 (.agg #[(iI ((at_ a0 (at_ (a1.take (a2).toNat) x12.2)).Xid)), (iI ((at_ a0 (at_ (a1.take (a2).toNat) x12.2)).Begun)), (iI ((at_ a0 (at_ (a1.take (a2).toNat) x12.2)).Ended)), v23_0, v23_1]) rfl).add 4 29 (.agg #[(iI a3.Kind), (iI a3.N), w3_0, w3_1]) rfl) (Xa (lda_q (es := [(iI a3.Kind), (iI a3.N), w3_0, w3_1]) (Bx12_b4.st p18 rfl) u29 z29 rfl rfl rfl rfl rfl rfl rfl rfl) rfl (Xa (lca_q ce23 u143 z143 rfl rfl rfl rfl rfl rfl rfl) rfl (Xa (Xn A22 u62 z143 hg23.1 hg23.2 ia23 rfl) rfl (Xa (Xd rfl) rfl (Xa (Xl w0_0 rfl) rfl Xh))))) (by kernel_rfl) (by decide) (clV 41 rfl func214 rfl (impl_Deed_writes.calls (at_ a0 (at_ (a1.take (a2).toNat) x12.2)) a3 s18.w (mm [0] s18) v23_0 v23_1 w3_0 w3_1 A23_0 A23_1 ((Xk (s := s18) A3_0).sub (D := [0]) rfl) (A3_1.kp K21)) (fun r33 s34 p34 n34 => ?_))
  refine dn (jc (fun (y35 : Int) e w => ∃ (s : St) (e0 : Env), w = s.w ∧ e = upd (upd (upd (upd (upd (upd (upd e0 0 w0_0) 7 (pB b4)) 9 (iI (at_ a1 a2))) 10 (iI y35)) 19 v10) 20 (iI ((a1.take (a2).toNat).length : Int))) 21 (iI x12.2) ∧ Kp s0 s ∧ BlF s b4 29 [(iI a3.Kind), (iI a3.N), w3_0, w3_1] 40 ∧ RdF Xy s [v10] (a1.take (a2).toNat) [0]) (fun Gj35 Kj35 => ?_) ?_)
  ·
   refine cd rfl (fun h36 => ?_) (fun h36 => ?_)
   ·
    refine rg (Xb rfl (Xb rfl (dn ?_)))
    exact Kj35 _ _ _ ⟨s34, _, rfl, (ue (ue (ue (ue (ue (ue (ue rfl rfl) rfl) rfl) rfl) rfl) rfl) rfl), (K21.st p34 rfl), (Bx12_b4.st (Xq p18 p34) rfl), (Cx12_11.st (Xq p18 p34) rfl)⟩
   exact sk (Kj35 _ _ _ ⟨s34, _, rfl, (ue (ue (ue (ue (ue (ue (ue rfl rfl) rfl) rfl) rfl) rfl) rfl) rfl), (K21.st p34 rfl), (Bx12_b4.st (Xq p18 p34) rfl), (Cx12_11.st (Xq p18 p34) rfl)⟩)
  rintro y35 _ _ ⟨s43, _, rfl, rfl, Ky35, By35_b4, Cy35_11⟩
  exact ib (rg (Xb rfl (Xb rfl (dn (lb ih12 ⟨s43, _, rfl, (ue (ue (ue (ue (ue (ue (ue rfl rfl) rfl) rfl) rfl) rfl) rfl) rfl), Ky35, By35_b4, Cy35_11⟩)))))
 refine xt rfl (sgb (sr (Xb rfl (Xp w0_0 rfl (Xb rfl (lda' (es := [(iI a3.Kind), (iI a3.N), w3_0, w3_1]) Bx12_b4 u29 z29 rfl ?_))))))
 refine clV 42 rfl func215 rfl (impl_behind.calls a0 (at_ a1 a2) a3 s13.w (mm [0] s13) w0_0 w3_0 w3_1 (A0_0.kp Kx12) ((Xk (s := s13) A3_0).sub (D := [0]) rfl) (A3_1.kp Kx12)) (fun r47 s48 p48 n48 => ?_)
 refine Xb rfl (Xb rfl (dn ?_))
 exact re rfl func132 rfl (Xs rfl Xg) rfl ⟨_, rfl, rfl, z.ky (Kx12.st p48 rfl)⟩
def impl_GraphSerial.b2 (a0 : (List Deed)) (a1 : (List Int)) (x36 : Int) (x44 : Int) (x60 : Int) : Option (Int ⊕ (Int ⊕ (Int ⊕ Bool))) :=
 (if (decide (x60 < (((at_ a0 x44).Writes).length : Int))) = true then (if 0 ≤ x60 ∧ x60 < (((at_ a0 x44).Writes).length : Int) then (if 0 ≤ (at_ a1 x36) ∧ (at_ a1 x36) < (a0.length : Int) then ((impl_Deed_readsKey.f (at_ a0 (at_ a1 x36)) (at_ ((at_ a0 x44).Writes) x60)).bind fun r92 => ((if r92 = true then ((impl_readsSame.f a0 a1 x36 (at_ ((at_ a0 x44).Writes) x60)).bind fun r109 => (some (!r109))) else (some false)).bind fun y96 => (if y96 = true then (some (Sum.inr (Sum.inr (Sum.inr false)))) else (some (Sum.inl (IntKind.wrap .i64 (x60 + (1 : Int)))))))) else none) else none) else ((some (Sum.inl (IntKind.wrap .i64 (x44 + (1 : Int))))).bind fun o => some (Sum.inr o)))
def impl_GraphSerial.b1 (a0 : (List Deed)) (a1 : (List Int)) (x36 : Int) (x44 : Int) : Option (Int ⊕ (Int ⊕ Bool)) :=
 (if (decide (x44 < (a0.length : Int))) = true then (if 0 ≤ x44 ∧ x44 < (a0.length : Int) then (iter (impl_GraphSerial.b2 a0 a1 x36 x44) (0 : Int)) else none) else ((some (Sum.inl (IntKind.wrap .i64 (x36 + (1 : Int))))).bind fun o => some (Sum.inr o)))
def impl_GraphSerial.b0 (a0 : (List Deed)) (a1 : (List Int)) (x36 : Int) : Option (Int ⊕ Bool) :=
 (if (decide (x36 < (a1.length : Int))) = true then (if 0 ≤ x36 ∧ x36 < (a1.length : Int) then (iter (impl_GraphSerial.b1 a0 a1 x36) (0 : Int)) else none) else ((some true).bind fun o => some (Sum.inr o)))
def impl_GraphSerial.f (a0 : (List Deed)) (a1 : (List Int)) : Option (Bool) :=
 ((impl_DeedsOk.f a0).bind fun r7 => ((if ((!r7) || ((a1.length : Int) != (a0.length : Int))) = true then (some true) else ((impl_areDifferent_int.f a1 impl_GraphSerial_1.f).bind fun r19 => (some (!r19)))).bind fun y14 => ((if y14 = true then (some true) else ((impl_areAll_int.f a1 (fun x0 => impl_GraphSerial_2.f x0 a0)).bind fun r28 => (some (!r28)))).bind fun y25 => (if y25 = true then (some false) else (iter (impl_GraphSerial.b0 a0 a1) (0 : Int))))))
def impl_GraphSerial.Q (w : World) (F : Nat → Prop) (r : Bool) (v : Value) (w' : World) : Prop :=
 v = (.bool r) ∧ Ky [] w w'
theorem impl_GraphSerial.calls (a0 : (List Deed)) (a1 : (List Int)) (w : World) (F : Nat → Prop) (w0_0 : Value) (w1_0 : Value) (h0_0 : Xz.rd w [w0_0] a0 F) (h1_0 : Xy.rd w [w1_0] a1 F) (r : Bool) (m : impl_GraphSerial.f a0 a1 = some r) :
  Calls prog 40 #[w0_0, w1_0] w (RT (impl_GraphSerial.Q w F) r) := by
 obtain ⟨s0, rfl, kp0, z⟩ := Xi w F
 have A0_0 := z.rd h0_0
 have A1_0 := z.rd h1_0
 refine Xc (args := [w0_0, w1_0]) func40 ntmps40 rfl rfl m ?_
 unfold impl_GraphSerial.f
 refine sr (bx' (cs := [w0_0]) 40 rfl (oc A0_0.one) (fun b3 s3 p3 B3 => ?_))
 refine Xb rfl (dn (sq (sr (ld' B3 u62 rfl ?_))))
 have K5 := kp0.st p3 rfl
 refine clV 41 rfl func36 rfl (impl_DeedsOk.calls a0 s3.w (mm [0] s3) w0_0 (A0_0.kp K5)) (fun r7 s8 p8 n8 => ?_)
 refine Xb rfl (Xb rfl (jy [14, 15, 16, 17, 18, 19, 20] [10, 11, 12, 13, 14, 15, 16, 17, 18, 19, 20] 20 (.bool ((!r7) || ((a1.length : Int) != (a0.length : Int)))) rfl (fun Kg9 => ?_) (fun j9 => ?_)))
 ·
  rcases bft (!r7) with hb9 | hb9
  ·
   exact Xv hb9 (Xj rfl (Xj rfl (Xj rfl (Xj rfl (Xj rfl (Xb rfl (Kg9 _ (Ag.put ((Ag.put ((Ag.put ((Ag.put ((Ag.put ((Ag.put (Ag.base rfl) rfl)) rfl)) rfl)) rfl)) rfl)) rfl) (by rw [hb9]; rfl))))))))
  refine Xv hb9 (Xp w1_0 rfl ?_)
  have K10 := K5.st p8 rfl
  exact ln' (A1_0.kp K10) u50 rfl (ld' (B3.st p8 rfl) u62 rfl (ln' (A0_0.kp K10) u62 rfl (Xb rfl (Xb rfl (Kg9 _ (Ag.put ((Ag.put ((Ag.put ((Ag.put ((Ag.put ((Ag.put (Ag.base rfl) rfl)) rfl)) rfl)) rfl)) rfl)) rfl) (by rw [hb9]; rfl))))))
 refine Xb rfl (ji [15, 16, 17, 18, 19, 20] (fun (y14 : Bool) e w => ∃ (s : St) (e0 : Env), w = s.w ∧ e = upd (upd (upd e0 1 w1_0) 2 (pB b3)) 25 (.bool y14) ∧ Kp s0 s ∧ BlF s b3 62 [w0_0] 40) (fun Gj14 Kj14 => ?_) ?_)
 ·
  rcases bft ((!r7) || ((a1.length : Int) != (a0.length : Int))) with hb14 | hb14
  ·
   refine Xv hb14 ?_
   rw [if_pos hb14]
   refine Xj rfl (Xj rfl (Xj rfl (Xb rfl ?_)))
   exact Kj14 _ _ _ ⟨s8, _, rfl, (ue (ue (ue rfl rfl) rfl) rfl), (K5.st p8 rfl), (B3.st p8 rfl)⟩
  refine Xv hb14 ?_
  rw [if_neg (by rw [hb14]; decide)]
  refine Xp w1_0 rfl ?_
  have K17 := K5.st p8 rfl
  refine clV 42 rfl func121 rfl (impl_areDifferent_int.calls a1 impl_GraphSerial_1.f s8.w (mm [0] s8) w1_0 (.func (.func 128) #[] #[]) (A1_0.kp K17) (fun x0 w' k  r m =>  ⟨128, _, _, [], [], rfl, func128, rfl, rfl, (impl_GraphSerial_1.calls x0 w' (fun _ => True)  r m).mono fun en w2 hq => by obtain ⟨v, e, q⟩ := hq; exact ⟨v, e, q⟩⟩) rfl) (fun r19 s20 p20 n20 => ?_)
  refine Xb rfl (Xb rfl ?_)
  exact Kj14 _ _ _ ⟨s20, _, rfl, (ue (ue (ue rfl rfl) rfl) rfl), (K17.st p20 rfl), (B3.st (Xq p8 p20) rfl)⟩
 rintro y14 _ _ ⟨s23, _, rfl, rfl, Ky14, By14_b3⟩
 refine Xb rfl (ji [] (fun (y25 : Bool) e w => ∃ (s : St) (e0 : Env), w = s.w ∧ e = upd (upd (upd e0 1 w1_0) 2 (pB b3)) 31 (.bool y25) ∧ Kp s0 s ∧ BlF s b3 62 [w0_0] 40) (fun Gj25 Kj25 => ?_) ?_)
 ·
  rcases bft y14 with hb25 | hb25
  ·
   refine Xv hb25 ?_
   rw [if_pos hb25]
   exact Xj rfl (Xj rfl (Xj rfl (Xj rfl (Xb rfl (Kj25 _ _ _ ⟨s23, _, rfl, (ue (ue (ue rfl rfl) rfl) rfl), Ky14, By14_b3⟩)))))
  refine Xv hb25 ?_
  rw [if_neg (by rw [hb25]; decide)]
  refine Xp w1_0 rfl (mkf (fs := []) (cs := [(pB b3)]) rfl rfl rfl rfl rfl rfl rfl ?_)
  refine clV 43 rfl func129 rfl (impl_areAll_int.calls a1 (fun x0 => impl_GraphSerial_2.f x0 a0) s23.w (mm [0] s23) w1_0 (.func (.func 130) (List.toArray []) (List.toArray [(pB b3)])) (A1_0.kp Ky14) (fun x0 w' k  r m =>  ⟨130, _, _, [], [(pB b3)], rfl, func130, rfl, rfl, (impl_GraphSerial_2.calls x0 a0 w' (fun _ => True) b3 w0_0 (RdF.ky (A0_0.kp Ky14) k) (By14_b3.ky k) trivial r m).mono fun en w2 hq => by obtain ⟨v, e, q⟩ := hq; exact ⟨v, e, q⟩⟩) rfl) (fun r28 s29 p29 n29 => ?_)
  refine Xb rfl (Xb rfl ?_)
  exact Kj25 _ _ _ ⟨s29, _, rfl, (ue (ue (ue rfl rfl) rfl) rfl), (Ky14.st p29 rfl), (By14_b3.st p29 rfl)⟩
 rintro y25 _ _ ⟨s32, _, rfl, rfl, Ky25, By25_b3⟩
 refine dn (cd rfl (fun h34 => ?_) (fun h34 => ?_))
 ·
  exact sr (Xb rfl (dn (re rfl func40 rfl (Xs rfl Xg) rfl ⟨_, rfl, rfl, z.ky Ky25⟩)))
 refine sk (sq (sr (Xp w1_0 rfl ?_)))
 refine ln' (A1_0.kp Ky25) u50 rfl (Xb rfl (dn (bl (lpI (fun (x36 : Int) e w => ∃ (s : St) (e0 : Env), w = s.w ∧ e = upd (upd (upd (upd (upd e0 1 w1_0) 2 (pB b3)) 32 w1_0) 33 (iI (a1.length : Int))) 34 (iI x36) ∧ Kp s0 s ∧ BlF s b3 62 [w0_0] 40) ⟨s32, _, rfl, (ue (ue (ue (ue (ue rfl rfl) rfl) rfl) rfl) rfl), Ky25, By25_b3⟩ (fun g36 ih36 => ?_)))))
 rintro x36 _ _ ⟨s37, _, rfl, rfl, Kx36, Bx36_b3⟩
 unfold impl_GraphSerial.b0
 refine sr (Xb rfl (dn (sq (cd rfl (fun h39 => ?_) (fun h39 => ?_)))))
 ·
  refine sk (sq (bl (sr (Xb rfl ?_))))
  refine ix' (A1_0.kp Kx36) u50 z3 rfl (fun ad41 es41 h0_41 h1_41 he41 ce41 ia41 => ?_)
  obtain rfl := he41
  refine lc0' ce41 u3 rfl (Xb rfl (Xb rfl (dn (sr (ld' Bx36_b3 u62 rfl ?_)))))
  refine ln' (A0_0.kp Kx36) u62 rfl (Xb rfl (dn (bl (lpI (fun (x44 : Int) e w => ∃ (s : St) (e0 : Env), w = s.w ∧ e = upd (upd (upd (upd (upd (upd (upd (upd (upd (upd e0 1 w1_0) 2 (pB b3)) 5 (iI x36)) 6 (iI (at_ a1 x36))) 32 w1_0) 33 (iI (a1.length : Int))) 34 (iI x36)) 39 w0_0) 40 (iI (a0.length : Int))) 41 (iI x44) ∧ Kp s0 s ∧ BlF s b3 62 [w0_0] 40) ⟨s37, _, rfl, (ue (ue (ue (ue (ue (ue (ue (ue (ue (ue rfl rfl) rfl) rfl) rfl) rfl) rfl) rfl) rfl) rfl) rfl), Kx36, Bx36_b3⟩ (fun g44 ih44 => ?_)))))
  rintro x44 _ _ ⟨s45, _, rfl, rfl, Kx44, Bx44_b3⟩
  unfold impl_GraphSerial.b1
  refine sr (Xb rfl (dn (sq (cd rfl (fun h47 => ?_) (fun h47 => ?_)))))
  ·
   refine sk (sq (bl (sr ?_)))
   refine ix' (A0_0.kp Kx44) u62 z143 rfl (fun ad49 es49 h0_49 h1_49 he49 ce49 ia49 => ?_)
   obtain ⟨v49_0, v49_1, rfl, A49_0, A49_1⟩ := op143 he49
   refine lca ce49 u143 z143 rfl rfl rfl rfl rfl rfl rfl (al (cs := [(iI 0), (iI 0), (iI 0), (.slice none 0 0), (.slice none 0 0)]) 44 rfl rfl rfl rfl rfl o143 rfl (fun b53 s53 p53 B53 => ?_))
   have A55 := A49_1.st p53 rfl
   refine sva' (vs := [(iI ((at_ a0 x44).Xid)), (iI ((at_ a0 x44).Begun)), (iI ((at_ a0 x44).Ended)), v49_0, v49_1]) B53 z143 rfl (Xe rfl (Xe rfl (Xe rfl (Xe (A49_0.st p53 rfl).one (Xe A55.one on_nil))))) rfl (fun s57 p57 B57 => ?_)
   refine dn (sr (fa' fa143_4 rfl (ld' B57 u141 rfl ?_)))
   have A59 := A55.st p57 rfl
   refine ln' A59 u141 rfl (Xb rfl (dn (bl ?_)))
   refine lpI (fun (x60 : Int) e w => ∃ (s : St) (e0 : Env), w = s.w ∧ e = upd (upd (upd (upd (upd (upd (upd (upd (upd (upd (upd (upd (upd e0 1 w1_0) 2 (pB b3)) 5 (iI x36)) 6 (iI (at_ a1 x36))) 32 w1_0) 33 (iI (a1.length : Int))) 34 (iI x36)) 39 w0_0) 40 (iI (a0.length : Int))) 41 (iI x44)) 46 v49_1) 47 (iI (((at_ a0 x44).Writes).length : Int))) 48 (iI x60) ∧ Kp s0 s ∧ BlF s b3 62 [w0_0] 40 ∧ RdF Ya s [v49_1] ((at_ a0 x44).Writes) [0]) ⟨s57, _, rfl, (ue (ue (ue (ue (ue (ue (ue (ue (ue (ue (ue (ue (ue rfl rfl) rfl) rfl) rfl) rfl) rfl) rfl) rfl) rfl) rfl) rfl) rfl) rfl), (Kx44.st (Xq p53 p57) rfl), (Bx44_b3.st (Xq p53 p57) rfl), A59⟩ (fun g60 ih60 => ?_)
   rintro x60 _ _ ⟨s63, _, rfl, rfl, Kx60, Bx60_b3, Cx60_51⟩
   unfold impl_GraphSerial.b2
   refine sr (Xb rfl (dn (sq (cd rfl (fun h65 => ?_) (fun h65 => ?_)))))
   ·
    refine sk (sq (bl (sr (ix' Cx60_51 u141 z29 rfl (fun ad66 es66 h0_66 h1_66 he66 ce66 ia66 => ?_)))))
    obtain ⟨v66_0, v66_1, rfl, A66_0, A66_1⟩ := op29 he66
    refine lca ce66 u29 z29 rfl rfl rfl rfl rfl rfl rfl (al (cs := [(iI 0), (iI 0), (.float .f64 0), (.slice none 0 0)]) 45 rfl rfl rfl rfl rfl o29 rfl (fun b69 s69 p69 B69 => ?_))
    have A71 := A66_1.st p69 rfl
    refine sva' (vs := [(iI ((at_ ((at_ a0 x44).Writes) x60).Kind)), (iI ((at_ ((at_ a0 x44).Writes) x60).N)), v66_0, v66_1]) B69 z29 rfl (Xe rfl (Xe rfl (Xe (FL.one A66_0) (Xe A71.one on_nil)))) rfl (fun s72 p72 B72 => ?_)
    refine dn (sq (zdraw [[], [], [0, 1], [2], [], [3, 4], [5, 5], [6], [6], [6], [6], [7, 8, 9, 10, 6, 6], [11, 6], [6, 12]] [some 52, some 53, some 54, some 55, some 56, some 57, some 58, some 59, some 60, some 61, some 62, some 63, some 64, some 65] [[2], [6], [52, 53], [54], [10], [55, 56], [57], [2, 58], [1, 58], [5, 58], [10, 58], [59, 60, 61, 62, 58], [63, 58], [58, 64]] [0, 1, 2, 3, 4, 5, 6, 7, 8, 9, 10, 11, 12, 13] ⟨by kernel_rfl, by kernel_rfl, by kernel_rfl⟩ (by kernel_rfl) (fun s74 p74 l74 tb74 zd74 => ?_)))
    have K78 := Kx60.st (tr3 p69 p72 p74) rfl
    have A79 := A0_0.kp K78
    refine mg fun hg80 => ?_
    obtain ⟨ad80, es80, he80, ce80, ia80⟩ := ix_e A79 rfl hg80.1 hg80.2
    obtain ⟨v80_0, v80_1, rfl, A80_0, A80_1⟩ := op143 he80
    refine zstep 5 [] tb74 (((((zd74.add 0 52 w0_0 rfl).add 1 53 (iI (at_ a1 x36)) rfl).add 2 54 (.pointer (some ad80)) rfl).add 3 55 (.agg #[(iI ((at_ a0 (at_ a1 x36)).Xid)), (iI ((at_ a0 (at_ a1 x36)).Begun)), (iI ((at_ a0 (at_ a1 x36)).Ended)), v80_0, v80_1]) rfl).add 4 56 (.agg #[(iI ((at_ ((at_ a0 x44).Writes) x60).Kind)), (iI ((at_ ((at_ a0 x44).Writes) x60).N)), v66_0, v66_1]) rfl) (Xa (lda_q (es := [(iI ((at_ ((at_ a0 x44).Writes) x60).Kind)), (iI ((at_ ((at_ a0 x44).Writes) x60).N)), v66_0, v66_1]) (B72.st p74 rfl) u29 z29 rfl rfl rfl rfl rfl rfl rfl rfl) rfl (Xa (lca_q ce80 u143 z143 rfl rfl rfl rfl rfl rfl rfl) rfl (Xa (Xn A79 u62 z143 hg80.1 hg80.2 ia80 rfl) rfl (Xa (Xd rfl) rfl (Xa (Xr (Bx60_b3.st (tr3 p69 p72 p74) rfl) u62 rfl) rfl Xh))))) (by kernel_rfl) rfl (fun l88 e88 zd88 => ?_)
    have A91 := A71.st (Xq p72 p74) rfl
    refine clV 46 rfl func131 rfl (impl_Deed_readsKey.calls (at_ a0 (at_ a1 x36)) (at_ ((at_ a0 x44).Writes) x60) s74.w (mm [0] s74) v80_0 v80_1 v66_0 v66_1 A80_0 A80_1 ((Xk (s := s74) A66_0).sub (D := [0]) rfl) A91) (fun r92 s93 p93 n93 => ?_)
    refine zdone (L' := []) (D' := [0, 1, 2, 3, 4, 5]) zd88 rfl rfl rfl (fun zd94 => ?_)
    have zd95 := zd94.add 6 58 (.bool r92) rfl
    refine ji [] (fun (y96 : Bool) e w => ∃ (s : St) (e0 : Env), w = s.w ∧ e = upd (upd (upd (upd (upd (upd (upd (upd (upd (upd (upd (upd (upd (upd e0 1 w1_0) 2 (pB b3)) 5 (iI x36)) 6 (iI (at_ a1 x36))) 32 w1_0) 33 (iI (a1.length : Int))) 34 (iI x36)) 39 w0_0) 40 (iI (a0.length : Int))) 41 (iI x44)) 46 v49_1) 47 (iI (((at_ a0 x44).Writes).length : Int))) 48 (iI x60)) 65 (.bool y96) ∧ Kp s0 s ∧ BlF s b3 62 [w0_0] 40 ∧ RdF Ya s [v49_1] ((at_ a0 x44).Writes) [0]) (fun Gj96 Kj96 => ?_) ?_
    ·
     rcases bft r92 with hb96 | hb96
     ·
      rw [if_pos hb96]
      rw [hb96] at zd95
      try rw [hb96]
      refine zfin [11, 12, 13] tb74 ((((zd95.add 7 59 w0_0 rfl).add 8 60 w1_0 rfl).add 9 61 (iI x36) rfl).add 10 62 (.agg #[(iI ((at_ ((at_ a0 x44).Writes) x60).Kind)), (iI ((at_ ((at_ a0 x44).Writes) x60).N)), v66_0, v66_1]) rfl) (Xa (lda_q (es := [(iI ((at_ ((at_ a0 x44).Writes) x60).Kind)), (iI ((at_ ((at_ a0 x44).Writes) x60).N)), v66_0, v66_1]) (B72.st (Xq p74 p93) rfl) u29 z29 rfl rfl rfl rfl rfl rfl rfl rfl) rfl (Xa (Xd rfl) rfl (Xa (Xl w1_0 rfl) rfl (Xa (Xr (Bx60_b3.st (tr4 p69 p72 p74 p93) rfl) u62 rfl) rfl (Xa (Xd rfl) rfl Xh))))) (by kernel_rfl) (by decide) ?_
      have K105 := K78.st p93 rfl
      refine clV 47 rfl func132 rfl (impl_readsSame.calls a0 a1 x36 (at_ ((at_ a0 x44).Writes) x60) s93.w (mm [0] s93) w0_0 w1_0 v66_0 v66_1 (A0_0.kp K105) (A1_0.kp K105) ((Xk (s := s93) A66_0).sub (D := [0]) rfl) (A91.st p93 rfl)) (fun r109 s110 p110 n110 => ?_)
      refine Xb rfl (Xb rfl ?_)
      exact Kj96 _ _ _ ⟨s110, _, rfl, (ue (ue (ue (ue (ue (ue (ue (ue (ue (ue (ue (ue (ue (ue rfl rfl) rfl) rfl) rfl) rfl) rfl) rfl) rfl) rfl) rfl) rfl) rfl) rfl) rfl), (K105.st p110 rfl), (Bx60_b3.st (tr5 p69 p72 p74 p93 p110) rfl), (Cx60_51.st (tr5 p69 p72 p74 p93 p110) rfl)⟩
     rw [if_neg (by rw [hb96]; decide)]
     rw [hb96] at zd95
     try rw [hb96]
     refine zfin [11, 12, 13] tb74 ((((zd95.add 7 59 undef rfl).add 8 60 undef rfl).add 9 61 undef rfl).add 10 62 undef rfl) (Xa (Xf rfl) rfl (Xa (Xf rfl) rfl (Xa (Xf rfl) rfl (Xa (Xf rfl) rfl (Xa (Xd rfl) rfl Xh))))) (by kernel_rfl) (by decide) (Xj rfl (Xj rfl (Xb rfl ?_)))
     exact Kj96 _ _ _ ⟨s93, _, rfl, (ue (ue (ue (ue (ue (ue (ue (ue (ue (ue (ue (ue (ue (ue rfl rfl) rfl) rfl) rfl) rfl) rfl) rfl) rfl) rfl) rfl) rfl) rfl) rfl) rfl), (K78.st p93 rfl), (Bx60_b3.st (tr4 p69 p72 p74 p93) rfl), (Cx60_51.st (tr4 p69 p72 p74 p93) rfl)⟩
    rintro y96 _ _ ⟨s121, _, rfl, rfl, Ky96, By96_b3, Cy96_51⟩
    refine dn (cd rfl (fun h123 => ?_) (fun h123 => ?_))
    ·
     exact sr (Xb rfl (dn (sgi (sgi (sgi (re rfl func40 rfl (Xs rfl Xg) rfl ⟨_, rfl, rfl, z.ky Ky96⟩))))))
    exact sk (ib (rg (Xb rfl (Xb rfl (dn (lb ih60 ⟨s121, _, rfl, (ue (ue (ue (ue (ue (ue (ue (ue (ue (ue (ue (ue (ue rfl rfl) rfl) rfl) rfl) rfl) rfl) rfl) rfl) rfl) rfl) rfl) rfl) rfl), Ky96, By96_b3, Cy96_51⟩))))))
   exact xt rfl (sgb (ib (rg (Xb rfl (Xb rfl (dn (lb ih44 ⟨s63, _, rfl, (ue (ue (ue (ue (ue (ue (ue (ue (ue (ue rfl rfl) rfl) rfl) rfl) rfl) rfl) rfl) rfl) rfl) rfl), Kx60, Bx60_b3⟩)))))))
  exact xt rfl (sgb (ib (rg (Xb rfl (Xb rfl (dn (lb ih36 ⟨s45, _, rfl, (ue (ue (ue (ue (ue rfl rfl) rfl) rfl) rfl) rfl), Kx44, Bx44_b3⟩)))))))
 exact xt rfl (sgb (sr (Xb rfl (dn (re rfl func40 rfl (Xs rfl Xg) rfl ⟨_, rfl, rfl, z.ky Kx36⟩)))))
def spec_l14behind.b0 (a0 : (List Deed)) (a1 : Int) (a2 : Item) (x5 : Int × Int) : Option ((Int × Int) ⊕ Int) :=
 (if (decide (x5.2 < (a0.length : Int))) = true then ((if (x5.2 != a1) = true then (if 0 ≤ x5.2 ∧ x5.2 < (a0.length : Int) then ((spec_l13has.f ((at_ a0 x5.2).Writes) a2).bind fun r33 => ((if r33 = true then (if 0 ≤ x5.2 ∧ x5.2 < (a0.length : Int) then (if 0 ≤ a1 ∧ a1 < (a0.length : Int) then ((if (decide ((at_ a0 x5.2).Ended < (at_ a0 a1).Begun)) = true then ((if (decide (x5.1 < (0 : Int))) = true then (some (true, true, true)) else (if 0 ≤ x5.2 ∧ x5.2 < (a0.length : Int) then (if 0 ≤ x5.1 ∧ x5.1 < (a0.length : Int) then (some (false, false, (decide ((at_ a0 x5.2).Ended > (at_ a0 x5.1).Ended)))) else none) else none)).bind fun y66 => (some (true, y66.2.2))) else (some (false, false))).bind fun y62 => (some (true, y62.2))) else none) else none) else (some (false, false))).bind fun y38 => (some y38.2))) else none) else (some false)).bind fun y16 => ((if y16 = true then (some x5.2) else (some x5.1)).bind fun y188 => (some (Sum.inl (y188, (IntKind.wrap .i64 (x5.2 + (1 : Int)))))))) else ((some x5.1).bind fun o => some (Sum.inr o)))
def spec_l14behind.f (a0 : (List Deed)) (a1 : Int) (a2 : Item) : Option (Int) :=
 (iter (spec_l14behind.b0 a0 a1 a2) ((-1 : Int), (0 : Int)))
def spec_l14behind.Q (w : World) (F : Nat → Prop) (r : Int) (v : Value) (w' : World) : Prop :=
 v = (iI r) ∧ Ky [] w w'
theorem spec_l14behind.calls (a0 : (List Deed)) (a1 : Int) (a2 : Item) (w : World) (F : Nat → Prop) (w0_0 : Value) (w2_0 : Value) (w2_1 : Value) (h0_0 : Xz.rd w [w0_0] a0 F) (h2_0 : Kd.flt.rd w [w2_0] a2.F F) (h2_1 : Xx.rd w [w2_1] a2.T F) (r : Int) (m : spec_l14behind.f a0 a1 a2 = some r) :
  Calls prog 135 #[w0_0, (iI a1), (.agg #[(iI a2.Kind), (iI a2.N), w2_0, w2_1])] w (RT (spec_l14behind.Q w F) r) := by
 obtain ⟨s0, rfl, kp0, z⟩ := Xi w F
 have A0_0 := z.rd h0_0
 have A2_0 := Xu h2_0
 have A2_1 := z.rd h2_1
 refine Xc (args := [w0_0, (iI a1), (.agg #[(iI a2.Kind), (iI a2.N), w2_0, w2_1])]) func135 ntmps135 rfl rfl m ?_
 unfold spec_l14behind.f
 refine sr (bx' (cs := [(iI a2.Kind), (iI a2.N), w2_0, w2_1]) 40 rfl rfl (fun b3 s3 p3 B3 => ?_))
 refine Xb rfl (dn (sr (Xb rfl (dn (sq (sr (Xb rfl (dn (bl ?_)))))))))
 refine lpI (fun (x5 : Int × Int) e w => ∃ (s : St) (e0 : Env), w = s.w ∧ e = upd (upd (upd (upd (upd e0 0 w0_0) 1 (iI a1)) 5 (pB b3)) 7 (iI x5.1)) 8 (iI x5.2) ∧ Kp s0 s ∧ BlF s b3 29 [(iI a2.Kind), (iI a2.N), w2_0, w2_1] 40) ⟨s3, _, rfl, (ue (ue (ue (ue (ue rfl rfl) rfl) rfl) rfl) rfl), (kp0.st p3 rfl), B3⟩ (fun g5 ih5 => ?_)
 rintro x5 _ _ ⟨s7, _, rfl, rfl, Kx5, Bx5_b3⟩
 unfold spec_l14behind.b0
 refine sq (sr (Xb rfl (Xp w0_0 rfl ?_)))
 refine ln' (A0_0.kp Kx5) u62 rfl (Xb rfl (dn (cd rfl (fun h10 => ?_) (fun h10 => ?_))))
 ·
  refine sk (sq (bl (sq (zdraw [[], [], [0, 1], [2], [3], [3], [4, 5, 3], [6, 3], [7, 3], [3], [8, 9, 3, 3], [3, 10], [11, 10], [12], [12], [13, 14, 12], [15, 12], [16, 12], [12], [12], [18, 19, 12], [20, 12], [21, 12], [17, 22, 12], [12, 23], [24, 12], [25], [26, 25], [27, 25, 25], [28], [28], [29, 30, 28], [31, 28], [32, 28], [28], [28], [34, 35, 28], [36, 28], [37, 28], [33, 38, 28], [28, 39, 25], [25, 40]] [some 15, some 16, some 17, some 18, some 19, some 20, some 21, some 22, some 23, some 24, some 25, some 26, some 27, some 28, some 29, some 30, some 31, some 32, some 33, some 34, some 35, some 36, some 37, some 38, some 39, some 40, some 41, some 42, some 43, some 44, some 45, some 46, some 47, some 48, some 49, some 50, some 51, some 52, some 53, some 54, some 55, some 56] [[8], [1], [15, 16], [17], [0, 18], [8, 18], [19, 20, 18], [21, 18], [22, 18], [5, 18], [23, 24, 18], [18, 25], [26], [0, 27], [8, 27], [28, 29, 27], [30, 27], [31, 27], [0, 27], [1, 27], [33, 34, 27], [35, 27], [36, 27], [32, 37, 27], [27, 38], [39], [7, 40], [41, 40], [42, 40], [0, 43], [8, 43], [44, 45, 43], [46, 43], [47, 43], [0, 43], [7, 43], [49, 50, 43], [51, 43], [52, 43], [48, 53, 43], [43, 54, 40], [40, 55]] [0, 1, 2, 3, 4, 5, 6, 7, 8, 9, 10, 11, 12, 13, 14, 15, 16, 17, 18, 19, 20, 21, 22, 23, 24, 25, 26, 27, 28, 29, 30, 31, 32, 33, 34, 35, 36, 37, 38, 39, 40, 41] ⟨by kernel_rfl, by kernel_rfl, by kernel_rfl⟩ (by kernel_rfl) (fun s11 p11 l11 tb11 zd11 => ?_)))))
  have zd15 := (((zd11.add 0 15 (iI x5.2) rfl).add 1 16 (iI a1) rfl).add 2 17 (.bool (x5.2 != a1)) rfl).add 3 18 (.bool (x5.2 != a1)) rfl
  refine ji [] (fun (y16 : Bool) e w => ∃ (s : St) (e0 : Env), w = s.w ∧ e = upd (upd (upd (upd (upd (upd e0 0 w0_0) 1 (iI a1)) 5 (pB b3)) 7 (iI x5.1)) 8 (iI x5.2)) 56 (.bool y16) ∧ Kp s0 s ∧ BlF s b3 29 [(iI a2.Kind), (iI a2.N), w2_0, w2_1] 40) (fun Gj16 Kj16 => ?_) ?_
  ·
   rcases bft (x5.2 != a1) with hb16 | hb16
   ·
    rw [if_pos hb16]
    rw [hb16] at zd15
    try rw [hb16]
    have K19 := Kx5.st p11 rfl
    have A20 := A0_0.kp K19
    refine mg fun hg21 => ?_
    obtain ⟨ad21, es21, he21, ce21, ia21⟩ := ix_e A20 rfl hg21.1 hg21.2
    obtain ⟨v21_0, v21_1, rfl, A21_0, A21_1⟩ := op143 he21
    refine zstep 10 [] tb11 ((((((zd15.add 4 19 w0_0 rfl).add 5 20 (iI x5.2) rfl).add 6 21 (.pointer (some ad21)) rfl).add 7 22 (.pointer (some (ad21.add 4))) rfl).add 8 23 v21_1 rfl).add 9 24 (.agg #[(iI a2.Kind), (iI a2.N), w2_0, w2_1]) rfl) (Xa (lda_q (es := [(iI a2.Kind), (iI a2.N), w2_0, w2_1]) (Bx5_b3.st p11 rfl) u29 z29 rfl rfl rfl rfl rfl rfl rfl rfl) rfl (Xa (lc_q' ce21 u141 rfl) rfl (Xa (Xm fa143_4 rfl) rfl (Xa (Xn A20 u62 z143 hg21.1 hg21.2 ia21 rfl) rfl (Xa (Xd rfl) rfl (Xa (Xl w0_0 rfl) rfl (Xa (Xd rfl) rfl (Xa (qv_b (Xd rfl) hb16) rfl (Xa (Xd rfl) rfl (Xa (Xd rfl) rfl Xh)))))))))) (by kernel_rfl) rfl (fun l30 e30 zd30 => ?_)
    refine clV 41 rfl func134 rfl (spec_l13has.calls ((at_ a0 x5.2).Writes) a2 s11.w (mm [0] s11) v21_1 w2_0 w2_1 A21_1 ((Xk (s := s11) A2_0).sub (D := [0]) rfl) (A2_1.kp K19)) (fun r33 s34 p34 n34 => ?_)
    refine zdone (L' := []) (D' := [0, 1, 2, 4, 5, 6, 7, 8, 9, 3, 3, 10]) zd30 rfl rfl rfl (fun zd35 => ?_)
    have zd37 := (zd35.add 11 26 (.bool r33) rfl).add 12 27 (.bool r33) rfl
    refine ji [] (fun (y38 : Bool × Bool) e w => ∃ (s : St) (e0 : Env), w = s.w ∧ e = upd (upd (upd (upd (upd (upd (upd (upd (upd (upd (upd (upd (upd e0 0 w0_0) 1 (iI a1)) 5 (pB b3)) 7 (iI x5.1)) 8 (iI x5.2)) 19 w0_0) 20 (iI x5.2)) 21 (.pointer (some ad21))) 22 (.pointer (some (ad21.add 4)))) 23 v21_1) 24 (.agg #[(iI a2.Kind), (iI a2.N), w2_0, w2_1])) 25 (.bool y38.1)) 56 (.bool y38.2) ∧ Kp s0 s ∧ BlF s b3 29 [(iI a2.Kind), (iI a2.N), w2_0, w2_1] 40 ∧ RdF Ya s [v21_1] ((at_ a0 x5.2).Writes) [0]) (fun Gj38 Kj38 => ?_) ?_
    ·
     rcases bft r33 with hb38 | hb38
     ·
      rw [if_pos hb38]
      rw [hb38] at zd37
      try rw [hb38]
      have K41 := K19.st p34 rfl
      have A42 := A0_0.kp K41
      refine mg fun hg43 => ?_
      obtain ⟨ad43, es43, he43, ce43, ia43⟩ := ix_e A42 rfl hg43.1 hg43.2
      obtain ⟨v43_0, v43_1, rfl, A43_0, A43_1⟩ := op143 he43
      refine mg fun hg52 => ?_
      obtain ⟨ad52, es52, he52, ce52, ia52⟩ := ix_e A42 rfl hg52.1 hg52.2
      obtain ⟨v52_0, v52_1, rfl, A52_0, A52_1⟩ := op143 he52
      have zd61 := ((((((((((((zd37.add 13 28 w0_0 rfl).add 14 29 (iI x5.2) rfl).add 15 30 (.pointer (some ad43)) rfl).add 16 31 (.pointer (some (ad43.add 2))) rfl).add 17 32 (iI ((at_ a0 x5.2).Ended)) rfl).add 18 33 w0_0 rfl).add 19 34 (iI a1) rfl).add 20 35 (.pointer (some ad52)) rfl).add 21 36 (.pointer (some (ad52.add 1))) rfl).add 22 37 (iI ((at_ a0 a1).Begun)) rfl).add 23 38 (.bool (decide ((at_ a0 x5.2).Ended < (at_ a0 a1).Begun))) rfl).add 24 39 (.bool (decide ((at_ a0 x5.2).Ended < (at_ a0 a1).Begun))) rfl).add 25 40 (.bool (decide ((at_ a0 x5.2).Ended < (at_ a0 a1).Begun))) rfl
      refine ji [] (fun (y62 : Bool × Bool) e w => ∃ (s : St) (e0 : Env), w = s.w ∧ e = upd (upd (upd (upd (upd (upd (upd (upd (upd (upd (upd (upd (upd (upd (upd (upd (upd (upd (upd (upd (upd (upd (upd (upd e0 0 w0_0) 1 (iI a1)) 5 (pB b3)) 7 (iI x5.1)) 8 (iI x5.2)) 19 w0_0) 20 (iI x5.2)) 21 (.pointer (some ad21))) 22 (.pointer (some (ad21.add 4)))) 23 v21_1) 24 (.agg #[(iI a2.Kind), (iI a2.N), w2_0, w2_1])) 25 (.bool true)) 28 w0_0) 29 (iI x5.2)) 30 (.pointer (some ad43))) 31 (.pointer (some (ad43.add 2)))) 32 (iI ((at_ a0 x5.2).Ended))) 33 w0_0) 34 (iI a1)) 35 (.pointer (some ad52))) 36 (.pointer (some (ad52.add 1)))) 37 (iI ((at_ a0 a1).Begun))) 38 (.bool y62.1)) 56 (.bool y62.2) ∧ Kp s0 s ∧ BlF s b3 29 [(iI a2.Kind), (iI a2.N), w2_0, w2_1] 40 ∧ RdF Ya s [v21_1] ((at_ a0 x5.2).Writes) [0]) (fun Gj62 Kj62 => ?_) ?_
      ·
       rcases bft (decide ((at_ a0 x5.2).Ended < (at_ a0 a1).Begun)) with hb62 | hb62
       ·
        rw [if_pos hb62]
        rw [hb62] at zd61
        try rw [hb62]
        have zd65 := ((zd61.add 26 41 (iI x5.1) rfl).add 27 42 (.bool (decide (x5.1 < (0 : Int)))) rfl).add 28 43 (.bool (decide (x5.1 < (0 : Int)))) rfl
        refine ji [41] (fun (y66 : Bool × Bool × Bool) e w => ∃ (s : St) (e0 : Env), w = s.w ∧ e = upd (upd (upd (upd (upd (upd (upd (upd (upd (upd (upd (upd (upd (upd (upd (upd (upd (upd (upd (upd (upd (upd (upd (upd (upd (upd (upd (upd e0 0 w0_0) 1 (iI a1)) 5 (pB b3)) 7 (iI x5.1)) 8 (iI x5.2)) 19 w0_0) 20 (iI x5.2)) 21 (.pointer (some ad21))) 22 (.pointer (some (ad21.add 4)))) 23 v21_1) 24 (.agg #[(iI a2.Kind), (iI a2.N), w2_0, w2_1])) 25 (.bool true)) 28 w0_0) 29 (iI x5.2)) 30 (.pointer (some ad43))) 31 (.pointer (some (ad43.add 2)))) 32 (iI ((at_ a0 x5.2).Ended))) 33 w0_0) 34 (iI a1)) 35 (.pointer (some ad52))) 36 (.pointer (some (ad52.add 1)))) 37 (iI ((at_ a0 a1).Begun))) 38 (.bool true)) 40 (.bool true)) 41 (iI x5.1)) 42 (.bool y66.1)) 43 (.bool y66.2.1)) 55 (.bool y66.2.2) ∧ Kp s0 s ∧ BlF s b3 29 [(iI a2.Kind), (iI a2.N), w2_0, w2_1] 40 ∧ RdF Ya s [v21_1] ((at_ a0 x5.2).Writes) [0]) (fun Gj66 Kj66 => ?_) ?_
        ·
         rcases bft (decide (x5.1 < (0 : Int))) with hb66 | hb66
         ·
          rw [if_pos hb66]
          rw [hb66] at zd65
          try rw [hb66]
          refine zfin [39, 40, 41] tb11 ((((((((((zd65.add 29 44 undef rfl).add 30 45 undef rfl).add 31 46 undef rfl).add 32 47 undef rfl).add 33 48 undef rfl).add 34 49 undef rfl).add 35 50 undef rfl).add 36 51 undef rfl).add 37 52 undef rfl).add 38 53 undef rfl) (Xa (Xf rfl) rfl (Xa (Xf rfl) rfl (Xa (Xf rfl) rfl (Xa (Xf rfl) rfl (Xa (Xf rfl) rfl (Xa (Xf rfl) rfl (Xa (Xf rfl) rfl (Xa (Xf rfl) rfl (Xa (Xf rfl) rfl (Xa (Xf rfl) rfl (Xa (Xd rfl) rfl (Xa (qv_b (Xd rfl) hb66) rfl (Xa (Xd rfl) rfl (Xa (Xd rfl) rfl (Xa (Xd rfl) rfl (Xa (qv_b (Xd rfl) hb62) rfl (Xa (lc_q' ce52 u3 rfl) rfl (Xa (Xm fa143_1 rfl) rfl (Xa (Xn A42 u62 z143 hg52.1 hg52.2 ia52 rfl) rfl (Xa (Xd rfl) rfl (Xa (Xl w0_0 rfl) rfl (Xa (lc_q' ce43 u3 rfl) rfl (Xa (Xm fa143_2 rfl) rfl (Xa (Xn A42 u62 z143 hg43.1 hg43.2 ia43 rfl) rfl (Xa (Xd rfl) rfl (Xa (Xl w0_0 rfl) rfl (Xa (Xd rfl) rfl (Xa (Xd rfl) rfl Xh)))))))))))))))))))))))))))) (by kernel_rfl) (by decide) (Xj rfl ?_)
          exact Xb rfl (Kj66 _ _ _ ⟨s34, _, rfl, (ue (ue (ue (ue (ue (ue (ue (ue (ue (ue (ue (ue (ue (ue (ue (ue (ue (ue (ue (ue (ue (ue (ue (ue (ue (ue (ue (ue rfl rfl) rfl) rfl) rfl) rfl) rfl) rfl) rfl) rfl) rfl) rfl) rfl) rfl) rfl) rfl) rfl) rfl) rfl) rfl) rfl) rfl) rfl) rfl) rfl) rfl) rfl) rfl) rfl), K41, (Bx5_b3.st (Xq p11 p34) rfl), (A21_1.st p34 rfl)⟩)
         rw [if_neg (by rw [hb66]; decide)]
         rw [hb66] at zd65
         try rw [hb66]
         refine mg fun hg81 => ?_
         obtain ⟨ad81, es81, he81, ce81, ia81⟩ := ix_e A42 rfl hg81.1 hg81.2
         obtain ⟨v81_0, v81_1, rfl, A81_0, A81_1⟩ := op143 he81
         have zd85 := ((zd65.add 29 44 w0_0 rfl).add 30 45 (iI x5.2) rfl).add 31 46 (.pointer (some ad81)) rfl
         refine mg fun hg90 => ?_
         obtain ⟨ad90, es90, he90, ce90, ia90⟩ := ix_e A42 rfl hg90.1 hg90.2
         obtain ⟨v90_0, v90_1, rfl, A90_0, A90_1⟩ := op143 he90
         refine zfin [39, 40, 41] tb11 (((((((zd85.add 32 47 (.pointer (some (ad81.add 2))) rfl).add 33 48 (iI ((at_ a0 x5.2).Ended)) rfl).add 34 49 w0_0 rfl).add 35 50 (iI x5.1) rfl).add 36 51 (.pointer (some ad90)) rfl).add 37 52 (.pointer (some (ad90.add 2))) rfl).add 38 53 (iI ((at_ a0 x5.1).Ended)) rfl) (Xa (lc_q' ce90 u3 rfl) rfl (Xa (Xm fa143_2 rfl) rfl (Xa (Xn A42 u62 z143 hg90.1 hg90.2 ia90 rfl) rfl (Xa (Xd rfl) rfl (Xa (Xl w0_0 rfl) rfl (Xa (lc_q' ce81 u3 rfl) rfl (Xa (Xm fa143_2 rfl) rfl (Xa (Xn A42 u62 z143 hg81.1 hg81.2 ia81 rfl) rfl (Xa (Xd rfl) rfl (Xa (Xl w0_0 rfl) rfl (Xa (Xd rfl) rfl (Xa (qv_b (Xd rfl) hb66) rfl (Xa (Xd rfl) rfl (Xa (Xd rfl) rfl (Xa (Xd rfl) rfl (Xa (qv_b (Xd rfl) hb62) rfl (Xa (lc_q' ce52 u3 rfl) rfl (Xa (Xm fa143_1 rfl) rfl (Xa (Xn A42 u62 z143 hg52.1 hg52.2 ia52 rfl) rfl (Xa (Xd rfl) rfl (Xa (Xl w0_0 rfl) rfl (Xa (lc_q' ce43 u3 rfl) rfl (Xa (Xm fa143_2 rfl) rfl (Xa (Xn A42 u62 z143 hg43.1 hg43.2 ia43 rfl) rfl (Xa (Xd rfl) rfl (Xa (Xl w0_0 rfl) rfl (Xa (Xd rfl) rfl (Xa (Xd rfl) rfl Xh)))))))))))))))))))))))))))) (by kernel_rfl) (by decide) (Xb rfl ?_)
         exact Xb rfl (Kj66 _ _ _ ⟨s34, _, rfl, (ue (ue (ue (ue (ue (ue (ue (ue (ue (ue (ue (ue (ue (ue (ue (ue (ue (ue (ue (ue (ue (ue (ue (ue (ue (ue (ue (ue rfl rfl) rfl) rfl) rfl) rfl) rfl) rfl) rfl) rfl) rfl) rfl) rfl) rfl) rfl) rfl) rfl) rfl) rfl) rfl) rfl) rfl) rfl) rfl) rfl) rfl) rfl) rfl) rfl), K41, (Bx5_b3.st (Xq p11 p34) rfl), (A21_1.st p34 rfl)⟩)
        rintro y66 _ _ ⟨s99, _, rfl, rfl, Ky66, By66_b3, Cy66_23⟩
        exact Xb rfl (Kj62 _ _ _ ⟨s99, _, rfl, (ue (ue (ue (ue (ue (ue (ue (ue (ue (ue (ue (ue (ue (ue (ue (ue (ue (ue (ue (ue (ue (ue (ue (ue rfl rfl) rfl) rfl) rfl) rfl) rfl) rfl) rfl) rfl) rfl) rfl) rfl) rfl) rfl) rfl) rfl) rfl) rfl) rfl) rfl) rfl) rfl) rfl) rfl), Ky66, By66_b3, Cy66_23⟩)
       rw [if_neg (by rw [hb62]; decide)]
       rw [hb62] at zd61
       try rw [hb62]
       refine zfin [39, 40, 41] tb11 (((((((((((((zd61.add 26 41 undef rfl).add 27 42 undef rfl).add 28 43 undef rfl).add 29 44 undef rfl).add 30 45 undef rfl).add 31 46 undef rfl).add 32 47 undef rfl).add 33 48 undef rfl).add 34 49 undef rfl).add 35 50 undef rfl).add 36 51 undef rfl).add 37 52 undef rfl).add 38 53 undef rfl) (Xa (Xf rfl) rfl (Xa (Xf rfl) rfl (Xa (Xf rfl) rfl (Xa (Xf rfl) rfl (Xa (Xf rfl) rfl (Xa (Xf rfl) rfl (Xa (Xf rfl) rfl (Xa (Xf rfl) rfl (Xa (Xf rfl) rfl (Xa (Xf rfl) rfl (Xa (Xf rfl) rfl (Xa (Xf rfl) rfl (Xa (Xf rfl) rfl (Xa (Xd rfl) rfl (Xa (Xd rfl) rfl (Xa (qv_b (Xd rfl) hb62) rfl (Xa (lc_q' ce52 u3 rfl) rfl (Xa (Xm fa143_1 rfl) rfl (Xa (Xn A42 u62 z143 hg52.1 hg52.2 ia52 rfl) rfl (Xa (Xd rfl) rfl (Xa (Xl w0_0 rfl) rfl (Xa (lc_q' ce43 u3 rfl) rfl (Xa (Xm fa143_2 rfl) rfl (Xa (Xn A42 u62 z143 hg43.1 hg43.2 ia43 rfl) rfl (Xa (Xd rfl) rfl (Xa (Xl w0_0 rfl) rfl (Xa (Xd rfl) rfl (Xa (Xd rfl) rfl Xh)))))))))))))))))))))))))))) (by kernel_rfl) (by decide) (Xj rfl ?_)
       refine Xj rfl (Xb rfl ?_)
       exact Kj62 _ _ _ ⟨s34, _, rfl, (ue (ue (ue (ue (ue (ue (ue (ue (ue (ue (ue (ue (ue (ue (ue (ue (ue (ue (ue (ue (ue (ue (ue (ue rfl rfl) rfl) rfl) rfl) rfl) rfl) rfl) rfl) rfl) rfl) rfl) rfl) rfl) rfl) rfl) rfl) rfl) rfl) rfl) rfl) rfl) rfl) rfl) rfl), K41, (Bx5_b3.st (Xq p11 p34) rfl), (A21_1.st p34 rfl)⟩
      rintro y62 _ _ ⟨s116, _, rfl, rfl, Ky62, By62_b3, Cy62_23⟩
      exact Kj38 _ _ _ ⟨s116, _, rfl, (ue (ue (ue (ue (ue (ue (ue (ue (ue (ue (ue (ue (ue rfl rfl) rfl) rfl) rfl) rfl) rfl) rfl) rfl) rfl) rfl) rfl) rfl) rfl), Ky62, By62_b3, Cy62_23⟩
     rw [if_neg (by rw [hb38]; decide)]
     rw [hb38] at zd37
     try rw [hb38]
     refine zfin [39, 40, 41] tb11 ((((((((((((((((((((((((((zd37.add 13 28 undef rfl).add 14 29 undef rfl).add 15 30 undef rfl).add 16 31 undef rfl).add 17 32 undef rfl).add 18 33 undef rfl).add 19 34 undef rfl).add 20 35 undef rfl).add 21 36 undef rfl).add 22 37 undef rfl).add 23 38 undef rfl).add 24 39 (.bool false) rfl).add 25 40 (.bool false) rfl).add 26 41 undef rfl).add 27 42 undef rfl).add 28 43 undef rfl).add 29 44 undef rfl).add 30 45 undef rfl).add 31 46 undef rfl).add 32 47 undef rfl).add 33 48 undef rfl).add 34 49 undef rfl).add 35 50 undef rfl).add 36 51 undef rfl).add 37 52 undef rfl).add 38 53 undef rfl) (Xa (Xf rfl) rfl (Xa (Xf rfl) rfl (Xa (Xf rfl) rfl (Xa (Xf rfl) rfl (Xa (Xf rfl) rfl (Xa (Xf rfl) rfl (Xa (Xf rfl) rfl (Xa (Xf rfl) rfl (Xa (Xf rfl) rfl (Xa (Xf rfl) rfl (Xa (Xf rfl) rfl (Xa (Xf rfl) rfl (Xa (Xf rfl) rfl (Xa (Xd rfl) rfl (Xa (Xd rfl) rfl (Xa (Xf rfl) rfl (Xa (Xf rfl) rfl (Xa (Xf rfl) rfl (Xa (Xf rfl) rfl (Xa (Xf rfl) rfl (Xa (Xf rfl) rfl (Xa (Xf rfl) rfl (Xa (Xf rfl) rfl (Xa (Xf rfl) rfl (Xa (Xf rfl) rfl (Xa (Xf rfl) rfl (Xa (Xd rfl) rfl (Xa (Xd rfl) rfl Xh)))))))))))))))))))))))))))) (by kernel_rfl) (by decide) (Xj rfl (Xj rfl (Xb rfl ?_)))
     exact Kj38 _ _ _ ⟨s34, _, rfl, (ue (ue (ue (ue (ue (ue (ue (ue (ue (ue (ue (ue (ue rfl rfl) rfl) rfl) rfl) rfl) rfl) rfl) rfl) rfl) rfl) rfl) rfl) rfl), (K19.st p34 rfl), (Bx5_b3.st (Xq p11 p34) rfl), (A21_1.st p34 rfl)⟩
    rintro y38 _ _ ⟨s147, _, rfl, rfl, Ky38, By38_b3, Cy38_23⟩
    exact Kj16 _ _ _ ⟨s147, _, rfl, (ue (ue (ue (ue (ue (ue rfl rfl) rfl) rfl) rfl) rfl) rfl), Ky38, By38_b3⟩
   rw [if_neg (by rw [hb16]; decide)]
   rw [hb16] at zd15
   try rw [hb16]
   have zd167 := ((((((((((((((((((zd15.add 4 19 undef rfl).add 5 20 undef rfl).add 6 21 undef rfl).add 7 22 undef rfl).add 8 23 undef rfl).add 9 24 undef rfl).add 10 25 undef rfl).add 11 26 (.bool false) rfl).add 12 27 (.bool false) rfl).add 13 28 undef rfl).add 14 29 undef rfl).add 15 30 undef rfl).add 16 31 undef rfl).add 17 32 undef rfl).add 18 33 undef rfl).add 19 34 undef rfl).add 20 35 undef rfl).add 21 36 undef rfl).add 22 37 undef rfl
   refine zfin [39, 40, 41] tb11 ((((((((((((((((zd167.add 23 38 undef rfl).add 24 39 (.bool false) rfl).add 25 40 (.bool false) rfl).add 26 41 undef rfl).add 27 42 undef rfl).add 28 43 undef rfl).add 29 44 undef rfl).add 30 45 undef rfl).add 31 46 undef rfl).add 32 47 undef rfl).add 33 48 undef rfl).add 34 49 undef rfl).add 35 50 undef rfl).add 36 51 undef rfl).add 37 52 undef rfl).add 38 53 undef rfl) (Xa (Xf rfl) rfl (Xa (Xf rfl) rfl (Xa (Xf rfl) rfl (Xa (Xf rfl) rfl (Xa (Xf rfl) rfl (Xa (Xf rfl) rfl (Xa (Xf rfl) rfl (Xa (Xf rfl) rfl (Xa (Xf rfl) rfl (Xa (Xf rfl) rfl (Xa (Xf rfl) rfl (Xa (Xf rfl) rfl (Xa (Xf rfl) rfl (Xa (Xd rfl) rfl (Xa (Xd rfl) rfl (Xa (Xf rfl) rfl (Xa (Xf rfl) rfl (Xa (Xf rfl) rfl (Xa (Xf rfl) rfl (Xa (Xf rfl) rfl (Xa (Xf rfl) rfl (Xa (Xf rfl) rfl (Xa (Xf rfl) rfl (Xa (Xf rfl) rfl (Xa (Xf rfl) rfl (Xa (Xf rfl) rfl (Xa (Xd rfl) rfl (Xa (Xd rfl) rfl (Xa (Xf rfl) rfl (Xa (Xf rfl) rfl (Xa (Xf rfl) rfl (Xa (Xf rfl) rfl (Xa (Xf rfl) rfl (Xa (Xf rfl) rfl (Xa (Xf rfl) rfl (Xa (Xd rfl) rfl (Xa (qv_b (Xd rfl) hb16) rfl (Xa (Xd rfl) rfl (Xa (Xd rfl) rfl Xh))))))))))))))))))))))))))))))))))))))) (by kernel_rfl) (by decide) (Xj rfl ?_)
   refine Xj rfl (Xb rfl ?_)
   exact Kj16 _ _ _ ⟨s11, _, rfl, (ue (ue (ue (ue (ue (ue rfl rfl) rfl) rfl) rfl) rfl) rfl), (Kx5.st p11 rfl), (Bx5_b3.st p11 rfl)⟩
  rintro y16 _ _ ⟨s186, _, rfl, rfl, Ky16, By16_b3⟩
  refine dn (jc (fun (y188 : Int) e w => ∃ (s : St) (e0 : Env), w = s.w ∧ e = upd (upd (upd (upd (upd e0 0 w0_0) 1 (iI a1)) 5 (pB b3)) 7 (iI y188)) 8 (iI x5.2) ∧ Kp s0 s ∧ BlF s b3 29 [(iI a2.Kind), (iI a2.N), w2_0, w2_1] 40) (fun Gj188 Kj188 => ?_) ?_)
  ·
   refine cd rfl (fun h189 => ?_) (fun h189 => ?_)
   ·
    exact rg (Xb rfl (Xb rfl (dn (Kj188 _ _ _ ⟨s186, _, rfl, (ue (ue (ue (ue (ue rfl rfl) rfl) rfl) rfl) rfl), Ky16, By16_b3⟩))))
   exact sk (Kj188 _ _ _ ⟨s186, _, rfl, (ue (ue (ue (ue (ue rfl rfl) rfl) rfl) rfl) rfl), Ky16, By16_b3⟩)
  rintro y188 _ _ ⟨s190, _, rfl, rfl, Ky188, By188_b3⟩
  exact ib (rg (Xb rfl (Xb rfl (Xb rfl (dn (lb ih5 ⟨s190, _, rfl, (ue (ue (ue (ue (ue rfl rfl) rfl) rfl) rfl) rfl), Ky188, By188_b3⟩))))))
 exact xt rfl (sgb (sr (Xb rfl (Xb rfl (dn (re rfl func135 rfl (Xs rfl Xg) rfl ⟨_, rfl, rfl, z.ky Kx5⟩))))))
def spec_GraphSerial.b5 (a0 : (List Deed)) (a1 : (List Int)) (x43 : Int) (x49 : Int) (x53 : Int) (x93 : Int × Int) : Option ((Int × Int) ⊕ (Unit ⊕ (Int ⊕ (Int ⊕ (Int ⊕ Bool))))) :=
 (if (decide (x93.2 < x43)) = true then (if 0 ≤ x93.2 ∧ x93.2 < (a1.length : Int) then (if 0 ≤ (at_ a1 x93.2) ∧ (at_ a1 x93.2) < (a0.length : Int) then ((spec_l13has.f ((at_ a0 (at_ a1 x93.2)).Writes) (at_ ((at_ a0 x49).Writes) x53)).bind fun r122 => ((if r122 = true then (if 0 ≤ x93.2 ∧ x93.2 < (a1.length : Int) then (some (at_ a1 x93.2)) else none) else (some x93.1)).bind fun y124 => (some (Sum.inl (y124, (IntKind.wrap .i64 (x93.2 + (1 : Int)))))))) else none) else none) else (((spec_l14behind.f a0 (at_ a1 x43) (at_ ((at_ a0 x49).Writes) x53)).bind fun r138 => (if (x93.1 != r138) = true then (some (Sum.inr (Sum.inr (Sum.inr (Sum.inr false))))) else (some (Sum.inl ())))).bind fun o => some (Sum.inr o)))
def spec_GraphSerial.b4 (a0 : (List Deed)) (a1 : (List Int)) (x43 : Int) (x49 : Int) (x53 : Int) : Option (Int ⊕ (Int ⊕ (Int ⊕ Bool))) :=
 (if 0 ≤ x49 ∧ x49 < (a0.length : Int) then (if (decide (x53 < (((at_ a0 x49).Writes).length : Int))) = true then ((if 0 ≤ x49 ∧ x49 < (a0.length : Int) then (if 0 ≤ x53 ∧ x53 < (((at_ a0 x49).Writes).length : Int) then (if 0 ≤ (at_ a1 x43) ∧ (at_ a1 x43) < (a0.length : Int) then ((spec_l14reads.f (at_ a0 (at_ a1 x43)) (at_ ((at_ a0 x49).Writes) x53)).bind fun r89 => (if (!r89) = true then (some (Sum.inl ())) else (iter (spec_GraphSerial.b5 a0 a1 x43 x49 x53) ((-1 : Int), (0 : Int))))) else none) else none) else none).bind (sel fun y61 => (some (Sum.inl (IntKind.wrap .i64 (x53 + (1 : Int))))))) else ((some (Sum.inl (IntKind.wrap .i64 (x49 + (1 : Int))))).bind fun o => some (Sum.inr o))) else none)
def spec_GraphSerial.b3 (a0 : (List Deed)) (a1 : (List Int)) (x43 : Int) (x49 : Int) : Option (Int ⊕ (Int ⊕ Bool)) :=
 (if (decide (x49 < (a0.length : Int))) = true then (iter (spec_GraphSerial.b4 a0 a1 x43 x49) (0 : Int)) else ((some (Sum.inl (IntKind.wrap .i64 (x43 + (1 : Int))))).bind fun o => some (Sum.inr o)))
def spec_GraphSerial.b2 (a0 : (List Deed)) (a1 : (List Int)) (x43 : Int) : Option (Int ⊕ Bool) :=
 (if (decide (x43 < (a1.length : Int))) = true then (if 0 ≤ x43 ∧ x43 < (a1.length : Int) then (iter (spec_GraphSerial.b3 a0 a1 x43) (0 : Int)) else none) else ((some true).bind fun o => some (Sum.inr o)))
def spec_GraphSerial.b1 (a1 : (List Int)) (x11 : Int) (x23 : Int) : Option (Int ⊕ (Int ⊕ Bool)) :=
 (if (decide (x23 < x11)) = true then (if 0 ≤ x23 ∧ x23 < (a1.length : Int) then (if 0 ≤ x11 ∧ x11 < (a1.length : Int) then (if ((at_ a1 x23) == (at_ a1 x11)) = true then (some (Sum.inr (Sum.inr false))) else (some (Sum.inl (IntKind.wrap .i64 (x23 + (1 : Int)))))) else none) else none) else ((some (Sum.inl (IntKind.wrap .i64 (x11 + (1 : Int))))).bind fun o => some (Sum.inr o)))
def spec_GraphSerial.b0 (a0 : (List Deed)) (a1 : (List Int)) (x11 : Int) : Option (Int ⊕ Bool) :=
 (if (decide (x11 < (a1.length : Int))) = true then (if 0 ≤ x11 ∧ x11 < (a1.length : Int) then ((spec_l5in.f (at_ a1 x11) (0 : Int) (IntKind.wrap .i64 ((a0.length : Int) - (1 : Int)))).bind fun r19 => (if (!r19) = true then (some (Sum.inr false)) else (iter (spec_GraphSerial.b1 a1 x11) (0 : Int)))) else none) else ((iter (spec_GraphSerial.b2 a0 a1) (0 : Int)).bind fun o => some (Sum.inr o)))
def spec_GraphSerial.f (a0 : (List Deed)) (a1 : (List Int)) : Option (Bool) :=
 ((spec_DeedsOk.f a0).bind fun r3 => (if ((!r3) || ((a1.length : Int) != (a0.length : Int))) = true then (some false) else (iter (spec_GraphSerial.b0 a0 a1) (0 : Int))))
def spec_GraphSerial.Q (w : World) (F : Nat → Prop) (r : Bool) (v : Value) (w' : World) : Prop :=
 v = (.bool r) ∧ Ky [] w w'
theorem spec_GraphSerial.calls (a0 : (List Deed)) (a1 : (List Int)) (w : World) (F : Nat → Prop) (w0_0 : Value) (w1_0 : Value) (h0_0 : Xz.rd w [w0_0] a0 F) (h1_0 : Xy.rd w [w1_0] a1 F) (r : Bool) (m : spec_GraphSerial.f a0 a1 = some r) :
  Calls prog 41 #[w0_0, w1_0] w (RT (spec_GraphSerial.Q w F) r) := by
 obtain ⟨s0, rfl, kp0, z⟩ := Xi w F
 have A0_0 := z.rd h0_0
 have A1_0 := z.rd h1_0
 refine Xc (args := [w0_0, w1_0]) func41 ntmps41 rfl rfl m ?_
 unfold spec_GraphSerial.f
 refine sr (Xb rfl (dn (sq (sr (Xp w0_0 rfl (clV 40 rfl func34 rfl (spec_DeedsOk.calls a0 s0.w (mm [0] s0) w0_0 A0_0) (fun r3 s4 p4 n4 => ?_)))))))
 refine Xb rfl (Xb rfl (jy [17, 18, 19, 20, 21, 22, 23] [] 23 (.bool ((!r3) || ((a1.length : Int) != (a0.length : Int)))) rfl (fun Kg5 => ?_) (fun j5 => ?_)))
 ·
  rcases bft (!r3) with hb5 | hb5
  ·
   exact Xv hb5 (Xj rfl (Xj rfl (Xj rfl (Xj rfl (Xj rfl (Xb rfl (Kg5 _ (Ag.put ((Ag.put ((Ag.put ((Ag.put ((Ag.put ((Ag.put (Ag.base rfl) rfl)) rfl)) rfl)) rfl)) rfl)) rfl) (by rw [hb5]; rfl))))))))
  refine Xv hb5 (Xp w1_0 rfl ?_)
  have K6 := kp0.st p4 rfl
  refine ln' (A1_0.kp K6) u50 rfl (Xp w0_0 rfl ?_)
  exact ln' (A0_0.kp K6) u62 rfl (Xb rfl (Xb rfl (Kg5 _ (Ag.put ((Ag.put ((Ag.put ((Ag.put ((Ag.put ((Ag.put (Ag.base rfl) rfl)) rfl)) rfl)) rfl)) rfl)) rfl) (by rw [hb5]; rfl))))
 refine dn (cd rfl (fun h9 => ?_) (fun h9 => ?_))
 ·
  refine sr (Xb rfl (dn ?_))
  exact re rfl func41 rfl (Xs rfl Xg) rfl ⟨_, rfl, rfl, z.ky (kp0.st p4 rfl)⟩
 refine sk (sq (sr (Xb rfl (dn (bl ?_)))))
 refine lpI (fun (x11 : Int) e w => ∃ (s : St) (e0 : Env), w = s.w ∧ e = upd (upd (upd e0 0 w0_0) 1 w1_0) 5 (iI x11) ∧ Kp s0 s) ⟨s4, _, rfl, (ue (ue (ue rfl rfl) rfl) rfl), (kp0.st p4 rfl)⟩ (fun g11 ih11 => ?_)
 rintro x11 _ _ ⟨s13, _, rfl, rfl, Kx11⟩
 unfold spec_GraphSerial.b0
 refine sq (sr (Xb rfl (Xp w1_0 rfl ?_)))
 have A14 := A1_0.kp Kx11
 refine ln' A14 u50 rfl (Xb rfl (dn (cd rfl (fun h15 => ?_) (fun h15 => ?_))))
 ·
  refine sk (sq (bl (sq (sr (Xp w1_0 rfl (Xb rfl (ix' A14 u50 z3 rfl (fun ad16 es16 h0_16 h1_16 he16 ce16 ia16 => ?_))))))))
  obtain rfl := he16
  refine lc0' ce16 u3 rfl (Xp w0_0 rfl ?_)
  refine ln' (A0_0.kp Kx11) u62 rfl (Xb rfl (clV 41 rfl func83 rfl (spec_l5in.calls (at_ a1 x11) (0 : Int) (IntKind.wrap .i64 ((a0.length : Int) - (1 : Int))) s13.w (mm [] s13)) (fun r19 s20 p20 n20 => ?_)))
  refine Xb rfl (dn (cd rfl (fun h21 => ?_) (fun h21 => ?_)))
  ·
   refine sr (Xb rfl (dn (sgi ?_)))
   exact re rfl func41 rfl (Xs rfl Xg) rfl ⟨_, rfl, rfl, z.ky (Kx11.st p20 rfl)⟩
  refine sk (sr (Xb rfl (dn (bl ?_))))
  refine lpI (fun (x23 : Int) e w => ∃ (s : St) (e0 : Env), w = s.w ∧ e = upd (upd (upd (upd e0 0 w0_0) 1 w1_0) 5 (iI x11)) 6 (iI x23) ∧ Kp s0 s) ⟨s20, _, rfl, (ue (ue (ue (ue rfl rfl) rfl) rfl) rfl), (Kx11.st p20 rfl)⟩ (fun g23 ih23 => ?_)
  rintro x23 _ _ ⟨s25, _, rfl, rfl, Kx23⟩
  unfold spec_GraphSerial.b1
  refine sq (sr (Xb rfl (Xb rfl (Xb rfl (dn (cd rfl (fun h26 => ?_) (fun h26 => ?_)))))))
  ·
   refine sk (sq (bl (sq (zdraw [[], [], [0, 1], [2], [], [], [4, 5], [6], [3, 7]] [some 44, some 45, some 46, some 47, some 48, some 49, some 50, some 51, some 52] [[1], [6], [44, 45], [46], [1], [5], [48, 49], [50], [47, 51]] [0, 1, 2, 3, 4, 5, 6, 7, 8] ⟨by kernel_rfl, by kernel_rfl, by kernel_rfl⟩ (by kernel_rfl) (fun s27 p27 l27 tb27 zd27 => ?_)))))
   have K30 := Kx23.st p27 rfl
   have A31 := A1_0.kp K30
   refine mg fun hg32 => ?_
   obtain ⟨ad32, es32, he32, ce32, ia32⟩ := ix_e A31 rfl hg32.1 hg32.2
   obtain rfl := he32
   refine mg fun hg38 => ?_
   obtain ⟨ad38, es38, he38, ce38, ia38⟩ := ix_e A31 rfl hg38.1 hg38.2
   obtain rfl := he38
   refine zfin [8] tb27 ((((((((zd27.add 0 44 w1_0 rfl).add 1 45 (iI x23) rfl).add 2 46 (.pointer (some ad32)) rfl).add 3 47 (iI (at_ a1 x23)) rfl).add 4 48 w1_0 rfl).add 5 49 (iI x11) rfl).add 6 50 (.pointer (some ad38)) rfl).add 7 51 (iI (at_ a1 x11)) rfl) (Xa (Xt ce38 u3 rfl) rfl (Xa (Xn A31 u50 z3 hg38.1 hg38.2 ia38 rfl) rfl (Xa (Xd rfl) rfl (Xa (Xl w1_0 rfl) rfl (Xa (Xt ce32 u3 rfl) rfl (Xa (Xn A31 u50 z3 hg32.1 hg32.2 ia32 rfl) rfl (Xa (Xd rfl) rfl (Xa (Xl w1_0 rfl) rfl Xh)))))))) (by kernel_rfl) (by decide) (Xb rfl (dn (cd rfl (fun h42 => ?_) (fun h42 => ?_))))
   ·
    exact sr (Xb rfl (dn (sgi (sgi (re rfl func41 rfl (Xs rfl Xg) rfl ⟨_, rfl, rfl, z.ky K30⟩)))))
   exact sk (ib (rg (Xb rfl (Xb rfl (Xb rfl (dn (lb ih23 ⟨s27, _, rfl, (ue (ue (ue (ue rfl rfl) rfl) rfl) rfl), K30⟩)))))))
  exact xt rfl (sgb (ib (rg (Xb rfl (Xb rfl (Xb rfl (dn (lb ih11 ⟨s25, _, rfl, (ue (ue (ue rfl rfl) rfl) rfl), Kx23⟩))))))))
 refine xt rfl (sgb (sq (sr (Xb rfl (dn (bl (lpI (fun (x43 : Int) e w => ∃ (s : St) (e0 : Env), w = s.w ∧ e = upd (upd (upd e0 0 w0_0) 1 w1_0) 7 (iI x43) ∧ Kp s0 s) ⟨s13, _, rfl, (ue (ue (ue rfl rfl) rfl) rfl), Kx11⟩ (fun g43 ih43 => ?_))))))))
 rintro x43 _ _ ⟨s44, _, rfl, rfl, Kx43⟩
 unfold spec_GraphSerial.b2
 refine sq (sr (Xb rfl (Xp w1_0 rfl ?_)))
 have A45 := A1_0.kp Kx43
 refine ln' A45 u50 rfl (Xb rfl (dn (cd rfl (fun h46 => ?_) (fun h46 => ?_))))
 ·
  refine sk (sq (bl (sr (Xp w1_0 rfl (Xb rfl (ix' A45 u50 z3 rfl (fun ad47 es47 h0_47 h1_47 he47 ce47 ia47 => ?_)))))))
  obtain rfl := he47
  refine lc0' ce47 u3 rfl (Xb rfl (dn (sr (Xb rfl (dn (bl (lpI (fun (x49 : Int) e w => ∃ (s : St) (e0 : Env), w = s.w ∧ e = upd (upd (upd (upd (upd e0 0 w0_0) 1 w1_0) 7 (iI x43)) 8 (iI (at_ a1 x43))) 9 (iI x49) ∧ Kp s0 s) ⟨s44, _, rfl, (ue (ue (ue (ue (ue rfl rfl) rfl) rfl) rfl) rfl), Kx43⟩ (fun g49 ih49 => ?_))))))))
  rintro x49 _ _ ⟨s50, _, rfl, rfl, Kx49⟩
  unfold spec_GraphSerial.b3
  refine sq (sr (Xb rfl (Xp w0_0 rfl ?_)))
  refine ln' (A0_0.kp Kx49) u62 rfl (Xb rfl (dn (cd rfl (fun h52 => ?_) (fun h52 => ?_))))
  ·
   refine sk (sq (bl (sr (Xb rfl (dn (bl (lpI (fun (x53 : Int) e w => ∃ (s : St) (e0 : Env), w = s.w ∧ e = upd (upd (upd (upd (upd (upd e0 0 w0_0) 1 w1_0) 7 (iI x43)) 8 (iI (at_ a1 x43))) 9 (iI x49)) 10 (iI x53) ∧ Kp s0 s) ⟨s50, _, rfl, (ue (ue (ue (ue (ue (ue rfl rfl) rfl) rfl) rfl) rfl) rfl), Kx49⟩ (fun g53 ih53 => ?_))))))))
   rintro x53 _ _ ⟨s54, _, rfl, rfl, Kx53⟩
   unfold spec_GraphSerial.b4
   refine sq (sr (Xb rfl (Xp w0_0 rfl (Xb rfl ?_))))
   have A55 := A0_0.kp Kx53
   refine ix' A55 u62 z143 rfl (fun ad56 es56 h0_56 h1_56 he56 ce56 ia56 => ?_)
   obtain ⟨v56_0, v56_1, rfl, A56_0, A56_1⟩ := op143 he56
   refine fa' fa143_4 rfl (lc ce56 u141 rfl rfl rfl rfl rfl rfl rfl rfl (ln' A56_1 u141 rfl (Xb rfl (dn (cd rfl (fun h60 => ?_) (fun h60 => ?_))))))
   ·
    refine sk (sq (jr (fun (y61 : Unit) e w => ∃ (s : St) (e0 : Env), w = s.w ∧ e = upd (upd (upd (upd (upd (upd e0 0 w0_0) 1 w1_0) 7 (iI x43)) 8 (iI (at_ a1 x43))) 9 (iI x49)) 10 (iI x53) ∧ Kp s0 s) (fun Gj61 Kj61 hG61 => ?_) ?_))
    ·
     refine bl (sr (Xp w0_0 rfl (Xb rfl (ix' A55 u62 z143 rfl (fun ad62 es62 h0_62 h1_62 he62 ce62 ia62 => ?_)))))
     obtain ⟨v62_0, v62_1, rfl, A62_0, A62_1⟩ := op143 he62
     refine fa' fa143_4 rfl (lc ce62 u141 rfl rfl rfl rfl rfl rfl rfl rfl (Xb rfl (ix' A62_1 u141 z29 rfl (fun ad66 es66 h0_66 h1_66 he66 ce66 ia66 => ?_))))
     obtain ⟨v66_0, v66_1, rfl, A66_0, A66_1⟩ := op29 he66
     refine lca ce66 u29 z29 rfl rfl rfl rfl rfl rfl rfl (al (cs := [(iI 0), (iI 0), (.float .f64 0), (.slice none 0 0)]) 42 rfl rfl rfl rfl rfl o29 rfl (fun b69 s69 p69 B69 => ?_))
     have A71 := A66_1.st p69 rfl
     refine sva' (vs := [(iI ((at_ ((at_ a0 x49).Writes) x53).Kind)), (iI ((at_ ((at_ a0 x49).Writes) x53).N)), v66_0, v66_1]) B69 z29 rfl (Xe rfl (Xe rfl (Xe (FL.one A66_0) (Xe A71.one on_nil)))) rfl (fun s72 p72 B72 => ?_)
     refine dn (sq (sq (zdraw [[], [], [0, 1], [2], [], [3, 4], [5]] [some 87, some 88, some 89, some 90, some 91, some 92, some 93] [[0], [8], [87, 88], [89], [11], [90, 91], [92]] [0, 1, 2, 3, 4, 5, 6] ⟨by kernel_rfl, by kernel_rfl, by kernel_rfl⟩ (by kernel_rfl) (fun s74 p74 l74 tb74 zd74 => ?_))))
     have K77 := Kx53.st (tr3 p69 p72 p74) rfl
     have A78 := A0_0.kp K77
     refine mg fun hg79 => ?_
     obtain ⟨ad79, es79, he79, ce79, ia79⟩ := ix_e A78 rfl hg79.1 hg79.2
     obtain ⟨v79_0, v79_1, rfl, A79_0, A79_1⟩ := op143 he79
     refine zfin [5, 6] tb74 (((((zd74.add 0 87 w0_0 rfl).add 1 88 (iI (at_ a1 x43)) rfl).add 2 89 (.pointer (some ad79)) rfl).add 3 90 (.agg #[(iI ((at_ a0 (at_ a1 x43)).Xid)), (iI ((at_ a0 (at_ a1 x43)).Begun)), (iI ((at_ a0 (at_ a1 x43)).Ended)), v79_0, v79_1]) rfl).add 4 91 (.agg #[(iI ((at_ ((at_ a0 x49).Writes) x53).Kind)), (iI ((at_ ((at_ a0 x49).Writes) x53).N)), v66_0, v66_1]) rfl) (Xa (lda_q (es := [(iI ((at_ ((at_ a0 x49).Writes) x53).Kind)), (iI ((at_ ((at_ a0 x49).Writes) x53).N)), v66_0, v66_1]) (B72.st p74 rfl) u29 z29 rfl rfl rfl rfl rfl rfl rfl rfl) rfl (Xa (lca_q ce79 u143 z143 rfl rfl rfl rfl rfl rfl rfl) rfl (Xa (Xn A78 u62 z143 hg79.1 hg79.2 ia79 rfl) rfl (Xa (Xd rfl) rfl (Xa (Xl w0_0 rfl) rfl Xh))))) (by kernel_rfl) (by decide) ?_
     have A88 := A71.st (Xq p72 p74) rfl
     refine clV 43 rfl func133 rfl (spec_l14reads.calls (at_ a0 (at_ a1 x43)) (at_ ((at_ a0 x49).Writes) x53) s74.w (mm [0] s74) v79_0 v79_1 v66_0 v66_1 A79_0 A79_1 ((Xk (s := s74) A66_0).sub (D := [0]) rfl) A88) (fun r89 s90 p90 n90 => ?_)
     refine Xb rfl (dn (cd rfl (fun h91 => ?_) (fun h91 => ?_)))
     ·
      exact xt rfl (Kj61 _ _ _ ⟨s90, _, rfl, (ue (ue (ue (ue (ue (ue rfl rfl) rfl) rfl) rfl) rfl) rfl), (K77.st p90 rfl)⟩)
     refine sk (sr (Xb rfl (dn (sq (sr (Xb rfl (dn (bl ?_))))))))
     refine lpI (fun (x93 : Int × Int) e w => ∃ (s : St) (e0 : Env), w = s.w ∧ e = upd (upd (upd (upd (upd (upd (upd (upd (upd e0 0 w0_0) 1 w1_0) 7 (iI x43)) 8 (iI (at_ a1 x43))) 9 (iI x49)) 10 (iI x53)) 11 (pB b69)) 12 (iI x93.1)) 13 (iI x93.2) ∧ Kp s0 s ∧ BlF s b69 29 [(iI ((at_ ((at_ a0 x49).Writes) x53).Kind)), (iI ((at_ ((at_ a0 x49).Writes) x53).N)), v66_0, v66_1] 42 ∧ RdF Xx s [v66_1] ((at_ ((at_ a0 x49).Writes) x53).T) [0]) ⟨s90, _, rfl, (ue (ue (ue (ue (ue (ue (ue (ue (ue rfl rfl) rfl) rfl) rfl) rfl) rfl) rfl) rfl) rfl), (K77.st p90 rfl), (B72.st (Xq p74 p90) rfl), (A88.st p90 rfl)⟩ (fun g93 ih93 => ?_)
     rintro x93 _ _ ⟨s97, _, rfl, rfl, Kx93, Bx93_b69, Cx93_67⟩
     unfold spec_GraphSerial.b5
     refine sq (sr (Xb rfl (Xb rfl (Xb rfl (dn (cd rfl (fun h99 => ?_) (fun h99 => ?_)))))))
     ·
      refine sk (sq (bl (sq (zdraw [[], [], [], [1, 2], [3], [0, 4], [5], [6], [], [7, 8]] [some 99, some 100, some 101, some 102, some 103, some 104, some 105, some 106, some 107, some 108] [[0], [1], [13], [100, 101], [102], [99, 103], [104], [105], [11], [106, 107]] [0, 1, 2, 3, 4, 5, 6, 7, 8, 9] ⟨by kernel_rfl, by kernel_rfl, by kernel_rfl⟩ (by kernel_rfl) (fun s100 p100 l100 tb100 zd100 => ?_)))))
      have K104 := Kx93.st p100 rfl
      have A105 := A1_0.kp K104
      refine mg fun hg106 => ?_
      obtain ⟨ad106, es106, he106, ce106, ia106⟩ := ix_e A105 rfl hg106.1 hg106.2
      obtain rfl := he106
      have A110 := A0_0.kp K104
      refine mg fun hg111 => ?_
      obtain ⟨ad111, es111, he111, ce111, ia111⟩ := ix_e A110 rfl hg111.1 hg111.2
      obtain ⟨v111_0, v111_1, rfl, A111_0, A111_1⟩ := op143 he111
      refine zfin [9] tb100 (((((((((zd100.add 0 99 w0_0 rfl).add 1 100 w1_0 rfl).add 2 101 (iI x93.2) rfl).add 3 102 (.pointer (some ad106)) rfl).add 4 103 (iI (at_ a1 x93.2)) rfl).add 5 104 (.pointer (some ad111)) rfl).add 6 105 (.pointer (some (ad111.add 4))) rfl).add 7 106 v111_1 rfl).add 8 107 (.agg #[(iI ((at_ ((at_ a0 x49).Writes) x53).Kind)), (iI ((at_ ((at_ a0 x49).Writes) x53).N)), v66_0, v66_1]) rfl) (Xa (lda_q (es := [(iI ((at_ ((at_ a0 x49).Writes) x53).Kind)), (iI ((at_ ((at_ a0 x49).Writes) x53).N)), v66_0, v66_1]) (Bx93_b69.st p100 rfl) u29 z29 rfl rfl rfl rfl rfl rfl rfl rfl) rfl (Xa (lc_q' ce111 u141 rfl) rfl (Xa (Xm fa143_4 rfl) rfl (Xa (Xn A110 u62 z143 hg111.1 hg111.2 ia111 rfl) rfl (Xa (Xt ce106 u3 rfl) rfl (Xa (Xn A105 u50 z3 hg106.1 hg106.2 ia106 rfl) rfl (Xa (Xd rfl) rfl (Xa (Xl w1_0 rfl) rfl (Xa (Xl w0_0 rfl) rfl Xh))))))))) (by kernel_rfl) (by decide) ?_
      have A121 := Cx93_67.st p100 rfl
      refine clV 44 rfl func134 rfl (spec_l13has.calls ((at_ a0 (at_ a1 x93.2)).Writes) (at_ ((at_ a0 x49).Writes) x53) s100.w (mm [0] s100) v111_1 v66_0 v66_1 A111_1 ((Xk (s := s100) A66_0).sub (D := [0]) rfl) A121) (fun r122 s123 p123 n123 => ?_)
      refine dn (jc (fun (y124 : Int) e w => ∃ (s : St) (e0 : Env), w = s.w ∧ e = upd (upd (upd (upd (upd (upd (upd (upd (upd e0 0 w0_0) 1 w1_0) 7 (iI x43)) 8 (iI (at_ a1 x43))) 9 (iI x49)) 10 (iI x53)) 11 (pB b69)) 12 (iI y124)) 13 (iI x93.2) ∧ Kp s0 s ∧ BlF s b69 29 [(iI ((at_ ((at_ a0 x49).Writes) x53).Kind)), (iI ((at_ ((at_ a0 x49).Writes) x53).N)), v66_0, v66_1] 42 ∧ RdF Xx s [v66_1] ((at_ ((at_ a0 x49).Writes) x53).T) [0]) (fun Gj124 Kj124 => ?_) ?_)
      ·
       refine cd rfl (fun h125 => ?_) (fun h125 => ?_)
       ·
        refine rg (Xp w1_0 rfl (Xb rfl ?_))
        have K126 := K104.st p123 rfl
        refine ix' (A1_0.kp K126) u50 z3 rfl (fun ad128 es128 h0_128 h1_128 he128 ce128 ia128 => ?_)
        obtain rfl := he128
        refine lc0' ce128 u3 rfl (Xb rfl (dn ?_))
        exact Kj124 _ _ _ ⟨s123, _, rfl, (ue (ue (ue (ue (ue (ue (ue (ue (ue rfl rfl) rfl) rfl) rfl) rfl) rfl) rfl) rfl) rfl), K126, (Bx93_b69.st (Xq p100 p123) rfl), (A121.st p123 rfl)⟩
       exact sk (Kj124 _ _ _ ⟨s123, _, rfl, (ue (ue (ue (ue (ue (ue (ue (ue (ue rfl rfl) rfl) rfl) rfl) rfl) rfl) rfl) rfl) rfl), (K104.st p123 rfl), (Bx93_b69.st (Xq p100 p123) rfl), (A121.st p123 rfl)⟩)
      rintro y124 _ _ ⟨s135, _, rfl, rfl, Ky124, By124_b69, Cy124_67⟩
      exact ib (rg (Xb rfl (Xb rfl (Xb rfl (dn (lb ih93 ⟨s135, _, rfl, (ue (ue (ue (ue (ue (ue (ue (ue (ue rfl rfl) rfl) rfl) rfl) rfl) rfl) rfl) rfl) rfl), Ky124, By124_b69, Cy124_67⟩))))))
     refine xt rfl (sgb (sr (Xb rfl (Xp w0_0 rfl (Xb rfl (lda' (es := [(iI ((at_ ((at_ a0 x49).Writes) x53).Kind)), (iI ((at_ ((at_ a0 x49).Writes) x53).N)), v66_0, v66_1]) Bx93_b69 u29 z29 rfl ?_))))))
     refine clV 45 rfl func135 rfl (spec_l14behind.calls a0 (at_ a1 x43) (at_ ((at_ a0 x49).Writes) x53) s97.w (mm [0] s97) w0_0 v66_0 v66_1 (A0_0.kp Kx93) ((Xk (s := s97) A66_0).sub (D := [0]) rfl) Cx93_67) (fun r138 s139 p139 n139 => ?_)
     refine Xb rfl (dn (cd rfl (fun h140 => ?_) (fun h140 => ?_)))
     ·
      refine sr (Xb rfl (dn (jri hG61 (sgi (sgi (sgi ?_))))))
      exact re rfl func41 rfl (Xs rfl Xg) rfl ⟨_, rfl, rfl, z.ky (Kx93.st p139 rfl)⟩
     refine sk (ib ?_)
     exact Kj61 _ _ _ ⟨s139, _, rfl, (ue (ue (ue (ue (ue (ue rfl rfl) rfl) rfl) rfl) rfl) rfl), (Kx93.st p139 rfl)⟩
    rintro y61 _ _ ⟨s143, _, rfl, rfl, Ky61⟩
    exact rg (Xb rfl (Xb rfl (Xb rfl (dn (lb ih53 ⟨s143, _, rfl, (ue (ue (ue (ue (ue (ue rfl rfl) rfl) rfl) rfl) rfl) rfl), Ky61⟩)))))
   exact xt rfl (sgb (ib (rg (Xb rfl (Xb rfl (Xb rfl (dn (lb ih49 ⟨s54, _, rfl, (ue (ue (ue (ue (ue rfl rfl) rfl) rfl) rfl) rfl), Kx53⟩))))))))
  exact xt rfl (sgb (ib (rg (Xb rfl (Xb rfl (Xb rfl (dn (lb ih43 ⟨s50, _, rfl, (ue (ue (ue rfl rfl) rfl) rfl), Kx49⟩))))))))
 exact xt rfl (sgb (sr (Xb rfl (dn (re rfl func41 rfl (Xs rfl Xg) rfl ⟨_, rfl, rfl, z.ky Kx43⟩)))))
end Go.Proofs.YtegicanjlefmdaaGreat
