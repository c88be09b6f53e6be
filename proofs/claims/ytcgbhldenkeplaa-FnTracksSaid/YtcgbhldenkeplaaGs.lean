/- The functions as models, and that the calls come to what the models tell. -/
import Derived.Test.YtcgbhldenkeplaaGsb
set_option linter.unusedVariables false
set_option linter.unusedSimpArgs false
set_option maxHeartbeats 4000000
set_option maxRecDepth 100000
noncomputable section
namespace Go.Proofs.Ytcgbhldenkeplaa
open Go V Try
def impl_Item_own.f (a0 : Item) : Option (Item) :=
 ((slices_Clone_byte_byte.f a0.T).bind fun r9 => (some (Item.mk a0.Kind a0.N a0.F r9)))
def impl_Item_own.Q (w : World) (F : Nat → Prop) (r : Item) (v : Value) (w' : World) : Prop :=
 ∃ (v0 : Value) (v1 : Value), v = (.agg #[(iI r.Kind), (iI r.N), v0, v1]) ∧ FO kd60 w w' [(iI r.Kind), (iI r.N), v0, v1] r ∧ Ky [] w w'
theorem impl_Item_own.calls (a0 : Item) (w : World) (F : Nat → Prop) (w0_0 : Value) (w0_1 : Value) (h0_0 : Kd.flt.rd w [w0_0] a0.F F) (h0_1 : Yd.rd w [w0_1] a0.T F) (r : Item) (m : impl_Item_own.f a0 = some r) :
  Calls prog 68 #[(.agg #[(iI a0.Kind), (iI a0.N), w0_0, w0_1])] w (RT (impl_Item_own.Q w F) r) := by
 obtain ⟨s0, rfl, kp0, z⟩ := Xj w F
 have A0_0 := fl_of h0_0
 refine Xd (args := [(.agg #[(iI a0.Kind), (iI a0.N), w0_0, w0_1])]) func68 ntmps68 rfl rfl m ?_
 unfold impl_Item_own.f
 refine sr (bx' (cs := [(iI a0.Kind), (iI a0.N), w0_0, w0_1]) 40 rfl rfl (fun b2 s2 p2 B2 => ?_))
 refine al (cs := [(iI 0), (iI 0), (.float .f64 0), (.slice none 0 0)]) 41 rfl rfl rfl rfl rfl o60 rfl (fun b4 s4 p4 B4 => ?_)
 refine dn (sr (Xw fa60_3 rfl ?_))
 have A6 := B2.st p4 rfl
 refine ld' A6 u22 rfl ?_
 have K7 := kp0.st (Xm p2 p4) rfl
 refine clO 42 rfl func84 rfl (slices_Clone_byte_byte.calls a0.T s4.w (mm [0] s4) w0_1 ((z.rd h0_1).kp K7)) (fun r9 v9_0 s10 p10 A9_0 => ?_)
 refine Xw fa60_3 rfl (sv' (A6.st p10 rfl) z22 rfl A9_0.rd.one rfl (fun s13 p13 B13 => ?_))
 refine dn (sr (lda' (es := [(iI a0.Kind), (iI a0.N), w0_0, v9_0]) B13 u60 z60 rfl ?_))
 have A16 := A9_0.st p13 rfl
 refine sva' (vs := [(iI a0.Kind), (iI a0.N), w0_0, v9_0]) (B4.st (Xm p10 p13) rfl) z60 rfl (Xc rfl (Xc rfl (Xc (FL.one A0_0) (Xc A16.rd.one Xx)))) rfl (fun s17 p17 B17 => ?_)
 refine dn ?_
 have A19 : OwF kd60 s17 [(iI a0.Kind), (iI a0.N), w0_0, v9_0] (Item.mk a0.Kind a0.N a0.F r9) 42 := (Xv (fun x : Item => (x.Kind, x.N, x.F, x.T)) (Item.mk a0.Kind a0.N a0.F r9) (Xt (Xi .i64 a0.Kind) (Xt (Xi .i64 a0.N) (Xt (fz_flt A0_0) (A16.st p17 rfl)))))
 have K22 := K7.st (Yb p10 p13 p17) rfl
 exact re rfl func68 rfl (r_b B17 u60 rfl z60 rfl Xe) rfl ⟨_, rfl, w0_0, v9_0, rfl, A19.fo K22 rfl z.l, z.ky K22⟩
def impl_ownSpans.b0 (a0 : (List Span)) (x2 : (List Span) × Int) : Option (((List Span) × Int) ⊕ (List Span)) :=
 (if (decide (x2.2 < (a0.length : Int))) = true then (if 0 ≤ x2.2 ∧ x2.2 < (a0.length : Int) then ((impl_Item_own.f ((at_ a0 x2.2).From)).bind fun r29 => ((impl_Item_own.f ((at_ a0 x2.2).To)).bind fun r36 => (if x2.1.length + ([(Span.mk r29 r36)]).length ≤ Lim then (some (Sum.inl ((x2.1 ++ [(Span.mk r29 r36)]), (IntKind.wrap .i64 (x2.2 + (1 : Int)))))) else none))) else none) else ((some x2.1).bind fun o => some (Sum.inr o)))
def impl_ownSpans.f (a0 : (List Span)) : Option ((List Span)) :=
 (iter (impl_ownSpans.b0 a0) (([] : (List Span)), (0 : Int)))
def impl_ownSpans.Q (w : World) (F : Nat → Prop) (r : (List Span)) (v : Value) (w' : World) : Prop :=
 FO Yf w w' [v] r ∧ Ky [] w w'
theorem impl_ownSpans.calls (a0 : (List Span)) (w : World) (F : Nat → Prop) (w0_0 : Value) (h0_0 : Yf.rd w [w0_0] a0 F) (r : (List Span)) (m : impl_ownSpans.f a0 = some r) :
  Calls prog 40 #[w0_0] w (RT (impl_ownSpans.Q w F) r) := by
 obtain ⟨s0, rfl, kp0, z⟩ := Xj w F
 have A0_0 := z.rd h0_0
 refine Xd (args := [w0_0]) func40 ntmps40 rfl rfl m ?_
 unfold impl_ownSpans.f
 refine sr (Xb rfl (dn (sr (Xb rfl (dn (sq (sr (Xp w0_0 rfl (ln' A0_0 u24 rfl (Xb rfl (dn (bl (lpI (fun (x2 : (List Span) × Int) e w => ∃ (s : St) (e0 : Env) (vx2_0 : Value), w = s.w ∧ e = upd (upd (upd (upd e0 3 vx2_0) 6 w0_0) 7 (iI (a0.length : Int))) 8 (iI x2.2) ∧ Kp s0 s ∧ OwF Yf s [vx2_0] x2.1 41) ⟨s0, _, (.slice none 0 0), rfl, (ue (ue (ue (ue rfl rfl) rfl) rfl) rfl), kp0, (ow_nil 62 kd62 _ 41)⟩ (fun g2 ih2 => ?_))))))))))))))
 rintro x2 _ _ ⟨s3, _, vx2_0, rfl, rfl, Kx2, Ax2_0⟩
 unfold impl_ownSpans.b0
 refine sr (Xb rfl (dn (sq (cd rfl (fun h5 => ?_) (fun h5 => ?_)))))
 ·
  refine sk (sq (bl (sr ?_)))
  refine ix' (A0_0.kp Kx2) u24 z62 rfl (fun ad7 es7 h0_7 h1_7 he7 ce7 ia7 => ?_)
  obtain ⟨v7_0, v7_1, v7_2, v7_3, rfl, A7_0, A7_1, A7_2, A7_3⟩ := op62 he7
  refine lca ce7 u62 z62 rfl rfl rfl rfl rfl rfl rfl (al (cs := [(iI 0), (iI 0), (.float .f64 0), (.slice none 0 0), (iI 0), (iI 0), (.float .f64 0), (.slice none 0 0)]) 42 rfl rfl rfl rfl rfl o62 rfl (fun b11 s11 p11 B11 => ?_))
  have A13 := A7_3.st p11 rfl
  have A14 := A7_1.st p11 rfl
  refine sva' (vs := [(iI (((at_ a0 x2.2).From).Kind)), (iI (((at_ a0 x2.2).From).N)), v7_0, v7_1, (iI (((at_ a0 x2.2).To).Kind)), (iI (((at_ a0 x2.2).To).N)), v7_2, v7_3]) B11 z62 rfl (Xc rfl (Xc rfl (Xc (FL.one A7_0) (Xc A14.one (Xc rfl (Xc rfl (Xc (FL.one A7_2) (Xc A13.one Xx)))))))) rfl (fun s15 p15 B15 => ?_)
  refine dn (zdraw [[], [], [1], [2], [], [4], [5, 3], [3, 6], [7], [0, 8, 6], [9, 9, 0, 1, 2, 3, 4, 5, 6, 7, 8, 9]] [some 12, some 13, some 14, some 15, some 16, some 17, some 18, some 19, some 20, some 21, some 3] [[3], [5], [13], [14], [5], [16], [17], [15, 18], [19], [12, 20], [21]] [0, 1, 2, 3, 4, 5, 6, 7, 8, 9, 10] ⟨by kernel_rfl, by kernel_rfl, by kernel_rfl⟩ (by kernel_rfl) (fun s17 p17 l17 tb17 zd17 => ?_))
  refine zstep 3 [some 17, some 16, some 12] tb17 (((((zd17.add 0 12 vx2_0 rfl).add 1 13 (pB b11) rfl).add 2 14 (.agg #[(iI (((at_ a0 x2.2).From).Kind)), (iI (((at_ a0 x2.2).From).N)), v7_0, v7_1]) rfl).add 4 16 (pO b11 4) rfl).add 5 17 (.agg #[(iI (((at_ a0 x2.2).To).Kind)), (iI (((at_ a0 x2.2).To).N)), v7_2, v7_3]) rfl) (Xa (lda_q' (es := [(iI (((at_ a0 x2.2).To).Kind)), (iI (((at_ a0 x2.2).To).N)), v7_2, v7_3]) (B15.st p17 rfl) u60 z60 rfl) rfl (Xa (Xo fa62_1 rfl) rfl (Xa (lda_q' (es := [(iI (((at_ a0 x2.2).From).Kind)), (iI (((at_ a0 x2.2).From).N)), v7_0, v7_1]) (B15.st p17 rfl) u60 z60 rfl) rfl (Xa (Xo fa62_0 rfl) rfl (Xa (Xu vx2_0 rfl) rfl Xk))))) (by kernel_rfl) rfl (fun l25 e25 zd25 => ?_)
  refine cl' rfl func68 rfl (impl_Item_own.calls ((at_ a0 x2.2).From) s17.w (mm [0] s17) v7_0 v7_1 ((Xl (s := s17) A7_0).sub (D := [0]) rfl) (A14.st (Xm p15 p17) rfl)) ?_
  rintro r29 _ w29 m29 ⟨v29_0, v29_1, rfl, f29_0, ky29⟩
  obtain ⟨s30, rfl, p30, n30⟩ := nwx s17 w29 43 ky29
  obtain ⟨hu29_0_0, Au29_0_1⟩ := ap60 (f29_0.c n30)
  refine zdone (L' := [5, 4, 0]) (D' := [1, 2, 3]) zd25 rfl rfl rfl (fun zd32 => ?_)
  refine zstep 6 [some 12] tb17 zd32 (Xa (lda_q' (es := [(iI (((at_ a0 x2.2).To).Kind)), (iI (((at_ a0 x2.2).To).N)), v7_2, v7_3]) (B15.st (Xm p17 p30) rfl) u60 z60 rfl) rfl (Xa (Xo fa62_1 rfl) rfl (Xa (Xu vx2_0 rfl) rfl Xk))) (by kernel_rfl) rfl (fun l33 e33 zd33 => ?_)
  refine cl' rfl func68 rfl (impl_Item_own.calls ((at_ a0 x2.2).To) s30.w (mm [0] s30) v7_2 v7_3 ((Xl (s := s30) A7_2).sub (D := [0]) rfl) (A13.st (Yb p15 p17 p30) rfl)) ?_
  rintro r36 _ w36 m36 ⟨v36_0, v36_1, rfl, f36_0, ky36⟩
  obtain ⟨s37, rfl, p37, n37⟩ := nwx s30 w36 44 ky36
  obtain ⟨hu36_0_0, Au36_0_1⟩ := ap60 (f36_0.c n37)
  refine zdone (L' := [0]) (D' := [4, 5, 6, 1, 2, 3]) zd33 rfl rfl rfl (fun zd39 => ?_)
  refine zstep 8 [some 12] tb17 (zd39.add 7 19 (.agg #[(iI r29.Kind), (iI r29.N), v29_0, v29_1, (iI r36.Kind), (iI r36.N), v36_0, v36_1]) rfl) (Xa (bd_q (cells := [(iI r29.Kind), (iI r29.N), v29_0, v29_1, (iI r36.Kind), (iI r36.N), v36_0, v36_1]) pl62 o62 rfl rfl rfl rfl rfl rfl) rfl (Xa (Xu vx2_0 rfl) rfl Xk)) (by kernel_rfl) rfl (fun l41 e41 zd41 => ?_)
  obtain ⟨s43, hw43, p43, A43⟩ := ow_2 (Xv (fun x : Item => (x.Kind, x.N, x.F, x.T)) r29 (Xt (Xi .i64 r29.Kind) (Xt (Xi .i64 r29.N) (Xt (fz_flt hu29_0_0) (Au29_0_1.st p37 rfl))))) (Xv (fun x : Item => (x.Kind, x.N, x.F, x.T)) r36 (Xt (Xi .i64 r36.Kind) (Xt (Xi .i64 r36.N) (Xt (fz_flt hu36_0_0) Au36_0_1)))) rfl rfl
  rw [hw43]
  have A45 : OwF kd62 s43 [(iI r29.Kind), (iI r29.N), v29_0, v29_1, (iI r36.Kind), (iI r36.N), v36_0, v36_1] (Span.mk r29 r36) 43 := (Xv (fun x : Span => (x.From, x.To)) (Span.mk r29 r36) A43)
  refine ltO (K := kd62) (cells := [(iI r29.Kind), (iI r29.N), v29_0, v29_1, (iI r36.Kind), (iI r36.N), v36_0, v36_1]) [(Span.mk r29 r36)] 43 u24 z62 o62 (lo_one A45) rfl rfl rfl rfl rfl rfl rfl rfl rfl rfl (fun v48 s48 p48 A48 => ?_)
  refine zdone (L' := [0]) (D' := [7, 8, 4, 5, 6, 1, 2, 3]) zd41 rfl rfl rfl (fun zd50 => ?_)
  refine zfin [9, 10] tb17 zd50 (Xa (Xu vx2_0 rfl) rfl Xk) (by kernel_rfl) (by decide) (apO sl24 (Ax2_0.st (tr7 p11 p15 p17 p30 p37 p43 p48) rfl) A48 rfl rfl rfl rfl rfl rfl rfl rfl rfl (fun v52 s52 p52 A52 => ?_))
  refine Xy v52 rfl (dn (ib (rg (Xb rfl (Xb rfl (dn ?_))))))
  exact lb ih2 ⟨s52, _, v52, rfl, (ue (ue (ue (ue rfl rfl) rfl) rfl) rfl), (Kx2.st (tr8 p11 p15 p17 p30 p37 p43 p48 p52) rfl), A52⟩
 exact xt rfl (sgb (sr (Xp vx2_0 rfl (Xy vx2_0 rfl (dn (re rfl func40 rfl (Xq rfl Xe) rfl ⟨_, rfl, Ax2_0.fo Kx2 rfl z.l, z.ky Kx2⟩))))))
def impl_ownItems.b0 (a0 : (List Item)) (x2 : (List Item) × Int) : Option (((List Item) × Int) ⊕ (List Item)) :=
 (if (decide (x2.2 < (a0.length : Int))) = true then (if 0 ≤ x2.2 ∧ x2.2 < (a0.length : Int) then ((impl_Item_own.f (at_ a0 x2.2)).bind fun r16 => (if x2.1.length + ([r16]).length ≤ Lim then (some (Sum.inl ((x2.1 ++ [r16]), (IntKind.wrap .i64 (x2.2 + (1 : Int)))))) else none)) else none) else ((some x2.1).bind fun o => some (Sum.inr o)))
def impl_ownItems.f (a0 : (List Item)) : Option ((List Item)) :=
 (iter (impl_ownItems.b0 a0) (([] : (List Item)), (0 : Int)))
def impl_ownItems.Q (w : World) (F : Nat → Prop) (r : (List Item)) (v : Value) (w' : World) : Prop :=
 FO Ye w w' [v] r ∧ Ky [] w w'
theorem impl_ownItems.calls (a0 : (List Item)) (w : World) (F : Nat → Prop) (w0_0 : Value) (h0_0 : Ye.rd w [w0_0] a0 F) (r : (List Item)) (m : impl_ownItems.f a0 = some r) :
  Calls prog 41 #[w0_0] w (RT (impl_ownItems.Q w F) r) := by
 obtain ⟨s0, rfl, kp0, z⟩ := Xj w F
 have A0_0 := z.rd h0_0
 refine Xd (args := [w0_0]) func41 ntmps41 rfl rfl m ?_
 unfold impl_ownItems.f
 refine sr (Xb rfl (dn (sr (Xb rfl (dn (sq (sr (Xp w0_0 rfl (ln' A0_0 u25 rfl (Xb rfl (dn (bl (lpI (fun (x2 : (List Item) × Int) e w => ∃ (s : St) (e0 : Env) (vx2_0 : Value), w = s.w ∧ e = upd (upd (upd (upd e0 3 vx2_0) 6 w0_0) 7 (iI (a0.length : Int))) 8 (iI x2.2) ∧ Kp s0 s ∧ OwF Ye s [vx2_0] x2.1 41) ⟨s0, _, (.slice none 0 0), rfl, (ue (ue (ue (ue rfl rfl) rfl) rfl) rfl), kp0, (ow_nil 60 kd60 _ 41)⟩ (fun g2 ih2 => ?_))))))))))))))
 rintro x2 _ _ ⟨s3, _, vx2_0, rfl, rfl, Kx2, Ax2_0⟩
 unfold impl_ownItems.b0
 refine sr (Xb rfl (dn (sq (cd rfl (fun h5 => ?_) (fun h5 => ?_)))))
 ·
  refine sk (sq (bl (sr ?_)))
  refine ix' (A0_0.kp Kx2) u25 z60 rfl (fun ad7 es7 h0_7 h1_7 he7 ce7 ia7 => ?_)
  obtain ⟨v7_0, v7_1, rfl, A7_0, A7_1⟩ := op60 he7
  refine lca ce7 u60 z60 rfl rfl rfl rfl rfl rfl rfl (al (cs := [(iI 0), (iI 0), (.float .f64 0), (.slice none 0 0)]) 42 rfl rfl rfl rfl rfl o60 rfl (fun b10 s10 p10 B10 => ?_))
  have A12 := A7_1.st p10 rfl
  refine sva' (vs := [(iI ((at_ a0 x2.2).Kind)), (iI ((at_ a0 x2.2).N)), v7_0, v7_1]) B10 z60 rfl (Xc rfl (Xc rfl (Xc (FL.one A7_0) (Xc A12.one Xx)))) rfl (fun s13 p13 B13 => ?_)
  refine dn (rg (Xp vx2_0 rfl (lda' (es := [(iI ((at_ a0 x2.2).Kind)), (iI ((at_ a0 x2.2).N)), v7_0, v7_1]) B13 u60 z60 rfl ?_)))
  refine cl' rfl func68 rfl (impl_Item_own.calls (at_ a0 x2.2) s13.w (mm [0] s13) v7_0 v7_1 ((Xl (s := s13) A7_0).sub (D := [0]) rfl) (A12.st p13 rfl)) ?_
  rintro r16 _ w16 m16 ⟨v16_0, v16_1, rfl, f16_0, ky16⟩
  obtain ⟨s17, rfl, p17, n17⟩ := nwx s13 w16 43 ky16
  obtain ⟨hu16_0_0, Au16_0_1⟩ := ap60 (f16_0.c n17)
  have A19 : OwF kd60 s17 [(iI r16.Kind), (iI r16.N), v16_0, v16_1] r16 43 := (Xv (fun x : Item => (x.Kind, x.N, x.F, x.T)) r16 (Xt (Xi .i64 r16.Kind) (Xt (Xi .i64 r16.N) (Xt (fz_flt hu16_0_0) Au16_0_1))))
  refine ltO (K := kd60) (cells := [(iI r16.Kind), (iI r16.N), v16_0, v16_1]) [r16] 43 u25 z60 o60 (lo_one A19) rfl rfl rfl rfl rfl rfl rfl rfl rfl rfl (fun v22 s22 p22 A22 => ?_)
  refine apO sl25 (Ax2_0.st (tr4 p10 p13 p17 p22) rfl) A22 rfl rfl rfl rfl rfl rfl rfl rfl rfl (fun v25 s25 p25 A25 => ?_)
  refine Xy v25 rfl (dn (ib (rg (Xb rfl (Xb rfl (dn ?_))))))
  exact lb ih2 ⟨s25, _, v25, rfl, (ue (ue (ue (ue rfl rfl) rfl) rfl) rfl), (Kx2.st (tr5 p10 p13 p17 p22 p25) rfl), A25⟩
 exact xt rfl (sgb (sr (Xp vx2_0 rfl (Xy vx2_0 rfl (dn (re rfl func41 rfl (Xq rfl Xe) rfl ⟨_, rfl, Ax2_0.fo Kx2 rfl z.l, z.ky Kx2⟩))))))
def impl_ownTracks.b0 (a0 : (List Track)) (x2 : (List Track) × Int) : Option (((List Track) × Int) ⊕ (List Track)) :=
 (if (decide (x2.2 < (a0.length : Int))) = true then (if 0 ≤ x2.2 ∧ x2.2 < (a0.length : Int) then ((impl_ownSpans.f ((at_ a0 x2.2).Reads)).bind fun r28 => ((impl_ownItems.f ((at_ a0 x2.2).Writes)).bind fun r36 => (if x2.1.length + ([(Track.mk ((at_ a0 x2.2).Xid) ((at_ a0 x2.2).Begun) ((at_ a0 x2.2).Ended) ((at_ a0 x2.2).All) r28 r36 ((at_ a0 x2.2).In) ((at_ a0 x2.2).Out))]).length ≤ Lim then (some (Sum.inl ((x2.1 ++ [(Track.mk ((at_ a0 x2.2).Xid) ((at_ a0 x2.2).Begun) ((at_ a0 x2.2).Ended) ((at_ a0 x2.2).All) r28 r36 ((at_ a0 x2.2).In) ((at_ a0 x2.2).Out))]), (IntKind.wrap .i64 (x2.2 + (1 : Int)))))) else none))) else none) else ((some x2.1).bind fun o => some (Sum.inr o)))
def impl_ownTracks.f (a0 : (List Track)) : Option ((List Track)) :=
 (iter (impl_ownTracks.b0 a0) (([] : (List Track)), (0 : Int)))
def impl_ownTracks.Q (w : World) (F : Nat → Prop) (r : (List Track)) (v : Value) (w' : World) : Prop :=
 FO Yc w w' [v] r ∧ Ky [] w w'
theorem impl_ownTracks.calls (a0 : (List Track)) (w : World) (F : Nat → Prop) (w0_0 : Value) (h0_0 : Yc.rd w [w0_0] a0 F) (r : (List Track)) (m : impl_ownTracks.f a0 = some r) :
  Calls prog 20 #[w0_0] w (RT (impl_ownTracks.Q w F) r) := by
 obtain ⟨s0, rfl, kp0, z⟩ := Xj w F
 have A0_0 := z.rd h0_0
 refine Xd (args := [w0_0]) func20 ntmps20 rfl rfl m ?_
 unfold impl_ownTracks.f
 refine sr (Xb rfl (dn (sr (Xb rfl (dn (sq (sr (Xp w0_0 rfl (ln' A0_0 u30 rfl (Xb rfl (dn (bl (lpI (fun (x2 : (List Track) × Int) e w => ∃ (s : St) (e0 : Env) (vx2_0 : Value), w = s.w ∧ e = upd (upd (upd (upd e0 3 vx2_0) 6 w0_0) 7 (iI (a0.length : Int))) 8 (iI x2.2) ∧ Kp s0 s ∧ OwF Yc s [vx2_0] x2.1 41) ⟨s0, _, (.slice none 0 0), rfl, (ue (ue (ue (ue rfl rfl) rfl) rfl) rfl), kp0, (ow_nil 27 kd27 _ 41)⟩ (fun g2 ih2 => ?_))))))))))))))
 rintro x2 _ _ ⟨s3, _, vx2_0, rfl, rfl, Kx2, Ax2_0⟩
 unfold impl_ownTracks.b0
 refine sr (Xb rfl (dn (sq (cd rfl (fun h5 => ?_) (fun h5 => ?_)))))
 ·
  refine sk (sq (bl (sr ?_)))
  refine ix' (A0_0.kp Kx2) u30 z27 rfl (fun ad7 es7 h0_7 h1_7 he7 ce7 ia7 => ?_)
  obtain ⟨v7_0, v7_1, rfl, A7_0, A7_1⟩ := op27 he7
  refine lca ce7 u27 z27 rfl rfl rfl rfl rfl rfl rfl (al (cs := [(iI 0), (iI 0), (iI 0), (.bool false), (.slice none 0 0), (.slice none 0 0), (.bool false), (.bool false)]) 42 rfl rfl rfl rfl rfl o27 rfl (fun b11 s11 p11 B11 => ?_))
  have A13 := A7_1.st p11 rfl
  have A14 := A7_0.st p11 rfl
  refine sva' (vs := [(iI ((at_ a0 x2.2).Xid)), (iI ((at_ a0 x2.2).Begun)), (iI ((at_ a0 x2.2).Ended)), (.bool ((at_ a0 x2.2).All)), v7_0, v7_1, (.bool ((at_ a0 x2.2).In)), (.bool ((at_ a0 x2.2).Out))]) B11 z27 rfl (Xc rfl (Xc rfl (Xc rfl (Xc rfl (Xc A14.one (Xc A13.one (Xc rfl (Xc rfl Xx)))))))) rfl (fun s15 p15 B15 => ?_)
  refine dn (sq (zdraw [[], [0], [1], [], [3], [4, 2], [0, 1, 2, 3, 4], [6, 2, 5, 0, 1, 2, 3, 4], [0, 1, 2, 3, 4, 5, 6, 7], [8, 5, 7, 0, 1, 2, 3, 4, 5, 6, 7]] [some 12, some 13, some 14, some 15, some 16, some 17, some 18, none, some 19, none] [[5], [12], [13], [5], [15], [16], [5], [18, 14], [5], [19, 17]] [0, 1, 2, 3, 4, 5, 6, 7, 8, 9] ⟨by kernel_rfl, by kernel_rfl, by kernel_rfl⟩ (by kernel_rfl) (fun s17 p17 l17 tb17 zd17 => ?_)))
  refine zstep 2 [some 16, some 15] tb17 ((((zd17.add 0 12 (pO b11 4) rfl).add 1 13 v7_0 rfl).add 3 15 (pO b11 5) rfl).add 4 16 v7_1 rfl) (Xa (Ya (B15.st p17 rfl) u25 rfl) rfl (Xa (Xo fa27_5 rfl) rfl (Xa (Ya (B15.st p17 rfl) u24 rfl) rfl (Xa (Xo fa27_4 rfl) rfl Xk)))) (by kernel_rfl) rfl (fun l24 e24 zd24 => ?_)
  refine clO 43 rfl func40 rfl (impl_ownSpans.calls ((at_ a0 x2.2).Reads) s17.w (mm [0] s17) v7_0 (A14.st (Xm p15 p17) rfl)) (fun r28 v28_0 s29 p29 A28_0 => ?_)
  refine zdone (L' := [4, 3]) (D' := [0, 1, 2]) zd24 rfl rfl rfl (fun zd31 => ?_)
  refine zstep 5 [some 18] tb17 (zd31.add 6 18 (pO b11 4) rfl) (Xa (Xo fa27_4 rfl) rfl (Xa (Ya (B15.st (Xm p17 p29) rfl) u25 rfl) rfl (Xa (Xo fa27_5 rfl) rfl Xk))) (by kernel_rfl) rfl (fun l33 e33 zd33 => ?_)
  refine clO 44 rfl func41 rfl (impl_ownItems.calls ((at_ a0 x2.2).Writes) s29.w (mm [0] s29) v7_1 (A13.st (Yb p15 p17 p29) rfl)) (fun r36 v36_0 s37 p37 A36_0 => ?_)
  refine zdone (L' := [6]) (D' := [3, 4, 5, 0, 1, 2]) zd33 rfl rfl rfl (fun zd39 => ?_)
  refine zfin [7, 8, 9] tb17 zd39 (Xa (Xo fa27_4 rfl) rfl Xk) (by kernel_rfl) (by decide) ?_
  have A41 := A28_0.st p37 rfl
  refine sv' (B15.st (Yb p17 p29 p37) rfl) z24 rfl A41.rd.one rfl (fun s42 p42 B42 => ?_)
  refine Xw fa27_5 rfl ?_
  have A44 := A36_0.st p42 rfl
  refine sv' B42 z25 rfl A44.rd.one rfl (fun s45 p45 B45 => ?_)
  refine dn (rg (Xp vx2_0 rfl (lda' (es := [(iI ((at_ a0 x2.2).Xid)), (iI ((at_ a0 x2.2).Begun)), (iI ((at_ a0 x2.2).Ended)), (.bool ((at_ a0 x2.2).All)), v28_0, v36_0, (.bool ((at_ a0 x2.2).In)), (.bool ((at_ a0 x2.2).Out))]) B45 u27 z27 rfl ?_)))
  obtain ⟨s49, hw49, p49, A49⟩ := ow_2 (A41.st (Xm p42 p45) rfl) (ow_r (A44.st p45 rfl) (Xn (Xz ((at_ a0 x2.2).In)) (Xz ((at_ a0 x2.2).Out)))) rfl rfl
  rw [hw49]
  have A51 : OwF kd27 s49 [(iI ((at_ a0 x2.2).Xid)), (iI ((at_ a0 x2.2).Begun)), (iI ((at_ a0 x2.2).Ended)), (.bool ((at_ a0 x2.2).All)), v28_0, v36_0, (.bool ((at_ a0 x2.2).In)), (.bool ((at_ a0 x2.2).Out))] (Track.mk ((at_ a0 x2.2).Xid) ((at_ a0 x2.2).Begun) ((at_ a0 x2.2).Ended) ((at_ a0 x2.2).All) r28 r36 ((at_ a0 x2.2).In) ((at_ a0 x2.2).Out)) 43 := (Xv (fun x : Track => (x.Xid, x.Begun, x.Ended, x.All, x.Reads, x.Writes, x.In, x.Out)) (Track.mk ((at_ a0 x2.2).Xid) ((at_ a0 x2.2).Begun) ((at_ a0 x2.2).Ended) ((at_ a0 x2.2).All) r28 r36 ((at_ a0 x2.2).In) ((at_ a0 x2.2).Out)) (Xt (Xi .i64 ((at_ a0 x2.2).Xid)) (Xt (Xi .i64 ((at_ a0 x2.2).Begun)) (Xt (Xi .i64 ((at_ a0 x2.2).Ended)) (Xt (Xz ((at_ a0 x2.2).All)) A49)))))
  refine ltO (K := kd27) (cells := [(iI ((at_ a0 x2.2).Xid)), (iI ((at_ a0 x2.2).Begun)), (iI ((at_ a0 x2.2).Ended)), (.bool ((at_ a0 x2.2).All)), v28_0, v36_0, (.bool ((at_ a0 x2.2).In)), (.bool ((at_ a0 x2.2).Out))]) [(Track.mk ((at_ a0 x2.2).Xid) ((at_ a0 x2.2).Begun) ((at_ a0 x2.2).Ended) ((at_ a0 x2.2).All) r28 r36 ((at_ a0 x2.2).In) ((at_ a0 x2.2).Out))] 43 u30 z27 o27 (lo_one A51) rfl rfl rfl rfl rfl rfl rfl rfl rfl rfl (fun v54 s54 p54 A54 => ?_)
  refine apO sl30 (Ax2_0.st (tr9 p11 p15 p17 p29 p37 p42 p45 p49 p54) rfl) A54 rfl rfl rfl rfl rfl rfl rfl rfl rfl (fun v57 s57 p57 A57 => ?_)
  refine Xy v57 rfl (dn (ib (rg (Xb rfl (Xb rfl (dn ?_))))))
  exact lb ih2 ⟨s57, _, v57, rfl, (ue (ue (ue (ue rfl rfl) rfl) rfl) rfl), (Kx2.st (tr10 p11 p15 p17 p29 p37 p42 p45 p49 p54 p57) rfl), A57⟩
 exact xt rfl (sgb (sr (Xp vx2_0 rfl (Xy vx2_0 rfl (dn (re rfl func20 rfl (Xq rfl Xe) rfl ⟨_, rfl, Ax2_0.fo Kx2 rfl z.l, z.ky Kx2⟩))))))
set_option linter.unusedSectionVars false
section
variable {β : Type} [Inhabited β]
def slices_Delete_impl_Track_impl_Track_pk.f (a0 : (List (Pk β))) (a1 : Int) (a2 : Int) : Option ((List (Pk β))) :=
 (if 0 ≤ a1 ∧ a1 ≤ a2 ∧ a2 ≤ (a0.length : Int) ∧ (a0.length : Int) ≤ (a0.length : Int) then (if (a1 == a2) = true then (some a0) else (if 0 ≤ a1 ∧ a1 ≤ (a0.length : Int) then (if 0 ≤ a2 ∧ a2 ≤ (a0.length : Int) then (if (a0.take (a1).toNat).length + (a0.drop (a2).toNat).length ≤ a0.length ∧ (a0.take (a1).toNat).length + (a0.drop (a2).toNat).length ≤ Lim then (if 0 ≤ (((a0.take (a1).toNat) ++ (a0.drop (a2).toNat)).length : Int) ∧ (((a0.take (a1).toNat) ++ (a0.drop (a2).toNat)).length : Int) = (((a0.take (a1).toNat) ++ (a0.drop (a2).toNat)).length : Int) ∧ (((a0.take (a1).toNat) ++ (a0.drop (a2).toNat)).length : Int) ≤ (a0.length : Int) ∧ (a0.length : Int) ≤ (a0.length : Int) then (some (((a0.take (a1).toNat) ++ (a0.drop (a2).toNat)).take ((((a0.take (a1).toNat) ++ (a0.drop (a2).toNat)).length : Int)).toNat ++ List.replicate (((a0.take (a1).toNat) ++ (a0.drop (a2).toNat)).length - ((((a0.take (a1).toNat) ++ (a0.drop (a2).toNat)).length : Int)).toNat) (Pk.mk [(iI 0), (iI 0), (iI 0), (.bool false), (.slice none 0 0), (.slice none 0 0), (.bool false), (.bool false)] default))) else none) else none) else none) else none)) else none)
def slices_Delete_impl_Track_impl_Track_pk.Q (w : World) (F : Nat → Prop) (os : List Nat) (r : (List (Pk β))) (v : Value) (w' : World) : Prop :=
 FW (Kd.sl 27 (Kd.pk β 8)) os w w' [v] r ∧ Ky os w w'
theorem slices_Delete_impl_Track_impl_Track_pk.calls (a0 : (List (Pk β))) (a1 : Int) (a2 : Int) (w : World) (F : Nat → Prop) (w0_0 : Value) (os : List Nat) (h0 : (Kd.sl 27 (Kd.pk β 8)).ow w [w0_0] a0 os) (hn : os.Nodup) (hF : ∀ b, F b → b ∉ os) (r : (List (Pk β))) (m : slices_Delete_impl_Track_impl_Track_pk.f a0 a1 a2 = some r) :
  Calls prog 21 #[w0_0, (iI a1), (iI a2)] w (RT (slices_Delete_impl_Track_impl_Track_pk.Q w F os) r) := by
 obtain ⟨s0, rfl, kp0, z⟩ := startN w F [(os, 40)] (by simpa [fl_] using hn) (fun b hb => by simpa [fl_] using hF b hb) rfl
 have ez : fl_ [(os, 40)] = os := by simp [fl_]
 have A0_0 := z.ow (c := 40) (by simp) hn h0
 refine Xd (args := [w0_0, (iI a1), (iI a2)]) func21 ntmps21 rfl rfl m ?_
 unfold slices_Delete_impl_Track_impl_Track_pk.f
 refine sr (Xb rfl (dn (sr (Xp w0_0 rfl (Xb rfl (Xb rfl (Xp w0_0 rfl (ln' A0_0.rd u30 rfl (sl3_ A0_0 u30 z27 rfl rfl rfl rfl rfl rfl rfl rfl rfl (fun v2 => ?_))))))))))
 refine dn (sq (sr (Xb rfl (Xb rfl (Xb rfl (dn (cd rfl (fun h3 => ?_) (fun h3 => ?_))))))))
 ·
  exact sr (Xp w0_0 rfl (Xy w0_0 rfl (dn (re rfl func21 rfl (Xq rfl Xe) rfl ⟨_, rfl, z.fw' ez kp0 (oc_ow A0_0) rfl, z.ky' ez kp0⟩))))
 refine sk (sr (Xp w0_0 rfl (ln' A0_0.rd u30 rfl (Xb rfl (dn (sq (zdraw [[], [], [0, 1], [], [], [3, 4], [2, 5], [6, 6, 0, 1, 2, 3, 4, 5, 6]] [some 20, some 21, some 22, some 23, some 24, some 25, some 26, some 0] [[0], [1], [20, 21], [0], [2], [23, 24], [22, 25], [26]] [0, 1, 2, 3, 4, 5, 6, 7] ⟨by kernel_rfl, by kernel_rfl, by kernel_rfl⟩ (by kernel_rfl) (fun s4 p4 l4 tb4 zd4 => ?_))))))))
 have A8 := A0_0.st p4 rfl
 refine mg fun hg7 => ?_
 obtain ⟨v7, C7⟩ := cut_e (a := 0) (b := (a1).toNat) A8 (Nat.zero_le _) (by omega)
 obtain ⟨A7, Q7⟩ := cut_ow fl_pk A8 (by omega) C7
 refine mg fun hg13 => ?_
 obtain ⟨v13, C13⟩ := cut_e (a := (a2).toNat) (b := a0.length) A8 (by omega) (Nat.le_refl _)
 refine zfin [6, 7] tb4 ((((((zd4.add 0 20 w0_0 rfl).add 1 21 (iI a1) rfl).add 2 22 v7 rfl).add 3 23 w0_0 rfl).add 4 24 (iI a2) rfl).add 5 25 v13 rfl) (Xa (slA_q hg13.1 C13 u30 z27 rfl rfl rfl rfl rfl rfl rfl) rfl (Xa (Xg rfl) rfl (Xa (Xu w0_0 rfl) rfl (Xa (slH_q hg7.1 C7 u30 z27 rfl rfl rfl rfl rfl rfl rfl) rfl (Xa (Xg rfl) rfl (Xa (Xu w0_0 rfl) rfl Xk)))))) (by kernel_rfl) (by decide) (apIn fl_pk sl30 A7 Q7 (cut_rdf A8 C13) rfl rfl rfl rfl rfl rfl rfl (fun v16 s16 p16 A16 Q16 => ?_))
 refine Xy v16 rfl (dn (sr (Xp v16 rfl (Xp v16 rfl (ln' A16.rd u30 rfl (Xb rfl (mg fun hg18 => ?_)))))))
 obtain ⟨v18, C18⟩ := cut_m (a := ((((a0.take (a1).toNat) ++ (a0.drop (a2).toNat)).length : Int)).toNat) (b := ((a0.length : Int)).toNat) A16 Q16 (by omega) (by omega)
 refine slB_ hg18.1 (by omega) C18 u30 z27 rfl rfl rfl rfl rfl rfl rfl rfl (clr_ (x0 := (Pk.mk [(iI 0), (iI 0), (iI 0), (.bool false), (.slice none 0 0), (.slice none 0 0), (.bool false), (.bool false)] default)) fl_pk A16 C18 (by omega) (by omega) u30 o27 rfl rfl (fun _ => ⟨⟨rfl, rfl, fun v hv => List.all_eq_true.1 (show ([(iI 0), (iI 0), (iI 0), (.bool false), (.slice none 0 0), (.slice none 0 0), (.bool false), (.bool false)] : List Value).all (·.oneCell') = true from rfl) v hv⟩, rfl⟩) rfl rfl rfl rfl rfl (fun s19 p19 A19 => ?_))
 refine dn (sr (Xp v16 rfl (Xy v16 rfl (dn ?_))))
 have K21 := kp0.st (Yb p4 p16 p19) rfl
 exact re rfl func21 rfl (Xq rfl Xe) rfl ⟨_, rfl, z.fw' ez K21 (oc_ow A19) rfl, z.ky' ez K21⟩
end
def slices_Delete_impl_Track_impl_Track.f (a0 : (List Track)) (a1 : Int) (a2 : Int) : Option ((List Track)) := dlF a0 a1 a2
def slices_Delete_impl_Track_impl_Track.Q (w : World) (F : Nat → Prop) (os : List Nat) (r : (List Track)) (v : Value) (w' : World) : Prop := FW Yc os w w' [v] r ∧ Ky os w w'
theorem slices_Delete_impl_Track_impl_Track.calls (a0 : (List Track)) (a1 : Int) (a2 : Int) (w : World) (F : Nat → Prop) (w0_0 : Value) (os : List Nat) (h0 : Yc.ow w [w0_0] a0 os) (hn : os.Nodup) (hF : ∀ b, F b → b ∉ os) (r : (List Track)) (m : slices_Delete_impl_Track_impl_Track.f a0 a1 a2 = some r) :
  Calls prog 21 #[w0_0, (iI a1), (iI a2)] w (RT (slices_Delete_impl_Track_impl_Track.Q w F os) r) :=
 dlW (te := 27) (K := kd27) slices_Delete_impl_Track_impl_Track_pk.calls (fun a0 i j h0 h1 h2 hl => dlM_eq _ a0 i j h0 h1 h2 hl) a0 a1 a2 w w0_0 os h0 hn r m

def impl_tidy_1_1.f (a0 : Track) (a1 : Track) : Option (Bool) :=
 ((impl_Track_isActive.f a0).bind fun r11 => (some ((!r11) || (decide (a1.Ended ≤ a0.Begun)))))
def impl_tidy_1_1.Q (w : World) (F : Nat → Prop) (r : Bool) (v : Value) (w' : World) : Prop :=
 v = (.bool r) ∧ Ky [] w w'
theorem impl_tidy_1_1.calls (a0 : Track) (a1 : Track) (w : World) (F : Nat → Prop) (w0_0 : Value) (w0_1 : Value) (c1 : Nat) (w1_0 : Value) (w1_1 : Value) (h0_0 : Yf.rd w [w0_0] a0.Reads F) (h0_1 : Ye.rd w [w0_1] a0.Writes F) (h1_0 : Yf.rd w [w1_0] a1.Reads F) (h1_1 : Ye.rd w [w1_1] a1.Writes F) (hb1 : BlW w c1 27 [(iI a1.Xid), (iI a1.Begun), (iI a1.Ended), (.bool a1.All), w1_0, w1_1, (.bool a1.In), (.bool a1.Out)]) (hp1 : F c1) (r : Bool) (m : impl_tidy_1_1.f a0 a1 = some r) :
  Calls prog 45 #[(.agg #[(iI a0.Xid), (iI a0.Begun), (iI a0.Ended), (.bool a0.All), w0_0, w0_1, (.bool a0.In), (.bool a0.Out)]), (pB c1)] w (RT (impl_tidy_1_1.Q w F) r) := by
 obtain ⟨s0, rfl, kp0, z⟩ := Xj w F
 refine Xd (args := [(.agg #[(iI a0.Xid), (iI a0.Begun), (iI a0.Ended), (.bool a0.All), w0_0, w0_1, (.bool a0.In), (.bool a0.Out)]), (pB c1)]) func45 ntmps45 rfl rfl m ?_
 unfold impl_tidy_1_1.f
 refine sr (bx' (cs := [(iI a0.Xid), (iI a0.Begun), (iI a0.Ended), (.bool a0.All), w0_0, w0_1, (.bool a0.In), (.bool a0.Out)]) 40 rfl rfl (fun b6 s6 p6 B6 => ?_))
 refine Xb rfl (dn (sr (lda' (es := [(iI a0.Xid), (iI a0.Begun), (iI a0.Ended), (.bool a0.All), w0_0, w0_1, (.bool a0.In), (.bool a0.Out)]) B6 u27 z27 rfl ?_)))
 have K8 := kp0.st p6 rfl
 refine clV 41 rfl func18 rfl (impl_Track_isActive.calls a0 s6.w (mm [0] s6) w0_0 w0_1 ((z.rd h0_0).kp K8) ((z.rd h0_1).kp K8)) (fun r11 s12 p12 n12 => ?_)
 refine Xb rfl (Xb rfl (jy [7, 8, 9, 10, 11, 12, 13] [10] 13 (.bool ((!r11) || (decide (a1.Ended ≤ a0.Begun)))) rfl (fun Kg13 => ?_) (fun j13 => ?_)))
 ·
  rcases bft (!r11) with hb13 | hb13
  ·
   exact Xs hb13 (Xf rfl (Xf rfl (Xf rfl (Xf rfl (Xf rfl (Xb rfl (Kg13 _ (Ag.put ((Ag.put ((Ag.put ((Ag.put ((Ag.put ((Ag.put (Ag.base rfl) rfl)) rfl)) rfl)) rfl)) rfl)) rfl) (by rw [hb13]; rfl))))))))
  refine Xs hb13 (Xw fa27_2 rfl ?_)
  refine ld' (BlF.st (z.b0 hb1 hp1) (Xm p6 p12) rfl) u3 rfl (Xw fa27_1 rfl ?_)
  exact ld' (B6.st p12 rfl) u3 rfl (Xb rfl (Xb rfl (Kg13 _ (Ag.put ((Ag.put ((Ag.put ((Ag.put ((Ag.put ((Ag.put (Ag.base rfl) rfl)) rfl)) rfl)) rfl)) rfl)) rfl) (by rw [hb13]; rfl))))
 refine Xb rfl (dn ?_)
 exact re rfl func45 rfl (Xq rfl Xe) rfl ⟨_, rfl, rfl, z.ky (K8.st p12 rfl)⟩
def impl_tidy_1.f (a0 : Track) (a1 : (List Track)) : Option (Bool) :=
 ((impl_Track_isActive.f a0).bind fun r10 => ((if (!r10) = true then ((impl_areAll_impl_Track.f a1 (fun x0 => impl_tidy_1_1.f x0 a0)).bind fun r19 => (some r19)) else (some false)).bind fun y12 => (some y12)))
def impl_tidy_1.Q (w : World) (F : Nat → Prop) (r : Bool) (v : Value) (w' : World) : Prop :=
 v = (.bool r) ∧ Ky [] w w'
theorem impl_tidy_1.calls (a0 : Track) (a1 : (List Track)) (w : World) (F : Nat → Prop) (w0_0 : Value) (w0_1 : Value) (c1 : Nat) (w1_0 : Value) (h0_0 : Yf.rd w [w0_0] a0.Reads F) (h0_1 : Ye.rd w [w0_1] a0.Writes F) (h1_0 : Yc.rd w [w1_0] a1 F) (hb1 : BlW w c1 30 [w1_0]) (hp1 : F c1) (r : Bool) (m : impl_tidy_1.f a0 a1 = some r) :
  Calls prog 44 #[(.agg #[(iI a0.Xid), (iI a0.Begun), (iI a0.Ended), (.bool a0.All), w0_0, w0_1, (.bool a0.In), (.bool a0.Out)]), (pB c1)] w (RT (impl_tidy_1.Q w F) r) := by
 obtain ⟨s0, rfl, kp0, z⟩ := Xj w F
 have A0_0 := z.rd h0_0
 have A0_1 := z.rd h0_1
 refine Xd (args := [(.agg #[(iI a0.Xid), (iI a0.Begun), (iI a0.Ended), (.bool a0.All), w0_0, w0_1, (.bool a0.In), (.bool a0.Out)]), (pB c1)]) func44 ntmps44 rfl rfl m ?_
 unfold impl_tidy_1.f
 refine sr (bx' (cs := [(iI a0.Xid), (iI a0.Begun), (iI a0.Ended), (.bool a0.All), w0_0, w0_1, (.bool a0.In), (.bool a0.Out)]) 40 rfl rfl (fun b5 s5 p5 B5 => ?_))
 refine Xb rfl (dn (sr (lda' (es := [(iI a0.Xid), (iI a0.Begun), (iI a0.Ended), (.bool a0.All), w0_0, w0_1, (.bool a0.In), (.bool a0.Out)]) B5 u27 z27 rfl ?_)))
 have K7 := kp0.st p5 rfl
 refine clV 41 rfl func18 rfl (impl_Track_isActive.calls a0 s5.w (mm [0] s5) w0_0 w0_1 (A0_0.kp K7) (A0_1.kp K7)) (fun r10 s11 p11 n11 => ?_)
 refine Xb rfl (Xb rfl (ji [8] (fun (y12 : Bool) e w => ∃ (s : St) (e0 : Env), w = s.w ∧ e = upd e0 11 (.bool y12) ∧ Kp s0 s) (fun Gj12 Kj12 => ?_) ?_))
 ·
  rcases bft (!r10) with hb12 | hb12
  ·
   refine Xs hb12 ?_
   rw [if_pos hb12]
   refine ld' (BlF.st (z.b0 hb1 hp1) (Xm p5 p11) rfl) u30 rfl (mkf (fs := []) (cs := [(pB b5)]) rfl rfl rfl rfl rfl rfl rfl ?_)
   have K14 := K7.st p11 rfl
   refine clV 42 rfl func26 rfl (impl_areAll_impl_Track.calls a1 (fun x0 => impl_tidy_1_1.f x0 a0) s11.w (mm [0] s11) w1_0 (.func (.func 45) (List.toArray []) (List.toArray [(pB b5)])) ((z.rd h1_0).kp K14) (fun x0 u0_0 u0_1 w' k h0 h1 r m =>  ⟨45, _, _, [], [(pB b5)], rfl, func45, rfl, rfl, (impl_tidy_1_1.calls x0 a0 w' (fun _ => True) u0_0 u0_1 b5 w0_0 w0_1 h0 h1 (RdF.ky (A0_0.kp K14) k) (RdF.ky (A0_1.kp K14) k) (BlF.ky (B5.st p11 rfl) k) trivial r m).mono fun en w2 hq => by obtain ⟨v, e, q⟩ := hq; exact ⟨v, e, q⟩⟩) rfl) (fun r19 s20 p20 n20 => ?_)
   exact Xb rfl (Kj12 _ _ _ ⟨s20, _, rfl, (ue rfl rfl), (K14.st p20 rfl)⟩)
  refine Xs hb12 ?_
  rw [if_neg (by rw [hb12]; decide)]
  refine Xf rfl (Xf rfl (Xf rfl (Xb rfl ?_)))
  exact Kj12 _ _ _ ⟨s11, _, rfl, (ue rfl rfl), (K7.st p11 rfl)⟩
 rintro y12 _ _ ⟨s23, _, rfl, rfl, Ky12⟩
 exact Xb rfl (dn (re rfl func44 rfl (Xq rfl Xe) rfl ⟨_, rfl, rfl, z.ky Ky12⟩))
def slices_Clone_impl_Track_impl_Track.f (a0 : (List Track)) : Option ((List Track)) :=
 (if ([] : (List Track)).length + a0.length ≤ Lim then (some (([] : (List Track)) ++ a0)) else none)
def slices_Clone_impl_Track_impl_Track.Q (w : World) (F : Nat → Prop) (r : (List Track)) (v : Value) (w' : World) : Prop :=
 FR Yc F w w' [v] r ∧ Ky [] w w'
theorem slices_Clone_impl_Track_impl_Track.calls (a0 : (List Track)) (w : World) (F : Nat → Prop) (w0_0 : Value) (h0_0 : Yc.rd w [w0_0] a0 F) (r : (List Track)) (m : slices_Clone_impl_Track_impl_Track.f a0 = some r) :
  Calls prog 43 #[w0_0] w (RT (slices_Clone_impl_Track_impl_Track.Q w F) r) := by
 obtain ⟨s0, rfl, kp0, z⟩ := Xj w F
 have A0_0 := z.rd h0_0
 refine Xd (args := [w0_0]) func43 ntmps43 rfl rfl m ?_
 unfold slices_Clone_impl_Track_impl_Track.f
 refine sr (Xb rfl (dn (sq (sr (Xp w0_0 rfl (nq A0_0 u30 rfl rfl rfl rfl rfl rfl rfl (fun nb2 hn2 => ?_)))))))
 refine dn (cdb rfl (fun h3 => ?_) (fun h3 => ?_))
 ·
  obtain rfl := hn2 h3
  exact mg fun _ => (sr (Xb rfl (dn (re rfl func43 rfl (Xq rfl Xe) rfl ⟨_, rfl, z.fr kp0 (rd_nil 27 kd27 s0 []) rfl, z.ky kp0⟩))))
 refine sk (sr (lt0 (K := kd27) 40 u30 z27 rfl rfl rfl rfl rfl (fun v4 s4 p4 A4 => ?_)))
 refine Xp w0_0 rfl ?_
 obtain ⟨s6, hw6, p6, A6, L6⟩ := lsn 41 A4 rfl
 rw [hw6]
 have K8 := kp0.st (Xm p4 p6) rfl
 refine apRE sl30 A6 (RdF.er (A0_0.kp K8)) rfl rfl rfl rfl rfl rfl rfl rfl (fun v10 s10 p10 A10 => ?_)
 refine Xy v10 rfl (dn ?_)
 have K12 := K8.st p10 rfl
 exact re rfl func43 rfl (Xq rfl Xe) rfl ⟨_, rfl, z.fr K12 A10.rd rfl, z.ky K12⟩
set_option linter.unusedSectionVars false
section
variable {β : Type} [Inhabited β]
def slices_IndexFunc_impl_Track_impl_Track_pk.b0 (a0 : (List (Pk β))) (a1 : ((Pk β) → Option Bool)) (x2 : Int) : Option (Int ⊕ Int) :=
 (if (decide (x2 < (a0.length : Int))) = true then (if 0 ≤ x2 ∧ x2 < (a0.length : Int) then ((a1 (at_ a0 x2)).bind fun r8 => (if r8 = true then (some (Sum.inr x2)) else (some (Sum.inl (IntKind.wrap .i64 (x2 + (1 : Int))))))) else none) else ((some (-1 : Int)).bind fun o => some (Sum.inr o)))
def slices_IndexFunc_impl_Track_impl_Track_pk.f (a0 : (List (Pk β))) (a1 : ((Pk β) → Option Bool)) : Option (Int) :=
 (iter (slices_IndexFunc_impl_Track_impl_Track_pk.b0 a0 a1) (0 : Int))
def slices_IndexFunc_impl_Track_impl_Track_pk.Q (w : World) (F : Nat → Prop) (r : Int) (v : Value) (w' : World) : Prop :=
 v = (iI r) ∧ Ky [] w w'
theorem slices_IndexFunc_impl_Track_impl_Track_pk.calls (a0 : (List (Pk β))) (a1 : ((Pk β) → Option Bool)) (w : World) (F : Nat → Prop) (w0_0 : Value) (f1 : Value) (h0_0 : (Kd.sl 27 (Kd.pk β 8)).rd w [w0_0] a0 F) (hf1 : ∀ (x0 : (Pk β)) (w' : World), Ky [] w w' → ∀ r, a1 x0 = some r → CallV prog f1 [(.agg (List.toArray x0.cs))] w' fun en w'' => ∃ v, en = .returned v ∧ v = (.bool r) ∧ Ky [] w' w'') (ho1 : f1.cells = #[f1]) (r : Int) (m : slices_IndexFunc_impl_Track_impl_Track_pk.f a0 a1 = some r) :
  Calls prog 38 #[w0_0, f1] w (RT (slices_IndexFunc_impl_Track_impl_Track_pk.Q w F) r) := by
 obtain ⟨s0, rfl, kp0, z⟩ := Xj w F
 have A0_0 := z.rd h0_0
 refine Xd (args := [w0_0, f1]) func38 ntmps38 rfl rfl m ?_
 unfold slices_IndexFunc_impl_Track_impl_Track_pk.f
 refine sr (Xb rfl (dn (sq (sr (Xp w0_0 rfl (ln' A0_0 u30 rfl (Xb rfl (dn (bl (lpI (fun (x2 : Int) e w => ∃ (s : St) (e0 : Env), w = s.w ∧ e = upd (upd (upd (upd e0 0 w0_0) 1 f1) 7 (iI (a0.length : Int))) 8 (iI x2) ∧ Kp s0 s) ⟨s0, _, rfl, (ue (ue (ue (ue rfl rfl) rfl) rfl) rfl), kp0⟩ (fun g2 ih2 => ?_)))))))))))
 rintro x2 _ _ ⟨s3, _, rfl, rfl, Kx2⟩
 unfold slices_IndexFunc_impl_Track_impl_Track_pk.b0
 refine sr (Xb rfl (dn (sq (cd rfl (fun h4 => ?_) (fun h4 => ?_)))))
 ·
  refine sk (sq (bl (sr (Xb rfl (Xb rfl (dn (sr (Xp f1 rfl (Xp w0_0 rfl (Xb rfl ?_))))))))))
  refine ix' (A0_0.kp Kx2) u30 z27 rfl (fun ad6 es6 h0_6 h1_6 he6 ce6 ia6 => ?_)
  obtain ⟨rfl, hl6, hv6⟩ := he6
  refine lca ce6 u27 (by rw [hl6]; exact z27) rfl rfl rfl rfl rfl rfl rfl (clv rfl rfl rfl rfl rfl rfl rfl (fun r8 m8 => hf1 (at_ a0 x2) s3.w (z.ky Kx2)  r8 m8) ?_)
  rintro r8 _ w8 m8 ⟨rfl, ky8⟩
  obtain ⟨s9, rfl, p9, n9⟩ := nwx s3 w8 40 ky8
  refine dn (cd rfl (fun h10 => ?_) (fun h10 => ?_))
  ·
   refine sr (Xb rfl (Xb rfl (dn (sgi ?_))))
   exact re rfl func38 rfl (Xq rfl Xe) rfl ⟨_, rfl, rfl, z.ky (Kx2.st p9 rfl)⟩
  refine sk (ib (rg (Xb rfl (Xb rfl (dn ?_)))))
  exact lb ih2 ⟨s9, _, rfl, (ue (ue (ue (ue rfl rfl) rfl) rfl) rfl), (Kx2.st p9 rfl)⟩
 exact xt rfl (sgb (sr (Xb rfl (dn (re rfl func38 rfl (Xq rfl Xe) rfl ⟨_, rfl, rfl, z.ky Kx2⟩)))))
end
set_option linter.unusedSectionVars false
section
variable {β : Type} [Inhabited β]
def slices_DeleteFunc_impl_Track_impl_Track_pk.b0 (a1 : ((Pk β) → Option Bool)) (x7 : (List (Pk β)) × Int × Int) : Option (((List (Pk β)) × Int × Int) ⊕ (List (Pk β))) :=
 (if (decide (x7.2.2 < (x7.1.length : Int))) = true then (if 0 ≤ x7.2.2 ∧ x7.2.2 < (x7.1.length : Int) then ((a1 (at_ x7.1 x7.2.2)).bind fun r20 => ((if (!r20) = true then (if 0 ≤ x7.2.1 ∧ x7.2.1 < (x7.1.length : Int) then (some ((x7.1.set (x7.2.1).toNat (at_ x7.1 x7.2.2)), (IntKind.wrap .i64 (x7.2.1 + (1 : Int))))) else none) else (some (x7.1, x7.2.1))).bind fun y22 => (some (Sum.inl (y22.1, y22.2, (IntKind.wrap .i64 (x7.2.2 + (1 : Int)))))))) else none) else ((if 0 ≤ x7.2.1 ∧ x7.2.1 ≤ (x7.1.length : Int) then (if 0 ≤ x7.2.1 ∧ x7.2.1 ≤ ((x7.1.take (x7.2.1).toNat ++ List.replicate (x7.1.length - (x7.2.1).toNat) (Pk.mk [(iI 0), (iI 0), (iI 0), (.bool false), (.slice none 0 0), (.slice none 0 0), (.bool false), (.bool false)] default)).length : Int) then (some ((x7.1.take (x7.2.1).toNat ++ List.replicate (x7.1.length - (x7.2.1).toNat) (Pk.mk [(iI 0), (iI 0), (iI 0), (.bool false), (.slice none 0 0), (.slice none 0 0), (.bool false), (.bool false)] default)).take (x7.2.1).toNat)) else none) else none).bind fun o => some (Sum.inr o)))
def slices_DeleteFunc_impl_Track_impl_Track_pk.f (a0 : (List (Pk β))) (a1 : ((Pk β) → Option Bool)) : Option ((List (Pk β))) :=
 ((slices_IndexFunc_impl_Track_impl_Track_pk.f a0 a1).bind fun r2 => (if (r2 == (-1 : Int)) = true then (some a0) else (iter (slices_DeleteFunc_impl_Track_impl_Track_pk.b0 a1) (a0, r2, (IntKind.wrap .i64 (r2 + (1 : Int)))))))
def slices_DeleteFunc_impl_Track_impl_Track_pk.Q (w : World) (F : Nat → Prop) (os : List Nat) (r : (List (Pk β))) (v : Value) (w' : World) : Prop :=
 FW (Kd.sl 27 (Kd.pk β 8)) os w w' [v] r ∧ Ky os w w'
theorem slices_DeleteFunc_impl_Track_impl_Track_pk.calls (a0 : (List (Pk β))) (a1 : ((Pk β) → Option Bool)) (w : World) (F : Nat → Prop) (w0_0 : Value) (f1 : Value) (os : List Nat) (h0 : (Kd.sl 27 (Kd.pk β 8)).ow w [w0_0] a0 os) (hn : os.Nodup) (hF : ∀ b, F b → b ∉ os) (hf1 : ∀ (x0 : (Pk β)) (w' : World), Ky os w w' → ∀ r, a1 x0 = some r → CallV prog f1 [(.agg (List.toArray x0.cs))] w' fun en w'' => ∃ v, en = .returned v ∧ v = (.bool r) ∧ Ky [] w' w'') (ho1 : f1.cells = #[f1]) (r : (List (Pk β))) (m : slices_DeleteFunc_impl_Track_impl_Track_pk.f a0 a1 = some r) :
  Calls prog 42 #[w0_0, f1] w (RT (slices_DeleteFunc_impl_Track_impl_Track_pk.Q w F os) r) := by
 obtain ⟨s0, rfl, kp0, z⟩ := startN w F [(os, 40)] (by simpa [fl_] using hn) (fun b hb => by simpa [fl_] using hF b hb) rfl
 have ez : fl_ [(os, 40)] = os := by simp [fl_]
 have A0_0 := z.ow (c := 40) (by simp) hn h0
 refine Xd (args := [w0_0, f1]) func42 ntmps42 rfl rfl m ?_
 unfold slices_DeleteFunc_impl_Track_impl_Track_pk.f
 refine sr (Xb rfl (dn (sr (Xp w0_0 rfl (Xp f1 rfl (clV 41 rfl func38 rfl (slices_IndexFunc_impl_Track_impl_Track_pk.calls a0 a1 s0.w (mm [40] s0) w0_0 f1 A0_0.rd (fun x0 w' k  r m =>  hf1 x0 w' (Ky.tr (z.ky' ez kp0) k)  r m) ho1) (fun r2 s3 p3 n3 => ?_)))))))
 refine Xb rfl (dn (sq (sr (Xb rfl (Xb rfl (dn (cd rfl (fun h4 => ?_) (fun h4 => ?_))))))))
 ·
  refine sr (Xp w0_0 rfl (Xy w0_0 rfl (dn ?_)))
  have K6 := kp0.st p3 rfl
  exact re rfl func42 rfl (Xq rfl Xe) rfl ⟨_, rfl, z.fw' ez K6 (oc_ow (A0_0.st p3 rfl)) rfl, z.ky' ez K6⟩
 refine sk (sq (sr (Xb rfl (Xb rfl (Xb rfl (dn (bl ?_)))))))
 refine lpI (fun (x7 : (List (Pk β)) × Int × Int) e w => ∃ (s : St) (e0 : Env), w = s.w ∧ e = upd (upd (upd (upd e0 0 w0_0) 1 f1) 5 (iI x7.2.1)) 6 (iI x7.2.2) ∧ Kp s0 s ∧ OwF (Kd.sl 27 (Kd.pk β 8)) s [w0_0] x7.1 40) ⟨s3, _, rfl, (ue (ue (ue (ue rfl rfl) rfl) rfl) rfl), (kp0.st p3 rfl), (A0_0.st p3 rfl)⟩ (fun g7 ih7 => ?_)
 rintro x7 _ _ ⟨s10, _, rfl, rfl, Kx7, Ax7_0⟩
 unfold slices_DeleteFunc_impl_Track_impl_Track_pk.b0
 refine sq (sr (Xb rfl (Xp w0_0 rfl (ln' Ax7_0.rd u30 rfl (Xb rfl (dn (cd rfl (fun h12 => ?_) (fun h12 => ?_))))))))
 ·
  refine sk (sq (bl (sr (Xp w0_0 rfl (Xb rfl (ix' Ax7_0.rd u30 z27 rfl (fun ad13 es13 h0_13 h1_13 he13 ce13 ia13 => ?_)))))))
  obtain ⟨rfl, hl13, hv13⟩ := he13
  refine lca ce13 u27 (by rw [hl13]; exact z27) rfl rfl rfl rfl rfl rfl rfl (al (cs := [(iI 0), (iI 0), (iI 0), (.bool false), (.slice none 0 0), (.slice none 0 0), (.bool false), (.bool false)]) 42 rfl rfl rfl rfl rfl o27 rfl (fun b15 s15 p15 B15 => ?_))
  refine svp B15 (by rw [hl13]; exact z27) hv13 (by rw [hl13]; rfl) rfl rfl rfl rfl rfl rfl (fun s17 p17 B17 => ?_)
  refine dn (sr (Xp f1 rfl (ldp B17 u27 (by rw [hl13]; exact z27) rfl rfl rfl rfl rfl rfl rfl ?_)))
  have K19 := Kx7.st (Xm p15 p17) rfl
  refine clv rfl rfl rfl rfl rfl rfl rfl (fun r20 m20 => hf1 (at_ x7.1 x7.2.2) s17.w (z.ky' ez K19)  r20 m20) ?_
  rintro r20 _ w20 m20 ⟨rfl, ky20⟩
  obtain ⟨s21, rfl, p21, n21⟩ := nwx s17 w20 43 ky20
  refine Xb rfl (dn (jc (fun (y22 : (List (Pk β)) × Int) e w => ∃ (s : St) (e0 : Env), w = s.w ∧ e = upd (upd (upd (upd e0 0 w0_0) 1 f1) 5 (iI y22.2)) 6 (iI x7.2.2) ∧ Kp s0 s ∧ OwF (Kd.sl 27 (Kd.pk β 8)) s [w0_0] y22.1 40) (fun Gj22 Kj22 => ?_) ?_))
  ·
   refine cd rfl (fun h23 => ?_) (fun h23 => ?_)
   ·
    refine sr (Xp w0_0 rfl (Xb rfl ?_))
    refine ldp (B17.st p21 rfl) u27 (by rw [hl13]; exact z27) rfl rfl rfl rfl rfl rfl rfl ?_
    have A25 := Ax7_0.st (Yb p15 p17 p21) rfl
    refine ix' A25.rd u30 z27 rfl (fun ad26 es26 h0_26 h1_26 he26 ce26 ia26 => ?_)
    obtain ⟨rfl, hl26, hv26⟩ := he26
    have A28 : OwF (Kd.pk β 8) s21 (at_ x7.1 x7.2.2).cs (at_ x7.1 x7.2.2) 44 := ow_z _ _ (fun _ => ⟨⟨rfl, hl13, hv13⟩, rfl⟩)
    refine som (x' := (at_ x7.1 x7.2.2)) A25 ia26 h0_26 h1_26 A28 rfl rfl z27 rfl rfl rfl rfl rfl rfl (fun s30 p30 A30 => ?_)
    refine dn (rg (Xb rfl (Xb rfl (Xb rfl (dn ?_)))))
    exact Kj22 _ _ _ ⟨s30, _, rfl, (ue (ue (ue (ue rfl rfl) rfl) rfl) rfl), (K19.st (Xm p21 p30) rfl), A30⟩
   exact sk (Kj22 _ _ _ ⟨s21, _, rfl, (ue (ue (ue (ue rfl rfl) rfl) rfl) rfl), (K19.st p21 rfl), (Ax7_0.st (Yb p15 p17 p21) rfl)⟩)
  rintro y22 _ _ ⟨s35, _, rfl, rfl, Ky22, Ay22_0⟩
  exact ib (rg (Xb rfl (Xb rfl (Xb rfl (dn (lb ih7 ⟨s35, _, rfl, (ue (ue (ue (ue rfl rfl) rfl) rfl) rfl), Ky22, Ay22_0⟩))))))
 refine xt rfl (sgb (sr (Xp w0_0 rfl (Xb rfl (mg fun hg37 => ?_)))))
 obtain ⟨v37, C37⟩ := cut_e (a := (x7.2.1).toNat) (b := x7.1.length) Ax7_0 (by omega) (Nat.le_refl _)
 refine slA_ hg37.1 C37 u30 z27 rfl rfl rfl rfl rfl rfl rfl (clr_ (x0 := (Pk.mk [(iI 0), (iI 0), (iI 0), (.bool false), (.slice none 0 0), (.slice none 0 0), (.bool false), (.bool false)] default)) fl_pk Ax7_0 C37 (by omega) (by omega) u30 o27 rfl rfl (fun _ => ⟨⟨rfl, rfl, fun v hv => List.all_eq_true.1 (show ([(iI 0), (iI 0), (iI 0), (.bool false), (.slice none 0 0), (.slice none 0 0), (.bool false), (.bool false)] : List Value).all (·.oneCell') = true from rfl) v hv⟩, rfl⟩) rfl rfl rfl rfl rfl (fun s39 p39 A39 => ?_))
 refine dn (sr (Xp w0_0 rfl (Xb rfl (mg fun hg41 => ?_))))
 obtain ⟨v41, C41⟩ := cut_e (a := 0) (b := (x7.2.1).toNat) A39 (Nat.zero_le _) (by omega)
 obtain ⟨A41, Q41⟩ := cut_ow fl_pk A39 (by omega) C41
 refine slH_ hg41.1 C41 u30 z27 rfl rfl rfl rfl rfl rfl rfl (Xy v41 rfl (dn ?_))
 have K43 := Kx7.st p39 rfl
 exact re rfl func42 rfl (Xq rfl Xe) rfl ⟨_, rfl, z.fw' ez K43 (oc_ow A41) rfl, z.ky' ez K43⟩
end
def slices_DeleteFunc_impl_Track_impl_Track.f (a0 : (List Track)) (a1 : (Track → Option Bool)) : Option ((List Track)) := delF a0 a1
def slices_DeleteFunc_impl_Track_impl_Track.Q (w : World) (F : Nat → Prop) (os : List Nat) (r : (List Track)) (v : Value) (w' : World) : Prop := FW Yc os w w' [v] r ∧ Ky os w w'
theorem slices_DeleteFunc_impl_Track_impl_Track.calls (a0 : (List Track)) (a1 : (Track → Option Bool)) (w : World) (F : Nat → Prop) (w0_0 : Value) (f1 : Value) (os : List Nat) (h0 : Yc.ow w [w0_0] a0 os) (hn : os.Nodup) (hF : ∀ b, F b → b ∉ os) (hf1 : ∀ (x0 : Track) (u0_0 u0_1 : Value) (w' : World), Ky os w w' → Yf.rd w' [u0_0] x0.Reads (fun _ => True) → Ye.rd w' [u0_1] x0.Writes (fun _ => True) → ∀ r, a1 x0 = some r → CallV prog f1 [(.agg #[(iI x0.Xid), (iI x0.Begun), (iI x0.Ended), (.bool x0.All), u0_0, u0_1, (.bool x0.In), (.bool x0.Out)])] w' fun en w'' => ∃ v, en = .returned v ∧ v = (.bool r) ∧ Ky [] w' w'') (ho1 : f1.cells = #[f1]) (r : (List Track)) (m : slices_DeleteFunc_impl_Track_impl_Track.f a0 a1 = some r) :
  Calls prog 42 #[w0_0, f1] w (RT (slices_DeleteFunc_impl_Track_impl_Track.Q w F os) r) :=
 delG (te := 27) (K := kd27) slices_DeleteFunc_impl_Track_impl_Track_pk.calls (fun a0 a1 g hl h => dfM_eq _ a0 a1 g hl h) a0 a1 w w0_0 f1 os h0 hn (fun x0 cs w' k hrd r hr => by
  obtain ⟨q0, q1, e, hq0, hq1⟩ := op27 (top_rd hrd)
  rw [e]
  exact hf1 x0 q0 q1 w' k (rd_top hq0) (rd_top hq1) r hr) ho1 r m

set_option linter.unusedSectionVars false
section
variable {β : Type} [Inhabited β]
def slices_Clone_impl_Track_impl_Track_pk.f (a0 : (List (Pk β))) : Option ((List (Pk β))) :=
 (if ([] : (List (Pk β))).length + a0.length ≤ Lim then (some (([] : (List (Pk β))) ++ a0)) else none)
def slices_Clone_impl_Track_impl_Track_pk.Q (w : World) (F : Nat → Prop) (r : (List (Pk β))) (v : Value) (w' : World) : Prop :=
 FO (Kd.sl 27 (Kd.pk β 8)) w w' [v] r ∧ Ky [] w w'
theorem slices_Clone_impl_Track_impl_Track_pk.calls (a0 : (List (Pk β))) (w : World) (F : Nat → Prop) (w0_0 : Value) (h0_0 : (Kd.sl 27 (Kd.pk β 8)).rd w [w0_0] a0 F) (r : (List (Pk β))) (m : slices_Clone_impl_Track_impl_Track_pk.f a0 = some r) :
  Calls prog 43 #[w0_0] w (RT (slices_Clone_impl_Track_impl_Track_pk.Q w F) r) := by
 obtain ⟨s0, rfl, kp0, z⟩ := Xj w F
 have A0_0 := z.rd h0_0
 refine Xd (args := [w0_0]) func43 ntmps43 rfl rfl m ?_
 unfold slices_Clone_impl_Track_impl_Track_pk.f
 refine sr (Xb rfl (dn (sq (sr (Xp w0_0 rfl (nq A0_0 u30 rfl rfl rfl rfl rfl rfl rfl (fun nb2 hn2 => ?_)))))))
 refine dn (cdb rfl (fun h3 => ?_) (fun h3 => ?_))
 ·
  obtain rfl := hn2 h3
  exact mg fun _ => (sr (Xb rfl (dn (re rfl func43 rfl (Xq rfl Xe) rfl ⟨_, rfl, (ow_nil 27 (Kd.pk β 8) s0 40).fo kp0 rfl z.l, z.ky kp0⟩))))
 refine sk (sr (lt0 (K := (Kd.pk β 8)) 40 u30 z27 rfl rfl rfl rfl rfl (fun v4 s4 p4 A4 => ?_)))
 refine Xp w0_0 rfl ?_
 have K6 := kp0.st p4 rfl
 refine apF fl_pk sl30 A4 (A0_0.kp K6) rfl rfl rfl rfl rfl rfl rfl (fun v8 s8 p8 A8 => ?_)
 refine Xy v8 rfl (dn ?_)
 have K10 := K6.st p8 rfl
 exact re rfl func43 rfl (Xq rfl Xe) rfl ⟨_, rfl, A8.fo K10 rfl z.l, z.ky K10⟩
end
def impl_tidy.f (a0 : (List Track)) : Option ((List Track)) := (if a0.length ≤ Lim then some () else none).bind fun _ => (delF a0 (fun x => impl_tidy_1.f x a0)).bind fun r => some r
def impl_tidy.Q (w : World) (F : Nat → Prop) (os : List Nat) (r : (List Track)) (v : Value) (w' : World) : Prop := FW Yc os w w' [v] r ∧ Ky os w w'
theorem impl_tidy.calls (a0 : (List Track)) (w : World) (F : Nat → Prop) (w0_0 : Value) (os : List Nat) (h0 : Yc.ow w [w0_0] a0 os) (hn : os.Nodup) (hF : ∀ b, F b → b ∉ os) (r : (List Track)) (m : impl_tidy.f a0 = some r) :
  Calls prog 22 #[w0_0] w (RT (impl_tidy.Q w F os) r) := by
 obtain ⟨s0, rfl, kp0, z⟩ := startN w F [(os, 40)] (by simpa [fl_] using hn) (fun b hb => by simpa [fl_] using hF b hb) rfl
 have ez : fl_ [(os, 40)] = os := by simp [fl_]
 have A0 := z.ow (c := 40) (by simp) hn h0
 refine Xd (args := [w0_0]) func22 ntmps22 rfl rfl m ?_
 unfold impl_tidy.f
 refine sr (bx' (cs := [w0_0]) 42 rfl (oc A0.rd.one) (fun b2 s2 p2 B2 => ?_))
 refine Xb rfl (dn ?_)
 obtain ⟨s3, ps, hw3, p3, hx, R3, P3, D3⟩ := pk_split 41 (A0.st p2 rfl) rfl
 rw [hw3]
 obtain ⟨X, hX⟩ : ∃ X : List (Pk Track), X = ps.map (fun p => p.1) := ⟨_, rfl⟩
 have P3 : OwF (Kd.sl 27 (Kd.pk Track 8)) s3 [w0_0] X 40 := by rw [hX]; exact P3
 have B3 := B2.st p3 rfl
 have hl3 : X.length = a0.length := by rw [hX, ← hx]; simp
 refine sr (ld' B3 u30 rfl ?_)
 refine cl' rfl func43 rfl (fun r4 m4 => slices_Clone_impl_Track_impl_Track_pk.calls (β := Track) X s3.w (mm [40] s3) w0_0 P3.rd X (by
  unfold slices_Clone_impl_Track_impl_Track_pk.f
  have hlim : a0.length ≤ Lim := by
   split at m4
   ·
    assumption
   cases m4
  rw [if_pos (by simpa [hl3] using hlim)]; rfl)) ?_
 rintro r4 v4 w4 m4 ⟨f4, ky4⟩
 have hlim : a0.length ≤ Lim := by
  split at m4
  ·
   assumption
  cases m4
 obtain ⟨s5, rfl, p5, n5⟩ := nwx s3 w4 43 ky4
 have B5 := B3.st p5 rfl
 have R5 := R3.st p5 rfl rfl
 have D5 := D3.st p5 rfl
 refine mkf (fs := []) (cs := [(pB b2)]) rfl rfl rfl rfl rfl rfl rfl ?_
 obtain ⟨os5, ho5, hn5, hc5⟩ := f4.c n5
 let d : Pk Track → Option Bool := fun q => open Classical in if q ∈ X then impl_tidy_1.f q.x a0 else none
 refine cl' rfl func42 rfl (fun r6 m6 => slices_DeleteFunc_impl_Track_impl_Track_pk.calls (β := Track) X d s5.w (mm [40, 41] s5) v4 (.func (.func 44) (List.toArray []) (List.toArray [(pB b2)])) os5 ho5 hn5 (apart_of hc5 rfl) (fun x0 w' k r hr => by
   by_cases hq : x0 ∈ X
   ·
    simp only [d, if_pos hq] at hr
    have hq' := hq
    rw [hX] at hq'
    obtain ⟨p, hp, rfl⟩ := List.mem_map.1 hq'
    have hrd : RdF kd27 s5 p.1.cs p.1.x [41] := Kd.rd_mono _ (Kd.ow_rd _ (D5.1 p hp)) fun b hb _ => by rw [D5.2.2 b (mem_fl hp hb)]; rfl
    obtain ⟨q0, q1, e, hq0, hq1⟩ := op27 hrd
    rw [e]
    exact ⟨44, _, _, [], [(pB b2)], rfl, func44, rfl, rfl, (impl_tidy_1.calls p.1.x a0 w' (fun _ => True) q0 q1 b2 w0_0 (RdF.kyo hq0 hc5 k rfl) (RdF.kyo hq1 hc5 k rfl) (RdF.kyo R5.rd hc5 k rfl) (B5.kyo hc5 k rfl) trivial r hr).mono fun en w2 hq => by obtain ⟨v, e, q⟩ := hq; exact ⟨v, e, q⟩⟩
   simp only [d, if_neg hq] at hr; cases hr) rfl (X.filter fun q => !((impl_tidy_1.f q.x a0).getD false)) (dfM_eq _ X d (fun q => (impl_tidy_1.f q.x a0).getD false) (by rw [hl3]; unfold Lim at hlim; simp only [maxLen]; omega) (fun q hq => by
   have hq' := hq
   rw [hX] at hq'
   obtain ⟨p, hp, rfl⟩ := List.mem_map.1 hq'
   obtain ⟨b, hb⟩ := (delF_out m6).1 p.1.x (by rw [← hx]; exact List.mem_map.2 ⟨p, hp, rfl⟩)
   simp only [d, if_pos hq, hb, Option.getD_some]))) ?_
 rintro r6 v6 w6 m6 ⟨f6, ky6⟩
 obtain ⟨s7, rfl, p7, C7⟩ := nwo 44 hc5 ky6 f6
 have D7 := D5.st p7 rfl
 have hfil : X.filter (fun q => !((impl_tidy_1.f q.x a0).getD false)) = (ps.filter fun p => !((impl_tidy_1.f p.1.x a0).getD false)).map (fun p => p.1) := by rw [hX, List.filter_map]; rfl
 rw [hfil] at C7
 obtain ⟨s8, hw8, p8, E8⟩ := pk_join (K := kd27) C7 D7 List.filter_sublist rfl rfl
 have hr6 : (ps.filter fun p => !((impl_tidy_1.f p.1.x a0).getD false)).map (fun p => p.1.x) = r6 := by rw [(delF_out m6).2, ← hx, List.filter_map]; rfl
 rw [hr6] at E8
 rw [hw8]
 refine Xy v6 rfl (dn ?_)
 have K8 := (kp0.st (tr5 p2 p3 p5 p7 p8) rfl)
 exact re rfl func22 rfl (Xq rfl Xe) rfl ⟨_, rfl, z.fw' ez K8 (oc_ow E8) rfl, z.ky' ez K8⟩

def impl_EdgeEnd.f (a0 : (List Track)) (a1 : Int) (a2 : Int) (a3 : Bool) : Option ((List Track) × Int) :=
 ((impl_active.f a0 a1).bind fun r2 => ((impl_TracksOk.f a0).bind fun r6 => ((if ((!r6) || (decide (r2 < (0 : Int)))) = true then (some true) else (if 0 ≤ r2 ∧ r2 < (a0.length : Int) then (some (decide (a2 ≤ (at_ a0 r2).Begun))) else none)).bind fun y9 => (if y9 = true then (some (([] : (List Track)), (1 : Int))) else ((impl_ownTracks.f a0).bind fun r20 => ((if a3 = true then (if 0 ≤ r2 ∧ r2 < (r20.length : Int) then (some ((at_ r20 r2).In)) else none) else (some false)).bind fun y23 => ((if y23 = true then (if 0 ≤ r2 ∧ r2 < (r20.length : Int) then (some ((at_ r20 r2).Out)) else none) else (some false)).bind fun y31 => (if y31 = true then (some (r20, (2 : Int))) else ((if a3 = true then (if 0 ≤ r2 ∧ r2 < (r20.length : Int) then ((some (r20.set (r2).toNat (Track.mk (at_ r20 r2).Xid (at_ r20 r2).Begun a2 (at_ r20 r2).All (at_ r20 r2).Reads (at_ r20 r2).Writes (at_ r20 r2).In (at_ r20 r2).Out))).bind fun y46 => (some y46)) else none) else ((slices_Delete_impl_Track_impl_Track.f r20 r2 (IntKind.wrap .i64 (r2 + (1 : Int)))).bind fun r49 => (some r49))).bind fun y38 => ((impl_tidy.f y38).bind fun r56 => (some (r56, (0 : Int)))))))))))))
def impl_EdgeEnd.Q (w : World) (F : Nat → Prop) (r : (List Track) × Int) (v : Value) (w' : World) : Prop :=
 ∃ (v0 : Value), v = .tuple #[v0, (iI r.2)] ∧ FO Yc w w' [v0] r.1 ∧ Ky [] w w'
theorem impl_EdgeEnd.calls (a0 : (List Track)) (a1 : Int) (a2 : Int) (a3 : Bool) (w : World) (F : Nat → Prop) (w0_0 : Value) (h0_0 : Yc.rd w [w0_0] a0 F) (r : (List Track) × Int) (m : impl_EdgeEnd.f a0 a1 a2 a3 = some r) :
  Calls prog 8 #[w0_0, (iI a1), (iI a2), (.bool a3)] w (RT (impl_EdgeEnd.Q w F) r) := by
 obtain ⟨s0, rfl, kp0, z⟩ := Xj w F
 have A0_0 := z.rd h0_0
 refine Xd (args := [w0_0, (iI a1), (iI a2), (.bool a3)]) func8 ntmps8 rfl rfl m ?_
 unfold impl_EdgeEnd.f
 refine sr (Xb rfl (Xb rfl (dn (sr (Xp w0_0 rfl (Xb rfl (clV 40 rfl func19 rfl (impl_active.calls a0 a1 s0.w (mm [0] s0) w0_0 A0_0) (fun r2 s3 p3 n3 => ?_))))))))
 refine Xb rfl (dn (sq (sr (Xp w0_0 rfl ?_))))
 have K4 := kp0.st p3 rfl
 refine clV 41 rfl func10 rfl (impl_TracksOk.calls a0 s3.w (mm [0] s3) w0_0 (A0_0.kp K4)) (fun r6 s7 p7 n7 => ?_)
 refine Xb rfl (Xb rfl (jy [18, 19, 20, 21] [7, 8, 9, 10, 11, 12, 13, 14, 15] 21 (.bool ((!r6) || (decide (r2 < (0 : Int))))) rfl (fun Kg8 => ?_) (fun j8 => ?_)))
 ·
  rcases bft (!r6) with hb8 | hb8
  ·
   exact Xs hb8 (Xf rfl (Xf rfl (Xb rfl (Kg8 _ (Ag.put ((Ag.put ((Ag.put (Ag.base rfl) rfl)) rfl)) rfl) (by rw [hb8]; rfl)))))
  exact Xs hb8 (Xb rfl (Xb rfl (Xb rfl (Kg8 _ (Ag.put ((Ag.put ((Ag.put (Ag.base rfl) rfl)) rfl)) rfl) (by rw [hb8]; rfl)))))
 refine Xb rfl (ji [] (fun (y9 : Bool) e w => ∃ (s : St) (e0 : Env), w = s.w ∧ e = upd (upd (upd (upd (upd e0 0 w0_0) 2 (iI a2)) 3 (.bool a3)) 10 (iI r2)) 30 (.bool y9) ∧ Kp s0 s) (fun Gj9 Kj9 => ?_) ?_)
 ·
  rcases bft ((!r6) || (decide (r2 < (0 : Int)))) with hb9 | hb9
  ·
   refine Xs hb9 ?_
   rw [if_pos hb9]
   refine Xf rfl (Xf rfl (Xf rfl (Xf rfl (Xf rfl (Xf rfl (Xf rfl (Xb rfl ?_)))))))
   exact Kj9 _ _ _ ⟨s7, _, rfl, (ue (ue (ue (ue (ue rfl rfl) rfl) rfl) rfl) rfl), (K4.st p7 rfl)⟩
  refine Xs hb9 ?_
  rw [if_neg (by rw [hb9]; decide)]
  refine Xb rfl (Xp w0_0 rfl (Xb rfl ?_))
  have K11 := K4.st p7 rfl
  refine ix' (A0_0.kp K11) u30 z27 rfl (fun ad13 es13 h0_13 h1_13 he13 ce13 ia13 => ?_)
  obtain ⟨v13_0, v13_1, rfl, A13_0, A13_1⟩ := op27 he13
  exact Xw fa27_1 rfl (lc ce13 u3 rfl rfl rfl rfl rfl rfl rfl rfl (Xb rfl (Xb rfl (Kj9 _ _ _ ⟨s7, _, rfl, (ue (ue (ue (ue (ue rfl rfl) rfl) rfl) rfl) rfl), K11⟩))))
 rintro y9 _ _ ⟨s17, _, rfl, rfl, Ky9⟩
 refine dn (cd rfl (fun h18 => ?_) (fun h18 => ?_))
 ·
  exact sr (Xb rfl (Xb rfl (dn (re rfl func8 rfl (Xq rfl (Xq rfl Xe)) rfl ⟨_, rfl, (.slice none 0 0), rfl, (ow_nil 27 kd27 s17 40).fo Ky9 rfl z.l, z.ky Ky9⟩))))
 refine sk (sr (Xp w0_0 rfl ?_))
 refine clO 42 rfl func20 rfl (impl_ownTracks.calls a0 s17.w (mm [0] s17) w0_0 (A0_0.kp Ky9)) (fun r20 v20_0 s21 p21 A20_0 => ?_)
 refine Xy v20_0 rfl (dn (sq (bl (sr (Xb rfl (Xb rfl (ji [8, 9, 10, 11, 12, 13, 14, 15] (fun (y23 : Bool) e w => ∃ (s : St) (e0 : Env), w = s.w ∧ e = upd (upd (upd (upd (upd e0 2 (iI a2)) 3 (.bool a3)) 10 (iI r2)) 11 v20_0) 46 (.bool y23) ∧ Kp s0 s ∧ OwF Yc s [v20_0] r20 42) (fun Gj23 Kj23 => ?_) ?_)))))))
 ·
  rcases bft a3 with hb23 | hb23
  ·
   refine Xs hb23 ?_
   rw [if_pos hb23]
   refine Xp v20_0 rfl (Xb rfl (ix' A20_0.rd u30 z27 rfl (fun ad24 es24 h0_24 h1_24 he24 ce24 ia24 => ?_)))
   obtain ⟨v24_0, v24_1, rfl, A24_0, A24_1⟩ := op27 he24
   refine Xw fa27_6 rfl (lc ce24 u4 rfl rfl rfl rfl rfl rfl rfl rfl (Xb rfl ?_))
   exact Kj23 _ _ _ ⟨s21, _, rfl, (ue (ue (ue (ue (ue rfl rfl) rfl) rfl) rfl) rfl), (Ky9.st p21 rfl), A20_0⟩
  refine Xs hb23 ?_
  rw [if_neg (by rw [hb23]; decide)]
  refine Xf rfl (Xf rfl (Xf rfl (Xf rfl (Xf rfl (Xb rfl ?_)))))
  exact Kj23 _ _ _ ⟨s21, _, rfl, (ue (ue (ue (ue (ue rfl rfl) rfl) rfl) rfl) rfl), (Ky9.st p21 rfl), A20_0⟩
 rintro y23 _ _ ⟨s30, _, rfl, rfl, Ky23, Cy23_22⟩
 refine Xb rfl (ji [15] (fun (y31 : Bool) e w => ∃ (s : St) (e0 : Env), w = s.w ∧ e = upd (upd (upd (upd (upd e0 2 (iI a2)) 3 (.bool a3)) 10 (iI r2)) 11 v20_0) 53 (.bool y31) ∧ Kp s0 s ∧ OwF Yc s [v20_0] r20 42) (fun Gj31 Kj31 => ?_) ?_)
 ·
  rcases bft y23 with hb31 | hb31
  ·
   refine Xs hb31 ?_
   rw [if_pos hb31]
   refine Xp v20_0 rfl (Xb rfl (ix' Cy23_22.rd u30 z27 rfl (fun ad32 es32 h0_32 h1_32 he32 ce32 ia32 => ?_)))
   obtain ⟨v32_0, v32_1, rfl, A32_0, A32_1⟩ := op27 he32
   exact Xw fa27_7 rfl (lc ce32 u4 rfl rfl rfl rfl rfl rfl rfl rfl (Xb rfl (Kj31 _ _ _ ⟨s30, _, rfl, (ue (ue (ue (ue (ue rfl rfl) rfl) rfl) rfl) rfl), Ky23, Cy23_22⟩)))
  refine Xs hb31 ?_
  rw [if_neg (by rw [hb31]; decide)]
  exact Xf rfl (Xf rfl (Xf rfl (Xf rfl (Xf rfl (Xb rfl (Kj31 _ _ _ ⟨s30, _, rfl, (ue (ue (ue (ue (ue rfl rfl) rfl) rfl) rfl) rfl), Ky23, Cy23_22⟩))))))
 rintro y31 _ _ ⟨s36, _, rfl, rfl, Ky31, Cy31_22⟩
 refine Xb rfl (dn (cd rfl (fun h37 => ?_) (fun h37 => ?_)))
 ·
  exact sr (Xp v20_0 rfl (Xy v20_0 rfl (Xb rfl (dn (re rfl func8 rfl (Xq rfl (Xq rfl Xe)) rfl ⟨_, rfl, v20_0, rfl, Cy31_22.fo Ky31 rfl z.l, z.ky Ky31⟩)))))
 refine sr (Xb rfl (Xb rfl (dn (jc (fun (y38 : (List Track)) e w => ∃ (s : St) (e0 : Env) (vy38_0 : Value), w = s.w ∧ e = upd e0 11 vy38_0 ∧ Kp s0 s ∧ OwF Yc s [vy38_0] y38 43) (fun Gj38 Kj38 => ?_) ?_))))
 ·
  refine cd rfl (fun h39 => ?_) (fun h39 => ?_)
  ·
   refine rg (Xp v20_0 rfl (Xb rfl (Xb rfl (ix' Cy31_22.rd u30 z27 rfl (fun ad40 es40 h0_40 h1_40 he40 ce40 ia40 => ?_)))))
   obtain ⟨v40_0, v40_1, rfl, A40_0, A40_1⟩ := op27 he40
   refine Xw fa27_2 rfl (so (x' := (Track.mk (at_ r20 r2).Xid (at_ r20 r2).Begun a2 (at_ r20 r2).All (at_ r20 r2).Reads (at_ r20 r2).Writes (at_ r20 r2).In (at_ r20 r2).Out)) Cy31_22 ia40 h0_40 h1_40 (cs_iso (cs_right (cs_right (cs_left cs_flat)))) z3 rfl rfl rfl rfl rfl rfl (fun s44 p44 A44 => ?_))
   refine nb (fun y46 h46 => ?_)
   have A46 : OwF Yc s44 [v20_0] y46 42 := by rw [h46]; exact A44
   refine dn ?_
   obtain ⟨s47, hw47, p47, A47⟩ := A46.rc 43 rfl
   rw [hw47]
   exact Kj38 _ _ _ ⟨s47, _, v20_0, rfl, (ue rfl rfl), (Ky31.st (Xm p44 p47) rfl), A47⟩
  refine rg (Xp v20_0 rfl (Xb rfl (Xb rfl (Xb rfl ?_))))
  obtain ⟨os49, ho49, hn49, hc49⟩ := Cy31_22
  refine cl' rfl func21 rfl (slices_Delete_impl_Track_impl_Track.calls r20 r2 (IntKind.wrap .i64 (r2 + (1 : Int))) s36.w (mm [] s36) v20_0 os49 ho49 hn49 (apart_of hc49 rfl)) ?_
  rintro r49 v49_0 w49 m49 ⟨f49_0, ky49⟩
  obtain ⟨s50, rfl, p50, n50⟩ := nwm 44 hc49 ky49 rfl
  refine Xy v49_0 rfl (dn ?_)
  obtain ⟨s52, hw52, p52, A52⟩ := (f49_0.m n50).rc 43 rfl
  rw [hw52]
  exact Kj38 _ _ _ ⟨s52, _, v49_0, rfl, (ue rfl rfl), (Ky31.st (Xm p50 p52) rfl), A52⟩
 rintro y38 _ _ ⟨s54, _, vy38_0, rfl, rfl, Ky38, Ay38_0⟩
 refine ib (sr (Xp vy38_0 rfl ?_))
 obtain ⟨os56, ho56, hn56, hc56⟩ := Ay38_0
 refine cl' rfl func22 rfl (impl_tidy.calls y38 s54.w (mm [] s54) vy38_0 os56 ho56 hn56 (apart_of hc56 rfl)) ?_
 rintro r56 v56_0 w56 m56 ⟨f56_0, ky56⟩
 obtain ⟨s57, rfl, p57, n57⟩ := nwm 45 hc56 ky56 rfl
 refine Xy v56_0 rfl (Xb rfl (dn ?_))
 have K59 := Ky38.st p57 rfl
 exact re rfl func8 rfl (Xq rfl (Xq rfl Xe)) rfl ⟨_, rfl, v56_0, rfl, (f56_0.m n57).fo K59 rfl z.l, z.ky K59⟩
def laws_FnTracks.b1 (r30 : (List Track) × Int × Int × Bool) (r65 : (List Track) × Int) (r69 : (List Track) × Int) (x85 : Bool × Int) (x111 : Int) : Option (Int ⊕ Bool) :=
 (if (decide (x111 < (r69.1.length : Int))) = true then (if 0 ≤ x111 ∧ x111 < (r69.1.length : Int) then (if ((at_ r69.1 x111).Xid == r30.2.1) = true then (some (Sum.inr false)) else (some (Sum.inl (IntKind.wrap .i64 (x111 + (1 : Int)))))) else none) else (((if (x85.1 == (r65.2 == (2 : Int))) = true then ((impl_TracksOk.f r69.1).bind fun r120 => (some r120)) else (some false)).bind fun y119 => ((if y119 = true then ((impl_TracksOk.f r65.1).bind fun r126 => (some r126)) else (some false)).bind fun y125 => (some y125))).bind fun o => some (Sum.inr o)))
def laws_FnTracks.b0 (r30 : (List Track) × Int × Int × Bool) (r65 : (List Track) × Int) (r69 : (List Track) × Int) (x85 : Bool × Int) : Option ((Bool × Int) ⊕ Bool) :=
 (if (decide (x85.2 < (r30.1.length : Int))) = true then (if 0 ≤ x85.2 ∧ x85.2 < (r30.1.length : Int) then ((if ((at_ r30.1 x85.2).Xid == r30.2.1) = true then (if 0 ≤ x85.2 ∧ x85.2 < (r30.1.length : Int) then (some ((at_ r30.1 x85.2).In)) else none) else (some false)).bind fun y96 => ((if y96 = true then (if 0 ≤ x85.2 ∧ x85.2 < (r30.1.length : Int) then (some ((at_ r30.1 x85.2).Out)) else none) else (some false)).bind fun y102 => ((if y102 = true then (some true) else (some x85.1)).bind fun y108 => (some (Sum.inl (y108, (IntKind.wrap .i64 (x85.2 + (1 : Int))))))))) else none) else ((iter (laws_FnTracks.b1 r30 r65 r69 x85) (0 : Int)).bind fun o => some (Sum.inr o)))
def laws_FnTracks.f (a0 : (List Int)) : Option (Bool) :=
 ((laws_big.f a0).bind fun r2 => (if r2 = true then (some true) else ((spec_DrawConcurrent.f a0).bind fun r8 => ((spec_DrawEdgeEnd.f a0).bind fun r30 => ((impl_Concurrent.f r8.1 r8.2).bind fun r51 => ((impl_Concurrent.f r8.2 r8.1).bind fun r60 => (if (!(r51 == r60)) = true then (some false) else ((impl_EdgeEnd.f r30.1 r30.2.1 r30.2.2.1 true).bind fun r65 => ((impl_EdgeEnd.f r30.1 r30.2.1 r30.2.2.1 false).bind fun r69 => ((spec_EdgeEnd.f r30.1 r30.2.1 r30.2.2.1 false).bind fun r73 => (if ((r69.2 != r73.2) || (r73.2 == (1 : Int))) = true then (some ((r69.2 == r73.2) && ((r73.2 != (1 : Int)) || (((r65.2 == (1 : Int)) && ((r65.1.length : Int) == (0 : Int))) && ((r69.1.length : Int) == (0 : Int)))))) else (iter (laws_FnTracks.b0 r30 r65 r69) (false, (0 : Int))))))))))))))
def laws_FnTracks.Q (w : World) (F : Nat → Prop) (r : Bool) (v : Value) (w' : World) : Prop :=
 v = (.bool r) ∧ Ky [] w w'
theorem laws_FnTracks.calls (a0 : (List Int)) (w : World) (F : Nat → Prop) (w0_0 : Value) (h0_0 : Yd.rd w [w0_0] a0 F) (r : Bool) (m : laws_FnTracks.f a0 = some r) :
  Calls prog 3 #[w0_0] w (RT (laws_FnTracks.Q w F) r) := by
 obtain ⟨s0, rfl, kp0, z⟩ := Xj w F
 have A0_0 := z.rd h0_0
 refine Xd (args := [w0_0]) func3 ntmps3 rfl rfl m ?_
 unfold laws_FnTracks.f
 refine sr (Xb rfl (dn (sq (sr (Xp w0_0 rfl (clV 40 rfl func4 rfl (laws_big.calls a0 s0.w (mm [0] s0) w0_0 A0_0) (fun r2 s3 p3 n3 => ?_)))))))
 refine dn (cd rfl (fun h4 => ?_) (fun h4 => ?_))
 ·
  refine sr (Xb rfl (dn ?_))
  exact re rfl func3 rfl (Xq rfl Xe) rfl ⟨_, rfl, rfl, z.ky (kp0.st p3 rfl)⟩
 refine sk (sr (Xp w0_0 rfl ?_))
 have K6 := kp0.st p3 rfl
 refine cl' rfl func5 rfl (spec_DrawConcurrent.calls a0 s3.w (mm [0] s3) w0_0 (A0_0.kp K6)) ?_
 rintro r8 _ w8 m8 ⟨v8_0, v8_1, v8_2, v8_3, rfl, f8_0, f8_1, ky8⟩
 obtain ⟨s9, rfl, p9, n9⟩ := nwx s3 w8 41 ky8
 obtain ⟨u8_0_0, u8_0_1, e8_0, hu8_0_0, hu8_0_1⟩ := op27 (OwF.rd (f8_0.c n9))
 have yu8_0_0 : v8_0 = u8_0_0 := congrArg (fun l => (List.drop 4 l).headD undef) e8_0
 have yu8_0_1 : v8_1 = u8_0_1 := congrArg (fun l => (List.drop 5 l).headD undef) e8_0
 subst yu8_0_0
 subst yu8_0_1
 obtain ⟨u8_1_0, u8_1_1, e8_1, hu8_1_0, hu8_1_1⟩ := op27 (OwF.rd (f8_1.c n9))
 have yu8_1_0 : v8_2 = u8_1_0 := congrArg (fun l => (List.drop 4 l).headD undef) e8_1
 have yu8_1_1 : v8_3 = u8_1_1 := congrArg (fun l => (List.drop 5 l).headD undef) e8_1
 subst yu8_1_0
 subst yu8_1_1
 refine Xb rfl (Xb (v := (.agg #[(iI r8.1.Xid), (iI r8.1.Begun), (iI r8.1.Ended), (.bool r8.1.All), v8_0, v8_1, (.bool r8.1.In), (.bool r8.1.Out)])) rfl (Xb (v := (.agg #[(iI r8.2.Xid), (iI r8.2.Begun), (iI r8.2.Ended), (.bool r8.2.All), v8_2, v8_3, (.bool r8.2.In), (.bool r8.2.Out)])) rfl (al (cs := [(iI 0), (iI 0), (iI 0), (.bool false), (.slice none 0 0), (.slice none 0 0), (.bool false), (.bool false)]) 42 rfl rfl rfl rfl rfl o27 rfl (fun b14 s14 p14 B14 => ?_))))
 refine al (cs := [(iI 0), (iI 0), (iI 0), (.bool false), (.slice none 0 0), (.slice none 0 0), (.bool false), (.bool false)]) 43 rfl rfl rfl rfl rfl o27 rfl (fun b16 s16 p16 B16 => ?_)
 have A19 := hu8_0_1.st (Xm p14 p16) rfl
 have A20 := hu8_0_0.st (Xm p14 p16) rfl
 refine sva' (vs := [(iI r8.1.Xid), (iI r8.1.Begun), (iI r8.1.Ended), (.bool r8.1.All), v8_0, v8_1, (.bool r8.1.In), (.bool r8.1.Out)]) (B14.st p16 rfl) z27 rfl (Xc rfl (Xc rfl (Xc rfl (Xc rfl (Xc A20.one (Xc A19.one (Xc rfl (Xc rfl Xx)))))))) rfl (fun s21 p21 B21 => ?_)
 have A24 := hu8_1_1.st (Yb p14 p16 p21) rfl
 have A25 := hu8_1_0.st (Yb p14 p16 p21) rfl
 refine sva' (vs := [(iI r8.2.Xid), (iI r8.2.Begun), (iI r8.2.Ended), (.bool r8.2.All), v8_2, v8_3, (.bool r8.2.In), (.bool r8.2.Out)]) (B16.st p21 rfl) z27 rfl (Xc rfl (Xc rfl (Xc rfl (Xc rfl (Xc A25.one (Xc A24.one (Xc rfl (Xc rfl Xx)))))))) rfl (fun s26 p26 B26 => ?_)
 refine dn (sr (Xp w0_0 rfl ?_))
 have K28 := K6.st (tr5 p9 p14 p16 p21 p26) rfl
 refine cl' rfl func6 rfl (spec_DrawEdgeEnd.calls a0 s26.w (mm [0] s26) w0_0 (A0_0.kp K28)) ?_
 rintro r30 _ w30 m30 ⟨v30_0, rfl, f30_0, ky30⟩
 obtain ⟨s31, rfl, p31, n31⟩ := nwx s26 w30 44 ky30
 refine Xb rfl (Xb (v := v30_0) rfl (Xb (v := (iI r30.2.1)) rfl (Xb (v := (iI r30.2.2.1)) rfl (Xb (v := (.bool r30.2.2.2)) rfl (Xy v30_0 rfl (Xb rfl (Xb rfl (Xb rfl (dn (sq (sq (zdraw [[], [], [0, 1], [], [], [3, 4, 2], [2, 5]] [some 32, some 33, some 34, some 35, some 36, some 37, some 38] [[3], [4], [32, 33], [4], [3], [35, 36], [34, 37]] [0, 1, 2, 3, 4, 5, 6] ⟨by kernel_rfl, by kernel_rfl, by kernel_rfl⟩ (by kernel_rfl) (fun s33 p33 l33 tb33 zd33 => ?_)))))))))))))
 have zd35 := zd33.add 0 32 (.agg #[(iI r8.1.Xid), (iI r8.1.Begun), (iI r8.1.Ended), (.bool r8.1.All), v8_0, v8_1, (.bool r8.1.In), (.bool r8.1.Out)]) rfl
 refine zstep 2 [some 36, some 35] tb33 (((zd35.add 1 33 (.agg #[(iI r8.2.Xid), (iI r8.2.Begun), (iI r8.2.Ended), (.bool r8.2.All), v8_2, v8_3, (.bool r8.2.In), (.bool r8.2.Out)]) rfl).add 3 35 (.agg #[(iI r8.2.Xid), (iI r8.2.Begun), (iI r8.2.Ended), (.bool r8.2.All), v8_2, v8_3, (.bool r8.2.In), (.bool r8.2.Out)]) rfl).add 4 36 (.agg #[(iI r8.1.Xid), (iI r8.1.Begun), (iI r8.1.Ended), (.bool r8.1.All), v8_0, v8_1, (.bool r8.1.In), (.bool r8.1.Out)]) rfl) (Xa (lda_q' (es := [(iI r8.1.Xid), (iI r8.1.Begun), (iI r8.1.Ended), (.bool r8.1.All), v8_0, v8_1, (.bool r8.1.In), (.bool r8.1.Out)]) (B21.st (Yb p26 p31 p33) rfl) u27 z27 rfl) rfl (Xa (lda_q' (es := [(iI r8.2.Xid), (iI r8.2.Begun), (iI r8.2.Ended), (.bool r8.2.All), v8_2, v8_3, (.bool r8.2.In), (.bool r8.2.Out)]) (B26.st (Xm p31 p33) rfl) u27 z27 rfl) rfl (Xa (lda_q' (es := [(iI r8.2.Xid), (iI r8.2.Begun), (iI r8.2.Ended), (.bool r8.2.All), v8_2, v8_3, (.bool r8.2.In), (.bool r8.2.Out)]) (B26.st (Xm p31 p33) rfl) u27 z27 rfl) rfl (Xa (lda_q' (es := [(iI r8.1.Xid), (iI r8.1.Begun), (iI r8.1.Ended), (.bool r8.1.All), v8_0, v8_1, (.bool r8.1.In), (.bool r8.1.Out)]) (B21.st (Yb p26 p31 p33) rfl) u27 z27 rfl) rfl Xk)))) (by kernel_rfl) rfl (fun l42 e42 zd42 => ?_)
 have A47 := A20.st (tr4 p21 p26 p31 p33) rfl
 have A48 := A19.st (tr4 p21 p26 p31 p33) rfl
 have A49 := A25.st (Yb p26 p31 p33) rfl
 have A50 := A24.st (Yb p26 p31 p33) rfl
 refine clV 45 rfl func7 rfl (impl_Concurrent.calls r8.1 r8.2 s33.w (mm [41] s33) v8_0 v8_1 v8_2 v8_3 A47 A48 A49 A50) (fun r51 s52 p52 n52 => ?_)
 refine zdone (L' := [4, 3]) (D' := [0, 1, 2]) zd42 rfl rfl rfl (fun zd53 => ?_)
 refine zfin [5, 6] tb33 zd53 (Xa (lda_q' (es := [(iI r8.1.Xid), (iI r8.1.Begun), (iI r8.1.Ended), (.bool r8.1.All), v8_0, v8_1, (.bool r8.1.In), (.bool r8.1.Out)]) (B21.st (tr4 p26 p31 p33 p52) rfl) u27 z27 rfl) rfl (Xa (lda_q' (es := [(iI r8.2.Xid), (iI r8.2.Begun), (iI r8.2.Ended), (.bool r8.2.All), v8_2, v8_3, (.bool r8.2.In), (.bool r8.2.Out)]) (B26.st (Yb p31 p33 p52) rfl) u27 z27 rfl) rfl Xk)) (by kernel_rfl) (by decide) (clV 46 rfl func7 rfl (impl_Concurrent.calls r8.2 r8.1 s52.w (mm [41] s52) v8_2 v8_3 v8_0 v8_1 (A49.st p52 rfl) (A50.st p52 rfl) (A47.st p52 rfl) (A48.st p52 rfl)) (fun r60 s61 p61 n61 => ?_))
 refine bne_ u4 rfl rfl rfl rfl rfl rfl rfl (dn (cd rfl (fun h62 => ?_) (fun h62 => ?_)))
 ·
  refine sr (Xb rfl (dn ?_))
  exact re rfl func3 rfl (Xq rfl Xe) rfl ⟨_, rfl, rfl, z.ky (K28.st (tr4 p31 p33 p52 p61) rfl)⟩
 refine sk (sr (Xp v30_0 rfl (Xb rfl (Xb rfl ?_))))
 have A64 := (f30_0.c n31).st (Yb p33 p52 p61) rfl
 refine cl' rfl func8 rfl (impl_EdgeEnd.calls r30.1 r30.2.1 r30.2.2.1 true s61.w (mm [44] s61) v30_0 A64.rd) ?_
 rintro r65 _ w65 m65 ⟨v65_0, rfl, f65_0, ky65⟩
 obtain ⟨s66, rfl, p66, n66⟩ := nwx s61 w65 47 ky65
 have A65_0 := f65_0.c n66
 refine Xb rfl (Xb (v := v65_0) rfl (Xb (v := (iI r65.2)) rfl (Xy v65_0 rfl (Xb rfl (dn (sr (Xp v30_0 rfl (Xb rfl (Xb rfl ?_)))))))))
 have A68 := A64.st p66 rfl
 refine cl' rfl func8 rfl (impl_EdgeEnd.calls r30.1 r30.2.1 r30.2.2.1 false s66.w (mm [44] s66) v30_0 A68.rd) ?_
 rintro r69 _ w69 m69 ⟨v69_0, rfl, f69_0, ky69⟩
 obtain ⟨s70, rfl, p70, n70⟩ := nwx s66 w69 48 ky69
 have A69_0 := f69_0.c n70
 refine Xb rfl (Xb (v := v69_0) rfl (Xb (v := (iI r69.2)) rfl (Xy v69_0 rfl (Xb rfl (dn (sr (Xp v30_0 rfl (Xb rfl (Xb rfl ?_)))))))))
 have A72 := A68.st p70 rfl
 refine cl' rfl func9 rfl (spec_EdgeEnd.calls r30.1 r30.2.1 r30.2.2.1 false s70.w (mm [44] s70) v30_0 A72.rd) ?_
 rintro r73 _ w73 m73 ⟨v73_0, rfl, f73_0, ky73⟩
 obtain ⟨s74, rfl, p74, n74⟩ := nwx s70 w73 49 ky73
 refine Xb rfl (Xb (v := v73_0) rfl (Xb (v := (iI r73.2)) rfl (Xy v73_0 rfl (Xb rfl (dn (sq (sr (Xb rfl (Xb rfl (Xb rfl (Xb rfl (jy [63, 64, 65, 66] [] 66 (.bool ((r69.2 != r73.2) || (r73.2 == (1 : Int)))) rfl (fun Kg76 => ?_) (fun j76 => ?_)))))))))))))
 ·
  rcases bft (r69.2 != r73.2) with hb76 | hb76
  ·
   exact Xs hb76 (Xf rfl (Xf rfl (Xb rfl (Kg76 _ (Ag.put ((Ag.put ((Ag.put (Ag.base rfl) rfl)) rfl)) rfl) (by rw [hb76]; rfl)))))
  exact Xs hb76 (Xb rfl (Xb rfl (Xb rfl (Kg76 _ (Ag.put ((Ag.put ((Ag.put (Ag.base rfl) rfl)) rfl)) rfl) (by rw [hb76]; rfl)))))
 refine dn (cd rfl (fun h77 => ?_) (fun h77 => ?_))
 ·
  refine sr (Xb rfl (Xb rfl (Xb rfl (Xb rfl (jy [70, 71, 72, 73, 74, 75, 76, 77, 78, 79, 80, 81, 82, 83, 84, 85, 86, 87] [21] 87 (.bool ((r69.2 == r73.2) && ((r73.2 != (1 : Int)) || (((r65.2 == (1 : Int)) && ((r65.1.length : Int) == (0 : Int))) && ((r69.1.length : Int) == (0 : Int)))))) rfl (fun Kg78 => ?_) (fun j78 => ?_))))))
  ·
   rcases bft (r69.2 == r73.2) with hb78 | hb78
   ·
    refine Xs hb78 (Xb rfl (Xb rfl (Xb rfl (jy [73, 74, 75, 76, 77, 78, 79, 80, 81, 82, 83, 84, 85, 86] [20, 21] 86 (.bool ((r73.2 != (1 : Int)) || (((r65.2 == (1 : Int)) && ((r65.1.length : Int) == (0 : Int))) && ((r69.1.length : Int) == (0 : Int))))) rfl (fun Kg79 => ?_) (fun j79 => ?_)))))
    ·
     rcases bft (r73.2 != (1 : Int)) with hb79 | hb79
     ·
      exact Xs hb79 (Xf rfl (Xf rfl (Xf rfl (Xf rfl (Xf rfl (Xf rfl (Xf rfl (Xf rfl (Xf rfl (Xf rfl (Xf rfl (Xf rfl (Xb rfl (Kg79 _ (Ag.put ((Ag.put ((Ag.put ((Ag.put ((Ag.put ((Ag.put ((Ag.put ((Ag.put ((Ag.put ((Ag.put ((Ag.put ((Ag.put ((Ag.put (Ag.base rfl) rfl)) rfl)) rfl)) rfl)) rfl)) rfl)) rfl)) rfl)) rfl)) rfl)) rfl)) rfl)) rfl) (by rw [hb79]; rfl)))))))))))))))
     refine Xs hb79 (Xb rfl (Xb rfl (Xb rfl (jy [76, 77, 78, 79, 80] [14, 15, 16, 17, 18, 19, 20, 21] 80 (.bool ((r65.2 == (1 : Int)) && ((r65.1.length : Int) == (0 : Int)))) rfl (fun Kg80 => ?_) (fun j80 => ?_)))))
     ·
      rcases bft (r65.2 == (1 : Int)) with hb80 | hb80
      ·
       refine Xs hb80 (Xp v65_0 rfl ?_)
       exact ln' (A65_0.st (Xm p70 p74) rfl).rd u30 rfl (Xb rfl (Xb rfl (Kg80 _ (Ag.put ((Ag.put ((Ag.put ((Ag.put (Ag.base rfl) rfl)) rfl)) rfl)) rfl) (by rw [hb80]; rfl))))
      exact Xs hb80 (Xf rfl (Xf rfl (Xf rfl (Xb rfl (Kg80 _ (Ag.put ((Ag.put ((Ag.put ((Ag.put (Ag.base rfl) rfl)) rfl)) rfl)) rfl) (by rw [hb80]; rfl))))))
     refine Xb rfl (jy [81, 82, 83, 84, 85] [19, 20, 21] 85 (.bool (((r65.2 == (1 : Int)) && ((r65.1.length : Int) == (0 : Int))) && ((r69.1.length : Int) == (0 : Int)))) rfl (fun Kg82 => ?_) (fun j82 => ?_))
     ·
      rcases bft ((r65.2 == (1 : Int)) && ((r65.1.length : Int) == (0 : Int))) with hb82 | hb82
      ·
       refine Xs hb82 (Xp v69_0 rfl ?_)
       exact ln' (A69_0.st p74 rfl).rd u30 rfl (Xb rfl (Xb rfl (Kg82 _ (Ag.put ((Ag.put ((Ag.put ((Ag.put (Ag.base rfl) rfl)) rfl)) rfl)) rfl) (by rw [hb82]; rfl))))
      exact Xs hb82 (Xf rfl (Xf rfl (Xf rfl (Xb rfl (Kg82 _ (Ag.put ((Ag.put ((Ag.put ((Ag.put (Ag.base rfl) rfl)) rfl)) rfl)) rfl) (by rw [hb82]; rfl))))))
     exact Xb rfl (Kg79 _ (Ag.put ((Ag.put ((Ag.ov ((Ag.put ((Ag.put ((Ag.ov ((Ag.put ((Ag.put ((Ag.put (Ag.base rfl) rfl)) rfl)) rfl)) rfl)) rfl)) rfl)) rfl)) rfl)) rfl) (by rw [hb79]; rfl))
    exact Xb rfl (Kg78 _ (Ag.put ((Ag.put ((Ag.ov ((Ag.put ((Ag.put ((Ag.put (Ag.base rfl) rfl)) rfl)) rfl)) rfl)) rfl)) rfl) (by rw [hb78]; rfl))
   refine Xs hb78 (Xf rfl (Xf rfl (Xf rfl (Xf rfl (Xf rfl (Xf rfl (Xf rfl (Xf rfl (Xf rfl (Xf rfl (Xf rfl (Xf rfl (Xf rfl (Xf rfl ?_))))))))))))))
   exact Xf rfl (Xf rfl (Xb rfl (Kg78 _ (Ag.put ((Ag.put ((Ag.put ((Ag.put ((Ag.put ((Ag.put ((Ag.put ((Ag.put ((Ag.put ((Ag.put ((Ag.put ((Ag.put ((Ag.put ((Ag.put ((Ag.put ((Ag.put ((Ag.put (Ag.base rfl) rfl)) rfl)) rfl)) rfl)) rfl)) rfl)) rfl)) rfl)) rfl)) rfl)) rfl)) rfl)) rfl)) rfl)) rfl)) rfl)) rfl) (by rw [hb78]; rfl))))
  refine Xb rfl (dn ?_)
  exact re rfl func3 rfl (Xq rfl Xe) rfl ⟨_, rfl, rfl, z.ky (K28.st (tr7 p31 p33 p52 p61 p66 p70 p74) rfl)⟩
 refine sk (sr (Xb rfl (dn (sq (sr (Xb rfl (dn (bl ?_))))))))
 refine lpI (fun (x85 : Bool × Int) e w => ∃ (s : St) (e0 : Env), w = s.w ∧ e = upd (upd (upd (upd (upd (upd (upd e0 5 v30_0) 6 (iI r30.2.1)) 9 v65_0) 10 (iI r65.2)) 11 v69_0) 15 (.bool x85.1)) 16 (iI x85.2) ∧ Kp s0 s ∧ OwF Yc s [v30_0] r30.1 44 ∧ OwF Yc s [v65_0] r65.1 47 ∧ OwF Yc s [v69_0] r69.1 48) ⟨s74, _, rfl, (ue (ue (ue (ue (ue (ue (ue rfl rfl) rfl) rfl) rfl) rfl) rfl) rfl), (K28.st (tr7 p31 p33 p52 p61 p66 p70 p74) rfl), (A72.st p74 rfl), (A65_0.st (Xm p70 p74) rfl), (A69_0.st p74 rfl)⟩ (fun g85 ih85 => ?_)
 rintro x85 _ _ ⟨s90, _, rfl, rfl, Kx85, Cx85_32, Cx85_67, Cx85_71⟩
 unfold laws_FnTracks.b0
 refine sq (sr (Xb rfl (Xp v30_0 rfl (ln' Cx85_32.rd u30 rfl (Xb rfl (dn (cd rfl (fun h91 => ?_) (fun h91 => ?_))))))))
 ·
  refine sk (sq (bl (sr (Xp v30_0 rfl (Xb rfl (ix' Cx85_32.rd u30 z27 rfl (fun ad92 es92 h0_92 h1_92 he92 ce92 ia92 => ?_)))))))
  obtain ⟨v92_0, v92_1, rfl, A92_0, A92_1⟩ := op27 he92
  refine Xw fa27_0 rfl (lc0 ce92 u3 rfl rfl rfl rfl rfl rfl rfl rfl (Xb rfl (Xb rfl (Xb rfl (ji [14, 15, 16, 17, 18, 19, 20] (fun (y96 : Bool) e w => ∃ (s : St) (e0 : Env), w = s.w ∧ e = upd (upd (upd (upd (upd (upd (upd (upd e0 5 v30_0) 6 (iI r30.2.1)) 9 v65_0) 10 (iI r65.2)) 11 v69_0) 15 (.bool x85.1)) 16 (iI x85.2)) 107 (.bool y96) ∧ Kp s0 s ∧ OwF Yc s [v30_0] r30.1 44 ∧ OwF Yc s [v65_0] r65.1 47 ∧ OwF Yc s [v69_0] r69.1 48) (fun Gj96 Kj96 => ?_) ?_)))))
  ·
   rcases bft ((at_ r30.1 x85.2).Xid == r30.2.1) with hb96 | hb96
   ·
    refine Xs hb96 ?_
    rw [if_pos hb96]
    refine Xp v30_0 rfl (Xb rfl (ix' Cx85_32.rd u30 z27 rfl (fun ad97 es97 h0_97 h1_97 he97 ce97 ia97 => ?_)))
    obtain ⟨v97_0, v97_1, rfl, A97_0, A97_1⟩ := op27 he97
    exact Xw fa27_6 rfl (lc ce97 u4 rfl rfl rfl rfl rfl rfl rfl rfl (Xb rfl (Kj96 _ _ _ ⟨s90, _, rfl, (ue (ue (ue (ue (ue (ue (ue (ue rfl rfl) rfl) rfl) rfl) rfl) rfl) rfl) rfl), Kx85, Cx85_32, Cx85_67, Cx85_71⟩)))
   refine Xs hb96 ?_
   rw [if_neg (by rw [hb96]; decide)]
   exact Xf rfl (Xf rfl (Xf rfl (Xf rfl (Xf rfl (Xb rfl (Kj96 _ _ _ ⟨s90, _, rfl, (ue (ue (ue (ue (ue (ue (ue (ue rfl rfl) rfl) rfl) rfl) rfl) rfl) rfl) rfl), Kx85, Cx85_32, Cx85_67, Cx85_71⟩))))))
  rintro y96 _ _ ⟨s101, _, rfl, rfl, Ky96, Cy96_32, Cy96_67, Cy96_71⟩
  refine Xb rfl (ji [] (fun (y102 : Bool) e w => ∃ (s : St) (e0 : Env), w = s.w ∧ e = upd (upd (upd (upd (upd (upd (upd (upd e0 5 v30_0) 6 (iI r30.2.1)) 9 v65_0) 10 (iI r65.2)) 11 v69_0) 15 (.bool x85.1)) 16 (iI x85.2)) 114 (.bool y102) ∧ Kp s0 s ∧ OwF Yc s [v30_0] r30.1 44 ∧ OwF Yc s [v65_0] r65.1 47 ∧ OwF Yc s [v69_0] r69.1 48) (fun Gj102 Kj102 => ?_) ?_)
  ·
   rcases bft y96 with hb102 | hb102
   ·
    refine Xs hb102 ?_
    rw [if_pos hb102]
    refine Xp v30_0 rfl (Xb rfl (ix' Cy96_32.rd u30 z27 rfl (fun ad103 es103 h0_103 h1_103 he103 ce103 ia103 => ?_)))
    obtain ⟨v103_0, v103_1, rfl, A103_0, A103_1⟩ := op27 he103
    exact Xw fa27_7 rfl (lc ce103 u4 rfl rfl rfl rfl rfl rfl rfl rfl (Xb rfl (Kj102 _ _ _ ⟨s101, _, rfl, (ue (ue (ue (ue (ue (ue (ue (ue rfl rfl) rfl) rfl) rfl) rfl) rfl) rfl) rfl), Ky96, Cy96_32, Cy96_67, Cy96_71⟩)))
   refine Xs hb102 ?_
   rw [if_neg (by rw [hb102]; decide)]
   exact Xf rfl (Xf rfl (Xf rfl (Xf rfl (Xf rfl (Xb rfl (Kj102 _ _ _ ⟨s101, _, rfl, (ue (ue (ue (ue (ue (ue (ue (ue rfl rfl) rfl) rfl) rfl) rfl) rfl) rfl) rfl), Ky96, Cy96_32, Cy96_67, Cy96_71⟩))))))
  rintro y102 _ _ ⟨s107, _, rfl, rfl, Ky102, Cy102_32, Cy102_67, Cy102_71⟩
  refine dn (jc (fun (y108 : Bool) e w => ∃ (s : St) (e0 : Env), w = s.w ∧ e = upd (upd (upd (upd (upd (upd (upd e0 5 v30_0) 6 (iI r30.2.1)) 9 v65_0) 10 (iI r65.2)) 11 v69_0) 15 (.bool y108)) 16 (iI x85.2) ∧ Kp s0 s ∧ OwF Yc s [v30_0] r30.1 44 ∧ OwF Yc s [v65_0] r65.1 47 ∧ OwF Yc s [v69_0] r69.1 48) (fun Gj108 Kj108 => ?_) ?_)
  ·
   refine cd rfl (fun h109 => ?_) (fun h109 => ?_)
   ·
    exact rg (Xb rfl (dn (Kj108 _ _ _ ⟨s107, _, rfl, (ue (ue (ue (ue (ue (ue (ue rfl rfl) rfl) rfl) rfl) rfl) rfl) rfl), Ky102, Cy102_32, Cy102_67, Cy102_71⟩)))
   exact sk (Kj108 _ _ _ ⟨s107, _, rfl, (ue (ue (ue (ue (ue (ue (ue rfl rfl) rfl) rfl) rfl) rfl) rfl) rfl), Ky102, Cy102_32, Cy102_67, Cy102_71⟩)
  rintro y108 _ _ ⟨s110, _, rfl, rfl, Ky108, Cy108_32, Cy108_67, Cy108_71⟩
  exact ib (rg (Xb rfl (Xb rfl (Xb rfl (dn (lb ih85 ⟨s110, _, rfl, (ue (ue (ue (ue (ue (ue (ue rfl rfl) rfl) rfl) rfl) rfl) rfl) rfl), Ky108, Cy108_32, Cy108_67, Cy108_71⟩))))))
 refine xt rfl (sgb (sq (sr (Xb rfl (dn (bl (lpI (fun (x111 : Int) e w => ∃ (s : St) (e0 : Env), w = s.w ∧ e = upd (upd (upd (upd (upd (upd e0 6 (iI r30.2.1)) 9 v65_0) 10 (iI r65.2)) 11 v69_0) 15 (.bool x85.1)) 17 (iI x111) ∧ Kp s0 s ∧ OwF Yc s [v65_0] r65.1 47 ∧ OwF Yc s [v69_0] r69.1 48) ⟨s90, _, rfl, (ue (ue (ue (ue (ue (ue rfl rfl) rfl) rfl) rfl) rfl) rfl), Kx85, Cx85_67, Cx85_71⟩ (fun g111 ih111 => ?_))))))))
 rintro x111 _ _ ⟨s112, _, rfl, rfl, Kx111, Cx111_67, Cx111_71⟩
 unfold laws_FnTracks.b1
 refine sq (sr (Xb rfl (Xp v69_0 rfl (ln' Cx111_71.rd u30 rfl (Xb rfl (dn (cd rfl (fun h113 => ?_) (fun h113 => ?_))))))))
 ·
  refine sk (sq (bl (sr (Xp v69_0 rfl (Xb rfl (ix' Cx111_71.rd u30 z27 rfl (fun ad114 es114 h0_114 h1_114 he114 ce114 ia114 => ?_)))))))
  obtain ⟨v114_0, v114_1, rfl, A114_0, A114_1⟩ := op27 he114
  refine Xw fa27_0 rfl (lc0 ce114 u3 rfl rfl rfl rfl rfl rfl rfl rfl (Xb rfl (Xb rfl (dn (cd rfl (fun h118 => ?_) (fun h118 => ?_))))))
  ·
   exact sr (Xb rfl (dn (sgi (re rfl func3 rfl (Xq rfl Xe) rfl ⟨_, rfl, rfl, z.ky Kx111⟩))))
  exact sk (ib (rg (Xb rfl (Xb rfl (Xb rfl (dn (lb ih111 ⟨s112, _, rfl, (ue (ue (ue (ue (ue (ue rfl rfl) rfl) rfl) rfl) rfl) rfl), Kx111, Cx111_67, Cx111_71⟩)))))))
 refine xt rfl (sgb (sr (Xb rfl (Xb rfl (Xb rfl (beq_ u4 rfl rfl rfl rfl rfl rfl rfl (Xb rfl (ji [8, 9, 10, 11, 12] (fun (y119 : Bool) e w => ∃ (s : St) (e0 : Env), w = s.w ∧ e = upd (upd e0 9 v65_0) 135 (.bool y119) ∧ Kp s0 s ∧ OwF Yc s [v65_0] r65.1 47) (fun Gj119 Kj119 => ?_) ?_))))))))
 ·
  rcases bft (x85.1 == (r65.2 == (2 : Int))) with hb119 | hb119
  ·
   refine Xs hb119 ?_
   rw [if_pos hb119]
   refine Xp v69_0 rfl (clV 50 rfl func10 rfl (impl_TracksOk.calls r69.1 s112.w (mm [48] s112) v69_0 Cx111_71.rd) (fun r120 s121 p121 n121 => ?_))
   exact Xb rfl (Kj119 _ _ _ ⟨s121, _, rfl, (ue (ue rfl rfl) rfl), (Kx111.st p121 rfl), (Cx111_67.st p121 rfl)⟩)
  refine Xs hb119 ?_
  rw [if_neg (by rw [hb119]; decide)]
  exact Xf rfl (Xf rfl (Xb rfl (Kj119 _ _ _ ⟨s112, _, rfl, (ue (ue rfl rfl) rfl), Kx111, Cx111_67⟩)))
 rintro y119 _ _ ⟨s124, _, rfl, rfl, Ky119, Cy119_67⟩
 refine Xb rfl (ji [12] (fun (y125 : Bool) e w => ∃ (s : St) (e0 : Env), w = s.w ∧ e = upd e0 139 (.bool y125) ∧ Kp s0 s) (fun Gj125 Kj125 => ?_) ?_)
 ·
  rcases bft y119 with hb125 | hb125
  ·
   refine Xs hb125 ?_
   rw [if_pos hb125]
   refine Xp v65_0 rfl (clV 51 rfl func10 rfl (impl_TracksOk.calls r65.1 s124.w (mm [47] s124) v65_0 Cy119_67.rd) (fun r126 s127 p127 n127 => ?_))
   exact Xb rfl (Kj125 _ _ _ ⟨s127, _, rfl, (ue rfl rfl), (Ky119.st p127 rfl)⟩)
  refine Xs hb125 ?_
  rw [if_neg (by rw [hb125]; decide)]
  exact Xf rfl (Xf rfl (Xb rfl (Kj125 _ _ _ ⟨s124, _, rfl, (ue rfl rfl), Ky119⟩)))
 rintro y125 _ _ ⟨s129, _, rfl, rfl, Ky125⟩
 exact Xb rfl (dn (re rfl func3 rfl (Xq rfl Xe) rfl ⟨_, rfl, rfl, z.ky Ky125⟩))
end Go.Proofs.Ytcgbhldenkeplaa
