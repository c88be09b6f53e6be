/- The functions as models, and that the calls come to what the models tell. -/
import Derived.Test.YtbkiaccollbjnaaGreatGt
import Derived.Test.YtbkiaccollbjnaaGreatG2
import Derived.Shelf.SlSortCmp.NoneTotal
import Derived.Shelf.SlicesG.Cmp
import Derived.Shelf.SlGeneric
import Derived.Ground.SlsfProg
import Derived.Ground.SlgcProg
import Derived.LoopN
import Derived.Deep.Draws
import Derived.Deep.QuietTactic
set_option linter.unusedVariables false
set_option linter.unusedSimpArgs false
set_option maxHeartbeats 4000000
set_option maxRecDepth 100000
noncomputable section
namespace Go.Proofs.YtbkiaccollbjnaaGreat
open Go V Tryz
def laws_szByteS.f (a0 : (List Int)) (a1 : Int) : Option (Int) :=
 (if (decide ((IntKind.wrap .i64 (a1 - (a0.length : Int))) < (0 : Int))) = true then (some (-1 : Int)) else (some (IntKind.wrap .i64 (a1 - (a0.length : Int)))))
def laws_szByteS.Q (w : World) (F : Nat → Prop) (r : Int) (v : Value) (w' : World) : Prop :=
 v = (iI r) ∧ Ky [] w w'
theorem laws_szByteS.calls (a0 : (List Int)) (a1 : Int) (w : World) (F : Nat → Prop) (w0_0 : Value) (h0_0 : Xr.rd w [w0_0] a0 F) (r : Int) (m : laws_szByteS.f a0 a1 = some r) :
  Calls prog 75 #[w0_0, (iI a1)] w (RT (laws_szByteS.Q w F) r) := by
 obtain ⟨s0, rfl, kp0, z⟩ := Xf w F
 refine Xc (args := [w0_0, (iI a1)]) func75 ntmps75 rfl rfl m ?_
 unfold laws_szByteS.f
 refine sr (Xb rfl (dn (sr (Xb rfl (Xi w0_0 rfl (ln' (z.rd h0_0) u59 rfl (Xb rfl (Xb rfl (dn (sq (sr (Xb rfl (Xb rfl (dn ?_))))))))))))))
 refine cd rfl (fun h2 => ?_) (fun h2 => ?_)
 ·
  exact sr (Xb rfl (dn (re rfl func75 rfl (Xj rfl Xd) rfl ⟨_, rfl, rfl, z.ky kp0⟩)))
 exact sk (sr (Xb rfl (Xb rfl (dn (re rfl func75 rfl (Xj rfl Xd) rfl ⟨_, rfl, rfl, z.ky kp0⟩)))))
def laws_szItem.f (a0 : Item) (a1 : Int) : Option (Int) :=
 ((laws_szByteS.f a0.T a1).bind fun r6 => (if (decide (r6 < (0 : Int))) = true then (some (-1 : Int)) else (some r6)))
def laws_szItem.Q (w : World) (F : Nat → Prop) (r : Int) (v : Value) (w' : World) : Prop :=
 v = (iI r) ∧ Ky [] w w'
theorem laws_szItem.calls (a0 : Item) (a1 : Int) (w : World) (F : Nat → Prop) (w0_0 : Value) (w0_1 : Value) (h0_0 : Kd.flt.rd w [w0_0] a0.F F) (h0_1 : Xr.rd w [w0_1] a0.T F) (r : Int) (m : laws_szItem.f a0 a1 = some r) :
  Calls prog 46 #[(.agg #[(iI a0.Kind), (iI a0.N), w0_0, w0_1]), (iI a1)] w (RT (laws_szItem.Q w F) r) := by
 obtain ⟨s0, rfl, kp0, z⟩ := Xf w F
 refine Xc (args := [(.agg #[(iI a0.Kind), (iI a0.N), w0_0, w0_1]), (iI a1)]) func46 ntmps46 rfl rfl m ?_
 unfold laws_szItem.f
 refine sr (bx' (cs := [(iI a0.Kind), (iI a0.N), w0_0, w0_1]) 40 rfl rfl (fun b2 s2 p2 B2 => ?_))
 refine Xb rfl (dn (sr (Xn fa81_3 rfl (ld' B2 u59 rfl (Xb rfl ?_)))))
 have K4 := kp0.st p2 rfl
 refine clV 41 rfl func75 rfl (laws_szByteS.calls a0.T a1 s2.w (mm [0] s2) w0_1 ((z.rd h0_1).kp K4)) (fun r6 s7 p7 n7 => ?_)
 refine Xb rfl (dn (sq (sr (Xb rfl (Xb rfl (dn (cd rfl (fun h8 => ?_) (fun h8 => ?_))))))))
 ·
  refine sr (Xb rfl (dn ?_))
  exact re rfl func46 rfl (Xj rfl Xd) rfl ⟨_, rfl, rfl, z.ky (K4.st p7 rfl)⟩
 refine sk (sr (Xb rfl (Xb rfl (dn ?_))))
 exact re rfl func46 rfl (Xj rfl Xd) rfl ⟨_, rfl, rfl, z.ky (K4.st p7 rfl)⟩
def laws_szSpan.f (a0 : Span) (a1 : Int) : Option (Int) :=
 ((laws_szItem.f a0.From a1).bind fun r7 => (if (decide (r7 < (0 : Int))) = true then (some (-1 : Int)) else ((laws_szItem.f a0.To r7).bind fun r14 => (if (decide (r14 < (0 : Int))) = true then (some (-1 : Int)) else (some r14)))))
def laws_szSpan.Q (w : World) (F : Nat → Prop) (r : Int) (v : Value) (w' : World) : Prop :=
 v = (iI r) ∧ Ky [] w w'
theorem laws_szSpan.calls (a0 : Span) (a1 : Int) (w : World) (F : Nat → Prop) (w0_0 : Value) (w0_1 : Value) (w0_2 : Value) (w0_3 : Value) (h0_0 : Kd.flt.rd w [w0_0] a0.From.F F) (h0_1 : Xr.rd w [w0_1] a0.From.T F) (h0_2 : Kd.flt.rd w [w0_2] a0.To.F F) (h0_3 : Xr.rd w [w0_3] a0.To.T F) (r : Int) (m : laws_szSpan.f a0 a1 = some r) :
  Calls prog 45 #[(.agg #[(iI a0.From.Kind), (iI a0.From.N), w0_0, w0_1, (iI a0.To.Kind), (iI a0.To.N), w0_2, w0_3]), (iI a1)] w (RT (laws_szSpan.Q w F) r) := by
 obtain ⟨s0, rfl, kp0, z⟩ := Xf w F
 refine Xc (args := [(.agg #[(iI a0.From.Kind), (iI a0.From.N), w0_0, w0_1, (iI a0.To.Kind), (iI a0.To.N), w0_2, w0_3]), (iI a1)]) func45 ntmps45 rfl rfl m ?_
 unfold laws_szSpan.f
 refine sr (bx' (cs := [(iI a0.From.Kind), (iI a0.From.N), w0_0, w0_1, (iI a0.To.Kind), (iI a0.To.N), w0_2, w0_3]) 40 rfl rfl (fun b3 s3 p3 B3 => ?_))
 refine Xb rfl (dn (sr (Xn fa83_0 rfl (lda' (es := [(iI a0.From.Kind), (iI a0.From.N), w0_0, w0_1]) B3 u81 z81 rfl (Xb rfl ?_)))))
 have K5 := kp0.st p3 rfl
 refine clV 41 rfl func46 rfl (laws_szItem.calls a0.From a1 s3.w (mm [0] s3) w0_0 w0_1 ((Xe (s := s3) (Xm h0_0)).sub (D := [0]) rfl) ((z.rd h0_1).kp K5)) (fun r7 s8 p8 n8 => ?_)
 refine Xb rfl (dn (sq (sr (Xb rfl (Xb rfl (dn (cd rfl (fun h9 => ?_) (fun h9 => ?_))))))))
 ·
  refine sr (Xb rfl (dn ?_))
  exact re rfl func45 rfl (Xj rfl Xd) rfl ⟨_, rfl, rfl, z.ky (K5.st p8 rfl)⟩
 refine sk (sr (Xn fa83_1 rfl ?_))
 refine lda' (es := [(iI a0.To.Kind), (iI a0.To.N), w0_2, w0_3]) (B3.st p8 rfl) u81 z81 rfl (Xb rfl ?_)
 have K12 := K5.st p8 rfl
 refine clV 42 rfl func46 rfl (laws_szItem.calls a0.To r7 s8.w (mm [0] s8) w0_2 w0_3 ((Xe (s := s8) (Xm h0_2)).sub (D := [0]) rfl) ((z.rd h0_3).kp K12)) (fun r14 s15 p15 n15 => ?_)
 refine Xb rfl (dn (sq (sr (Xb rfl (Xb rfl (dn (cd rfl (fun h16 => ?_) (fun h16 => ?_))))))))
 ·
  refine sr (Xb rfl (dn ?_))
  exact re rfl func45 rfl (Xj rfl Xd) rfl ⟨_, rfl, rfl, z.ky (K12.st p15 rfl)⟩
 refine sk (sr (Xb rfl (Xb rfl (dn ?_))))
 exact re rfl func45 rfl (Xj rfl Xd) rfl ⟨_, rfl, rfl, z.ky (K12.st p15 rfl)⟩
def laws_szSpanS.b0 (a0 : (List Span)) (x3 : Int × Int) : Option ((Int × Int) ⊕ Int) :=
 (if (decide (x3.2 < (a0.length : Int))) = true then (if 0 ≤ x3.2 ∧ x3.2 < (a0.length : Int) then ((laws_szSpan.f (Span.mk ((at_ a0 x3.2).From) ((at_ a0 x3.2).To)) x3.1).bind fun r11 => (if (decide (r11 < (0 : Int))) = true then (some (Sum.inr (-1 : Int))) else (some (Sum.inl (r11, (IntKind.wrap .i64 (x3.2 + (1 : Int)))))))) else none) else ((some x3.1).bind fun o => some (Sum.inr o)))
def laws_szSpanS.f (a0 : (List Span)) (a1 : Int) : Option (Int) :=
 (if (decide ((IntKind.wrap .i64 (a1 - (a0.length : Int))) < (0 : Int))) = true then (some (-1 : Int)) else (iter (laws_szSpanS.b0 a0) ((IntKind.wrap .i64 (a1 - (a0.length : Int))), (0 : Int))))
def laws_szSpanS.Q (w : World) (F : Nat → Prop) (r : Int) (v : Value) (w' : World) : Prop :=
 v = (iI r) ∧ Ky [] w w'
theorem laws_szSpanS.calls (a0 : (List Span)) (a1 : Int) (w : World) (F : Nat → Prop) (w0_0 : Value) (h0_0 : (Kd.sl 83 kd83).rd w [w0_0] a0 F) (r : Int) (m : laws_szSpanS.f a0 a1 = some r) :
  Calls prog 26 #[w0_0, (iI a1)] w (RT (laws_szSpanS.Q w F) r) := by
 obtain ⟨s0, rfl, kp0, z⟩ := Xf w F
 have A0_0 := z.rd h0_0
 refine Xc (args := [w0_0, (iI a1)]) func26 ntmps26 rfl rfl m ?_
 unfold laws_szSpanS.f
 refine sr (Xb rfl (dn (sr (Xb rfl (Xi w0_0 rfl (ln' A0_0 u34 rfl (Xb rfl (Xb rfl (dn (sq (sr (Xb rfl (Xb rfl (dn ?_))))))))))))))
 refine cd rfl (fun h2 => ?_) (fun h2 => ?_)
 ·
  exact sr (Xb rfl (dn (re rfl func26 rfl (Xj rfl Xd) rfl ⟨_, rfl, rfl, z.ky kp0⟩)))
 refine sk (sq (sr (Xb rfl (dn (bl (lpI (fun (x3 : Int × Int) e w => ∃ (s : St) (e0 : Env), w = s.w ∧ e = upd (upd (upd e0 0 w0_0) 1 (iI x3.1)) 5 (iI x3.2) ∧ Kp s0 s) ⟨s0, _, rfl, (ue (ue (ue rfl rfl) rfl) rfl), kp0⟩ (fun g3 ih3 => ?_)))))))
 rintro x3 _ _ ⟨s4, _, rfl, rfl, Kx3⟩
 unfold laws_szSpanS.b0
 refine sq (sr (Xb rfl (Xi w0_0 rfl ?_)))
 have A5 := A0_0.kp Kx3
 refine ln' A5 u34 rfl (Xb rfl (dn (cd rfl (fun h6 => ?_) (fun h6 => ?_))))
 ·
  refine sk (sq (bl (sr (Xi w0_0 rfl (Xb rfl (ix' A5 u34 z83 rfl (fun ad7 es7 h0_7 h1_7 he7 ce7 ia7 => ?_)))))))
  obtain ⟨v7_0, v7_1, v7_2, v7_3, rfl, A7_0, A7_1, A7_2, A7_3⟩ := op83 he7
  refine lca ce7 u83 z83 rfl rfl rfl rfl rfl rfl rfl (Xb rfl (clV 40 rfl func45 rfl (laws_szSpan.calls (Span.mk ((at_ a0 x3.2).From) ((at_ a0 x3.2).To)) x3.1 s4.w (mm [0] s4) v7_0 v7_1 v7_2 v7_3 ((Xe (s := s4) A7_0).sub (D := [0]) rfl) A7_1 ((Xe (s := s4) A7_2).sub (D := [0]) rfl) A7_3) (fun r11 s12 p12 n12 => ?_)))
  refine Xb rfl (dn (sr (Xb rfl (Xb rfl (dn (cd rfl (fun h13 => ?_) (fun h13 => ?_)))))))
  ·
   refine sr (Xb rfl (dn (sgi ?_)))
   exact re rfl func26 rfl (Xj rfl Xd) rfl ⟨_, rfl, rfl, z.ky (Kx3.st p12 rfl)⟩
  refine sk (ib (rg (Xb rfl (Xb rfl (Xb rfl (dn ?_))))))
  exact lb ih3 ⟨s12, _, rfl, (ue (ue (ue rfl rfl) rfl) rfl), (Kx3.st p12 rfl)⟩
 exact xt rfl (sgb (sr (Xb rfl (Xb rfl (dn (re rfl func26 rfl (Xj rfl Xd) rfl ⟨_, rfl, rfl, z.ky Kx3⟩))))))
def laws_szItemS.b0 (a0 : (List Item)) (x3 : Int × Int) : Option ((Int × Int) ⊕ Int) :=
 (if (decide (x3.2 < (a0.length : Int))) = true then (if 0 ≤ x3.2 ∧ x3.2 < (a0.length : Int) then ((laws_szItem.f (at_ a0 x3.2) x3.1).bind fun r10 => (if (decide (r10 < (0 : Int))) = true then (some (Sum.inr (-1 : Int))) else (some (Sum.inl (r10, (IntKind.wrap .i64 (x3.2 + (1 : Int)))))))) else none) else ((some x3.1).bind fun o => some (Sum.inr o)))
def laws_szItemS.f (a0 : (List Item)) (a1 : Int) : Option (Int) :=
 (if (decide ((IntKind.wrap .i64 (a1 - (a0.length : Int))) < (0 : Int))) = true then (some (-1 : Int)) else (iter (laws_szItemS.b0 a0) ((IntKind.wrap .i64 (a1 - (a0.length : Int))), (0 : Int))))
def laws_szItemS.Q (w : World) (F : Nat → Prop) (r : Int) (v : Value) (w' : World) : Prop :=
 v = (iI r) ∧ Ky [] w w'
theorem laws_szItemS.calls (a0 : (List Item)) (a1 : Int) (w : World) (F : Nat → Prop) (w0_0 : Value) (h0_0 : (Kd.sl 81 kd81).rd w [w0_0] a0 F) (r : Int) (m : laws_szItemS.f a0 a1 = some r) :
  Calls prog 27 #[w0_0, (iI a1)] w (RT (laws_szItemS.Q w F) r) := by
 obtain ⟨s0, rfl, kp0, z⟩ := Xf w F
 have A0_0 := z.rd h0_0
 refine Xc (args := [w0_0, (iI a1)]) func27 ntmps27 rfl rfl m ?_
 unfold laws_szItemS.f
 refine sr (Xb rfl (dn (sr (Xb rfl (Xi w0_0 rfl (ln' A0_0 u35 rfl (Xb rfl (Xb rfl (dn (sq (sr (Xb rfl (Xb rfl (dn ?_))))))))))))))
 refine cd rfl (fun h2 => ?_) (fun h2 => ?_)
 ·
  exact sr (Xb rfl (dn (re rfl func27 rfl (Xj rfl Xd) rfl ⟨_, rfl, rfl, z.ky kp0⟩)))
 refine sk (sq (sr (Xb rfl (dn (bl (lpI (fun (x3 : Int × Int) e w => ∃ (s : St) (e0 : Env), w = s.w ∧ e = upd (upd (upd e0 0 w0_0) 1 (iI x3.1)) 5 (iI x3.2) ∧ Kp s0 s) ⟨s0, _, rfl, (ue (ue (ue rfl rfl) rfl) rfl), kp0⟩ (fun g3 ih3 => ?_)))))))
 rintro x3 _ _ ⟨s4, _, rfl, rfl, Kx3⟩
 unfold laws_szItemS.b0
 refine sq (sr (Xb rfl (Xi w0_0 rfl ?_)))
 have A5 := A0_0.kp Kx3
 refine ln' A5 u35 rfl (Xb rfl (dn (cd rfl (fun h6 => ?_) (fun h6 => ?_))))
 ·
  refine sk (sq (bl (sr (Xi w0_0 rfl (Xb rfl (ix' A5 u35 z81 rfl (fun ad7 es7 h0_7 h1_7 he7 ce7 ia7 => ?_)))))))
  obtain ⟨v7_0, v7_1, rfl, A7_0, A7_1⟩ := op81 he7
  refine lca ce7 u81 z81 rfl rfl rfl rfl rfl rfl rfl (Xb rfl (clV 40 rfl func46 rfl (laws_szItem.calls (at_ a0 x3.2) x3.1 s4.w (mm [0] s4) v7_0 v7_1 ((Xe (s := s4) A7_0).sub (D := [0]) rfl) A7_1) (fun r10 s11 p11 n11 => ?_)))
  refine Xb rfl (dn (sr (Xb rfl (Xb rfl (dn (cd rfl (fun h12 => ?_) (fun h12 => ?_)))))))
  ·
   refine sr (Xb rfl (dn (sgi ?_)))
   exact re rfl func27 rfl (Xj rfl Xd) rfl ⟨_, rfl, rfl, z.ky (Kx3.st p11 rfl)⟩
  refine sk (ib (rg (Xb rfl (Xb rfl (Xb rfl (dn ?_))))))
  exact lb ih3 ⟨s11, _, rfl, (ue (ue (ue rfl rfl) rfl) rfl), (Kx3.st p11 rfl)⟩
 exact xt rfl (sgb (sr (Xb rfl (Xb rfl (dn (re rfl func27 rfl (Xj rfl Xd) rfl ⟨_, rfl, rfl, z.ky Kx3⟩))))))
def laws_szDeed.f (a0 : Deed) (a1 : Int) : Option (Int) :=
 ((laws_szSpanS.f a0.Reads a1).bind fun r7 => (if (decide (r7 < (0 : Int))) = true then (some (-1 : Int)) else ((laws_szItemS.f a0.Writes r7).bind fun r14 => (if (decide (r14 < (0 : Int))) = true then (some (-1 : Int)) else (some r14)))))
def laws_szDeed.Q (w : World) (F : Nat → Prop) (r : Int) (v : Value) (w' : World) : Prop :=
 v = (iI r) ∧ Ky [] w w'
theorem laws_szDeed.calls (a0 : Deed) (a1 : Int) (w : World) (F : Nat → Prop) (w0_0 : Value) (w0_1 : Value) (h0_0 : (Kd.sl 83 kd83).rd w [w0_0] a0.Reads F) (h0_1 : (Kd.sl 81 kd81).rd w [w0_1] a0.Writes F) (r : Int) (m : laws_szDeed.f a0 a1 = some r) :
  Calls prog 13 #[(.agg #[(iI a0.Xid), (iI a0.Begun), (iI a0.Ended), w0_0, w0_1]), (iI a1)] w (RT (laws_szDeed.Q w F) r) := by
 obtain ⟨s0, rfl, kp0, z⟩ := Xf w F
 refine Xc (args := [(.agg #[(iI a0.Xid), (iI a0.Begun), (iI a0.Ended), w0_0, w0_1]), (iI a1)]) func13 ntmps13 rfl rfl m ?_
 unfold laws_szDeed.f
 refine sr (bx' (cs := [(iI a0.Xid), (iI a0.Begun), (iI a0.Ended), w0_0, w0_1]) 40 rfl rfl (fun b3 s3 p3 B3 => ?_))
 refine Xb rfl (dn (sr (Xn fa37_3 rfl (ld' B3 u34 rfl (Xb rfl ?_)))))
 have K5 := kp0.st p3 rfl
 refine clV 41 rfl func26 rfl (laws_szSpanS.calls a0.Reads a1 s3.w (mm [0] s3) w0_0 ((z.rd h0_0).kp K5)) (fun r7 s8 p8 n8 => ?_)
 refine Xb rfl (dn (sq (sr (Xb rfl (Xb rfl (dn (cd rfl (fun h9 => ?_) (fun h9 => ?_))))))))
 ·
  refine sr (Xb rfl (dn ?_))
  exact re rfl func13 rfl (Xj rfl Xd) rfl ⟨_, rfl, rfl, z.ky (K5.st p8 rfl)⟩
 refine sk (sr (Xn fa37_4 rfl ?_))
 refine ld' (B3.st p8 rfl) u35 rfl (Xb rfl ?_)
 have K12 := K5.st p8 rfl
 refine clV 42 rfl func27 rfl (laws_szItemS.calls a0.Writes r7 s8.w (mm [0] s8) w0_1 ((z.rd h0_1).kp K12)) (fun r14 s15 p15 n15 => ?_)
 refine Xb rfl (dn (sq (sr (Xb rfl (Xb rfl (dn (cd rfl (fun h16 => ?_) (fun h16 => ?_))))))))
 ·
  refine sr (Xb rfl (dn ?_))
  exact re rfl func13 rfl (Xj rfl Xd) rfl ⟨_, rfl, rfl, z.ky (K12.st p15 rfl)⟩
 refine sk (sr (Xb rfl (Xb rfl (dn ?_))))
 exact re rfl func13 rfl (Xj rfl Xd) rfl ⟨_, rfl, rfl, z.ky (K12.st p15 rfl)⟩
def laws_szDeedS.b0 (a0 : (List Deed)) (x3 : Int × Int) : Option ((Int × Int) ⊕ Int) :=
 (if (decide (x3.2 < (a0.length : Int))) = true then (if 0 ≤ x3.2 ∧ x3.2 < (a0.length : Int) then ((laws_szDeed.f (at_ a0 x3.2) x3.1).bind fun r11 => (if (decide (r11 < (0 : Int))) = true then (some (Sum.inr (-1 : Int))) else (some (Sum.inl (r11, (IntKind.wrap .i64 (x3.2 + (1 : Int)))))))) else none) else ((some x3.1).bind fun o => some (Sum.inr o)))
def laws_szDeedS.f (a0 : (List Deed)) (a1 : Int) : Option (Int) :=
 (if (decide ((IntKind.wrap .i64 (a1 - (a0.length : Int))) < (0 : Int))) = true then (some (-1 : Int)) else (iter (laws_szDeedS.b0 a0) ((IntKind.wrap .i64 (a1 - (a0.length : Int))), (0 : Int))))
def laws_szDeedS.Q (w : World) (F : Nat → Prop) (r : Int) (v : Value) (w' : World) : Prop :=
 v = (iI r) ∧ Ky [] w w'
theorem laws_szDeedS.calls (a0 : (List Deed)) (a1 : Int) (w : World) (F : Nat → Prop) (w0_0 : Value) (h0_0 : (Kd.sl 37 kd37).rd w [w0_0] a0 F) (r : Int) (m : laws_szDeedS.f a0 a1 = some r) :
  Calls prog 4 #[w0_0, (iI a1)] w (RT (laws_szDeedS.Q w F) r) := by
 obtain ⟨s0, rfl, kp0, z⟩ := Xf w F
 have A0_0 := z.rd h0_0
 refine Xc (args := [w0_0, (iI a1)]) func4 ntmps4 rfl rfl m ?_
 unfold laws_szDeedS.f
 refine sr (Xb rfl (dn (sr (Xb rfl (Xi w0_0 rfl (ln' A0_0 u22 rfl (Xb rfl (Xb rfl (dn (sq (sr (Xb rfl (Xb rfl (dn ?_))))))))))))))
 refine cd rfl (fun h2 => ?_) (fun h2 => ?_)
 ·
  exact sr (Xb rfl (dn (re rfl func4 rfl (Xj rfl Xd) rfl ⟨_, rfl, rfl, z.ky kp0⟩)))
 refine sk (sq (sr (Xb rfl (dn (bl (lpI (fun (x3 : Int × Int) e w => ∃ (s : St) (e0 : Env), w = s.w ∧ e = upd (upd (upd e0 0 w0_0) 1 (iI x3.1)) 5 (iI x3.2) ∧ Kp s0 s) ⟨s0, _, rfl, (ue (ue (ue rfl rfl) rfl) rfl), kp0⟩ (fun g3 ih3 => ?_)))))))
 rintro x3 _ _ ⟨s4, _, rfl, rfl, Kx3⟩
 unfold laws_szDeedS.b0
 refine sq (sr (Xb rfl (Xi w0_0 rfl ?_)))
 have A5 := A0_0.kp Kx3
 refine ln' A5 u22 rfl (Xb rfl (dn (cd rfl (fun h6 => ?_) (fun h6 => ?_))))
 ·
  refine sk (sq (bl (sr (Xi w0_0 rfl (Xb rfl (ix' A5 u22 z37 rfl (fun ad7 es7 h0_7 h1_7 he7 ce7 ia7 => ?_)))))))
  obtain ⟨v7_0, v7_1, rfl, A7_0, A7_1⟩ := op37 he7
  refine lca ce7 u37 z37 rfl rfl rfl rfl rfl rfl rfl (Xb rfl (clV 40 rfl func13 rfl (laws_szDeed.calls (at_ a0 x3.2) x3.1 s4.w (mm [0] s4) v7_0 v7_1 A7_0 A7_1) (fun r11 s12 p12 n12 => ?_)))
  refine Xb rfl (dn (sr (Xb rfl (Xb rfl (dn (cd rfl (fun h13 => ?_) (fun h13 => ?_)))))))
  ·
   refine sr (Xb rfl (dn (sgi ?_)))
   exact re rfl func4 rfl (Xj rfl Xd) rfl ⟨_, rfl, rfl, z.ky (Kx3.st p12 rfl)⟩
  refine sk (ib (rg (Xb rfl (Xb rfl (Xb rfl (dn ?_))))))
  exact lb ih3 ⟨s12, _, rfl, (ue (ue (ue rfl rfl) rfl) rfl), (Kx3.st p12 rfl)⟩
 exact xt rfl (sgb (sr (Xb rfl (Xb rfl (dn (re rfl func4 rfl (Xj rfl Xd) rfl ⟨_, rfl, rfl, z.ky Kx3⟩))))))
def laws_toByteS.b0 (a0 : (List Int)) (x4 : (List Int) × Int) : Option (((List Int) × Int) ⊕ (List Int)) :=
 (if (decide (x4.2 < (a0.length : Int))) = true then (if 0 ≤ x4.2 ∧ x4.2 < (a0.length : Int) then (if 0 ≤ x4.2 ∧ x4.2 < (x4.1.length : Int) then (some (Sum.inl ((x4.1.set (x4.2).toNat (at_ a0 x4.2)), (IntKind.wrap .i64 (x4.2 + (1 : Int)))))) else none) else none) else ((some x4.1).bind fun o => some (Sum.inr o)))
def laws_toByteS.f (a0 : (List Int)) : Option ((List Int)) :=
 (if 0 ≤ (a0.length : Int) ∧ (a0.length : Int) ≤ (Lim : Int) then (iter (laws_toByteS.b0 a0) ((List.replicate ((a0.length : Int)).toNat (0 : Int)), (0 : Int))) else none)
def laws_toByteS.Q (w : World) (F : Nat → Prop) (r : (List Int)) (v : Value) (w' : World) : Prop :=
 FO Xr w w' [v] r ∧ Ky [] w w'
theorem laws_toByteS.calls (a0 : (List Int)) (w : World) (F : Nat → Prop) (w0_0 : Value) (h0_0 : Xr.rd w [w0_0] a0 F) (r : (List Int)) (m : laws_toByteS.f a0 = some r) :
  Calls prog 78 #[w0_0] w (RT (laws_toByteS.Q w F) r) := by
 obtain ⟨s0, rfl, kp0, z⟩ := Xf w F
 have A0_0 := z.rd h0_0
 refine Xc (args := [w0_0]) func78 ntmps78 rfl rfl m ?_
 unfold laws_toByteS.f
 refine sr (Xb rfl (dn (sr (Xi w0_0 rfl (ln' A0_0 u59 rfl (mk (x0 := (0 : Int)) (K := (Kd.int .u8)) 40 sl59 o5 (fun _ => ⟨rfl, rfl⟩) rfl rfl rfl rfl rfl rfl rfl (fun v2 s2 p2 A2 => ?_)))))))
 refine asg' v2 rfl (dn (sq (sr (Xb rfl (dn (bl ?_))))))
 refine lpI (fun (x4 : (List Int) × Int) e w => ∃ (s : St) (e0 : Env), w = s.w ∧ e = upd (upd (upd e0 0 w0_0) 3 v2) 4 (iI x4.2) ∧ Kp s0 s ∧ OwF Xr s [v2] x4.1 40) ⟨s2, _, rfl, (ue (ue (ue rfl rfl) rfl) rfl), (kp0.st p2 rfl), A2⟩ (fun g4 ih4 => ?_)
 rintro x4 _ _ ⟨s6, _, rfl, rfl, Kx4, Ax4_0⟩
 unfold laws_toByteS.b0
 refine sq (sr (Xb rfl (Xi w0_0 rfl ?_)))
 have A8 := A0_0.kp Kx4
 refine ln' A8 u59 rfl (Xb rfl (dn (cd rfl (fun h9 => ?_) (fun h9 => ?_))))
 ·
  refine sk (sq (bl (rg (Xi v2 rfl (Xb rfl (Xi w0_0 rfl (Xb rfl (ix' A8 u59 z5 rfl (fun ad10 es10 h0_10 h1_10 he10 ce10 ia10 => ?_)))))))))
  obtain rfl := he10
  refine lc0 ce10 u5 rfl rfl rfl rfl rfl rfl rfl rfl (ix' Ax4_0.rd u59 z5 rfl (fun ad12 es12 h0_12 h1_12 he12 ce12 ia12 => ?_))
  obtain rfl := he12
  refine so (x' := (at_ a0 x4.2)) Ax4_0 ia12 h0_12 h1_12 cs_flat z5 rfl rfl rfl rfl rfl rfl (fun s14 p14 A14 => ?_)
  refine dn (ib (rg (Xb rfl (Xb rfl (Xb rfl (dn ?_))))))
  exact lb ih4 ⟨s14, _, rfl, (ue (ue (ue rfl rfl) rfl) rfl), (Kx4.st p14 rfl), A14⟩
 exact xt rfl (sgb (sr (Xi v2 rfl (asg' v2 rfl (dn (re rfl func78 rfl (Xj rfl Xd) rfl ⟨_, rfl, Ax4_0.fo Kx4 rfl z.l, z.ky Kx4⟩))))))
def laws_toItem.f (a0 : Item) : Option (Item) :=
 ((laws_toByteS.f a0.T).bind fun r20 => (some (Item.mk a0.Kind a0.N a0.F r20)))
def laws_toItem.Q (w : World) (F : Nat → Prop) (r : Item) (v : Value) (w' : World) : Prop :=
 ∃ (v0 : Value) (v1 : Value), v = (.agg #[(iI r.Kind), (iI r.N), v0, v1]) ∧ FO kd61 w w' [(iI r.Kind), (iI r.N), v0, v1] r ∧ Ky [] w w'
theorem laws_toItem.calls (a0 : Item) (w : World) (F : Nat → Prop) (w0_0 : Value) (w0_1 : Value) (h0_0 : Kd.flt.rd w [w0_0] a0.F F) (h0_1 : Xr.rd w [w0_1] a0.T F) (r : Item) (m : laws_toItem.f a0 = some r) :
  Calls prog 52 #[(.agg #[(iI a0.Kind), (iI a0.N), w0_0, w0_1])] w (RT (laws_toItem.Q w F) r) := by
 obtain ⟨s0, rfl, kp0, z⟩ := Xf w F
 have A0_0 := Xm h0_0
 refine Xc (args := [(.agg #[(iI a0.Kind), (iI a0.N), w0_0, w0_1])]) func52 ntmps52 rfl rfl m ?_
 unfold laws_toItem.f
 refine sr (bx' (cs := [(iI a0.Kind), (iI a0.N), w0_0, w0_1]) 40 rfl rfl (fun b2 s2 p2 B2 => ?_))
 refine al (cs := [(iI 0), (iI 0), (.float .f64 0), (.slice none 0 0)]) 41 rfl rfl rfl rfl rfl o61 rfl (fun b4 s4 p4 B4 => ?_)
 refine dn (sr (al (cs := [(iI 0), (iI 0), (.float .f64 0), (.slice none 0 0)]) 42 rfl rfl rfl rfl rfl o61 rfl (fun b6 s6 p6 B6 => ?_)))
 refine dn (sr (Xn fa81_0 rfl ?_))
 have A8 := B2.st (tr2 p4 p6) rfl
 refine ld' A8 u3 rfl (Xn fa61_0 rfl (sv B6 z3 rfl rfl rfl rfl rfl rfl rfl rfl (fun s9 p9 B9 => ?_)))
 refine dn (sr (Xn fa81_1 rfl ?_))
 have A11 := A8.st p9 rfl
 refine ld' A11 u3 rfl (Xn fa61_1 rfl (sv B9 z3 rfl rfl rfl rfl rfl rfl rfl rfl (fun s12 p12 B12 => ?_)))
 refine dn (sr (Xn fa81_2 rfl ?_))
 have A14 := A11.st p12 rfl
 refine ld' A14 u58 rfl (Xn fa61_2 rfl (sv B12 z58 rfl rfl rfl rfl rfl rfl (FL.one A0_0) rfl (fun s15 p15 B15 => ?_)))
 refine dn (sr (Xn fa81_3 rfl ?_))
 refine ld' (A14.st p15 rfl) u59 rfl ?_
 have K18 := kp0.st (tr6 p2 p4 p6 p9 p12 p15) rfl
 refine clO 43 rfl func78 rfl (laws_toByteS.calls a0.T s15.w (mm [0] s15) w0_1 ((z.rd h0_1).kp K18)) (fun r20 v20_0 s21 p21 A20_0 => ?_)
 refine Xn fa61_3 rfl (sv (B15.st p21 rfl) z59 rfl rfl rfl rfl rfl rfl A20_0.rd.one rfl (fun s24 p24 B24 => ?_))
 refine dn (sr (lda' (es := [(iI a0.Kind), (iI a0.N), w0_0, v20_0]) B24 u61 z61 rfl ?_))
 have A27 := A20_0.st p24 rfl
 refine sva (vs := [(iI a0.Kind), (iI a0.N), w0_0, v20_0]) (B4.st (tr6 p6 p9 p12 p15 p21 p24) rfl) z61 rfl rfl rfl rfl rfl rfl (Xk rfl (Xk rfl (Xk (FL.one A0_0) (Xk A27.rd.one on_nil)))) rfl (fun s28 p28 B28 => ?_)
 refine dn ?_
 have A30 : OwF kd61 s28 [(iI a0.Kind), (iI a0.N), w0_0, v20_0] (Item.mk a0.Kind a0.N a0.F r20) 43 := (ow_isoz (fun x : Item => (x.Kind, x.N, x.F, x.T)) (Item.mk a0.Kind a0.N a0.F r20) (ow_l (fz_int .i64 a0.Kind) (ow_l (fz_int .i64 a0.N) (ow_l (fz_flt A0_0) (A27.st p28 rfl)))))
 have K33 := K18.st (tr3 p21 p24 p28) rfl
 exact re rfl func52 rfl (r_b B28 u61 rfl z61 rfl Xd) rfl ⟨_, rfl, w0_0, v20_0, rfl, A30.fo K33 rfl z.l, z.ky K33⟩
def laws_toSpan.f (a0 : Span) : Option (Span) :=
 ((laws_toItem.f a0.From).bind fun r12 => ((laws_toItem.f a0.To).bind fun r21 => (some (Span.mk r12 r21))))
def laws_toSpan.Q (w : World) (F : Nat → Prop) (r : Span) (v : Value) (w' : World) : Prop :=
 ∃ (v0 : Value) (v1 : Value) (v2 : Value) (v3 : Value), v = (.agg #[(iI r.From.Kind), (iI r.From.N), v0, v1, (iI r.To.Kind), (iI r.To.N), v2, v3]) ∧ FO kd63 w w' [(iI r.From.Kind), (iI r.From.N), v0, v1, (iI r.To.Kind), (iI r.To.N), v2, v3] r ∧ Ky [] w w'
theorem laws_toSpan.calls (a0 : Span) (w : World) (F : Nat → Prop) (w0_0 : Value) (w0_1 : Value) (w0_2 : Value) (w0_3 : Value) (h0_0 : Kd.flt.rd w [w0_0] a0.From.F F) (h0_1 : Xr.rd w [w0_1] a0.From.T F) (h0_2 : Kd.flt.rd w [w0_2] a0.To.F F) (h0_3 : Xr.rd w [w0_3] a0.To.T F) (r : Span) (m : laws_toSpan.f a0 = some r) :
  Calls prog 51 #[(.agg #[(iI a0.From.Kind), (iI a0.From.N), w0_0, w0_1, (iI a0.To.Kind), (iI a0.To.N), w0_2, w0_3])] w (RT (laws_toSpan.Q w F) r) := by
 obtain ⟨s0, rfl, kp0, z⟩ := Xf w F
 refine Xc (args := [(.agg #[(iI a0.From.Kind), (iI a0.From.N), w0_0, w0_1, (iI a0.To.Kind), (iI a0.To.N), w0_2, w0_3])]) func51 ntmps51 rfl rfl m ?_
 unfold laws_toSpan.f
 refine sr (bx' (cs := [(iI a0.From.Kind), (iI a0.From.N), w0_0, w0_1, (iI a0.To.Kind), (iI a0.To.N), w0_2, w0_3]) 40 rfl rfl (fun b3 s3 p3 B3 => ?_))
 refine al (cs := [(iI 0), (iI 0), (.float .f64 0), (.slice none 0 0), (iI 0), (iI 0), (.float .f64 0), (.slice none 0 0)]) 41 rfl rfl rfl rfl rfl o63 rfl (fun b5 s5 p5 B5 => ?_)
 refine dn (sr (al (cs := [(iI 0), (iI 0), (.float .f64 0), (.slice none 0 0), (iI 0), (iI 0), (.float .f64 0), (.slice none 0 0)]) 42 rfl rfl rfl rfl rfl o63 rfl (fun b7 s7 p7 B7 => ?_)))
 refine dn (sr (Xn fa83_0 rfl ?_))
 have A9 := B3.st (tr2 p5 p7) rfl
 refine lda' (es := [(iI a0.From.Kind), (iI a0.From.N), w0_0, w0_1]) A9 u81 z81 rfl ?_
 have K10 := kp0.st (tr3 p3 p5 p7) rfl
 refine cl' rfl func52 rfl (laws_toItem.calls a0.From s7.w (mm [0] s7) w0_0 w0_1 ((Xe (s := s7) (Xm h0_0)).sub (D := [0]) rfl) ((z.rd h0_1).kp K10)) ?_
 rintro r12 _ w12 m12 ⟨v12_0, v12_1, rfl, f12_0, ky12⟩
 obtain ⟨s13, rfl, p13, n13⟩ := nwx s7 w12 43 ky12
 obtain ⟨hu12_0_0, Au12_0_1⟩ := ap61 (f12_0.c n13)
 refine Xn fa63_0 rfl (sva (vs := [(iI r12.Kind), (iI r12.N), v12_0, v12_1]) (B7.st p13 rfl) z61 rfl rfl rfl rfl rfl rfl (Xk rfl (Xk rfl (Xk (FL.one hu12_0_0) (Xk Au12_0_1.rd.one on_nil)))) rfl (fun s16 p16 B16 => ?_))
 refine dn (sr (Xn fa83_1 rfl ?_))
 refine lda' (es := [(iI a0.To.Kind), (iI a0.To.N), w0_2, w0_3]) (A9.st (tr2 p13 p16) rfl) u81 z81 rfl ?_
 have K19 := K10.st (tr2 p13 p16) rfl
 refine cl' rfl func52 rfl (laws_toItem.calls a0.To s16.w (mm [0] s16) w0_2 w0_3 ((Xe (s := s16) (Xm h0_2)).sub (D := [0]) rfl) ((z.rd h0_3).kp K19)) ?_
 rintro r21 _ w21 m21 ⟨v21_0, v21_1, rfl, f21_0, ky21⟩
 obtain ⟨s22, rfl, p22, n22⟩ := nwx s16 w21 44 ky21
 obtain ⟨hu21_0_0, Au21_0_1⟩ := ap61 (f21_0.c n22)
 refine Xn fa63_1 rfl (sva (vs := [(iI r21.Kind), (iI r21.N), v21_0, v21_1]) (B16.st p22 rfl) z61 rfl rfl rfl rfl rfl rfl (Xk rfl (Xk rfl (Xk (FL.one hu21_0_0) (Xk Au21_0_1.rd.one on_nil)))) rfl (fun s25 p25 B25 => ?_))
 refine dn (sr (lda' (es := [(iI r12.Kind), (iI r12.N), v12_0, v12_1, (iI r21.Kind), (iI r21.N), v21_0, v21_1]) B25 u63 z63 rfl ?_))
 have A28 := Au21_0_1.st p25 rfl
 have A29 := Au12_0_1.st (tr3 p16 p22 p25) rfl
 refine sva (vs := [(iI r12.Kind), (iI r12.N), v12_0, v12_1, (iI r21.Kind), (iI r21.N), v21_0, v21_1]) (B5.st (tr5 p7 p13 p16 p22 p25) rfl) z63 rfl rfl rfl rfl rfl rfl (Xk rfl (Xk rfl (Xk (FL.one hu12_0_0) (Xk A29.rd.one (Xk rfl (Xk rfl (Xk (FL.one hu21_0_0) (Xk A28.rd.one on_nil)))))))) rfl (fun s30 p30 B30 => ?_)
 refine dn ?_
 obtain ⟨s34, hw34, p34, A34⟩ := ow_2 (ow_isoz (fun x : Item => (x.Kind, x.N, x.F, x.T)) r12 (ow_l (fz_int .i64 r12.Kind) (ow_l (fz_int .i64 r12.N) (ow_l (fz_flt hu12_0_0) (A29.st p30 rfl))))) (ow_isoz (fun x : Item => (x.Kind, x.N, x.F, x.T)) r21 (ow_l (fz_int .i64 r21.Kind) (ow_l (fz_int .i64 r21.N) (ow_l (fz_flt hu21_0_0) (A28.st p30 rfl))))) rfl rfl
 rw [hw34]
 have A36 : OwF kd63 s34 [(iI r12.Kind), (iI r12.N), v12_0, v12_1, (iI r21.Kind), (iI r21.N), v21_0, v21_1] (Span.mk r12 r21) 43 := (ow_isoz (fun x : Span => (x.From, x.To)) (Span.mk r12 r21) A34)
 have K39 := K19.st (tr4 p22 p25 p30 p34) rfl
 exact re rfl func51 rfl (r_b (B30.st p34 rfl) u63 rfl z63 rfl Xd) rfl ⟨_, rfl, v12_0, v12_1, v21_0, v21_1, rfl, A36.fo K39 rfl z.l, z.ky K39⟩
def laws_toSpanS.b0 (a0 : (List Span)) (x4 : (List Span) × Int) : Option (((List Span) × Int) ⊕ (List Span)) :=
 (if (decide (x4.2 < (a0.length : Int))) = true then (if 0 ≤ x4.2 ∧ x4.2 < (a0.length : Int) then ((laws_toSpan.f (Span.mk ((at_ a0 x4.2).From) ((at_ a0 x4.2).To))).bind fun r14 => (if 0 ≤ x4.2 ∧ x4.2 < (x4.1.length : Int) then (some (Sum.inl ((x4.1.set (x4.2).toNat r14), (IntKind.wrap .i64 (x4.2 + (1 : Int)))))) else none)) else none) else ((some x4.1).bind fun o => some (Sum.inr o)))
def laws_toSpanS.f (a0 : (List Span)) : Option ((List Span)) :=
 (if 0 ≤ (a0.length : Int) ∧ (a0.length : Int) ≤ (Lim : Int) then (iter (laws_toSpanS.b0 a0) ((List.replicate ((a0.length : Int)).toNat (Span.mk (Item.mk (0 : Int) (0 : Int) (0 : Nat) ([] : (List Int))) (Item.mk (0 : Int) (0 : Int) (0 : Nat) ([] : (List Int))))), (0 : Int))) else none)
def laws_toSpanS.Q (w : World) (F : Nat → Prop) (r : (List Span)) (v : Value) (w' : World) : Prop :=
 FO Xs w w' [v] r ∧ Ky [] w w'
theorem laws_toSpanS.calls (a0 : (List Span)) (w : World) (F : Nat → Prop) (w0_0 : Value) (h0_0 : (Kd.sl 83 kd83).rd w [w0_0] a0 F) (r : (List Span)) (m : laws_toSpanS.f a0 = some r) :
  Calls prog 32 #[w0_0] w (RT (laws_toSpanS.Q w F) r) := by
 obtain ⟨s0, rfl, kp0, z⟩ := Xf w F
 have A0_0 := z.rd h0_0
 refine Xc (args := [w0_0]) func32 ntmps32 rfl rfl m ?_
 unfold laws_toSpanS.f
 refine sr (Xb rfl (dn (sr (Xi w0_0 rfl (ln' A0_0 u34 rfl (mk (x0 := (Span.mk (Item.mk (0 : Int) (0 : Int) (0 : Nat) ([] : (List Int))) (Item.mk (0 : Int) (0 : Int) (0 : Nat) ([] : (List Int))))) (K := kd63) 40 sl40 o63 (fun _ => ⟨_, _, [], [], rfl, rfl, ⟨_, _, [], [], rfl, rfl, ⟨rfl, rfl⟩, ⟨_, _, [], [], rfl, rfl, ⟨rfl, rfl⟩, ⟨_, _, [], [], rfl, rfl, ⟨⟨_, rfl, fl_c rfl⟩, rfl⟩, ⟨_, rfl, [], [], [], rfl, ⟨by simp, .inl ⟨rfl, rfl, rfl⟩⟩, ⟨rfl, rfl⟩⟩⟩⟩⟩, ⟨_, _, [], [], rfl, rfl, ⟨rfl, rfl⟩, ⟨_, _, [], [], rfl, rfl, ⟨rfl, rfl⟩, ⟨_, _, [], [], rfl, rfl, ⟨⟨_, rfl, fl_c rfl⟩, rfl⟩, ⟨_, rfl, [], [], [], rfl, ⟨by simp, .inl ⟨rfl, rfl, rfl⟩⟩, ⟨rfl, rfl⟩⟩⟩⟩⟩⟩) rfl rfl rfl rfl rfl rfl rfl (fun v2 s2 p2 A2 => ?_)))))))
 refine asg' v2 rfl (dn (sq (sr (Xb rfl (dn (bl ?_))))))
 refine lpI (fun (x4 : (List Span) × Int) e w => ∃ (s : St) (e0 : Env), w = s.w ∧ e = upd (upd (upd e0 0 w0_0) 3 v2) 4 (iI x4.2) ∧ Kp s0 s ∧ OwF Xs s [v2] x4.1 40) ⟨s2, _, rfl, (ue (ue (ue rfl rfl) rfl) rfl), (kp0.st p2 rfl), A2⟩ (fun g4 ih4 => ?_)
 rintro x4 _ _ ⟨s6, _, rfl, rfl, Kx4, Ax4_0⟩
 unfold laws_toSpanS.b0
 refine sq (sr (Xb rfl (Xi w0_0 rfl ?_)))
 have A8 := A0_0.kp Kx4
 refine ln' A8 u34 rfl (Xb rfl (dn (cd rfl (fun h9 => ?_) (fun h9 => ?_))))
 ·
  refine sk (sq (bl (rg (Xi v2 rfl (Xb rfl (Xi w0_0 rfl (Xb rfl (ix' A8 u34 z83 rfl (fun ad10 es10 h0_10 h1_10 he10 ce10 ia10 => ?_)))))))))
  obtain ⟨v10_0, v10_1, v10_2, v10_3, rfl, A10_0, A10_1, A10_2, A10_3⟩ := op83 he10
  refine lca ce10 u83 z83 rfl rfl rfl rfl rfl rfl rfl (cl' rfl func51 rfl (laws_toSpan.calls (Span.mk ((at_ a0 x4.2).From) ((at_ a0 x4.2).To)) s6.w (mm [0] s6) v10_0 v10_1 v10_2 v10_3 ((Xe (s := s6) A10_0).sub (D := [0]) rfl) A10_1 ((Xe (s := s6) A10_2).sub (D := [0]) rfl) A10_3) ?_)
  rintro r14 _ w14 m14 ⟨v14_0, v14_1, v14_2, v14_3, rfl, f14_0, ky14⟩
  obtain ⟨s15, rfl, p15, n15⟩ := nwx s6 w14 41 ky14
  obtain ⟨s16, hw16, p16, hu14_0_0, Au14_0_1, hu14_0_2, Au14_0_3⟩ := ap63 42 (f14_0.c n15) rfl
  rw [hw16]
  have A19 := Ax4_0.st (tr2 p15 p16) rfl
  refine ix' A19.rd u40 z63 rfl (fun ad20 es20 h0_20 h1_20 he20 ce20 ia20 => ?_)
  obtain ⟨v20_0, v20_1, v20_2, v20_3, rfl, A20_0, A20_1, A20_2, A20_3⟩ := op63 he20
  obtain ⟨s24, hw24, p24, A24⟩ := ow_2 (ow_isoz (fun x : Item => (x.Kind, x.N, x.F, x.T)) r14.From (ow_l (fz_int .i64 r14.From.Kind) (ow_l (fz_int .i64 r14.From.N) (ow_l (fz_flt hu14_0_0) Au14_0_1)))) (ow_isoz (fun x : Item => (x.Kind, x.N, x.F, x.T)) r14.To (ow_l (fz_int .i64 r14.To.Kind) (ow_l (fz_int .i64 r14.To.N) (ow_l (fz_flt hu14_0_2) Au14_0_3)))) rfl rfl
  rw [hw24]
  have A26 : OwF kd63 s24 [(iI r14.From.Kind), (iI r14.From.N), v14_0, v14_1, (iI r14.To.Kind), (iI r14.To.N), v14_2, v14_3] r14 41 := (ow_isoz (fun x : Span => (x.From, x.To)) r14 A24)
  refine som (x' := r14) (A19.st p24 rfl) ia20 h0_20 h1_20 A26 rfl rfl z63 rfl rfl rfl rfl rfl rfl (fun s29 p29 A29 => ?_)
  refine dn (ib (rg (Xb rfl (Xb rfl (Xb rfl (dn ?_))))))
  exact lb ih4 ⟨s29, _, rfl, (ue (ue (ue rfl rfl) rfl) rfl), (Kx4.st (tr4 p15 p16 p24 p29) rfl), A29⟩
 exact xt rfl (sgb (sr (Xi v2 rfl (asg' v2 rfl (dn (re rfl func32 rfl (Xj rfl Xd) rfl ⟨_, rfl, Ax4_0.fo Kx4 rfl z.l, z.ky Kx4⟩))))))
def laws_toItemS.b0 (a0 : (List Item)) (x4 : (List Item) × Int) : Option (((List Item) × Int) ⊕ (List Item)) :=
 (if (decide (x4.2 < (a0.length : Int))) = true then (if 0 ≤ x4.2 ∧ x4.2 < (a0.length : Int) then ((laws_toItem.f (at_ a0 x4.2)).bind fun r13 => (if 0 ≤ x4.2 ∧ x4.2 < (x4.1.length : Int) then (some (Sum.inl ((x4.1.set (x4.2).toNat r13), (IntKind.wrap .i64 (x4.2 + (1 : Int)))))) else none)) else none) else ((some x4.1).bind fun o => some (Sum.inr o)))
def laws_toItemS.f (a0 : (List Item)) : Option ((List Item)) :=
 (if 0 ≤ (a0.length : Int) ∧ (a0.length : Int) ≤ (Lim : Int) then (iter (laws_toItemS.b0 a0) ((List.replicate ((a0.length : Int)).toNat (Item.mk (0 : Int) (0 : Int) (0 : Nat) ([] : (List Int)))), (0 : Int))) else none)
def laws_toItemS.Q (w : World) (F : Nat → Prop) (r : (List Item)) (v : Value) (w' : World) : Prop :=
 FO Xt w w' [v] r ∧ Ky [] w w'
theorem laws_toItemS.calls (a0 : (List Item)) (w : World) (F : Nat → Prop) (w0_0 : Value) (h0_0 : (Kd.sl 81 kd81).rd w [w0_0] a0 F) (r : (List Item)) (m : laws_toItemS.f a0 = some r) :
  Calls prog 33 #[w0_0] w (RT (laws_toItemS.Q w F) r) := by
 obtain ⟨s0, rfl, kp0, z⟩ := Xf w F
 have A0_0 := z.rd h0_0
 refine Xc (args := [w0_0]) func33 ntmps33 rfl rfl m ?_
 unfold laws_toItemS.f
 refine sr (Xb rfl (dn (sr (Xi w0_0 rfl (ln' A0_0 u35 rfl (mk (x0 := (Item.mk (0 : Int) (0 : Int) (0 : Nat) ([] : (List Int)))) (K := kd61) 40 sl41 o61 (fun _ => ⟨_, _, [], [], rfl, rfl, ⟨rfl, rfl⟩, ⟨_, _, [], [], rfl, rfl, ⟨rfl, rfl⟩, ⟨_, _, [], [], rfl, rfl, ⟨⟨_, rfl, fl_c rfl⟩, rfl⟩, ⟨_, rfl, [], [], [], rfl, ⟨by simp, .inl ⟨rfl, rfl, rfl⟩⟩, ⟨rfl, rfl⟩⟩⟩⟩⟩) rfl rfl rfl rfl rfl rfl rfl (fun v2 s2 p2 A2 => ?_)))))))
 refine asg' v2 rfl (dn (sq (sr (Xb rfl (dn (bl ?_))))))
 refine lpI (fun (x4 : (List Item) × Int) e w => ∃ (s : St) (e0 : Env), w = s.w ∧ e = upd (upd (upd e0 0 w0_0) 3 v2) 4 (iI x4.2) ∧ Kp s0 s ∧ OwF Xt s [v2] x4.1 40) ⟨s2, _, rfl, (ue (ue (ue rfl rfl) rfl) rfl), (kp0.st p2 rfl), A2⟩ (fun g4 ih4 => ?_)
 rintro x4 _ _ ⟨s6, _, rfl, rfl, Kx4, Ax4_0⟩
 unfold laws_toItemS.b0
 refine sq (sr (Xb rfl (Xi w0_0 rfl ?_)))
 have A8 := A0_0.kp Kx4
 refine ln' A8 u35 rfl (Xb rfl (dn (cd rfl (fun h9 => ?_) (fun h9 => ?_))))
 ·
  refine sk (sq (bl (rg (Xi v2 rfl (Xb rfl (Xi w0_0 rfl (Xb rfl (ix' A8 u35 z81 rfl (fun ad10 es10 h0_10 h1_10 he10 ce10 ia10 => ?_)))))))))
  obtain ⟨v10_0, v10_1, rfl, A10_0, A10_1⟩ := op81 he10
  refine lca ce10 u81 z81 rfl rfl rfl rfl rfl rfl rfl (cl' rfl func52 rfl (laws_toItem.calls (at_ a0 x4.2) s6.w (mm [0] s6) v10_0 v10_1 ((Xe (s := s6) A10_0).sub (D := [0]) rfl) A10_1) ?_)
  rintro r13 _ w13 m13 ⟨v13_0, v13_1, rfl, f13_0, ky13⟩
  obtain ⟨s14, rfl, p14, n14⟩ := nwx s6 w13 41 ky13
  obtain ⟨hu13_0_0, Au13_0_1⟩ := ap61 (f13_0.c n14)
  have A16 := Ax4_0.st p14 rfl
  refine ix' A16.rd u41 z61 rfl (fun ad17 es17 h0_17 h1_17 he17 ce17 ia17 => ?_)
  obtain ⟨v17_0, v17_1, rfl, A17_0, A17_1⟩ := op61 he17
  have A20 : OwF kd61 s14 [(iI r13.Kind), (iI r13.N), v13_0, v13_1] r13 41 := (ow_isoz (fun x : Item => (x.Kind, x.N, x.F, x.T)) r13 (ow_l (fz_int .i64 r13.Kind) (ow_l (fz_int .i64 r13.N) (ow_l (fz_flt hu13_0_0) Au13_0_1))))
  refine som (x' := r13) A16 ia17 h0_17 h1_17 A20 rfl rfl z61 rfl rfl rfl rfl rfl rfl (fun s22 p22 A22 => ?_)
  refine dn (ib (rg (Xb rfl (Xb rfl (Xb rfl (dn ?_))))))
  exact lb ih4 ⟨s22, _, rfl, (ue (ue (ue rfl rfl) rfl) rfl), (Kx4.st (tr2 p14 p22) rfl), A22⟩
 exact xt rfl (sgb (sr (Xi v2 rfl (asg' v2 rfl (dn (re rfl func33 rfl (Xj rfl Xd) rfl ⟨_, rfl, Ax4_0.fo Kx4 rfl z.l, z.ky Kx4⟩))))))
def laws_toDeed.f (a0 : Deed) : Option (Deed) :=
 ((laws_toSpanS.f a0.Reads).bind fun r21 => ((laws_toItemS.f a0.Writes).bind fun r30 => (some (Deed.mk a0.Xid a0.Begun a0.Ended r21 r30))))
def laws_toDeed.Q (w : World) (F : Nat → Prop) (r : Deed) (v : Value) (w' : World) : Prop :=
 ∃ (v0 : Value) (v1 : Value), v = (.agg #[(iI r.Xid), (iI r.Begun), (iI r.Ended), v0, v1]) ∧ FO kd43 w w' [(iI r.Xid), (iI r.Begun), (iI r.Ended), v0, v1] r ∧ Ky [] w w'
theorem laws_toDeed.calls (a0 : Deed) (w : World) (F : Nat → Prop) (w0_0 : Value) (w0_1 : Value) (h0_0 : (Kd.sl 83 kd83).rd w [w0_0] a0.Reads F) (h0_1 : (Kd.sl 81 kd81).rd w [w0_1] a0.Writes F) (r : Deed) (m : laws_toDeed.f a0 = some r) :
  Calls prog 16 #[(.agg #[(iI a0.Xid), (iI a0.Begun), (iI a0.Ended), w0_0, w0_1])] w (RT (laws_toDeed.Q w F) r) := by
 obtain ⟨s0, rfl, kp0, z⟩ := Xf w F
 refine Xc (args := [(.agg #[(iI a0.Xid), (iI a0.Begun), (iI a0.Ended), w0_0, w0_1])]) func16 ntmps16 rfl rfl m ?_
 unfold laws_toDeed.f
 refine sr (bx' (cs := [(iI a0.Xid), (iI a0.Begun), (iI a0.Ended), w0_0, w0_1]) 40 rfl rfl (fun b3 s3 p3 B3 => ?_))
 refine al (cs := [(iI 0), (iI 0), (iI 0), (.slice none 0 0), (.slice none 0 0)]) 41 rfl rfl rfl rfl rfl o43 rfl (fun b5 s5 p5 B5 => ?_)
 refine dn (sr (al (cs := [(iI 0), (iI 0), (iI 0), (.slice none 0 0), (.slice none 0 0)]) 42 rfl rfl rfl rfl rfl o43 rfl (fun b7 s7 p7 B7 => ?_)))
 refine dn (sr (Xn fa37_0 rfl ?_))
 have A9 := B3.st (tr2 p5 p7) rfl
 refine ld' A9 u3 rfl (Xn fa43_0 rfl (sv B7 z3 rfl rfl rfl rfl rfl rfl rfl rfl (fun s10 p10 B10 => ?_)))
 refine dn (sr (Xn fa37_1 rfl ?_))
 have A12 := A9.st p10 rfl
 refine ld' A12 u3 rfl (Xn fa43_1 rfl (sv B10 z3 rfl rfl rfl rfl rfl rfl rfl rfl (fun s13 p13 B13 => ?_)))
 refine dn (sr (Xn fa37_2 rfl ?_))
 have A15 := A12.st p13 rfl
 refine ld' A15 u3 rfl (Xn fa43_2 rfl (sv B13 z3 rfl rfl rfl rfl rfl rfl rfl rfl (fun s16 p16 B16 => ?_)))
 refine dn (sr (Xn fa37_3 rfl ?_))
 have A18 := A15.st p16 rfl
 refine ld' A18 u34 rfl ?_
 have K19 := kp0.st (tr6 p3 p5 p7 p10 p13 p16) rfl
 refine clO 43 rfl func32 rfl (laws_toSpanS.calls a0.Reads s16.w (mm [0] s16) w0_0 ((z.rd h0_0).kp K19)) (fun r21 v21_0 s22 p22 A21_0 => ?_)
 refine Xn fa43_3 rfl (sv (B16.st p22 rfl) z40 rfl rfl rfl rfl rfl rfl A21_0.rd.one rfl (fun s25 p25 B25 => ?_))
 refine dn (sr (Xn fa37_4 rfl ?_))
 refine ld' (A18.st (tr2 p22 p25) rfl) u35 rfl ?_
 have K28 := K19.st (tr2 p22 p25) rfl
 refine clO 44 rfl func33 rfl (laws_toItemS.calls a0.Writes s25.w (mm [0] s25) w0_1 ((z.rd h0_1).kp K28)) (fun r30 v30_0 s31 p31 A30_0 => ?_)
 refine Xn fa43_4 rfl (sv (B25.st p31 rfl) z41 rfl rfl rfl rfl rfl rfl A30_0.rd.one rfl (fun s34 p34 B34 => ?_))
 refine dn (sr (lda' (es := [(iI a0.Xid), (iI a0.Begun), (iI a0.Ended), v21_0, v30_0]) B34 u43 z43 rfl ?_))
 have A37 := A30_0.st p34 rfl
 have A38 := A21_0.st (tr3 p25 p31 p34) rfl
 refine sva (vs := [(iI a0.Xid), (iI a0.Begun), (iI a0.Ended), v21_0, v30_0]) (B5.st (tr8 p7 p10 p13 p16 p22 p25 p31 p34) rfl) z43 rfl rfl rfl rfl rfl rfl (Xk rfl (Xk rfl (Xk rfl (Xk A38.rd.one (Xk A37.rd.one on_nil))))) rfl (fun s39 p39 B39 => ?_)
 refine dn ?_
 obtain ⟨s43, hw43, p43, A43⟩ := ow_2 (A38.st p39 rfl) (A37.st p39 rfl) rfl rfl
 rw [hw43]
 have A45 : OwF kd43 s43 [(iI a0.Xid), (iI a0.Begun), (iI a0.Ended), v21_0, v30_0] (Deed.mk a0.Xid a0.Begun a0.Ended r21 r30) 43 := (ow_isoz (fun x : Deed => (x.Xid, x.Begun, x.Ended, x.Reads, x.Writes)) (Deed.mk a0.Xid a0.Begun a0.Ended r21 r30) (ow_l (fz_int .i64 a0.Xid) (ow_l (fz_int .i64 a0.Begun) (ow_l (fz_int .i64 a0.Ended) A43))))
 have K48 := K28.st (tr4 p31 p34 p39 p43) rfl
 exact re rfl func16 rfl (r_b (B39.st p43 rfl) u43 rfl z43 rfl Xd) rfl ⟨_, rfl, v21_0, v30_0, rfl, A45.fo K48 rfl z.l, z.ky K48⟩
def laws_toDeedS.b0 (a0 : (List Deed)) (x4 : (List Deed) × Int) : Option (((List Deed) × Int) ⊕ (List Deed)) :=
 (if (decide (x4.2 < (a0.length : Int))) = true then (if 0 ≤ x4.2 ∧ x4.2 < (a0.length : Int) then ((laws_toDeed.f (at_ a0 x4.2)).bind fun r14 => (if 0 ≤ x4.2 ∧ x4.2 < (x4.1.length : Int) then (some (Sum.inl ((x4.1.set (x4.2).toNat r14), (IntKind.wrap .i64 (x4.2 + (1 : Int)))))) else none)) else none) else ((some x4.1).bind fun o => some (Sum.inr o)))
def laws_toDeedS.f (a0 : (List Deed)) : Option ((List Deed)) :=
 (if 0 ≤ (a0.length : Int) ∧ (a0.length : Int) ≤ (Lim : Int) then (iter (laws_toDeedS.b0 a0) ((List.replicate ((a0.length : Int)).toNat (Deed.mk (0 : Int) (0 : Int) (0 : Int) ([] : (List Span)) ([] : (List Item)))), (0 : Int))) else none)
def laws_toDeedS.Q (w : World) (F : Nat → Prop) (r : (List Deed)) (v : Value) (w' : World) : Prop :=
 FO Xu w w' [v] r ∧ Ky [] w w'
theorem laws_toDeedS.calls (a0 : (List Deed)) (w : World) (F : Nat → Prop) (w0_0 : Value) (h0_0 : (Kd.sl 37 kd37).rd w [w0_0] a0 F) (r : (List Deed)) (m : laws_toDeedS.f a0 = some r) :
  Calls prog 6 #[w0_0] w (RT (laws_toDeedS.Q w F) r) := by
 obtain ⟨s0, rfl, kp0, z⟩ := Xf w F
 have A0_0 := z.rd h0_0
 refine Xc (args := [w0_0]) func6 ntmps6 rfl rfl m ?_
 unfold laws_toDeedS.f
 refine sr (Xb rfl (dn (sr (Xi w0_0 rfl (ln' A0_0 u22 rfl (mk (x0 := (Deed.mk (0 : Int) (0 : Int) (0 : Int) ([] : (List Span)) ([] : (List Item)))) (K := kd43) 40 sl26 o43 (fun _ => ⟨_, _, [], [], rfl, rfl, ⟨rfl, rfl⟩, ⟨_, _, [], [], rfl, rfl, ⟨rfl, rfl⟩, ⟨_, _, [], [], rfl, rfl, ⟨rfl, rfl⟩, ⟨_, _, [], [], rfl, rfl, ⟨_, rfl, [], [], [], rfl, ⟨by simp, .inl ⟨rfl, rfl, rfl⟩⟩, ⟨rfl, rfl⟩⟩, ⟨_, rfl, [], [], [], rfl, ⟨by simp, .inl ⟨rfl, rfl, rfl⟩⟩, ⟨rfl, rfl⟩⟩⟩⟩⟩⟩) rfl rfl rfl rfl rfl rfl rfl (fun v2 s2 p2 A2 => ?_)))))))
 refine asg' v2 rfl (dn (sq (sr (Xb rfl (dn (bl ?_))))))
 refine lpI (fun (x4 : (List Deed) × Int) e w => ∃ (s : St) (e0 : Env), w = s.w ∧ e = upd (upd (upd e0 0 w0_0) 3 v2) 4 (iI x4.2) ∧ Kp s0 s ∧ OwF Xu s [v2] x4.1 40) ⟨s2, _, rfl, (ue (ue (ue rfl rfl) rfl) rfl), (kp0.st p2 rfl), A2⟩ (fun g4 ih4 => ?_)
 rintro x4 _ _ ⟨s6, _, rfl, rfl, Kx4, Ax4_0⟩
 unfold laws_toDeedS.b0
 refine sq (sr (Xb rfl (Xi w0_0 rfl ?_)))
 have A8 := A0_0.kp Kx4
 refine ln' A8 u22 rfl (Xb rfl (dn (cd rfl (fun h9 => ?_) (fun h9 => ?_))))
 ·
  refine sk (sq (bl (rg (Xi v2 rfl (Xb rfl (Xi w0_0 rfl (Xb rfl (ix' A8 u22 z37 rfl (fun ad10 es10 h0_10 h1_10 he10 ce10 ia10 => ?_)))))))))
  obtain ⟨v10_0, v10_1, rfl, A10_0, A10_1⟩ := op37 he10
  refine lca ce10 u37 z37 rfl rfl rfl rfl rfl rfl rfl (cl' rfl func16 rfl (laws_toDeed.calls (at_ a0 x4.2) s6.w (mm [0] s6) v10_0 v10_1 A10_0 A10_1) ?_)
  rintro r14 _ w14 m14 ⟨v14_0, v14_1, rfl, f14_0, ky14⟩
  obtain ⟨s15, rfl, p15, n15⟩ := nwx s6 w14 41 ky14
  obtain ⟨s16, hw16, p16, Au14_0_0, Au14_0_1⟩ := ap43 42 (f14_0.c n15) rfl
  rw [hw16]
  have A19 := Ax4_0.st (tr2 p15 p16) rfl
  refine ix' A19.rd u26 z43 rfl (fun ad20 es20 h0_20 h1_20 he20 ce20 ia20 => ?_)
  obtain ⟨v20_0, v20_1, rfl, A20_0, A20_1⟩ := op43 he20
  obtain ⟨s24, hw24, p24, A24⟩ := ow_2 Au14_0_0 Au14_0_1 rfl rfl
  rw [hw24]
  have A26 : OwF kd43 s24 [(iI r14.Xid), (iI r14.Begun), (iI r14.Ended), v14_0, v14_1] r14 41 := (ow_isoz (fun x : Deed => (x.Xid, x.Begun, x.Ended, x.Reads, x.Writes)) r14 (ow_l (fz_int .i64 r14.Xid) (ow_l (fz_int .i64 r14.Begun) (ow_l (fz_int .i64 r14.Ended) A24))))
  refine som (x' := r14) (A19.st p24 rfl) ia20 h0_20 h1_20 A26 rfl rfl z43 rfl rfl rfl rfl rfl rfl (fun s29 p29 A29 => ?_)
  refine dn (ib (rg (Xb rfl (Xb rfl (Xb rfl (dn ?_))))))
  exact lb ih4 ⟨s29, _, rfl, (ue (ue (ue rfl rfl) rfl) rfl), (Kx4.st (tr4 p15 p16 p24 p29) rfl), A29⟩
 exact xt rfl (sgb (sr (Xi v2 rfl (asg' v2 rfl (dn (re rfl func6 rfl (Xj rfl Xd) rfl ⟨_, rfl, Ax4_0.fo Kx4 rfl z.l, z.ky Kx4⟩))))))
def spec_FloatBits.b1 (y8 : Int × Nat) (x19 : Nat × Int) : Option ((Nat × Int) ⊕ Int) :=
 (if ((fcmp .f64 x19.1 (4607182418800017408 : Nat) == some .lt) && (decide (x19.2 > (-1022 : Int)))) = true then (some (Sum.inl ((far .mul x19.1 (4611686018427387904 : Nat)), (IntKind.wrap .i64 (x19.2 - (1 : Int)))))) else ((if (fcmp .f64 x19.1 (4607182418800017408 : Nat) == some .lt) = true then ((floatToIntVal .f64 (far .mul x19.1 (4841369599423283200 : Nat)) .u64).bind fun r27 => (some (ior .u64 y8.1 r27))) else ((floatToIntVal .f64 (far .mul (far .sub x19.1 (4607182418800017408 : Nat)) (4841369599423283200 : Nat)) .u64).bind fun r31 => (some (ior .u64 (ior .u64 y8.1 (ishl .u64 (IntKind.wrap .u64 (IntKind.wrap .i64 (x19.2 + (1023 : Int)))) (52 : Int))) r31)))).bind fun o => some (Sum.inr o)))
def spec_FloatBits.b0 (y8 : Int × Nat) (x14 : Nat × Int) : Option ((Nat × Int) ⊕ Int) :=
 (if (fcmp .f64 x14.1 (4611686018427387904 : Nat) == some .gt || fcmp .f64 x14.1 (4611686018427387904 : Nat) == some .eq) = true then (some (Sum.inl ((far .quo x14.1 (4611686018427387904 : Nat)), (IntKind.wrap .i64 (x14.2 + (1 : Int)))))) else ((iter (spec_FloatBits.b1 y8) (x14.1, x14.2)).bind fun o => some (Sum.inr o)))
def spec_FloatBits.f (a0 : Nat) : Option (Int) :=
 (if (fcmp .f64 a0 a0 != some .eq) = true then (some (9221120237041090560 : Int)) else ((if (fcmp .f64 a0 (0 : Nat) == some .lt) = true then (some true) else ((if (fcmp .f64 a0 (0 : Nat) == some .eq) = true then (some (fcmp .f64 (far .quo (4607182418800017408 : Nat) a0) (0 : Nat) == some .lt)) else (some false)).bind fun y3 => (some y3))).bind fun y2 => ((if y2 = true then (some ((9223372036854775808 : Int), (fneg a0))) else (some ((0 : Int), a0))).bind fun y8 => (if (fcmp .f64 y8.2 (0 : Nat) == some .eq) = true then (some y8.1) else (if (fcmp .f64 y8.2 (9218868437227405311 : Nat) == some .gt) = true then (some (ior .u64 y8.1 (9218868437227405312 : Int))) else (iter (spec_FloatBits.b0 y8) (y8.2, (0 : Int))))))))
def spec_FloatBits.Q (w : World) (F : Nat → Prop) (r : Int) (v : Value) (w' : World) : Prop :=
 v = (.int .u64 r) ∧ Ky [] w w'
theorem spec_FloatBits.calls (a0 : Nat) (w : World) (F : Nat → Prop) (w0_0 : Value) (h0_0 : Kd.flt.rd w [w0_0] a0 F) (r : Int) (m : spec_FloatBits.f a0 = some r) :
  Calls prog 49 #[w0_0] w (RT (spec_FloatBits.Q w F) r) := by
 obtain ⟨s0, rfl, kp0, z⟩ := Xf w F
 have A0_0 := Xm h0_0
 refine Xc (args := [w0_0]) func49 ntmps49 rfl rfl m ?_
 unfold spec_FloatBits.f
 refine sr (Xb rfl (dn (sq (sr (Xi w0_0 rfl (Xi w0_0 rfl (fq_' A0_0 A0_0 rfl (dn (cd rfl (fun h1 => ?_) (fun h1 => ?_))))))))))
 ·
  exact sr (Xb rfl (dn (re rfl func49 rfl (Xj rfl Xd) rfl ⟨_, rfl, rfl, z.ky kp0⟩)))
 refine sk (sr (Xb rfl (dn (sr (Xi w0_0 rfl (asg' w0_0 rfl (dn (sq (sr (Xi w0_0 rfl (fq_' A0_0 (fl_c rfl) rfl (Xb rfl (ji [] (fun (y2 : Bool) e w => ∃ (s : St) (e0 : Env), w = s.w ∧ e = upd (upd (upd (upd e0 0 w0_0) 3 (.int .u64 (0 : Int))) 4 w0_0) 20 (.bool y2) ∧ Kp s0 s) (fun Gj2 Kj2 => ?_) ?_)))))))))))))
 ·
  rcases bft (fcmp .f64 a0 (0 : Nat) == some .lt) with hb2 | hb2
  ·
   refine sbT hb2 ?_
   rw [if_pos hb2]
   exact Xg rfl (Xg rfl (Xg rfl (Xg rfl (Xg rfl (Xg rfl (Xg rfl (Xb rfl (Kj2 _ _ _ ⟨s0, _, rfl, (ue (ue (ue (ue rfl rfl) rfl) rfl) rfl), kp0⟩))))))))
  refine sbT hb2 ?_
  rw [if_neg (by rw [hb2]; decide)]
  refine Xi w0_0 rfl (fq_' A0_0 (fl_c rfl) rfl (Xb rfl (ji [10] (fun (y3 : Bool) e w => ∃ (s : St) (e0 : Env), w = s.w ∧ e = upd (upd (upd (upd (upd e0 0 w0_0) 3 (.int .u64 (0 : Int))) 4 w0_0) 12 (.bool false)) 19 (.bool y3) ∧ Kp s0 s) (fun Gj3 Kj3 => ?_) ?_)))
  ·
   rcases bft (fcmp .f64 a0 (0 : Nat) == some .eq) with hb3 | hb3
   ·
    refine sbT hb3 ?_
    rw [if_pos hb3]
    refine Xi w0_0 rfl (fa_ (fl_c rfl) A0_0 (by simp) rfl rfl rfl rfl rfl rfl rfl (fun v4 s4 p4 A4 => ?_))
    refine fq_' A4 (fl_c rfl) rfl (Xb rfl ?_)
    exact Kj3 _ _ _ ⟨s4, _, rfl, (ue (ue (ue (ue (ue rfl rfl) rfl) rfl) rfl) rfl), (kp0.st p4 rfl)⟩
   refine sbT hb3 ?_
   rw [if_neg (by rw [hb3]; decide)]
   exact Xg rfl (Xg rfl (Xg rfl (Xb rfl (Kj3 _ _ _ ⟨s0, _, rfl, (ue (ue (ue (ue (ue rfl rfl) rfl) rfl) rfl) rfl), kp0⟩))))
  rintro y3 _ _ ⟨s6, _, rfl, rfl, Ky3⟩
  exact Xb rfl (Kj2 _ _ _ ⟨s6, _, rfl, (ue (ue (ue (ue rfl rfl) rfl) rfl) rfl), Ky3⟩)
 rintro y2 _ _ ⟨s7, _, rfl, rfl, Ky2⟩
 refine dn (jc (fun (y8 : Int × Nat) e w => ∃ (s : St) (e0 : Env) (uy8_0 : Value), w = s.w ∧ e = upd (upd e0 3 (.int .u64 y8.1)) 4 uy8_0 ∧ Kp s0 s ∧ FL uy8_0 y8.2) (fun Gj8 Kj8 => ?_) ?_)
 ·
  refine cd rfl (fun h9 => ?_) (fun h9 => ?_)
  ·
   refine sr (Xb rfl (dn (rg (Xi w0_0 rfl (fng_ A0_0 rfl rfl rfl rfl rfl rfl (fun v10 A10 => ?_))))))
   exact asg' v10 rfl (dn (Kj8 _ _ _ ⟨s7, _, v10, rfl, (ue (ue rfl rfl) rfl), Ky2, A10⟩))
  exact sk (Kj8 _ _ _ ⟨s7, _, w0_0, rfl, (ue (ue rfl rfl) rfl), Ky2, A0_0⟩)
 rintro y8 _ _ ⟨s11, _, uy8_0, rfl, rfl, Ky8, Fy8_0⟩
 refine sq (sr (Xi uy8_0 rfl (fq_' Fy8_0 (fl_c rfl) rfl (dn (cd rfl (fun h12 => ?_) (fun h12 => ?_))))))
 ·
  exact sr (Xb rfl (Xb rfl (dn (re rfl func49 rfl (Xj rfl Xd) rfl ⟨_, rfl, rfl, z.ky Ky8⟩))))
 refine sk (sq (sr (Xi uy8_0 rfl (fq_' Fy8_0 (fl_c rfl) rfl (dn (cd rfl (fun h13 => ?_) (fun h13 => ?_)))))))
 ·
  exact sr (Xb rfl (Xb rfl (Xb rfl (dn (re rfl func49 rfl (Xj rfl Xd) rfl ⟨_, rfl, rfl, z.ky Ky8⟩)))))
 refine sk (sr (Xb rfl (dn (sq (bl (lpI (fun (x14 : Nat × Int) e w => ∃ (s : St) (e0 : Env) (ux14_0 : Value), w = s.w ∧ e = upd (upd (upd e0 3 (.int .u64 y8.1)) 4 ux14_0) 5 (iI x14.2) ∧ Kp s0 s ∧ FL ux14_0 x14.1) ⟨s11, _, uy8_0, rfl, (ue (ue (ue rfl rfl) rfl) rfl), Ky8, Fy8_0⟩ (fun g14 ih14 => ?_)))))))
 rintro x14 _ _ ⟨s15, _, ux14_0, rfl, rfl, Kx14, Fx14_0⟩
 unfold spec_FloatBits.b0
 refine sq (sr (Xi ux14_0 rfl (fq_' Fx14_0 (fl_c rfl) rfl (dn (cd rfl (fun h16 => ?_) (fun h16 => ?_))))))
 ·
  refine sk (bl (sr (Xi ux14_0 rfl (fa_ Fx14_0 (fl_c rfl) (by simp) rfl rfl rfl rfl rfl rfl rfl (fun v17 s17 p17 A17 => ?_)))))
  refine asg' v17 rfl (dn (rg (Xb rfl (Xb rfl (Xb rfl (dn (ib ?_)))))))
  exact lb ih14 ⟨s17, _, v17, rfl, (ue (ue (ue rfl rfl) rfl) rfl), (Kx14.st p17 rfl), A17⟩
 refine xt rfl (sgb (sq (bl (lpI (fun (x19 : Nat × Int) e w => ∃ (s : St) (e0 : Env) (ux19_0 : Value), w = s.w ∧ e = upd (upd (upd e0 3 (.int .u64 y8.1)) 4 ux19_0) 5 (iI x19.2) ∧ Kp s0 s ∧ FL ux19_0 x19.1) ⟨s15, _, ux14_0, rfl, (ue (ue (ue rfl rfl) rfl) rfl), Kx14, Fx14_0⟩ (fun g19 ih19 => ?_)))))
 rintro x19 _ _ ⟨s20, _, ux19_0, rfl, rfl, Kx19, Fx19_0⟩
 unfold spec_FloatBits.b1
 refine sq (sr (Xi ux19_0 rfl (fq_' Fx19_0 (fl_c rfl) rfl (Xb rfl (jy [38, 39, 40, 41] [] 41 (.bool ((fcmp .f64 x19.1 (4607182418800017408 : Nat) == some .lt) && (decide (x19.2 > (-1022 : Int))))) rfl (fun Kg21 => ?_) (fun j21 => ?_))))))
 ·
  rcases bft (fcmp .f64 x19.1 (4607182418800017408 : Nat) == some .lt) with hb21 | hb21
  ·
   exact sbT hb21 (Xb rfl (Xb rfl (Xb rfl (Kg21 _ (Ag.put ((Ag.put ((Ag.put (Ag.base rfl) rfl)) rfl)) rfl) (by rw [hb21]; rfl)))))
  exact sbT hb21 (Xg rfl (Xg rfl (Xb rfl (Kg21 _ (Ag.put ((Ag.put ((Ag.put (Ag.base rfl) rfl)) rfl)) rfl) (by rw [hb21]; rfl)))))
 refine dn (cd rfl (fun h22 => ?_) (fun h22 => ?_))
 ·
  refine sk (bl (sr (Xi ux19_0 rfl (fa_ Fx19_0 (fl_c rfl) (by simp) rfl rfl rfl rfl rfl rfl rfl (fun v23 s23 p23 A23 => ?_)))))
  refine asg' v23 rfl (dn (rg (Xb rfl (Xb rfl (Xb rfl (dn (ib ?_)))))))
  exact lb ih19 ⟨s23, _, v23, rfl, (ue (ue (ue rfl rfl) rfl) rfl), (Kx19.st p23 rfl), A23⟩
 refine xt rfl (sgb (sq (sr (Xi ux19_0 rfl (fq_' Fx19_0 (fl_c rfl) rfl (dn (cd rfl (fun h25 => ?_) (fun h25 => ?_))))))))
 ·
  refine sr (Xb rfl (Xi ux19_0 rfl (fa_ Fx19_0 (fl_c rfl) (by simp) rfl rfl rfl rfl rfl rfl rfl (fun v26 s26 p26 A26 => ?_))))
  refine f2i A26 u86 u58 rfl rfl rfl rfl rfl rfl (fun r27 m27 => ?_)
  refine Xb rfl (Xb rfl (dn ?_))
  exact re rfl func49 rfl (Xj rfl Xd) rfl ⟨_, rfl, rfl, z.ky (Kx19.st p26 rfl)⟩
 refine sk (sr (Xb rfl (Xb rfl (Xb rfl (cv u86 u3 rfl rfl rfl rfl rfl rfl (shlK rfl rfl rfl rfl rfl rfl rfl rfl (Xb rfl (Xi ux19_0 rfl (fa_ Fx19_0 (fl_c rfl) (by simp) rfl rfl rfl rfl rfl rfl rfl (fun v29 s29 p29 A29 => ?_))))))))))
 refine fa_ A29 (fl_c rfl) (by simp) rfl rfl rfl rfl rfl rfl rfl (fun v30 s30 p30 A30 => ?_)
 refine f2i A30 u86 u58 rfl rfl rfl rfl rfl rfl (fun r31 m31 => ?_)
 refine Xb rfl (Xb rfl (dn ?_))
 exact re rfl func49 rfl (Xj rfl Xd) rfl ⟨_, rfl, rfl, z.ky (Kx19.st (tr2 p29 p30) rfl)⟩
def spec_ItemOk.f (a0 : Item) : Option (Bool) :=
 (if (((decide (a0.Kind < (0 : Int))) || (decide (a0.Kind > (3 : Int)))) || (decide ((a0.T.length : Int) > (40 : Int)))) = true then (some false) else (if ((a0.Kind != (1 : Int)) && (a0.N != (0 : Int))) = true then (some false) else ((if (a0.Kind != (2 : Int)) = true then ((spec_FloatBits.f a0.F).bind fun r14 => (some (r14 != (0 : Int)))) else (some false)).bind fun y13 => (if y13 = true then (some false) else (some ((a0.Kind == (3 : Int)) || ((a0.T.length : Int) == (0 : Int))))))))
def spec_ItemOk.Q (w : World) (F : Nat → Prop) (r : Bool) (v : Value) (w' : World) : Prop :=
 v = (.bool r) ∧ Ky [] w w'
theorem spec_ItemOk.calls (a0 : Item) (w : World) (F : Nat → Prop) (w0_0 : Value) (w0_1 : Value) (h0_0 : Kd.flt.rd w [w0_0] a0.F F) (h0_1 : Xr.rd w [w0_1] a0.T F) (r : Bool) (m : spec_ItemOk.f a0 = some r) :
  Calls prog 48 #[(.agg #[(iI a0.Kind), (iI a0.N), w0_0, w0_1])] w (RT (spec_ItemOk.Q w F) r) := by
 obtain ⟨s0, rfl, kp0, z⟩ := Xf w F
 have A0_1 := z.rd h0_1
 refine Xc (args := [(.agg #[(iI a0.Kind), (iI a0.N), w0_0, w0_1])]) func48 ntmps48 rfl rfl m ?_
 unfold spec_ItemOk.f
 refine sr (bx' (cs := [(iI a0.Kind), (iI a0.N), w0_0, w0_1]) 40 rfl rfl (fun b2 s2 p2 B2 => ?_))
 refine Xb rfl (dn (sq (sr (Xn fa61_0 rfl (ld' B2 u3 rfl (Xb rfl (Xb rfl (jy [6, 7, 8, 9, 10] [8, 9, 10, 11, 12, 13] 10 (.bool ((decide (a0.Kind < (0 : Int))) || (decide (a0.Kind > (3 : Int))))) rfl (fun Kg4 => ?_) (fun j4 => ?_)))))))))
 ·
  rcases bft (decide (a0.Kind < (0 : Int))) with hb4 | hb4
  ·
   exact sbT hb4 (Xg rfl (Xg rfl (Xg rfl (Xb rfl (Kg4 _ (Ag.put ((Ag.put ((Ag.put ((Ag.put (Ag.base rfl) rfl)) rfl)) rfl)) rfl) (by rw [hb4]; rfl))))))
  exact sbT hb4 (Xn fa61_0 rfl (ld' B2 u3 rfl (Xb rfl (Xb rfl (Kg4 _ (Ag.put ((Ag.put ((Ag.put ((Ag.put (Ag.base rfl) rfl)) rfl)) rfl)) rfl) (by rw [hb4]; rfl))))))
 refine Xb rfl (jy [11, 12, 13, 14, 15, 16] [] 16 (.bool (((decide (a0.Kind < (0 : Int))) || (decide (a0.Kind > (3 : Int)))) || (decide ((a0.T.length : Int) > (40 : Int))))) rfl (fun Kg5 => ?_) (fun j5 => ?_))
 ·
  rcases bft ((decide (a0.Kind < (0 : Int))) || (decide (a0.Kind > (3 : Int)))) with hb5 | hb5
  ·
   exact sbT hb5 (Xg rfl (Xg rfl (Xg rfl (Xg rfl (Xb rfl (Kg5 _ (Ag.put ((Ag.put ((Ag.put ((Ag.put ((Ag.put (Ag.base rfl) rfl)) rfl)) rfl)) rfl)) rfl) (by rw [hb5]; rfl)))))))
  refine sbT hb5 (Xn fa61_3 rfl (ld' B2 u59 rfl ?_))
  exact ln' (A0_1.kp (kp0.st p2 rfl)) u59 rfl (Xb rfl (Xb rfl (Kg5 _ (Ag.put ((Ag.put ((Ag.put ((Ag.put ((Ag.put (Ag.base rfl) rfl)) rfl)) rfl)) rfl)) rfl) (by rw [hb5]; rfl))))
 refine dn (cd rfl (fun h8 => ?_) (fun h8 => ?_))
 ·
  refine sr (Xb rfl (dn ?_))
  exact re rfl func48 rfl (Xj rfl Xd) rfl ⟨_, rfl, rfl, z.ky (kp0.st p2 rfl)⟩
 refine sk (sq (sr (Xn fa61_0 rfl (ld' B2 u3 rfl (Xb rfl (Xb rfl (jy [20, 21, 22, 23, 24] [] 24 (.bool ((a0.Kind != (1 : Int)) && (a0.N != (0 : Int)))) rfl (fun Kg10 => ?_) (fun j10 => ?_))))))))
 ·
  rcases bft (a0.Kind != (1 : Int)) with hb10 | hb10
  ·
   exact sbT hb10 (Xn fa61_1 rfl (ld' B2 u3 rfl (Xb rfl (Xb rfl (Kg10 _ (Ag.put ((Ag.put ((Ag.put ((Ag.put (Ag.base rfl) rfl)) rfl)) rfl)) rfl) (by rw [hb10]; rfl))))))
  exact sbT hb10 (Xg rfl (Xg rfl (Xg rfl (Xb rfl (Kg10 _ (Ag.put ((Ag.put ((Ag.put ((Ag.put (Ag.base rfl) rfl)) rfl)) rfl)) rfl) (by rw [hb10]; rfl))))))
 refine dn (cd rfl (fun h11 => ?_) (fun h11 => ?_))
 ·
  refine sr (Xb rfl (dn ?_))
  exact re rfl func48 rfl (Xj rfl Xd) rfl ⟨_, rfl, rfl, z.ky (kp0.st p2 rfl)⟩
 refine sk (sq (sr (Xn fa61_0 rfl (ld' B2 u3 rfl (Xb rfl (Xb rfl (ji [] (fun (y13 : Bool) e w => ∃ (s : St) (e0 : Env), w = s.w ∧ e = upd (upd e0 1 (pB b2)) 33 (.bool y13) ∧ Kp s0 s ∧ BlF s b2 61 [(iI a0.Kind), (iI a0.N), w0_0, w0_1] 40) (fun Gj13 Kj13 => ?_) ?_)))))))
 ·
  rcases bft (a0.Kind != (2 : Int)) with hb13 | hb13
  ·
   refine sbT hb13 ?_
   rw [if_pos hb13]
   refine Xn fa61_2 rfl (ld' B2 u58 rfl (clV 41 rfl func49 rfl (spec_FloatBits.calls a0.F s2.w (mm [] s2) w0_0 (Xe (s := s2) (Xm h0_0))) (fun r14 s15 p15 n15 => ?_)))
   refine Xb rfl (Xb rfl ?_)
   exact Kj13 _ _ _ ⟨s15, _, rfl, (ue (ue rfl rfl) rfl), (kp0.st (tr2 p2 p15) rfl), (B2.st p15 rfl)⟩
  refine sbT hb13 ?_
  rw [if_neg (by rw [hb13]; decide)]
  refine Xg rfl (Xg rfl (Xg rfl (Xg rfl (Xb rfl ?_))))
  exact Kj13 _ _ _ ⟨s2, _, rfl, (ue (ue rfl rfl) rfl), (kp0.st p2 rfl), B2⟩
 rintro y13 _ _ ⟨s19, _, rfl, rfl, Ky13, By13_b2⟩
 refine dn (cd rfl (fun h21 => ?_) (fun h21 => ?_))
 ·
  exact sr (Xb rfl (dn (re rfl func48 rfl (Xj rfl Xd) rfl ⟨_, rfl, rfl, z.ky Ky13⟩)))
 refine sk (sr (Xn fa61_0 rfl (ld' By13_b2 u3 rfl (Xb rfl (Xb rfl (jy [37, 38, 39, 40, 41, 42] [9] 42 (.bool ((a0.Kind == (3 : Int)) || ((a0.T.length : Int) == (0 : Int)))) rfl (fun Kg22 => ?_) (fun j22 => ?_)))))))
 ·
  rcases bft (a0.Kind == (3 : Int)) with hb22 | hb22
  ·
   exact sbT hb22 (Xg rfl (Xg rfl (Xg rfl (Xg rfl (Xb rfl (Kg22 _ (Ag.put ((Ag.put ((Ag.put ((Ag.put ((Ag.put (Ag.base rfl) rfl)) rfl)) rfl)) rfl)) rfl) (by rw [hb22]; rfl)))))))
  refine sbT hb22 (Xn fa61_3 rfl (ld' By13_b2 u59 rfl ?_))
  exact ln' (A0_1.kp Ky13) u59 rfl (Xb rfl (Xb rfl (Kg22 _ (Ag.put ((Ag.put ((Ag.put ((Ag.put ((Ag.put (Ag.base rfl) rfl)) rfl)) rfl)) rfl)) rfl) (by rw [hb22]; rfl))))
 exact Xb rfl (dn (re rfl func48 rfl (Xj rfl Xd) rfl ⟨_, rfl, rfl, z.ky Ky13⟩))
def spec_KeyOk.f (a0 : Item) : Option (Bool) :=
 ((spec_ItemOk.f a0).bind fun r6 => ((if (r6 && (a0.Kind != (0 : Int))) = true then ((if (fcmp .f64 a0.F (0 : Nat) == some .eq) = true then ((spec_FloatBits.f a0.F).bind fun r13 => (some (r13 != (0 : Int)))) else (some false)).bind fun y12 => (some (!y12))) else (some false)).bind fun y10 => (some y10)))
def spec_KeyOk.Q (w : World) (F : Nat → Prop) (r : Bool) (v : Value) (w' : World) : Prop :=
 v = (.bool r) ∧ Ky [] w w'
theorem spec_KeyOk.calls (a0 : Item) (w : World) (F : Nat → Prop) (w0_0 : Value) (w0_1 : Value) (h0_0 : Kd.flt.rd w [w0_0] a0.F F) (h0_1 : Xr.rd w [w0_1] a0.T F) (r : Bool) (m : spec_KeyOk.f a0 = some r) :
  Calls prog 29 #[(.agg #[(iI a0.Kind), (iI a0.N), w0_0, w0_1])] w (RT (spec_KeyOk.Q w F) r) := by
 obtain ⟨s0, rfl, kp0, z⟩ := Xf w F
 have A0_0 := Xm h0_0
 refine Xc (args := [(.agg #[(iI a0.Kind), (iI a0.N), w0_0, w0_1])]) func29 ntmps29 rfl rfl m ?_
 unfold spec_KeyOk.f
 refine sr (bx' (cs := [(iI a0.Kind), (iI a0.N), w0_0, w0_1]) 40 rfl rfl (fun b2 s2 p2 B2 => ?_))
 refine Xb rfl (dn (sr (lda' (es := [(iI a0.Kind), (iI a0.N), w0_0, w0_1]) B2 u61 z61 rfl ?_)))
 have K4 := kp0.st p2 rfl
 refine clV 41 rfl func48 rfl (spec_ItemOk.calls a0 s2.w (mm [0] s2) w0_0 w0_1 ((Xe (s := s2) A0_0).sub (D := [0]) rfl) ((z.rd h0_1).kp K4)) (fun r6 s7 p7 n7 => ?_)
 refine Xb rfl (jy [5, 6, 7, 8, 9] [7, 8, 9, 10, 11, 12, 13, 14, 15, 16, 17, 18, 19] 9 (.bool (r6 && (a0.Kind != (0 : Int)))) rfl (fun Kg8 => ?_) (fun j8 => ?_))
 ·
  rcases bft r6 with hb8 | hb8
  ·
   refine sbT hb8 (Xn fa61_0 rfl ?_)
   exact ld' (B2.st p7 rfl) u3 rfl (Xb rfl (Xb rfl (Kg8 _ (Ag.put ((Ag.put ((Ag.put ((Ag.put (Ag.base rfl) rfl)) rfl)) rfl)) rfl) (by rw [hb8]; rfl))))
  exact sbT hb8 (Xg rfl (Xg rfl (Xg rfl (Xb rfl (Kg8 _ (Ag.put ((Ag.put ((Ag.put ((Ag.put (Ag.base rfl) rfl)) rfl)) rfl)) rfl) (by rw [hb8]; rfl))))))
 refine Xb rfl (ji [19] (fun (y10 : Bool) e w => ∃ (s : St) (e0 : Env), w = s.w ∧ e = upd e0 21 (.bool y10) ∧ Kp s0 s) (fun Gj10 Kj10 => ?_) ?_)
 ·
  rcases bft (r6 && (a0.Kind != (0 : Int))) with hb10 | hb10
  ·
   refine sbT hb10 ?_
   rw [if_pos hb10]
   refine Xn fa61_2 rfl ?_
   have A11 := B2.st p7 rfl
   refine ld' A11 u58 rfl (fq_' A0_0 (fl_c rfl) rfl (Xb rfl (ji [17, 18, 19] (fun (y12 : Bool) e w => ∃ (s : St) (e0 : Env), w = s.w ∧ e = upd (upd e0 10 (.bool true)) 19 (.bool y12) ∧ Kp s0 s) (fun Gj12 Kj12 => ?_) ?_)))
   ·
    rcases bft (fcmp .f64 a0.F (0 : Nat) == some .eq) with hb12 | hb12
    ·
     refine sbT hb12 ?_
     rw [if_pos hb12]
     refine Xn fa61_2 rfl (ld' A11 u58 rfl (clV 42 rfl func49 rfl (spec_FloatBits.calls a0.F s7.w (mm [] s7) w0_0 (Xe (s := s7) A0_0)) (fun r13 s14 p14 n14 => ?_)))
     refine Xb rfl (Xb rfl ?_)
     exact Kj12 _ _ _ ⟨s14, _, rfl, (ue (ue rfl rfl) rfl), (K4.st (tr2 p7 p14) rfl)⟩
    refine sbT hb12 ?_
    rw [if_neg (by rw [hb12]; decide)]
    refine Xg rfl (Xg rfl (Xg rfl (Xg rfl (Xb rfl ?_))))
    exact Kj12 _ _ _ ⟨s7, _, rfl, (ue (ue rfl rfl) rfl), (K4.st p7 rfl)⟩
   rintro y12 _ _ ⟨s17, _, rfl, rfl, Ky12⟩
   exact Xb rfl (Xb rfl (Kj10 _ _ _ ⟨s17, _, rfl, (ue rfl rfl), Ky12⟩))
  refine sbT hb10 ?_
  rw [if_neg (by rw [hb10]; decide)]
  refine Xg rfl (Xg rfl (Xg rfl (Xg rfl (Xg rfl (Xg rfl (Xg rfl (Xg rfl (Xg rfl (Xg rfl (Xb rfl ?_))))))))))
  exact Kj10 _ _ _ ⟨s7, _, rfl, (ue rfl rfl), (K4.st p7 rfl)⟩
 rintro y10 _ _ ⟨s19, _, rfl, rfl, Ky10⟩
 exact Xb rfl (dn (re rfl func29 rfl (Xj rfl Xd) rfl ⟨_, rfl, rfl, z.ky Ky10⟩))
def spec_FloatRank.f (a0 : Nat) : Option (Int) :=
 ((spec_FloatBits.f a0).bind fun r1 => (if (r1 == (9221120237041090560 : Int)) = true then (some (18446744073709551615 : Int)) else (if (fcmp .f64 a0 (0 : Nat) == some .eq) = true then (some (9223372036854775808 : Int)) else (if ((ishr .u64 r1 (63 : Int)) == (1 : Int)) = true then (some (ixor .u64 (IntKind.max .u64) r1)) else (some (ior .u64 r1 (9223372036854775808 : Int)))))))
def spec_FloatRank.Q (w : World) (F : Nat → Prop) (r : Int) (v : Value) (w' : World) : Prop :=
 v = (.int .u64 r) ∧ Ky [] w w'
theorem spec_FloatRank.calls (a0 : Nat) (w : World) (F : Nat → Prop) (w0_0 : Value) (h0_0 : Kd.flt.rd w [w0_0] a0 F) (r : Int) (m : spec_FloatRank.f a0 = some r) :
  Calls prog 97 #[w0_0] w (RT (spec_FloatRank.Q w F) r) := by
 obtain ⟨s0, rfl, kp0, z⟩ := Xf w F
 have A0_0 := Xm h0_0
 refine Xc (args := [w0_0]) func97 ntmps97 rfl rfl m ?_
 unfold spec_FloatRank.f
 refine sr (Xb rfl (dn (sr (Xi w0_0 rfl (clV 40 rfl func49 rfl (spec_FloatBits.calls a0 s0.w (mm [] s0) w0_0 (Xe (s := s0) A0_0)) (fun r1 s2 p2 n2 => ?_))))))
 refine Xb rfl (dn (sq (sr (Xb rfl (Xb rfl (dn (cd rfl (fun h3 => ?_) (fun h3 => ?_))))))))
 ·
  refine sr (Xb rfl (dn ?_))
  exact re rfl func97 rfl (Xj rfl Xd) rfl ⟨_, rfl, rfl, z.ky (kp0.st p2 rfl)⟩
 refine sk (sq (sr (Xi w0_0 rfl (fq_' A0_0 (fl_c rfl) rfl (dn (cd rfl (fun h5 => ?_) (fun h5 => ?_)))))))
 ·
  refine sr (Xb rfl (dn ?_))
  exact re rfl func97 rfl (Xj rfl Xd) rfl ⟨_, rfl, rfl, z.ky (kp0.st p2 rfl)⟩
 refine sk (sq (sr (Xb rfl (shrK rfl rfl rfl rfl rfl rfl rfl rfl (Xb rfl (dn (cd rfl (fun h7 => ?_) (fun h7 => ?_))))))))
 ·
  refine sr (Xb rfl (Xb rfl (Xb rfl (dn ?_))))
  exact re rfl func97 rfl (Xj rfl Xd) rfl ⟨_, rfl, rfl, z.ky (kp0.st p2 rfl)⟩
 refine sk (sr (Xb rfl (Xb rfl (Xb rfl (dn ?_)))))
 exact re rfl func97 rfl (Xj rfl Xd) rfl ⟨_, rfl, rfl, z.ky (kp0.st p2 rfl)⟩
def spec_FloatCompare.f (a0 : Nat) (a1 : Nat) : Option (Int) :=
 ((spec_FloatRank.f a0).bind fun r1 => ((spec_FloatRank.f a1).bind fun r3 => (if (decide (r1 < r3)) = true then (some (-1 : Int)) else (if (decide (r1 > r3)) = true then (some (1 : Int)) else (some (0 : Int))))))
def spec_FloatCompare.Q (w : World) (F : Nat → Prop) (r : Int) (v : Value) (w' : World) : Prop :=
 v = (iI r) ∧ Ky [] w w'
theorem spec_FloatCompare.calls (a0 : Nat) (a1 : Nat) (w : World) (F : Nat → Prop) (w0_0 : Value) (w1_0 : Value) (h0_0 : Kd.flt.rd w [w0_0] a0 F) (h1_0 : Kd.flt.rd w [w1_0] a1 F) (r : Int) (m : spec_FloatCompare.f a0 a1 = some r) :
  Calls prog 76 #[w0_0, w1_0] w (RT (spec_FloatCompare.Q w F) r) := by
 obtain ⟨s0, rfl, kp0, z⟩ := Xf w F
 refine Xc (args := [w0_0, w1_0]) func76 ntmps76 rfl rfl m ?_
 unfold spec_FloatCompare.f
 refine sr (Xb rfl (dn (sr (Xi w0_0 rfl (clV 40 rfl func97 rfl (spec_FloatRank.calls a0 s0.w (mm [] s0) w0_0 (Xe (s := s0) (Xm h0_0))) (fun r1 s2 p2 n2 => ?_))))))
 refine Xb rfl (dn (sr (Xi w1_0 rfl (clV 41 rfl func97 rfl (spec_FloatRank.calls a1 s2.w (mm [] s2) w1_0 (Xe (s := s2) (Xm h1_0))) (fun r3 s4 p4 n4 => ?_)))))
 refine Xb rfl (dn (sq (sr (Xb rfl (Xb rfl (Xb rfl (dn (cd rfl (fun h5 => ?_) (fun h5 => ?_)))))))))
 ·
  refine sr (Xb rfl (dn ?_))
  exact re rfl func76 rfl (Xj rfl Xd) rfl ⟨_, rfl, rfl, z.ky (kp0.st (tr2 p2 p4) rfl)⟩
 refine sk (sq (sr (Xb rfl (Xb rfl (Xb rfl (dn (cd rfl (fun h7 => ?_) (fun h7 => ?_))))))))
 ·
  refine sr (Xb rfl (dn ?_))
  exact re rfl func76 rfl (Xj rfl Xd) rfl ⟨_, rfl, rfl, z.ky (kp0.st (tr2 p2 p4) rfl)⟩
 refine sk (sr (Xb rfl (dn ?_)))
 exact re rfl func76 rfl (Xj rfl Xd) rfl ⟨_, rfl, rfl, z.ky (kp0.st (tr2 p2 p4) rfl)⟩
def spec_l3texts.b0 (a0 : (List Int)) (a1 : (List Int)) (x3 : Int) : Option (Int ⊕ Int) :=
 (if ((decide (x3 < (a0.length : Int))) && (decide (x3 < (a1.length : Int)))) = true then (if 0 ≤ x3 ∧ x3 < (a0.length : Int) then (if 0 ≤ x3 ∧ x3 < (a1.length : Int) then (if (decide ((at_ a0 x3) < (at_ a1 x3))) = true then (some (Sum.inr (-1 : Int))) else (if 0 ≤ x3 ∧ x3 < (a0.length : Int) then (if 0 ≤ x3 ∧ x3 < (a1.length : Int) then (if (decide ((at_ a0 x3) > (at_ a1 x3))) = true then (some (Sum.inr (1 : Int))) else (some (Sum.inl (IntKind.wrap .i64 (x3 + (1 : Int)))))) else none) else none)) else none) else none) else ((if (decide ((a0.length : Int) < (a1.length : Int))) = true then (some (-1 : Int)) else (if (decide ((a0.length : Int) > (a1.length : Int))) = true then (some (1 : Int)) else (some (0 : Int)))).bind fun o => some (Sum.inr o)))
def spec_l3texts.f (a0 : (List Int)) (a1 : (List Int)) : Option (Int) :=
 (iter (spec_l3texts.b0 a0 a1) (0 : Int))
def spec_l3texts.Q (w : World) (F : Nat → Prop) (r : Int) (v : Value) (w' : World) : Prop :=
 v = (iI r) ∧ Ky [] w w'
theorem spec_l3texts.calls (a0 : (List Int)) (a1 : (List Int)) (w : World) (F : Nat → Prop) (w0_0 : Value) (w1_0 : Value) (h0_0 : Xr.rd w [w0_0] a0 F) (h1_0 : Xr.rd w [w1_0] a1 F) (r : Int) (m : spec_l3texts.f a0 a1 = some r) :
  Calls prog 77 #[w0_0, w1_0] w (RT (spec_l3texts.Q w F) r) := by
 obtain ⟨s0, rfl, kp0, z⟩ := Xf w F
 have A0_0 := z.rd h0_0
 have A1_0 := z.rd h1_0
 refine Xc (args := [w0_0, w1_0]) func77 ntmps77 rfl rfl m ?_
 unfold spec_l3texts.f
 refine sr (Xb rfl (dn (sq (sr (Xb rfl (dn (bl (lpI (fun (x3 : Int) e w => ∃ (s : St) (e0 : Env), w = s.w ∧ e = upd (upd (upd e0 0 w0_0) 1 w1_0) 5 (iI x3) ∧ Kp s0 s) ⟨s0, _, rfl, (ue (ue (ue rfl rfl) rfl) rfl), kp0⟩ (fun g3 ih3 => ?_)))))))))
 rintro x3 _ _ ⟨s4, _, rfl, rfl, Kx3⟩
 unfold spec_l3texts.b0
 refine sq (sr (Xb rfl (Xi w0_0 rfl ?_)))
 have A5 := A0_0.kp Kx3
 refine ln' A5 u59 rfl (Xb rfl (Xb rfl (jy [10, 11, 12, 13, 14, 15] [] 15 (.bool ((decide (x3 < (a0.length : Int))) && (decide (x3 < (a1.length : Int))))) rfl (fun Kg6 => ?_) (fun j6 => ?_))))
 ·
  rcases bft (decide (x3 < (a0.length : Int))) with hb6 | hb6
  ·
   refine sbT hb6 (Xb rfl (Xi w1_0 rfl ?_))
   exact ln' (A1_0.kp Kx3) u59 rfl (Xb rfl (Xb rfl (Kg6 _ (Ag.put ((Ag.put ((Ag.put ((Ag.put ((Ag.put (Ag.base rfl) rfl)) rfl)) rfl)) rfl)) rfl) (by rw [hb6]; rfl))))
  exact sbT hb6 (Xg rfl (Xg rfl (Xg rfl (Xg rfl (Xb rfl (Kg6 _ (Ag.put ((Ag.put ((Ag.put ((Ag.put ((Ag.put (Ag.base rfl) rfl)) rfl)) rfl)) rfl)) rfl) (by rw [hb6]; rfl)))))))
 refine dn (cd rfl (fun h8 => ?_) (fun h8 => ?_))
 ·
  refine sk (sq (bl (sq (sq (zdraw [[], [], [0, 1], [2], [], [], [4, 5], [6], [3, 7]] [some 18, some 19, some 20, some 21, some 22, some 23, some 24, some 25, some 26] [[0], [5], [18, 19], [20], [1], [5], [22, 23], [24], [21, 25]] [0, 1, 2, 3, 4, 5, 6, 7, 8] ⟨by kernel_rfl, by kernel_rfl, by kernel_rfl⟩ (by kernel_rfl) (fun s9 p9 l9 tb9 zd9 => ?_))))))
  have K12 := Kx3.st p9 rfl
  have A13 := A0_0.kp K12
  refine mg fun hg14 => ?_
  obtain ⟨ad14, es14, he14, ce14, ia14⟩ := ix_e A13 rfl hg14.1 hg14.2
  obtain rfl := he14
  have A20 := A1_0.kp K12
  refine mg fun hg21 => ?_
  obtain ⟨ad21, es21, he21, ce21, ia21⟩ := ix_e A20 rfl hg21.1 hg21.2
  obtain rfl := he21
  refine zfin [8] tb9 ((((((((zd9.add 0 18 w0_0 rfl).add 1 19 (iI x3) rfl).add 2 20 (.pointer (some ad14)) rfl).add 3 21 (.int .u8 (at_ a0 x3)) rfl).add 4 22 w1_0 rfl).add 5 23 (iI x3) rfl).add 6 24 (.pointer (some ad21)) rfl).add 7 25 (.int .u8 (at_ a1 x3)) rfl) (Xa (lc0_q ce21 u5 rfl rfl rfl rfl rfl rfl rfl rfl) rfl (Xa (ix_q' A20 u59 z5 hg21.1 hg21.2 ia21 rfl) rfl (Xa (Xh rfl) rfl (Xa (mv_q w1_0 rfl rfl rfl rfl rfl rfl) rfl (Xa (lc0_q ce14 u5 rfl rfl rfl rfl rfl rfl rfl rfl) rfl (Xa (ix_q' A13 u59 z5 hg14.1 hg14.2 ia14 rfl) rfl (Xa (Xh rfl) rfl (Xa (mv_q w0_0 rfl rfl rfl rfl rfl rfl) rfl Xo)))))))) (by kernel_rfl) (by decide) (Xb rfl (dn (cd rfl (fun h25 => ?_) (fun h25 => ?_))))
  ·
   exact sr (Xb rfl (dn (sgi (re rfl func77 rfl (Xj rfl Xd) rfl ⟨_, rfl, rfl, z.ky K12⟩))))
  refine sk (sq (zdraw [[], [], [0, 1], [2], [], [], [4, 5], [6], [3, 7]] [some 27, some 28, some 29, some 30, some 31, some 32, some 33, some 34, some 35] [[0], [5], [27, 28], [29], [1], [5], [31, 32], [33], [30, 34]] [0, 1, 2, 3, 4, 5, 6, 7, 8] ⟨by kernel_rfl, by kernel_rfl, by kernel_rfl⟩ (by kernel_rfl) (fun s26 p26 l26 tb26 zd26 => ?_)))
  have K29 := K12.st p26 rfl
  have A30 := A0_0.kp K29
  refine mg fun hg31 => ?_
  obtain ⟨ad31, es31, he31, ce31, ia31⟩ := ix_e A30 rfl hg31.1 hg31.2
  obtain rfl := he31
  have A37 := A1_0.kp K29
  refine mg fun hg38 => ?_
  obtain ⟨ad38, es38, he38, ce38, ia38⟩ := ix_e A37 rfl hg38.1 hg38.2
  obtain rfl := he38
  refine zfin [8] tb26 ((((((((zd26.add 0 27 w0_0 rfl).add 1 28 (iI x3) rfl).add 2 29 (.pointer (some ad31)) rfl).add 3 30 (.int .u8 (at_ a0 x3)) rfl).add 4 31 w1_0 rfl).add 5 32 (iI x3) rfl).add 6 33 (.pointer (some ad38)) rfl).add 7 34 (.int .u8 (at_ a1 x3)) rfl) (Xa (lc0_q ce38 u5 rfl rfl rfl rfl rfl rfl rfl rfl) rfl (Xa (ix_q' A37 u59 z5 hg38.1 hg38.2 ia38 rfl) rfl (Xa (Xh rfl) rfl (Xa (mv_q w1_0 rfl rfl rfl rfl rfl rfl) rfl (Xa (lc0_q ce31 u5 rfl rfl rfl rfl rfl rfl rfl rfl) rfl (Xa (ix_q' A30 u59 z5 hg31.1 hg31.2 ia31 rfl) rfl (Xa (Xh rfl) rfl (Xa (mv_q w0_0 rfl rfl rfl rfl rfl rfl) rfl Xo)))))))) (by kernel_rfl) (by decide) (Xb rfl (dn (cd rfl (fun h42 => ?_) (fun h42 => ?_))))
  ·
   exact sr (Xb rfl (dn (sgi (re rfl func77 rfl (Xj rfl Xd) rfl ⟨_, rfl, rfl, z.ky K29⟩))))
  exact sk (ib (rg (Xb rfl (Xb rfl (Xb rfl (dn (lb ih3 ⟨s26, _, rfl, (ue (ue (ue rfl rfl) rfl) rfl), K29⟩)))))))
 refine xt rfl (sgb (sq (sr (Xi w0_0 rfl (ln' A5 u59 rfl (Xi w1_0 rfl ?_))))))
 have A43 := A1_0.kp Kx3
 refine ln' A43 u59 rfl (Xb rfl (dn (cd rfl (fun h44 => ?_) (fun h44 => ?_))))
 ·
  exact sr (Xb rfl (dn (re rfl func77 rfl (Xj rfl Xd) rfl ⟨_, rfl, rfl, z.ky Kx3⟩)))
 refine sk (sq (sr (Xi w0_0 rfl (ln' A5 u59 rfl (Xi w1_0 rfl (ln' A43 u59 rfl (Xb rfl (dn (cd rfl (fun h45 => ?_) (fun h45 => ?_))))))))))
 ·
  exact sr (Xb rfl (dn (re rfl func77 rfl (Xj rfl Xd) rfl ⟨_, rfl, rfl, z.ky Kx3⟩)))
 exact sk (sr (Xb rfl (dn (re rfl func77 rfl (Xj rfl Xd) rfl ⟨_, rfl, rfl, z.ky Kx3⟩))))
def spec_ItemCompare.f (a0 : Item) (a1 : Item) : Option (Int) :=
 ((spec_ItemOk.f a0).bind fun r10 => ((if (!r10) = true then (some true) else ((spec_ItemOk.f a1).bind fun r19 => (some (!r19)))).bind fun y12 => (if y12 = true then (some (-2 : Int)) else (if (a0.Kind != a1.Kind) = true then (if (decide (a0.Kind < a1.Kind)) = true then (some (-1 : Int)) else (some (1 : Int))) else (if (a0.N != a1.N) = true then (if (decide (a0.N < a1.N)) = true then (some (-1 : Int)) else (some (1 : Int))) else ((spec_FloatCompare.f a0.F a1.F).bind fun r32 => (if (r32 != (0 : Int)) = true then (some r32) else ((spec_l3texts.f a0.T a1.T).bind fun r41 => (some r41)))))))))
def spec_ItemCompare.Q (w : World) (F : Nat → Prop) (r : Int) (v : Value) (w' : World) : Prop :=
 v = (iI r) ∧ Ky [] w w'
theorem spec_ItemCompare.calls (a0 : Item) (a1 : Item) (w : World) (F : Nat → Prop) (w0_0 : Value) (w0_1 : Value) (w1_0 : Value) (w1_1 : Value) (h0_0 : Kd.flt.rd w [w0_0] a0.F F) (h0_1 : Xr.rd w [w0_1] a0.T F) (h1_0 : Kd.flt.rd w [w1_0] a1.F F) (h1_1 : Xr.rd w [w1_1] a1.T F) (r : Int) (m : spec_ItemCompare.f a0 a1 = some r) :
  Calls prog 47 #[(.agg #[(iI a0.Kind), (iI a0.N), w0_0, w0_1]), (.agg #[(iI a1.Kind), (iI a1.N), w1_0, w1_1])] w (RT (spec_ItemCompare.Q w F) r) := by
 obtain ⟨s0, rfl, kp0, z⟩ := Xf w F
 have A0_0 := Xm h0_0
 have A0_1 := z.rd h0_1
 have A1_0 := Xm h1_0
 have A1_1 := z.rd h1_1
 refine Xc (args := [(.agg #[(iI a0.Kind), (iI a0.N), w0_0, w0_1]), (.agg #[(iI a1.Kind), (iI a1.N), w1_0, w1_1])]) func47 ntmps47 rfl rfl m ?_
 unfold spec_ItemCompare.f
 refine sr (bx' (cs := [(iI a0.Kind), (iI a0.N), w0_0, w0_1]) 40 rfl rfl (fun b3 s3 p3 B3 => ?_))
 refine bx' (cs := [(iI a1.Kind), (iI a1.N), w1_0, w1_1]) 41 rfl rfl (fun b5 s5 p5 B5 => ?_)
 refine Xb rfl (dn (sq (sr ?_)))
 have A7 := B3.st p5 rfl
 refine lda' (es := [(iI a0.Kind), (iI a0.N), w0_0, w0_1]) A7 u61 z61 rfl ?_
 have K8 := kp0.st (tr2 p3 p5) rfl
 refine clV 42 rfl func48 rfl (spec_ItemOk.calls a0 s5.w (mm [0] s5) w0_0 w0_1 ((Xe (s := s5) A0_0).sub (D := [0]) rfl) (A0_1.kp K8)) (fun r10 s11 p11 n11 => ?_)
 refine Xb rfl (Xb rfl (ji [] (fun (y12 : Bool) e w => ∃ (s : St) (e0 : Env), w = s.w ∧ e = upd (upd (upd e0 2 (pB b3)) 3 (pB b5)) 13 (.bool y12) ∧ Kp s0 s ∧ BlF s b5 61 [(iI a1.Kind), (iI a1.N), w1_0, w1_1] 41 ∧ BlF s b3 61 [(iI a0.Kind), (iI a0.N), w0_0, w0_1] 40) (fun Gj12 Kj12 => ?_) ?_))
 ·
  rcases bft (!r10) with hb12 | hb12
  ·
   refine sbT hb12 ?_
   rw [if_pos hb12]
   refine Xg rfl (Xg rfl (Xg rfl (Xb rfl ?_)))
   exact Kj12 _ _ _ ⟨s11, _, rfl, (ue (ue (ue rfl rfl) rfl) rfl), (K8.st p11 rfl), (B5.st p11 rfl), (A7.st p11 rfl)⟩
  refine sbT hb12 ?_
  rw [if_neg (by rw [hb12]; decide)]
  have A16 := B5.st p11 rfl
  refine lda' (es := [(iI a1.Kind), (iI a1.N), w1_0, w1_1]) A16 u61 z61 rfl ?_
  have K17 := K8.st p11 rfl
  refine clV 43 rfl func48 rfl (spec_ItemOk.calls a1 s11.w (mm [0] s11) w1_0 w1_1 ((Xe (s := s11) A1_0).sub (D := [0]) rfl) (A1_1.kp K17)) (fun r19 s20 p20 n20 => ?_)
  refine Xb rfl (Xb rfl ?_)
  exact Kj12 _ _ _ ⟨s20, _, rfl, (ue (ue (ue rfl rfl) rfl) rfl), (K17.st p20 rfl), (A16.st p20 rfl), (A7.st (tr2 p11 p20) rfl)⟩
 rintro y12 _ _ ⟨s24, _, rfl, rfl, Ky12, By12_b5, By12_b3⟩
 refine dn (cd rfl (fun h27 => ?_) (fun h27 => ?_))
 ·
  exact sr (Xb rfl (dn (re rfl func47 rfl (Xj rfl Xd) rfl ⟨_, rfl, rfl, z.ky Ky12⟩)))
 refine sk (sq (sr (Xn fa61_0 rfl (ld' By12_b3 u3 rfl (Xn fa61_0 rfl (ld' By12_b5 u3 rfl (Xb rfl (dn (cd rfl (fun h28 => ?_) (fun h28 => ?_))))))))))
 ·
  refine sq (sr (Xn fa61_0 rfl (ld' By12_b3 u3 rfl (Xn fa61_0 rfl (ld' By12_b5 u3 rfl (Xb rfl (dn (cd rfl (fun h29 => ?_) (fun h29 => ?_)))))))))
  ·
   exact sr (Xb rfl (dn (re rfl func47 rfl (Xj rfl Xd) rfl ⟨_, rfl, rfl, z.ky Ky12⟩)))
  exact sk (sr (Xb rfl (dn (re rfl func47 rfl (Xj rfl Xd) rfl ⟨_, rfl, rfl, z.ky Ky12⟩))))
 refine sk (sq (sr (Xn fa61_1 rfl (ld' By12_b3 u3 rfl (Xn fa61_1 rfl (ld' By12_b5 u3 rfl (Xb rfl (dn (cd rfl (fun h30 => ?_) (fun h30 => ?_))))))))))
 ·
  refine sq (sr (Xn fa61_1 rfl (ld' By12_b3 u3 rfl (Xn fa61_1 rfl (ld' By12_b5 u3 rfl (Xb rfl (dn (cd rfl (fun h31 => ?_) (fun h31 => ?_)))))))))
  ·
   exact sr (Xb rfl (dn (re rfl func47 rfl (Xj rfl Xd) rfl ⟨_, rfl, rfl, z.ky Ky12⟩)))
  exact sk (sr (Xb rfl (dn (re rfl func47 rfl (Xj rfl Xd) rfl ⟨_, rfl, rfl, z.ky Ky12⟩))))
 refine sk (sr (Xn fa61_2 rfl (ld' By12_b3 u58 rfl (Xn fa61_2 rfl (ld' By12_b5 u58 rfl (clV 44 rfl func76 rfl (spec_FloatCompare.calls a0.F a1.F s24.w (mm [] s24) w0_0 w1_0 (Xe (s := s24) A0_0) (Xe (s := s24) A1_0)) (fun r32 s33 p33 n33 => ?_)))))))
 refine Xb rfl (dn (sq (sr (Xb rfl (Xb rfl (dn (cd rfl (fun h34 => ?_) (fun h34 => ?_))))))))
 ·
  refine sr (Xb rfl (Xb rfl (dn ?_)))
  exact re rfl func47 rfl (Xj rfl Xd) rfl ⟨_, rfl, rfl, z.ky (Ky12.st p33 rfl)⟩
 refine sk (sr (Xn fa61_3 rfl ?_))
 refine ld' (By12_b3.st p33 rfl) u59 rfl (Xn fa61_3 rfl ?_)
 refine ld' (By12_b5.st p33 rfl) u59 rfl ?_
 have K38 := Ky12.st p33 rfl
 refine clV 45 rfl func77 rfl (spec_l3texts.calls a0.T a1.T s33.w (mm [0] s33) w0_1 w1_1 (A0_1.kp K38) (A1_1.kp K38)) (fun r41 s42 p42 n42 => ?_)
 refine Xb rfl (dn ?_)
 exact re rfl func47 rfl (Xj rfl Xd) rfl ⟨_, rfl, rfl, z.ky (K38.st p42 rfl)⟩
def spec_SpanOk.f (a0 : Span) : Option (Bool) :=
 ((spec_KeyOk.f a0.From).bind fun r7 => ((if r7 = true then ((spec_KeyOk.f a0.To).bind fun r13 => (some r13)) else (some false)).bind fun y9 => ((if y9 = true then ((spec_ItemCompare.f a0.From a0.To).bind fun r24 => (some (decide (r24 ≤ (0 : Int))))) else (some false)).bind fun y21 => (some y21))))
def spec_SpanOk.Q (w : World) (F : Nat → Prop) (r : Bool) (v : Value) (w' : World) : Prop :=
 v = (.bool r) ∧ Ky [] w w'
theorem spec_SpanOk.calls (a0 : Span) (w : World) (F : Nat → Prop) (w0_0 : Value) (w0_1 : Value) (w0_2 : Value) (w0_3 : Value) (h0_0 : Kd.flt.rd w [w0_0] a0.From.F F) (h0_1 : Xr.rd w [w0_1] a0.From.T F) (h0_2 : Kd.flt.rd w [w0_2] a0.To.F F) (h0_3 : Xr.rd w [w0_3] a0.To.T F) (r : Bool) (m : spec_SpanOk.f a0 = some r) :
  Calls prog 28 #[(.agg #[(iI a0.From.Kind), (iI a0.From.N), w0_0, w0_1, (iI a0.To.Kind), (iI a0.To.N), w0_2, w0_3])] w (RT (spec_SpanOk.Q w F) r) := by
 obtain ⟨s0, rfl, kp0, z⟩ := Xf w F
 have A0_0 := Xm h0_0
 have A0_1 := z.rd h0_1
 have A0_2 := Xm h0_2
 have A0_3 := z.rd h0_3
 refine Xc (args := [(.agg #[(iI a0.From.Kind), (iI a0.From.N), w0_0, w0_1, (iI a0.To.Kind), (iI a0.To.N), w0_2, w0_3])]) func28 ntmps28 rfl rfl m ?_
 unfold spec_SpanOk.f
 refine sr (bx' (cs := [(iI a0.From.Kind), (iI a0.From.N), w0_0, w0_1, (iI a0.To.Kind), (iI a0.To.N), w0_2, w0_3]) 40 rfl rfl (fun b3 s3 p3 B3 => ?_))
 refine Xb rfl (dn (sr (Xn fa63_0 rfl (lda' (es := [(iI a0.From.Kind), (iI a0.From.N), w0_0, w0_1]) B3 u61 z61 rfl ?_))))
 have K5 := kp0.st p3 rfl
 refine clV 41 rfl func29 rfl (spec_KeyOk.calls a0.From s3.w (mm [0] s3) w0_0 w0_1 ((Xe (s := s3) A0_0).sub (D := [0]) rfl) (A0_1.kp K5)) (fun r7 s8 p8 n8 => ?_)
 refine Xb rfl (ji [8, 9, 10, 11, 12, 13, 14, 15, 16] (fun (y9 : Bool) e w => ∃ (s : St) (e0 : Env), w = s.w ∧ e = upd (upd e0 1 (pB b3)) 10 (.bool y9) ∧ Kp s0 s ∧ BlF s b3 63 [(iI a0.From.Kind), (iI a0.From.N), w0_0, w0_1, (iI a0.To.Kind), (iI a0.To.N), w0_2, w0_3] 40) (fun Gj9 Kj9 => ?_) ?_)
 ·
  rcases bft r7 with hb9 | hb9
  ·
   refine sbT hb9 ?_
   rw [if_pos hb9]
   refine Xn fa63_1 rfl ?_
   have A10 := B3.st p8 rfl
   refine lda' (es := [(iI a0.To.Kind), (iI a0.To.N), w0_2, w0_3]) A10 u61 z61 rfl ?_
   have K11 := K5.st p8 rfl
   refine clV 42 rfl func29 rfl (spec_KeyOk.calls a0.To s8.w (mm [0] s8) w0_2 w0_3 ((Xe (s := s8) A0_2).sub (D := [0]) rfl) (A0_3.kp K11)) (fun r13 s14 p14 n14 => ?_)
   exact Xb rfl (Kj9 _ _ _ ⟨s14, _, rfl, (ue (ue rfl rfl) rfl), (K11.st p14 rfl), (A10.st p14 rfl)⟩)
  refine sbT hb9 ?_
  rw [if_neg (by rw [hb9]; decide)]
  refine Xg rfl (Xg rfl (Xg rfl (Xb rfl ?_)))
  exact Kj9 _ _ _ ⟨s8, _, rfl, (ue (ue rfl rfl) rfl), (K5.st p8 rfl), (B3.st p8 rfl)⟩
 rintro y9 _ _ ⟨s19, _, rfl, rfl, Ky9, By9_b3⟩
 refine Xb rfl (ji [16] (fun (y21 : Bool) e w => ∃ (s : St) (e0 : Env), w = s.w ∧ e = upd e0 18 (.bool y21) ∧ Kp s0 s) (fun Gj21 Kj21 => ?_) ?_)
 ·
  rcases bft y9 with hb21 | hb21
  ·
   refine sbT hb21 ?_
   rw [if_pos hb21]
   refine Xn fa63_0 rfl (lda' (es := [(iI a0.From.Kind), (iI a0.From.N), w0_0, w0_1]) By9_b3 u61 z61 rfl (Xn fa63_1 rfl (lda' (es := [(iI a0.To.Kind), (iI a0.To.N), w0_2, w0_3]) By9_b3 u61 z61 rfl ?_)))
   refine clV 43 rfl func47 rfl (spec_ItemCompare.calls a0.From a0.To s19.w (mm [0] s19) w0_0 w0_1 w0_2 w0_3 ((Xe (s := s19) A0_0).sub (D := [0]) rfl) (A0_1.kp Ky9) ((Xe (s := s19) A0_2).sub (D := [0]) rfl) (A0_3.kp Ky9)) (fun r24 s25 p25 n25 => ?_)
   refine Xb rfl (Xb rfl ?_)
   exact Kj21 _ _ _ ⟨s25, _, rfl, (ue rfl rfl), (Ky9.st p25 rfl)⟩
  refine sbT hb21 ?_
  rw [if_neg (by rw [hb21]; decide)]
  exact Xg rfl (Xg rfl (Xg rfl (Xg rfl (Xg rfl (Xg rfl (Xb rfl (Kj21 _ _ _ ⟨s19, _, rfl, (ue rfl rfl), Ky9⟩)))))))
 rintro y21 _ _ ⟨s27, _, rfl, rfl, Ky21⟩
 exact Xb rfl (dn (re rfl func28 rfl (Xj rfl Xd) rfl ⟨_, rfl, rfl, z.ky Ky21⟩))
def spec_DeedsOk.b3 (a0 : (List Deed)) (x3 : (List Int) × Int) (x62 : Int) : Option (Int ⊕ ((List Int) × Int ⊕ Bool)) :=
 (if (decide (x62 < (x3.1.length : Int))) = true then (if 0 ≤ x62 ∧ x62 < (x3.1.length : Int) then ((if ((at_ x3.1 x62) == (at_ a0 x3.2).Begun) = true then (some true) else (if 0 ≤ x62 ∧ x62 < (x3.1.length : Int) then (some ((at_ x3.1 x62) == (at_ a0 x3.2).Ended)) else none)).bind fun y79 => (if y79 = true then (some (Sum.inr (Sum.inr false))) else (some (Sum.inl (IntKind.wrap .i64 (x62 + (1 : Int))))))) else none) else ((if x3.1.length + ([(at_ a0 x3.2).Begun]).length ≤ Lim then (if (x3.1 ++ [(at_ a0 x3.2).Begun]).length + ([(at_ a0 x3.2).Ended]).length ≤ Lim then (some (Sum.inl (((x3.1 ++ [(at_ a0 x3.2).Begun]) ++ [(at_ a0 x3.2).Ended]), (IntKind.wrap .i64 (x3.2 + (1 : Int)))))) else none) else none).bind fun o => some (Sum.inr o)))
def spec_DeedsOk.b2 (a0 : (List Deed)) (x3 : (List Int) × Int) (x46 : Int) : Option (Int ⊕ ((List Int) × Int ⊕ Bool)) :=
 (if (decide (x46 < (((at_ a0 x3.2).Writes).length : Int))) = true then (if 0 ≤ x46 ∧ x46 < (((at_ a0 x3.2).Writes).length : Int) then ((spec_KeyOk.f (at_ ((at_ a0 x3.2).Writes) x46)).bind fun r53 => (if (!r53) = true then (some (Sum.inr (Sum.inr false))) else (some (Sum.inl (IntKind.wrap .i64 (x46 + (1 : Int))))))) else none) else ((iter (spec_DeedsOk.b3 a0 x3) (0 : Int)).bind fun o => some (Sum.inr o)))
def spec_DeedsOk.b1 (a0 : (List Deed)) (x3 : (List Int) × Int) (x25 : Int) : Option (Int ⊕ ((List Int) × Int ⊕ Bool)) :=
 (if (decide (x25 < (((at_ a0 x3.2).Reads).length : Int))) = true then (if 0 ≤ x25 ∧ x25 < (((at_ a0 x3.2).Reads).length : Int) then ((spec_SpanOk.f (Span.mk ((at_ ((at_ a0 x3.2).Reads) x25).From) ((at_ ((at_ a0 x3.2).Reads) x25).To))).bind fun r37 => (if (!r37) = true then (some (Sum.inr (Sum.inr false))) else (some (Sum.inl (IntKind.wrap .i64 (x25 + (1 : Int))))))) else none) else ((iter (spec_DeedsOk.b2 a0 x3) (0 : Int)).bind fun o => some (Sum.inr o)))
def spec_DeedsOk.b0 (a0 : (List Deed)) (x3 : (List Int) × Int) : Option (((List Int) × Int) ⊕ Bool) :=
 (if (decide (x3.2 < (a0.length : Int))) = true then (if 0 ≤ x3.2 ∧ x3.2 < (a0.length : Int) then (if ((((decide ((at_ a0 x3.2).Begun < (1 : Int))) || (decide ((at_ a0 x3.2).Ended ≤ (at_ a0 x3.2).Begun))) || (decide ((((at_ a0 x3.2).Reads).length : Int) > (200 : Int)))) || (decide ((((at_ a0 x3.2).Writes).length : Int) > (200 : Int)))) = true then (some (Sum.inr false)) else (iter (spec_DeedsOk.b1 a0 x3) (0 : Int))) else none) else ((some true).bind fun o => some (Sum.inr o)))
def spec_DeedsOk.f (a0 : (List Deed)) : Option (Bool) :=
 (if (decide ((a0.length : Int) > (100 : Int))) = true then (some false) else (iter (spec_DeedsOk.b0 a0) (([] : (List Int)), (0 : Int))))
def spec_DeedsOk.Q (w : World) (F : Nat → Prop) (r : Bool) (v : Value) (w' : World) : Prop :=
 v = (.bool r) ∧ Ky [] w w'
theorem spec_DeedsOk.calls (a0 : (List Deed)) (w : World) (F : Nat → Prop) (w0_0 : Value) (h0_0 : Xu.rd w [w0_0] a0 F) (r : Bool) (m : spec_DeedsOk.f a0 = some r) :
  Calls prog 14 #[w0_0] w (RT (spec_DeedsOk.Q w F) r) := by
 obtain ⟨s0, rfl, kp0, z⟩ := Xf w F
 have A0_0 := z.rd h0_0
 refine Xc (args := [w0_0]) func14 ntmps14 rfl rfl m ?_
 unfold spec_DeedsOk.f
 refine sr (Xb rfl (dn (sq (sr (Xi w0_0 rfl (ln' A0_0 u26 rfl (Xb rfl (dn (cd rfl (fun h2 => ?_) (fun h2 => ?_))))))))))
 ·
  exact sr (Xb rfl (dn (re rfl func14 rfl (Xj rfl Xd) rfl ⟨_, rfl, rfl, z.ky kp0⟩)))
 refine sk (sr (Xb rfl (dn (sq (sr (Xb rfl (dn (bl (lpI (fun (x3 : (List Int) × Int) e w => ∃ (s : St) (e0 : Env) (vx3_0 : Value), w = s.w ∧ e = upd (upd (upd e0 0 w0_0) 3 vx3_0) 4 (iI x3.2) ∧ Kp s0 s ∧ OwF Xw s [vx3_0] x3.1 40) ⟨s0, _, (.slice none 0 0), rfl, (ue (ue (ue rfl rfl) rfl) rfl), kp0, (ow_nil 3 (Kd.int .i64) _ 40)⟩ (fun g3 ih3 => ?_))))))))))
 rintro x3 _ _ ⟨s4, _, vx3_0, rfl, rfl, Kx3, Ax3_0⟩
 unfold spec_DeedsOk.b0
 refine sq (sr (Xb rfl (Xi w0_0 rfl ?_)))
 have A6 := A0_0.kp Kx3
 refine ln' A6 u26 rfl (Xb rfl (dn (cd rfl (fun h7 => ?_) (fun h7 => ?_))))
 ·
  refine sk (sq (bl (sr (Xi w0_0 rfl (Xb rfl (ix' A6 u26 z43 rfl (fun ad8 es8 h0_8 h1_8 he8 ce8 ia8 => ?_)))))))
  obtain ⟨v8_0, v8_1, rfl, A8_0, A8_1⟩ := op43 he8
  refine lca ce8 u43 z43 rfl rfl rfl rfl rfl rfl rfl (al (cs := [(iI 0), (iI 0), (iI 0), (.slice none 0 0), (.slice none 0 0)]) 41 rfl rfl rfl rfl rfl o43 rfl (fun b12 s12 p12 B12 => ?_))
  have A14 := A8_1.st p12 rfl
  have A15 := A8_0.st p12 rfl
  refine sva (vs := [(iI ((at_ a0 x3.2).Xid)), (iI ((at_ a0 x3.2).Begun)), (iI ((at_ a0 x3.2).Ended)), v8_0, v8_1]) B12 z43 rfl rfl rfl rfl rfl rfl (Xk rfl (Xk rfl (Xk rfl (Xk A15.one (Xk A14.one on_nil))))) rfl (fun s16 p16 B16 => ?_)
  refine dn (sq (sr (Xn fa43_1 rfl (ld' B16 u3 rfl (Xb rfl (Xb rfl (jy [25, 26, 27, 28, 29, 30, 31] [10, 11, 12, 13, 14, 15, 16, 17, 18, 19, 20, 21] 31 (.bool ((decide ((at_ a0 x3.2).Begun < (1 : Int))) || (decide ((at_ a0 x3.2).Ended ≤ (at_ a0 x3.2).Begun)))) rfl (fun Kg18 => ?_) (fun j18 => ?_))))))))
  ·
   rcases bft (decide ((at_ a0 x3.2).Begun < (1 : Int))) with hb18 | hb18
   ·
    exact sbT hb18 (Xg rfl (Xg rfl (Xg rfl (Xg rfl (Xg rfl (Xb rfl (Kg18 _ (Ag.put ((Ag.put ((Ag.put ((Ag.put ((Ag.put ((Ag.put (Ag.base rfl) rfl)) rfl)) rfl)) rfl)) rfl)) rfl) (by rw [hb18]; rfl))))))))
   exact sbT hb18 (Xn fa43_2 rfl (ld' B16 u3 rfl (Xn fa43_1 rfl (ld' B16 u3 rfl (Xb rfl (Xb rfl (Kg18 _ (Ag.put ((Ag.put ((Ag.put ((Ag.put ((Ag.put ((Ag.put (Ag.base rfl) rfl)) rfl)) rfl)) rfl)) rfl)) rfl) (by rw [hb18]; rfl))))))))
  refine Xb rfl (jy [32, 33, 34, 35, 36, 37] [16, 17, 18, 19, 20, 21] 37 (.bool (((decide ((at_ a0 x3.2).Begun < (1 : Int))) || (decide ((at_ a0 x3.2).Ended ≤ (at_ a0 x3.2).Begun))) || (decide ((((at_ a0 x3.2).Reads).length : Int) > (200 : Int))))) rfl (fun Kg19 => ?_) (fun j19 => ?_))
  ·
   rcases bft ((decide ((at_ a0 x3.2).Begun < (1 : Int))) || (decide ((at_ a0 x3.2).Ended ≤ (at_ a0 x3.2).Begun))) with hb19 | hb19
   ·
    exact sbT hb19 (Xg rfl (Xg rfl (Xg rfl (Xg rfl (Xb rfl (Kg19 _ (Ag.put ((Ag.put ((Ag.put ((Ag.put ((Ag.put (Ag.base rfl) rfl)) rfl)) rfl)) rfl)) rfl) (by rw [hb19]; rfl)))))))
   refine sbT hb19 (Xn fa43_3 rfl (ld' B16 u40 rfl ?_))
   exact ln' (A15.st p16 rfl) u40 rfl (Xb rfl (Xb rfl (Kg19 _ (Ag.put ((Ag.put ((Ag.put ((Ag.put ((Ag.put (Ag.base rfl) rfl)) rfl)) rfl)) rfl)) rfl) (by rw [hb19]; rfl))))
  refine Xb rfl (jy [38, 39, 40, 41, 42, 43] [] 43 (.bool ((((decide ((at_ a0 x3.2).Begun < (1 : Int))) || (decide ((at_ a0 x3.2).Ended ≤ (at_ a0 x3.2).Begun))) || (decide ((((at_ a0 x3.2).Reads).length : Int) > (200 : Int)))) || (decide ((((at_ a0 x3.2).Writes).length : Int) > (200 : Int))))) rfl (fun Kg21 => ?_) (fun j21 => ?_))
  ·
   rcases bft (((decide ((at_ a0 x3.2).Begun < (1 : Int))) || (decide ((at_ a0 x3.2).Ended ≤ (at_ a0 x3.2).Begun))) || (decide ((((at_ a0 x3.2).Reads).length : Int) > (200 : Int)))) with hb21 | hb21
   ·
    exact sbT hb21 (Xg rfl (Xg rfl (Xg rfl (Xg rfl (Xb rfl (Kg21 _ (Ag.put ((Ag.put ((Ag.put ((Ag.put ((Ag.put (Ag.base rfl) rfl)) rfl)) rfl)) rfl)) rfl) (by rw [hb21]; rfl)))))))
   refine sbT hb21 (Xn fa43_4 rfl (ld' B16 u41 rfl ?_))
   exact ln' (A14.st p16 rfl) u41 rfl (Xb rfl (Xb rfl (Kg21 _ (Ag.put ((Ag.put ((Ag.put ((Ag.put ((Ag.put (Ag.base rfl) rfl)) rfl)) rfl)) rfl)) rfl) (by rw [hb21]; rfl))))
  refine dn (cd rfl (fun h23 => ?_) (fun h23 => ?_))
  ·
   refine sr (Xb rfl (dn (sgi ?_)))
   exact re rfl func14 rfl (Xj rfl Xd) rfl ⟨_, rfl, rfl, z.ky (Kx3.st (tr2 p12 p16) rfl)⟩
  refine sk (sq (sr (Xb rfl (dn (bl ?_)))))
  refine lpI (fun (x25 : Int) e w => ∃ (s : St) (e0 : Env), w = s.w ∧ e = upd (upd (upd (upd (upd e0 0 w0_0) 3 vx3_0) 4 (iI x3.2)) 5 (pB b12)) 6 (iI x25) ∧ Kp s0 s ∧ BlF s b12 43 [(iI ((at_ a0 x3.2).Xid)), (iI ((at_ a0 x3.2).Begun)), (iI ((at_ a0 x3.2).Ended)), v8_0, v8_1] 41 ∧ OwF Xw s [vx3_0] x3.1 40 ∧ RdF Xs s [v8_0] ((at_ a0 x3.2).Reads) [0] ∧ RdF Xt s [v8_1] ((at_ a0 x3.2).Writes) [0]) ⟨s16, _, rfl, (ue (ue (ue (ue (ue rfl rfl) rfl) rfl) rfl) rfl), (Kx3.st (tr2 p12 p16) rfl), B16, (Ax3_0.st (tr2 p12 p16) rfl), (A15.st p16 rfl), (A14.st p16 rfl)⟩ (fun g25 ih25 => ?_)
  rintro x25 _ _ ⟨s30, _, rfl, rfl, Kx25, Bx25_b12, Cx25_5, Cx25_9, Cx25_10⟩
  unfold spec_DeedsOk.b1
  refine sq (sr (Xb rfl (Xn fa43_3 rfl (ld' Bx25_b12 u40 rfl (ln' Cx25_9 u40 rfl (Xb rfl (dn (cd rfl (fun h32 => ?_) (fun h32 => ?_)))))))))
  ·
   refine sk (sq (bl (sr (Xn fa43_3 rfl (ld' Bx25_b12 u40 rfl (Xb rfl (ix' Cx25_9 u40 z63 rfl (fun ad33 es33 h0_33 h1_33 he33 ce33 ia33 => ?_))))))))
   obtain ⟨v33_0, v33_1, v33_2, v33_3, rfl, A33_0, A33_1, A33_2, A33_3⟩ := op63 he33
   refine lca ce33 u63 z63 rfl rfl rfl rfl rfl rfl rfl (clV 42 rfl func28 rfl (spec_SpanOk.calls (Span.mk ((at_ ((at_ a0 x3.2).Reads) x25).From) ((at_ ((at_ a0 x3.2).Reads) x25).To)) s30.w (mm [0] s30) v33_0 v33_1 v33_2 v33_3 ((Xe (s := s30) A33_0).sub (D := [0]) rfl) A33_1 ((Xe (s := s30) A33_2).sub (D := [0]) rfl) A33_3) (fun r37 s38 p38 n38 => ?_))
   refine Xb rfl (dn (cd rfl (fun h39 => ?_) (fun h39 => ?_)))
   ·
    refine sr (Xb rfl (dn (sgi (sgi ?_))))
    exact re rfl func14 rfl (Xj rfl Xd) rfl ⟨_, rfl, rfl, z.ky (Kx25.st p38 rfl)⟩
   refine sk (ib (rg (Xb rfl (Xb rfl (Xb rfl (dn ?_))))))
   exact lb ih25 ⟨s38, _, rfl, (ue (ue (ue (ue (ue rfl rfl) rfl) rfl) rfl) rfl), (Kx25.st p38 rfl), (Bx25_b12.st p38 rfl), (Cx25_5.st p38 rfl), (Cx25_9.st p38 rfl), (Cx25_10.st p38 rfl)⟩
  refine xt rfl (sgb (sq (sr (Xb rfl (dn (bl (lpI (fun (x46 : Int) e w => ∃ (s : St) (e0 : Env), w = s.w ∧ e = upd (upd (upd (upd (upd e0 0 w0_0) 3 vx3_0) 4 (iI x3.2)) 5 (pB b12)) 7 (iI x46) ∧ Kp s0 s ∧ BlF s b12 43 [(iI ((at_ a0 x3.2).Xid)), (iI ((at_ a0 x3.2).Begun)), (iI ((at_ a0 x3.2).Ended)), v8_0, v8_1] 41 ∧ OwF Xw s [vx3_0] x3.1 40 ∧ RdF Xs s [v8_0] ((at_ a0 x3.2).Reads) [0] ∧ RdF Xt s [v8_1] ((at_ a0 x3.2).Writes) [0]) ⟨s30, _, rfl, (ue (ue (ue (ue (ue rfl rfl) rfl) rfl) rfl) rfl), Kx25, Bx25_b12, Cx25_5, Cx25_9, Cx25_10⟩ (fun g46 ih46 => ?_))))))))
  rintro x46 _ _ ⟨s47, _, rfl, rfl, Kx46, Bx46_b12, Cx46_5, Cx46_9, Cx46_10⟩
  unfold spec_DeedsOk.b2
  refine sq (sr (Xb rfl (Xn fa43_4 rfl (ld' Bx46_b12 u41 rfl (ln' Cx46_10 u41 rfl (Xb rfl (dn (cd rfl (fun h49 => ?_) (fun h49 => ?_)))))))))
  ·
   refine sk (sq (bl (sr (Xn fa43_4 rfl (ld' Bx46_b12 u41 rfl (Xb rfl (ix' Cx46_10 u41 z61 rfl (fun ad50 es50 h0_50 h1_50 he50 ce50 ia50 => ?_))))))))
   obtain ⟨v50_0, v50_1, rfl, A50_0, A50_1⟩ := op61 he50
   refine lca ce50 u61 z61 rfl rfl rfl rfl rfl rfl rfl (clV 43 rfl func29 rfl (spec_KeyOk.calls (at_ ((at_ a0 x3.2).Writes) x46) s47.w (mm [0] s47) v50_0 v50_1 ((Xe (s := s47) A50_0).sub (D := [0]) rfl) A50_1) (fun r53 s54 p54 n54 => ?_))
   refine Xb rfl (dn (cd rfl (fun h55 => ?_) (fun h55 => ?_)))
   ·
    refine sr (Xb rfl (dn (sgi (sgi ?_))))
    exact re rfl func14 rfl (Xj rfl Xd) rfl ⟨_, rfl, rfl, z.ky (Kx46.st p54 rfl)⟩
   refine sk (ib (rg (Xb rfl (Xb rfl (Xb rfl (dn ?_))))))
   exact lb ih46 ⟨s54, _, rfl, (ue (ue (ue (ue (ue rfl rfl) rfl) rfl) rfl) rfl), (Kx46.st p54 rfl), (Bx46_b12.st p54 rfl), (Cx46_5.st p54 rfl), (Cx46_9.st p54 rfl), (Cx46_10.st p54 rfl)⟩
  refine xt rfl (sgb (sq (sr (Xb rfl (dn (bl (lpI (fun (x62 : Int) e w => ∃ (s : St) (e0 : Env), w = s.w ∧ e = upd (upd (upd (upd (upd e0 0 w0_0) 3 vx3_0) 4 (iI x3.2)) 5 (pB b12)) 8 (iI x62) ∧ Kp s0 s ∧ BlF s b12 43 [(iI ((at_ a0 x3.2).Xid)), (iI ((at_ a0 x3.2).Begun)), (iI ((at_ a0 x3.2).Ended)), v8_0, v8_1] 41 ∧ OwF Xw s [vx3_0] x3.1 40 ∧ RdF Xs s [v8_0] ((at_ a0 x3.2).Reads) [0] ∧ RdF Xt s [v8_1] ((at_ a0 x3.2).Writes) [0]) ⟨s47, _, rfl, (ue (ue (ue (ue (ue rfl rfl) rfl) rfl) rfl) rfl), Kx46, Bx46_b12, Cx46_5, Cx46_9, Cx46_10⟩ (fun g62 ih62 => ?_))))))))
  rintro x62 _ _ ⟨s63, _, rfl, rfl, Kx62, Bx62_b12, Cx62_5, Cx62_9, Cx62_10⟩
  unfold spec_DeedsOk.b3
  refine sq (sr (Xb rfl (Xi vx3_0 rfl (ln' Cx62_5.rd u48 rfl (Xb rfl (dn (cd rfl (fun h65 => ?_) (fun h65 => ?_))))))))
  ·
   refine sk (sq (bl (sq (zdraw [[], [], [0, 1], [2], [], [4], [3, 5], [6], [7], [7], [8, 9, 7], [10, 7], [7], [12, 7], [11, 13, 7], [7, 14]] [some 78, some 79, some 80, some 81, some 82, some 83, some 84, some 85, some 86, some 87, some 88, some 89, some 90, some 91, some 92, some 93] [[3], [8], [78, 79], [80], [5], [82], [81, 83], [84], [3, 85], [8, 85], [86, 87, 85], [88, 85], [5, 85], [90, 85], [89, 91, 85], [85, 92]] [0, 1, 2, 3, 4, 5, 6, 7, 8, 9, 10, 11, 12, 13, 14, 15] ⟨by kernel_rfl, by kernel_rfl, by kernel_rfl⟩ (by kernel_rfl) (fun s66 p66 l66 tb66 zd66 => ?_)))))
   have A69 := Cx62_5.st p66 rfl
   refine mg fun hg70 => ?_
   obtain ⟨ad70, es70, he70, ce70, ia70⟩ := ix_e A69.rd rfl hg70.1 hg70.2
   obtain rfl := he70
   have zd78 := (((((((zd66.add 0 78 vx3_0 rfl).add 1 79 (iI x62) rfl).add 2 80 (.pointer (some ad70)) rfl).add 3 81 (iI (at_ x3.1 x62)) rfl).add 4 82 (pO b12 1) rfl).add 5 83 (iI ((at_ a0 x3.2).Begun)) rfl).add 6 84 (.bool ((at_ x3.1 x62) == (at_ a0 x3.2).Begun)) rfl).add 7 85 (.bool ((at_ x3.1 x62) == (at_ a0 x3.2).Begun)) rfl
   refine ji [] (fun (y79 : Bool) e w => ∃ (s : St) (e0 : Env), w = s.w ∧ e = upd (upd (upd (upd (upd (upd e0 0 w0_0) 3 vx3_0) 4 (iI x3.2)) 5 (pB b12)) 8 (iI x62)) 93 (.bool y79) ∧ Kp s0 s ∧ BlF s b12 43 [(iI ((at_ a0 x3.2).Xid)), (iI ((at_ a0 x3.2).Begun)), (iI ((at_ a0 x3.2).Ended)), v8_0, v8_1] 41 ∧ OwF Xw s [vx3_0] x3.1 40 ∧ RdF Xs s [v8_0] ((at_ a0 x3.2).Reads) [0] ∧ RdF Xt s [v8_1] ((at_ a0 x3.2).Writes) [0]) (fun Gj79 Kj79 => ?_) ?_
   ·
    rcases bft ((at_ x3.1 x62) == (at_ a0 x3.2).Begun) with hb79 | hb79
    ·
     rw [if_pos hb79]
     rw [hb79] at zd78
     try rw [hb79]
     refine zfin [14, 15] tb66 ((((((zd78.add 8 86 undef rfl).add 9 87 undef rfl).add 10 88 undef rfl).add 11 89 undef rfl).add 12 90 undef rfl).add 13 91 undef rfl) (Xa (Xq rfl) rfl (Xa (Xq rfl) rfl (Xa (Xq rfl) rfl (Xa (Xq rfl) rfl (Xa (Xq rfl) rfl (Xa (Xq rfl) rfl (Xa (Xh rfl) rfl (Xa (qv_b (Xh rfl) hb79) rfl (Xa (Xl (Bx62_b12.st p66 rfl) u3 rfl) rfl (Xa (Xp fa43_1 rfl) rfl (Xa (lc0_q ce70 u3 rfl rfl rfl rfl rfl rfl rfl rfl) rfl (Xa (ix_q' A69.rd u48 z3 hg70.1 hg70.2 ia70 rfl) rfl (Xa (Xh rfl) rfl (Xa (mv_q vx3_0 rfl rfl rfl rfl rfl rfl) rfl Xo)))))))))))))) (by kernel_rfl) (by decide) (Xg rfl (Xb rfl ?_))
     exact Kj79 _ _ _ ⟨s66, _, rfl, (ue (ue (ue (ue (ue (ue rfl rfl) rfl) rfl) rfl) rfl) rfl), (Kx62.st p66 rfl), (Bx62_b12.st p66 rfl), A69, (Cx62_9.st p66 rfl), (Cx62_10.st p66 rfl)⟩
    rw [if_neg (by rw [hb79]; decide)]
    rw [hb79] at zd78
    try rw [hb79]
    refine mg fun hg93 => ?_
    obtain ⟨ad93, es93, he93, ce93, ia93⟩ := ix_e A69.rd rfl hg93.1 hg93.2
    obtain rfl := he93
    refine zfin [14, 15] tb66 ((((((zd78.add 8 86 vx3_0 rfl).add 9 87 (iI x62) rfl).add 10 88 (.pointer (some ad93)) rfl).add 11 89 (iI (at_ x3.1 x62)) rfl).add 12 90 (pO b12 2) rfl).add 13 91 (iI ((at_ a0 x3.2).Ended)) rfl) (Xa (Xl (Bx62_b12.st p66 rfl) u3 rfl) rfl (Xa (Xp fa43_2 rfl) rfl (Xa (lc0_q ce93 u3 rfl rfl rfl rfl rfl rfl rfl rfl) rfl (Xa (ix_q' A69.rd u48 z3 hg93.1 hg93.2 ia93 rfl) rfl (Xa (Xh rfl) rfl (Xa (mv_q vx3_0 rfl rfl rfl rfl rfl rfl) rfl (Xa (Xh rfl) rfl (Xa (qv_b (Xh rfl) hb79) rfl (Xa (Xl (Bx62_b12.st p66 rfl) u3 rfl) rfl (Xa (Xp fa43_1 rfl) rfl (Xa (lc0_q ce70 u3 rfl rfl rfl rfl rfl rfl rfl rfl) rfl (Xa (ix_q' A69.rd u48 z3 hg70.1 hg70.2 ia70 rfl) rfl (Xa (Xh rfl) rfl (Xa (mv_q vx3_0 rfl rfl rfl rfl rfl rfl) rfl Xo)))))))))))))) (by kernel_rfl) (by decide) (Xb rfl (Xb rfl ?_))
    exact Kj79 _ _ _ ⟨s66, _, rfl, (ue (ue (ue (ue (ue (ue rfl rfl) rfl) rfl) rfl) rfl) rfl), (Kx62.st p66 rfl), (Bx62_b12.st p66 rfl), A69, (Cx62_9.st p66 rfl), (Cx62_10.st p66 rfl)⟩
   rintro y79 _ _ ⟨s106, _, rfl, rfl, Ky79, By79_b12, Cy79_5, Cy79_9, Cy79_10⟩
   refine dn (cd rfl (fun h108 => ?_) (fun h108 => ?_))
   ·
    exact sr (Xb rfl (dn (sgi (sgi (re rfl func14 rfl (Xj rfl Xd) rfl ⟨_, rfl, rfl, z.ky Ky79⟩)))))
   exact sk (ib (rg (Xb rfl (Xb rfl (Xb rfl (dn (lb ih62 ⟨s106, _, rfl, (ue (ue (ue (ue (ue rfl rfl) rfl) rfl) rfl) rfl), Ky79, By79_b12, Cy79_5, Cy79_9, Cy79_10⟩)))))))
  refine xt rfl (sgb (sr (Xi vx3_0 rfl (Xn fa43_1 rfl (ld' Bx62_b12 u3 rfl (ltF (K := (Kd.int .i64)) (cells := [(iI ((at_ a0 x3.2).Begun))]) [(at_ a0 x3.2).Begun] 44 fl_int u48 z3 o3 (fun w => (els_flat _ _ _)) rfl rfl rfl rfl rfl rfl rfl rfl rfl rfl (fun v109 s109 p109 A109 => ?_)))))))
  refine apF fl_int sl48 (Cx62_5.st p109 rfl) A109.rd rfl rfl rfl rfl rfl rfl rfl (fun v112 s112 p112 A112 => ?_)
  refine asg' v112 rfl (dn (rg (Xi v112 rfl (Xn fa43_2 rfl ?_))))
  refine ld' (Bx62_b12.st (tr2 p109 p112) rfl) u3 rfl (ltF (K := (Kd.int .i64)) (cells := [(iI ((at_ a0 x3.2).Ended))]) [(at_ a0 x3.2).Ended] 45 fl_int u48 z3 o3 (fun w => (els_flat _ _ _)) rfl rfl rfl rfl rfl rfl rfl rfl rfl rfl (fun v115 s115 p115 A115 => ?_))
  refine apF fl_int sl48 (A112.st p115 rfl) A115.rd rfl rfl rfl rfl rfl rfl rfl (fun v118 s118 p118 A118 => ?_)
  refine asg' v118 rfl (dn (ib (rg (Xb rfl (Xb rfl (Xb rfl (dn ?_)))))))
  exact lb ih3 ⟨s118, _, v118, rfl, (ue (ue (ue rfl rfl) rfl) rfl), (Kx62.st (tr4 p109 p112 p115 p118) rfl), A118⟩
 exact xt rfl (sgb (sr (Xb rfl (dn (re rfl func14 rfl (Xj rfl Xd) rfl ⟨_, rfl, rfl, z.ky Kx3⟩)))))
def spec_l13has.b0 (a0 : (List Item)) (a1 : Item) (x5 : Int) : Option (Int ⊕ Bool) :=
 (if (decide (x5 < (a0.length : Int))) = true then (if 0 ≤ x5 ∧ x5 < (a0.length : Int) then ((spec_ItemCompare.f (at_ a0 x5) a1).bind fun r25 => (if (r25 == (0 : Int)) = true then (some (Sum.inr true)) else (some (Sum.inl (IntKind.wrap .i64 (x5 + (1 : Int))))))) else none) else ((some false).bind fun o => some (Sum.inr o)))
def spec_l13has.f (a0 : (List Item)) (a1 : Item) : Option (Bool) :=
 (iter (spec_l13has.b0 a0 a1) (0 : Int))
def spec_l13has.Q (w : World) (F : Nat → Prop) (r : Bool) (v : Value) (w' : World) : Prop :=
 v = (.bool r) ∧ Ky [] w w'
theorem spec_l13has.calls (a0 : (List Item)) (a1 : Item) (w : World) (F : Nat → Prop) (w0_0 : Value) (w1_0 : Value) (w1_1 : Value) (h0_0 : Xt.rd w [w0_0] a0 F) (h1_0 : Kd.flt.rd w [w1_0] a1.F F) (h1_1 : Xr.rd w [w1_1] a1.T F) (r : Bool) (m : spec_l13has.f a0 a1 = some r) :
  Calls prog 30 #[w0_0, (.agg #[(iI a1.Kind), (iI a1.N), w1_0, w1_1])] w (RT (spec_l13has.Q w F) r) := by
 obtain ⟨s0, rfl, kp0, z⟩ := Xf w F
 have A0_0 := z.rd h0_0
 refine Xc (args := [w0_0, (.agg #[(iI a1.Kind), (iI a1.N), w1_0, w1_1])]) func30 ntmps30 rfl rfl m ?_
 unfold spec_l13has.f
 refine sr (bx' (cs := [(iI a1.Kind), (iI a1.N), w1_0, w1_1]) 40 rfl rfl (fun b3 s3 p3 B3 => ?_))
 refine Xb rfl (dn (sq (sr (Xb rfl (dn (bl ?_))))))
 refine lpI (fun (x5 : Int) e w => ∃ (s : St) (e0 : Env), w = s.w ∧ e = upd (upd (upd e0 0 w0_0) 3 (pB b3)) 5 (iI x5) ∧ Kp s0 s ∧ BlF s b3 61 [(iI a1.Kind), (iI a1.N), w1_0, w1_1] 40) ⟨s3, _, rfl, (ue (ue (ue rfl rfl) rfl) rfl), (kp0.st p3 rfl), B3⟩ (fun g5 ih5 => ?_)
 rintro x5 _ _ ⟨s7, _, rfl, rfl, Kx5, Bx5_b3⟩
 unfold spec_l13has.b0
 refine sq (sr (Xb rfl (Xi w0_0 rfl ?_)))
 refine ln' (A0_0.kp Kx5) u41 rfl (Xb rfl (dn (cd rfl (fun h10 => ?_) (fun h10 => ?_))))
 ·
  refine sk (sq (bl (sq (zdraw [[], [], [0, 1], [2], [], [3, 4], [5]] [some 12, some 13, some 14, some 15, some 16, some 17, some 18] [[0], [5], [12, 13], [14], [3], [15, 16], [17]] [0, 1, 2, 3, 4, 5, 6] ⟨by kernel_rfl, by kernel_rfl, by kernel_rfl⟩ (by kernel_rfl) (fun s11 p11 l11 tb11 zd11 => ?_)))))
  have K14 := Kx5.st p11 rfl
  have A15 := A0_0.kp K14
  refine mg fun hg16 => ?_
  obtain ⟨ad16, es16, he16, ce16, ia16⟩ := ix_e A15 rfl hg16.1 hg16.2
  obtain ⟨v16_0, v16_1, rfl, A16_0, A16_1⟩ := op61 he16
  refine zfin [5, 6] tb11 (((((zd11.add 0 12 w0_0 rfl).add 1 13 (iI x5) rfl).add 2 14 (.pointer (some ad16)) rfl).add 3 15 (.agg #[(iI ((at_ a0 x5).Kind)), (iI ((at_ a0 x5).N)), v16_0, v16_1]) rfl).add 4 16 (.agg #[(iI a1.Kind), (iI a1.N), w1_0, w1_1]) rfl) (Xa (lda_q (es := [(iI a1.Kind), (iI a1.N), w1_0, w1_1]) (Bx5_b3.st p11 rfl) u61 z61 rfl rfl rfl rfl rfl rfl rfl rfl) rfl (Xa (lca_q ce16 u61 z61 rfl rfl rfl rfl rfl rfl rfl) rfl (Xa (ix_q' A15 u41 z61 hg16.1 hg16.2 ia16 rfl) rfl (Xa (Xh rfl) rfl (Xa (mv_q w0_0 rfl rfl rfl rfl rfl rfl) rfl Xo))))) (by kernel_rfl) (by decide) (clV 41 rfl func47 rfl (spec_ItemCompare.calls (at_ a0 x5) a1 s11.w (mm [0] s11) v16_0 v16_1 w1_0 w1_1 ((Xe (s := s11) A16_0).sub (D := [0]) rfl) A16_1 ((Xe (s := s11) (Xm h1_0)).sub (D := [0]) rfl) ((z.rd h1_1).kp K14)) (fun r25 s26 p26 n26 => ?_))
  refine Xb rfl (dn (cd rfl (fun h27 => ?_) (fun h27 => ?_)))
  ·
   refine sr (Xb rfl (dn (sgi ?_)))
   exact re rfl func30 rfl (Xj rfl Xd) rfl ⟨_, rfl, rfl, z.ky (K14.st p26 rfl)⟩
  refine sk (ib (rg (Xb rfl (Xb rfl (Xb rfl (dn ?_))))))
  exact lb ih5 ⟨s26, _, rfl, (ue (ue (ue rfl rfl) rfl) rfl), (K14.st p26 rfl), (Bx5_b3.st (tr2 p11 p26) rfl)⟩
 exact xt rfl (sgb (sr (Xb rfl (dn (re rfl func30 rfl (Xj rfl Xd) rfl ⟨_, rfl, rfl, z.ky Kx5⟩)))))
def spec_InSpan.f (a0 : Item) (a1 : Item) (a2 : Item) : Option (Bool) :=
 ((spec_KeyOk.f a0).bind fun r13 => ((if r13 = true then ((spec_KeyOk.f a1).bind fun r19 => (some r19)) else (some false)).bind fun y15 => ((if y15 = true then ((spec_KeyOk.f a2).bind fun r35 => (some r35)) else (some false)).bind fun y33 => ((if y33 = true then ((spec_ItemCompare.f a0 a2).bind fun r48 => (some (decide (r48 ≤ (0 : Int))))) else (some false)).bind fun y45 => ((if y45 = true then ((spec_ItemCompare.f a2 a1).bind fun r59 => (some (decide (r59 ≤ (0 : Int))))) else (some false)).bind fun y56 => (some y56))))))
def spec_InSpan.Q (w : World) (F : Nat → Prop) (r : Bool) (v : Value) (w' : World) : Prop :=
 v = (.bool r) ∧ Ky [] w w'
theorem spec_InSpan.calls (a0 : Item) (a1 : Item) (a2 : Item) (w : World) (F : Nat → Prop) (w0_0 : Value) (w0_1 : Value) (w1_0 : Value) (w1_1 : Value) (w2_0 : Value) (w2_1 : Value) (h0_0 : Kd.flt.rd w [w0_0] a0.F F) (h0_1 : Xr.rd w [w0_1] a0.T F) (h1_0 : Kd.flt.rd w [w1_0] a1.F F) (h1_1 : Xr.rd w [w1_1] a1.T F) (h2_0 : Kd.flt.rd w [w2_0] a2.F F) (h2_1 : Xr.rd w [w2_1] a2.T F) (r : Bool) (m : spec_InSpan.f a0 a1 a2 = some r) :
  Calls prog 50 #[(.agg #[(iI a0.Kind), (iI a0.N), w0_0, w0_1]), (.agg #[(iI a1.Kind), (iI a1.N), w1_0, w1_1]), (.agg #[(iI a2.Kind), (iI a2.N), w2_0, w2_1])] w (RT (spec_InSpan.Q w F) r) := by
 obtain ⟨s0, rfl, kp0, z⟩ := Xf w F
 have A0_0 := Xm h0_0
 have A0_1 := z.rd h0_1
 have A1_0 := Xm h1_0
 have A1_1 := z.rd h1_1
 have A2_0 := Xm h2_0
 have A2_1 := z.rd h2_1
 refine Xc (args := [(.agg #[(iI a0.Kind), (iI a0.N), w0_0, w0_1]), (.agg #[(iI a1.Kind), (iI a1.N), w1_0, w1_1]), (.agg #[(iI a2.Kind), (iI a2.N), w2_0, w2_1])]) func50 ntmps50 rfl rfl m ?_
 unfold spec_InSpan.f
 refine sr (bx' (cs := [(iI a0.Kind), (iI a0.N), w0_0, w0_1]) 40 rfl rfl (fun b4 s4 p4 B4 => ?_))
 refine bx' (cs := [(iI a1.Kind), (iI a1.N), w1_0, w1_1]) 41 rfl rfl (fun b6 s6 p6 B6 => ?_)
 refine bx' (cs := [(iI a2.Kind), (iI a2.N), w2_0, w2_1]) 42 rfl rfl (fun b8 s8 p8 B8 => ?_)
 refine Xb rfl (dn (sr ?_))
 have A10 := B4.st (tr2 p6 p8) rfl
 refine lda' (es := [(iI a0.Kind), (iI a0.N), w0_0, w0_1]) A10 u61 z61 rfl ?_
 have K11 := kp0.st (tr3 p4 p6 p8) rfl
 refine clV 43 rfl func29 rfl (spec_KeyOk.calls a0 s8.w (mm [0] s8) w0_0 w0_1 ((Xe (s := s8) A0_0).sub (D := [0]) rfl) (A0_1.kp K11)) (fun r13 s14 p14 n14 => ?_)
 refine Xb rfl (ji [6, 7, 8, 9, 10, 11, 12, 13, 14, 15, 16, 17, 18, 19, 20, 21, 22] (fun (y15 : Bool) e w => ∃ (s : St) (e0 : Env), w = s.w ∧ e = upd (upd (upd (upd e0 3 (pB b4)) 4 (pB b6)) 5 (pB b8)) 12 (.bool y15) ∧ Kp s0 s ∧ BlF s b8 61 [(iI a2.Kind), (iI a2.N), w2_0, w2_1] 42 ∧ BlF s b6 61 [(iI a1.Kind), (iI a1.N), w1_0, w1_1] 41 ∧ BlF s b4 61 [(iI a0.Kind), (iI a0.N), w0_0, w0_1] 40) (fun Gj15 Kj15 => ?_) ?_)
 ·
  rcases bft r13 with hb15 | hb15
  ·
   refine sbT hb15 ?_
   rw [if_pos hb15]
   have A16 := B6.st (tr2 p8 p14) rfl
   refine lda' (es := [(iI a1.Kind), (iI a1.N), w1_0, w1_1]) A16 u61 z61 rfl ?_
   have K17 := K11.st p14 rfl
   refine clV 44 rfl func29 rfl (spec_KeyOk.calls a1 s14.w (mm [0] s14) w1_0 w1_1 ((Xe (s := s14) A1_0).sub (D := [0]) rfl) (A1_1.kp K17)) (fun r19 s20 p20 n20 => ?_)
   exact Xb rfl (Kj15 _ _ _ ⟨s20, _, rfl, (ue (ue (ue (ue rfl rfl) rfl) rfl) rfl), (K17.st p20 rfl), (B8.st (tr2 p14 p20) rfl), (A16.st p20 rfl), (A10.st (tr2 p14 p20) rfl)⟩)
  refine sbT hb15 ?_
  rw [if_neg (by rw [hb15]; decide)]
  refine Xg rfl (Xg rfl (Xb rfl ?_))
  exact Kj15 _ _ _ ⟨s14, _, rfl, (ue (ue (ue (ue rfl rfl) rfl) rfl) rfl), (K11.st p14 rfl), (B8.st p14 rfl), (B6.st (tr2 p8 p14) rfl), (A10.st p14 rfl)⟩
 rintro y15 _ _ ⟨s29, _, rfl, rfl, Ky15, By15_b8, By15_b6, By15_b4⟩
 refine Xb rfl (ji [10, 11, 12, 13, 14, 15, 16, 17, 18, 19, 20, 21, 22] (fun (y33 : Bool) e w => ∃ (s : St) (e0 : Env), w = s.w ∧ e = upd (upd (upd (upd e0 3 (pB b4)) 4 (pB b6)) 5 (pB b8)) 16 (.bool y33) ∧ Kp s0 s ∧ BlF s b8 61 [(iI a2.Kind), (iI a2.N), w2_0, w2_1] 42 ∧ BlF s b6 61 [(iI a1.Kind), (iI a1.N), w1_0, w1_1] 41 ∧ BlF s b4 61 [(iI a0.Kind), (iI a0.N), w0_0, w0_1] 40) (fun Gj33 Kj33 => ?_) ?_)
 ·
  rcases bft y15 with hb33 | hb33
  ·
   refine sbT hb33 ?_
   rw [if_pos hb33]
   refine lda' (es := [(iI a2.Kind), (iI a2.N), w2_0, w2_1]) By15_b8 u61 z61 rfl (clV 45 rfl func29 rfl (spec_KeyOk.calls a2 s29.w (mm [0] s29) w2_0 w2_1 ((Xe (s := s29) A2_0).sub (D := [0]) rfl) (A2_1.kp Ky15)) (fun r35 s36 p36 n36 => ?_))
   exact Xb rfl (Kj33 _ _ _ ⟨s36, _, rfl, (ue (ue (ue (ue rfl rfl) rfl) rfl) rfl), (Ky15.st p36 rfl), (By15_b8.st p36 rfl), (By15_b6.st p36 rfl), (By15_b4.st p36 rfl)⟩)
  refine sbT hb33 ?_
  rw [if_neg (by rw [hb33]; decide)]
  exact Xg rfl (Xg rfl (Xb rfl (Kj33 _ _ _ ⟨s29, _, rfl, (ue (ue (ue (ue rfl rfl) rfl) rfl) rfl), Ky15, By15_b8, By15_b6, By15_b4⟩)))
 rintro y33 _ _ ⟨s41, _, rfl, rfl, Ky33, By33_b8, By33_b6, By33_b4⟩
 refine Xb rfl (ji [16, 17, 18, 19, 20, 21, 22] (fun (y45 : Bool) e w => ∃ (s : St) (e0 : Env), w = s.w ∧ e = upd (upd (upd e0 4 (pB b6)) 5 (pB b8)) 22 (.bool y45) ∧ Kp s0 s ∧ BlF s b8 61 [(iI a2.Kind), (iI a2.N), w2_0, w2_1] 42 ∧ BlF s b6 61 [(iI a1.Kind), (iI a1.N), w1_0, w1_1] 41) (fun Gj45 Kj45 => ?_) ?_)
 ·
  rcases bft y33 with hb45 | hb45
  ·
   refine sbT hb45 ?_
   rw [if_pos hb45]
   refine lda' (es := [(iI a0.Kind), (iI a0.N), w0_0, w0_1]) By33_b4 u61 z61 rfl (lda' (es := [(iI a2.Kind), (iI a2.N), w2_0, w2_1]) By33_b8 u61 z61 rfl ?_)
   refine clV 46 rfl func47 rfl (spec_ItemCompare.calls a0 a2 s41.w (mm [0] s41) w0_0 w0_1 w2_0 w2_1 ((Xe (s := s41) A0_0).sub (D := [0]) rfl) (A0_1.kp Ky33) ((Xe (s := s41) A2_0).sub (D := [0]) rfl) (A2_1.kp Ky33)) (fun r48 s49 p49 n49 => ?_)
   refine Xb rfl (Xb rfl ?_)
   exact Kj45 _ _ _ ⟨s49, _, rfl, (ue (ue (ue rfl rfl) rfl) rfl), (Ky33.st p49 rfl), (By33_b8.st p49 rfl), (By33_b6.st p49 rfl)⟩
  refine sbT hb45 ?_
  rw [if_neg (by rw [hb45]; decide)]
  exact Xg rfl (Xg rfl (Xg rfl (Xg rfl (Xb rfl (Kj45 _ _ _ ⟨s41, _, rfl, (ue (ue (ue rfl rfl) rfl) rfl), Ky33, By33_b8, By33_b6⟩)))))
 rintro y45 _ _ ⟨s53, _, rfl, rfl, Ky45, By45_b8, By45_b6⟩
 refine Xb rfl (ji [22] (fun (y56 : Bool) e w => ∃ (s : St) (e0 : Env), w = s.w ∧ e = upd e0 28 (.bool y56) ∧ Kp s0 s) (fun Gj56 Kj56 => ?_) ?_)
 ·
  rcases bft y45 with hb56 | hb56
  ·
   refine sbT hb56 ?_
   rw [if_pos hb56]
   refine lda' (es := [(iI a2.Kind), (iI a2.N), w2_0, w2_1]) By45_b8 u61 z61 rfl (lda' (es := [(iI a1.Kind), (iI a1.N), w1_0, w1_1]) By45_b6 u61 z61 rfl ?_)
   refine clV 47 rfl func47 rfl (spec_ItemCompare.calls a2 a1 s53.w (mm [0] s53) w2_0 w2_1 w1_0 w1_1 ((Xe (s := s53) A2_0).sub (D := [0]) rfl) (A2_1.kp Ky45) ((Xe (s := s53) A1_0).sub (D := [0]) rfl) (A1_1.kp Ky45)) (fun r59 s60 p60 n60 => ?_)
   refine Xb rfl (Xb rfl ?_)
   exact Kj56 _ _ _ ⟨s60, _, rfl, (ue rfl rfl), (Ky45.st p60 rfl)⟩
  refine sbT hb56 ?_
  rw [if_neg (by rw [hb56]; decide)]
  exact Xg rfl (Xg rfl (Xg rfl (Xg rfl (Xb rfl (Kj56 _ _ _ ⟨s53, _, rfl, (ue rfl rfl), Ky45⟩)))))
 rintro y56 _ _ ⟨s62, _, rfl, rfl, Ky56⟩
 exact Xb rfl (dn (re rfl func50 rfl (Xj rfl Xd) rfl ⟨_, rfl, rfl, z.ky Ky56⟩))
def spec_l14reads.b0 (a0 : Deed) (a1 : Item) (x8 : Int) : Option (Int ⊕ Bool) :=
 (if (decide (x8 < (a0.Reads.length : Int))) = true then (if 0 ≤ x8 ∧ x8 < (a0.Reads.length : Int) then (if 0 ≤ x8 ∧ x8 < (a0.Reads.length : Int) then ((spec_InSpan.f ((at_ a0.Reads x8).From) ((at_ a0.Reads x8).To) a1).bind fun r47 => (if r47 = true then (some (Sum.inr true)) else (some (Sum.inl (IntKind.wrap .i64 (x8 + (1 : Int))))))) else none) else none) else ((some false).bind fun o => some (Sum.inr o)))
def spec_l14reads.f (a0 : Deed) (a1 : Item) : Option (Bool) :=
 (iter (spec_l14reads.b0 a0 a1) (0 : Int))
def spec_l14reads.Q (w : World) (F : Nat → Prop) (r : Bool) (v : Value) (w' : World) : Prop :=
 v = (.bool r) ∧ Ky [] w w'
theorem spec_l14reads.calls (a0 : Deed) (a1 : Item) (w : World) (F : Nat → Prop) (w0_0 : Value) (w0_1 : Value) (w1_0 : Value) (w1_1 : Value) (h0_0 : Xs.rd w [w0_0] a0.Reads F) (h0_1 : Xt.rd w [w0_1] a0.Writes F) (h1_0 : Kd.flt.rd w [w1_0] a1.F F) (h1_1 : Xr.rd w [w1_1] a1.T F) (r : Bool) (m : spec_l14reads.f a0 a1 = some r) :
  Calls prog 31 #[(.agg #[(iI a0.Xid), (iI a0.Begun), (iI a0.Ended), w0_0, w0_1]), (.agg #[(iI a1.Kind), (iI a1.N), w1_0, w1_1])] w (RT (spec_l14reads.Q w F) r) := by
 obtain ⟨s0, rfl, kp0, z⟩ := Xf w F
 have A0_0 := z.rd h0_0
 refine Xc (args := [(.agg #[(iI a0.Xid), (iI a0.Begun), (iI a0.Ended), w0_0, w0_1]), (.agg #[(iI a1.Kind), (iI a1.N), w1_0, w1_1])]) func31 ntmps31 rfl rfl m ?_
 unfold spec_l14reads.f
 refine sr (bx' (cs := [(iI a0.Xid), (iI a0.Begun), (iI a0.Ended), w0_0, w0_1]) 40 rfl rfl (fun b4 s4 p4 B4 => ?_))
 refine bx' (cs := [(iI a1.Kind), (iI a1.N), w1_0, w1_1]) 41 rfl rfl (fun b6 s6 p6 B6 => ?_)
 refine Xb rfl (dn (sq (sr (Xb rfl (dn (bl ?_))))))
 refine lpI (fun (x8 : Int) e w => ∃ (s : St) (e0 : Env), w = s.w ∧ e = upd (upd (upd e0 2 (pB b4)) 3 (pB b6)) 5 (iI x8) ∧ Kp s0 s ∧ BlF s b6 61 [(iI a1.Kind), (iI a1.N), w1_0, w1_1] 41 ∧ BlF s b4 43 [(iI a0.Xid), (iI a0.Begun), (iI a0.Ended), w0_0, w0_1] 40) ⟨s6, _, rfl, (ue (ue (ue rfl rfl) rfl) rfl), (kp0.st (tr2 p4 p6) rfl), B6, (B4.st p6 rfl)⟩ (fun g8 ih8 => ?_)
 rintro x8 _ _ ⟨s11, _, rfl, rfl, Kx8, Bx8_b6, Bx8_b4⟩
 unfold spec_l14reads.b0
 refine sq (sr (Xb rfl (Xn fa43_3 rfl (ld' Bx8_b4 u40 rfl ?_))))
 refine ln' (A0_0.kp Kx8) u40 rfl (Xb rfl (dn (cd rfl (fun h15 => ?_) (fun h15 => ?_))))
 ·
  refine sk (sq (bl (sq (zdraw [[], [0], [], [1, 2], [3], [4], [], [6], [], [7, 8], [9], [10], [], [5, 11, 12]] [some 13, some 14, some 15, some 16, some 17, some 18, some 19, some 20, some 21, some 22, some 23, some 24, some 25, some 26] [[2], [13], [5], [14, 15], [16], [17], [2], [19], [5], [20, 21], [22], [23], [3], [18, 24, 25]] [0, 1, 2, 3, 4, 5, 6, 7, 8, 9, 10, 11, 12, 13] ⟨by kernel_rfl, by kernel_rfl, by kernel_rfl⟩ (by kernel_rfl) (fun s16 p16 l16 tb16 zd16 => ?_)))))
  have K21 := Kx8.st p16 rfl
  have A22 := A0_0.kp K21
  refine mg fun hg23 => ?_
  obtain ⟨ad23, es23, he23, ce23, ia23⟩ := ix_e A22 rfl hg23.1 hg23.2
  obtain ⟨v23_0, v23_1, v23_2, v23_3, rfl, A23_0, A23_1, A23_2, A23_3⟩ := op63 he23
  have zd29 := (((((zd16.add 0 13 (pO b4 3) rfl).add 1 14 w0_0 rfl).add 2 15 (iI x8) rfl).add 3 16 (.pointer (some ad23)) rfl).add 4 17 (.pointer (some ad23)) rfl).add 5 18 (.agg #[(iI (((at_ a0.Reads x8).From).Kind)), (iI (((at_ a0.Reads x8).From).N)), v23_0, v23_1]) rfl
  refine mg fun hg34 => ?_
  obtain ⟨ad34, es34, he34, ce34, ia34⟩ := ix_e A22 rfl hg34.1 hg34.2
  obtain ⟨v34_0, v34_1, v34_2, v34_3, rfl, A34_0, A34_1, A34_2, A34_3⟩ := op63 he34
  refine zfin [13] tb16 (((((((zd29.add 6 19 (pO b4 3) rfl).add 7 20 w0_0 rfl).add 8 21 (iI x8) rfl).add 9 22 (.pointer (some ad34)) rfl).add 10 23 (.pointer (some (ad34.add 4))) rfl).add 11 24 (.agg #[(iI (((at_ a0.Reads x8).To).Kind)), (iI (((at_ a0.Reads x8).To).N)), v34_2, v34_3]) rfl).add 12 25 (.agg #[(iI a1.Kind), (iI a1.N), w1_0, w1_1]) rfl) (Xa (lda_q (es := [(iI a1.Kind), (iI a1.N), w1_0, w1_1]) (Bx8_b6.st p16 rfl) u61 z61 rfl rfl rfl rfl rfl rfl rfl rfl) rfl (Xa (lcq_q (q := 4) (es' := [(iI (((at_ a0.Reads x8).To).Kind)), (iI (((at_ a0.Reads x8).To).N)), v34_2, v34_3]) ce34 u61 z61 rfl rfl rfl rfl rfl rfl rfl rfl) rfl (Xa (Xp fa63_1 rfl) rfl (Xa (ix_q' A22 u40 z63 hg34.1 hg34.2 ia34 rfl) rfl (Xa (Xh rfl) rfl (Xa (Xl (Bx8_b4.st p16 rfl) u40 rfl) rfl (Xa (Xp fa43_3 rfl) rfl (Xa (lcq_q (q := 0) (es' := [(iI (((at_ a0.Reads x8).From).Kind)), (iI (((at_ a0.Reads x8).From).N)), v23_0, v23_1]) ce23 u61 z61 rfl rfl rfl rfl rfl rfl rfl rfl) rfl (Xa (Xp fa63_0 rfl) rfl (Xa (ix_q' A22 u40 z63 hg23.1 hg23.2 ia23 rfl) rfl (Xa (Xh rfl) rfl (Xa (Xl (Bx8_b4.st p16 rfl) u40 rfl) rfl (Xa (Xp fa43_3 rfl) rfl Xo))))))))))))) (by kernel_rfl) (by decide) (clV 42 rfl func50 rfl (spec_InSpan.calls ((at_ a0.Reads x8).From) ((at_ a0.Reads x8).To) a1 s16.w (mm [0] s16) v23_0 v23_1 v34_2 v34_3 w1_0 w1_1 ((Xe (s := s16) A23_0).sub (D := [0]) rfl) A23_1 ((Xe (s := s16) A34_2).sub (D := [0]) rfl) A34_3 ((Xe (s := s16) (Xm h1_0)).sub (D := [0]) rfl) ((z.rd h1_1).kp K21)) (fun r47 s48 p48 n48 => ?_))
  refine dn (cd rfl (fun h49 => ?_) (fun h49 => ?_))
  ·
   refine sr (Xb rfl (dn (sgi ?_)))
   exact re rfl func31 rfl (Xj rfl Xd) rfl ⟨_, rfl, rfl, z.ky (K21.st p48 rfl)⟩
  refine sk (ib (rg (Xb rfl (Xb rfl (Xb rfl (dn ?_))))))
  exact lb ih8 ⟨s48, _, rfl, (ue (ue (ue rfl rfl) rfl) rfl), (K21.st p48 rfl), (Bx8_b6.st (tr2 p16 p48) rfl), (Bx8_b4.st (tr2 p16 p48) rfl)⟩
 exact xt rfl (sgb (sr (Xb rfl (dn (re rfl func31 rfl (Xj rfl Xd) rfl ⟨_, rfl, rfl, z.ky Kx8⟩)))))
def spec_l14edge.b1 (a0 : Deed) (a1 : Deed) (x116 : Int) : Option (Int ⊕ Bool) :=
 (if (decide (x116 < (a1.Writes.length : Int))) = true then ((if (decide (a1.Ended > a0.Begun)) = true then (if 0 ≤ x116 ∧ x116 < (a1.Writes.length : Int) then ((spec_l14reads.f a0 (at_ a1.Writes x116)).bind fun r151 => (some r151)) else none) else (some false)).bind fun y131 => (if y131 = true then (some (Sum.inr true)) else (some (Sum.inl (IntKind.wrap .i64 (x116 + (1 : Int))))))) else ((some false).bind fun o => some (Sum.inr o)))
def spec_l14edge.b0 (a0 : Deed) (a1 : Deed) (x9 : Int) : Option (Int ⊕ Bool) :=
 (if (decide (x9 < (a0.Writes.length : Int))) = true then ((if (decide (a0.Ended < a1.Ended)) = true then (if 0 ≤ x9 ∧ x9 < (a0.Writes.length : Int) then ((spec_l13has.f a1.Writes (at_ a0.Writes x9)).bind fun r46 => (some r46)) else none) else (some false)).bind fun y26 => (if y26 = true then (some (Sum.inr true)) else ((if (decide (a0.Ended < a1.Begun)) = true then (if 0 ≤ x9 ∧ x9 < (a0.Writes.length : Int) then ((spec_l14reads.f a1 (at_ a0.Writes x9)).bind fun r96 => (some r96)) else none) else (some false)).bind fun y76 => (if y76 = true then (some (Sum.inr true)) else (some (Sum.inl (IntKind.wrap .i64 (x9 + (1 : Int))))))))) else ((iter (spec_l14edge.b1 a0 a1) (0 : Int)).bind fun o => some (Sum.inr o)))
def spec_l14edge.f (a0 : Deed) (a1 : Deed) : Option (Bool) :=
 (iter (spec_l14edge.b0 a0 a1) (0 : Int))
def spec_l14edge.Q (w : World) (F : Nat → Prop) (r : Bool) (v : Value) (w' : World) : Prop :=
 v = (.bool r) ∧ Ky [] w w'
theorem spec_l14edge.calls (a0 : Deed) (a1 : Deed) (w : World) (F : Nat → Prop) (w0_0 : Value) (w0_1 : Value) (w1_0 : Value) (w1_1 : Value) (h0_0 : Xs.rd w [w0_0] a0.Reads F) (h0_1 : Xt.rd w [w0_1] a0.Writes F) (h1_0 : Xs.rd w [w1_0] a1.Reads F) (h1_1 : Xt.rd w [w1_1] a1.Writes F) (r : Bool) (m : spec_l14edge.f a0 a1 = some r) :
  Calls prog 15 #[(.agg #[(iI a0.Xid), (iI a0.Begun), (iI a0.Ended), w0_0, w0_1]), (.agg #[(iI a1.Xid), (iI a1.Begun), (iI a1.Ended), w1_0, w1_1])] w (RT (spec_l14edge.Q w F) r) := by
 obtain ⟨s0, rfl, kp0, z⟩ := Xf w F
 have A0_0 := z.rd h0_0
 have A0_1 := z.rd h0_1
 have A1_0 := z.rd h1_0
 have A1_1 := z.rd h1_1
 refine Xc (args := [(.agg #[(iI a0.Xid), (iI a0.Begun), (iI a0.Ended), w0_0, w0_1]), (.agg #[(iI a1.Xid), (iI a1.Begun), (iI a1.Ended), w1_0, w1_1])]) func15 ntmps15 rfl rfl m ?_
 unfold spec_l14edge.f
 refine sr (bx' (cs := [(iI a0.Xid), (iI a0.Begun), (iI a0.Ended), w0_0, w0_1]) 40 rfl rfl (fun b5 s5 p5 B5 => ?_))
 refine bx' (cs := [(iI a1.Xid), (iI a1.Begun), (iI a1.Ended), w1_0, w1_1]) 41 rfl rfl (fun b7 s7 p7 B7 => ?_)
 refine Xb rfl (dn (sq (sr (Xb rfl (dn (bl ?_))))))
 refine lpI (fun (x9 : Int) e w => ∃ (s : St) (e0 : Env), w = s.w ∧ e = upd (upd (upd e0 2 (pB b5)) 3 (pB b7)) 5 (iI x9) ∧ Kp s0 s ∧ BlF s b7 43 [(iI a1.Xid), (iI a1.Begun), (iI a1.Ended), w1_0, w1_1] 41 ∧ BlF s b5 43 [(iI a0.Xid), (iI a0.Begun), (iI a0.Ended), w0_0, w0_1] 40) ⟨s7, _, rfl, (ue (ue (ue rfl rfl) rfl) rfl), (kp0.st (tr2 p5 p7) rfl), B7, (B5.st p7 rfl)⟩ (fun g9 ih9 => ?_)
 rintro x9 _ _ ⟨s12, _, rfl, rfl, Kx9, Bx9_b7, Bx9_b5⟩
 unfold spec_l14edge.b0
 refine sq (sr (Xb rfl (Xn fa43_4 rfl (ld' Bx9_b5 u41 rfl ?_))))
 refine ln' (A0_1.kp Kx9) u41 rfl (Xb rfl (dn (cd rfl (fun h16 => ?_) (fun h16 => ?_))))
 ·
  refine sk (sq (bl (sq (sq (zdraw [[], [0], [], [2], [1, 3], [4], [5], [6, 5], [5], [8, 5], [5], [9, 10, 5], [11, 5], [7, 12, 5, 5], [5, 13]] [some 14, some 15, some 16, some 17, some 18, some 19, some 20, some 21, some 22, some 23, some 24, some 25, some 26, some 27, some 28] [[2], [14], [3], [16], [15, 17], [18], [3, 19], [20, 19], [2, 19], [22, 19], [5, 19], [23, 24, 19], [25, 19], [21, 26, 19], [19, 27]] [0, 1, 2, 3, 4, 5, 6, 7, 8, 9, 10, 11, 12, 13, 14] ⟨by kernel_rfl, by kernel_rfl, by kernel_rfl⟩ (by kernel_rfl) (fun s17 p17 l17 tb17 zd17 => ?_))))))
  have zd25 := (((((zd17.add 0 14 (pO b5 2) rfl).add 1 15 (iI a0.Ended) rfl).add 2 16 (pO b7 2) rfl).add 3 17 (iI a1.Ended) rfl).add 4 18 (.bool (decide (a0.Ended < a1.Ended))) rfl).add 5 19 (.bool (decide (a0.Ended < a1.Ended))) rfl
  refine ji [] (fun (y26 : Bool) e w => ∃ (s : St) (e0 : Env), w = s.w ∧ e = upd (upd (upd (upd e0 2 (pB b5)) 3 (pB b7)) 5 (iI x9)) 28 (.bool y26) ∧ Kp s0 s ∧ BlF s b7 43 [(iI a1.Xid), (iI a1.Begun), (iI a1.Ended), w1_0, w1_1] 41 ∧ BlF s b5 43 [(iI a0.Xid), (iI a0.Begun), (iI a0.Ended), w0_0, w0_1] 40) (fun Gj26 Kj26 => ?_) ?_
  ·
   rcases bft (decide (a0.Ended < a1.Ended)) with hb26 | hb26
   ·
    rw [if_pos hb26]
    rw [hb26] at zd25
    try rw [hb26]
    have K34 := Kx9.st p17 rfl
    have A35 := A0_1.kp K34
    refine mg fun hg36 => ?_
    obtain ⟨ad36, es36, he36, ce36, ia36⟩ := ix_e A35 rfl hg36.1 hg36.2
    obtain ⟨v36_0, v36_1, rfl, A36_0, A36_1⟩ := op61 he36
    refine zfin [13, 14] tb17 (((((((zd25.add 6 20 (pO b7 4) rfl).add 7 21 w1_1 rfl).add 8 22 (pO b5 4) rfl).add 9 23 w0_1 rfl).add 10 24 (iI x9) rfl).add 11 25 (.pointer (some ad36)) rfl).add 12 26 (.agg #[(iI ((at_ a0.Writes x9).Kind)), (iI ((at_ a0.Writes x9).N)), v36_0, v36_1]) rfl) (Xa (lca_q ce36 u61 z61 rfl rfl rfl rfl rfl rfl rfl) rfl (Xa (ix_q' A35 u41 z61 hg36.1 hg36.2 ia36 rfl) rfl (Xa (Xh rfl) rfl (Xa (Xl (Bx9_b5.st p17 rfl) u41 rfl) rfl (Xa (Xp fa43_4 rfl) rfl (Xa (Xl (Bx9_b7.st p17 rfl) u41 rfl) rfl (Xa (Xp fa43_4 rfl) rfl (Xa (Xh rfl) rfl (Xa (qv_b (Xh rfl) hb26) rfl (Xa (Xl (Bx9_b7.st p17 rfl) u3 rfl) rfl (Xa (Xp fa43_2 rfl) rfl (Xa (Xl (Bx9_b5.st p17 rfl) u3 rfl) rfl (Xa (Xp fa43_2 rfl) rfl Xo))))))))))))) (by kernel_rfl) (by decide) (clV 42 rfl func30 rfl (spec_l13has.calls a1.Writes (at_ a0.Writes x9) s17.w (mm [0] s17) w1_1 v36_0 v36_1 (A1_1.kp K34) ((Xe (s := s17) A36_0).sub (D := [0]) rfl) A36_1) (fun r46 s47 p47 n47 => ?_))
    exact Xb rfl (Kj26 _ _ _ ⟨s47, _, rfl, (ue (ue (ue (ue rfl rfl) rfl) rfl) rfl), (K34.st p47 rfl), (Bx9_b7.st (tr2 p17 p47) rfl), (Bx9_b5.st (tr2 p17 p47) rfl)⟩)
   rw [if_neg (by rw [hb26]; decide)]
   rw [hb26] at zd25
   try rw [hb26]
   refine zfin [13, 14] tb17 (((((((zd25.add 6 20 undef rfl).add 7 21 undef rfl).add 8 22 undef rfl).add 9 23 undef rfl).add 10 24 undef rfl).add 11 25 undef rfl).add 12 26 undef rfl) (Xa (Xq rfl) rfl (Xa (Xq rfl) rfl (Xa (Xq rfl) rfl (Xa (Xq rfl) rfl (Xa (Xq rfl) rfl (Xa (Xq rfl) rfl (Xa (Xq rfl) rfl (Xa (Xh rfl) rfl (Xa (qv_b (Xh rfl) hb26) rfl (Xa (Xl (Bx9_b7.st p17 rfl) u3 rfl) rfl (Xa (Xp fa43_2 rfl) rfl (Xa (Xl (Bx9_b5.st p17 rfl) u3 rfl) rfl (Xa (Xp fa43_2 rfl) rfl Xo))))))))))))) (by kernel_rfl) (by decide) (Xg rfl (Xb rfl ?_))
   exact Kj26 _ _ _ ⟨s17, _, rfl, (ue (ue (ue (ue rfl rfl) rfl) rfl) rfl), (Kx9.st p17 rfl), (Bx9_b7.st p17 rfl), (Bx9_b5.st p17 rfl)⟩
  rintro y26 _ _ ⟨s63, _, rfl, rfl, Ky26, By26_b7, By26_b5⟩
  refine dn (cd rfl (fun h66 => ?_) (fun h66 => ?_))
  ·
   exact sr (Xb rfl (dn (sgi (re rfl func15 rfl (Xj rfl Xd) rfl ⟨_, rfl, rfl, z.ky Ky26⟩))))
  refine sk (sq (zdraw [[], [0], [], [2], [1, 3], [4], [5], [5], [7, 5], [5], [8, 9, 5], [10, 5], [6, 11, 5, 5], [5, 12]] [some 29, some 30, some 31, some 32, some 33, some 34, some 35, some 36, some 37, some 38, some 39, some 40, some 41, some 42] [[2], [29], [3], [31], [30, 32], [33], [3, 34], [2, 34], [36, 34], [5, 34], [37, 38, 34], [39, 34], [35, 40, 34], [34, 41]] [0, 1, 2, 3, 4, 5, 6, 7, 8, 9, 10, 11, 12, 13] ⟨by kernel_rfl, by kernel_rfl, by kernel_rfl⟩ (by kernel_rfl) (fun s67 p67 l67 tb67 zd67 => ?_)))
  have zd75 := (((((zd67.add 0 29 (pO b5 2) rfl).add 1 30 (iI a0.Ended) rfl).add 2 31 (pO b7 1) rfl).add 3 32 (iI a1.Begun) rfl).add 4 33 (.bool (decide (a0.Ended < a1.Begun))) rfl).add 5 34 (.bool (decide (a0.Ended < a1.Begun))) rfl
  refine ji [] (fun (y76 : Bool) e w => ∃ (s : St) (e0 : Env), w = s.w ∧ e = upd (upd (upd (upd e0 2 (pB b5)) 3 (pB b7)) 5 (iI x9)) 42 (.bool y76) ∧ Kp s0 s ∧ BlF s b7 43 [(iI a1.Xid), (iI a1.Begun), (iI a1.Ended), w1_0, w1_1] 41 ∧ BlF s b5 43 [(iI a0.Xid), (iI a0.Begun), (iI a0.Ended), w0_0, w0_1] 40) (fun Gj76 Kj76 => ?_) ?_
  ·
   rcases bft (decide (a0.Ended < a1.Begun)) with hb76 | hb76
   ·
    rw [if_pos hb76]
    rw [hb76] at zd75
    try rw [hb76]
    have K83 := Ky26.st p67 rfl
    have A84 := A0_1.kp K83
    refine mg fun hg85 => ?_
    obtain ⟨ad85, es85, he85, ce85, ia85⟩ := ix_e A84 rfl hg85.1 hg85.2
    obtain ⟨v85_0, v85_1, rfl, A85_0, A85_1⟩ := op61 he85
    refine zfin [12, 13] tb67 ((((((zd75.add 6 35 (.agg #[(iI a1.Xid), (iI a1.Begun), (iI a1.Ended), w1_0, w1_1]) rfl).add 7 36 (pO b5 4) rfl).add 8 37 w0_1 rfl).add 9 38 (iI x9) rfl).add 10 39 (.pointer (some ad85)) rfl).add 11 40 (.agg #[(iI ((at_ a0.Writes x9).Kind)), (iI ((at_ a0.Writes x9).N)), v85_0, v85_1]) rfl) (Xa (lca_q ce85 u61 z61 rfl rfl rfl rfl rfl rfl rfl) rfl (Xa (ix_q' A84 u41 z61 hg85.1 hg85.2 ia85 rfl) rfl (Xa (Xh rfl) rfl (Xa (Xl (By26_b5.st p67 rfl) u41 rfl) rfl (Xa (Xp fa43_4 rfl) rfl (Xa (lda_q (es := [(iI a1.Xid), (iI a1.Begun), (iI a1.Ended), w1_0, w1_1]) (By26_b7.st p67 rfl) u43 z43 rfl rfl rfl rfl rfl rfl rfl rfl) rfl (Xa (Xh rfl) rfl (Xa (qv_b (Xh rfl) hb76) rfl (Xa (Xl (By26_b7.st p67 rfl) u3 rfl) rfl (Xa (Xp fa43_1 rfl) rfl (Xa (Xl (By26_b5.st p67 rfl) u3 rfl) rfl (Xa (Xp fa43_2 rfl) rfl Xo)))))))))))) (by kernel_rfl) (by decide) (clV 43 rfl func31 rfl (spec_l14reads.calls a1 (at_ a0.Writes x9) s67.w (mm [0] s67) w1_0 w1_1 v85_0 v85_1 (A1_0.kp K83) (A1_1.kp K83) ((Xe (s := s67) A85_0).sub (D := [0]) rfl) A85_1) (fun r96 s97 p97 n97 => ?_))
    exact Xb rfl (Kj76 _ _ _ ⟨s97, _, rfl, (ue (ue (ue (ue rfl rfl) rfl) rfl) rfl), (K83.st p97 rfl), (By26_b7.st (tr2 p67 p97) rfl), (By26_b5.st (tr2 p67 p97) rfl)⟩)
   rw [if_neg (by rw [hb76]; decide)]
   rw [hb76] at zd75
   try rw [hb76]
   refine zfin [12, 13] tb67 ((((((zd75.add 6 35 undef rfl).add 7 36 undef rfl).add 8 37 undef rfl).add 9 38 undef rfl).add 10 39 undef rfl).add 11 40 undef rfl) (Xa (Xq rfl) rfl (Xa (Xq rfl) rfl (Xa (Xq rfl) rfl (Xa (Xq rfl) rfl (Xa (Xq rfl) rfl (Xa (Xq rfl) rfl (Xa (Xh rfl) rfl (Xa (qv_b (Xh rfl) hb76) rfl (Xa (Xl (By26_b7.st p67 rfl) u3 rfl) rfl (Xa (Xp fa43_1 rfl) rfl (Xa (Xl (By26_b5.st p67 rfl) u3 rfl) rfl (Xa (Xp fa43_2 rfl) rfl Xo)))))))))))) (by kernel_rfl) (by decide) (Xg rfl (Xb rfl ?_))
   exact Kj76 _ _ _ ⟨s67, _, rfl, (ue (ue (ue (ue rfl rfl) rfl) rfl) rfl), (Ky26.st p67 rfl), (By26_b7.st p67 rfl), (By26_b5.st p67 rfl)⟩
  rintro y76 _ _ ⟨s112, _, rfl, rfl, Ky76, By76_b7, By76_b5⟩
  refine dn (cd rfl (fun h115 => ?_) (fun h115 => ?_))
  ·
   exact sr (Xb rfl (dn (sgi (re rfl func15 rfl (Xj rfl Xd) rfl ⟨_, rfl, rfl, z.ky Ky76⟩))))
  exact sk (ib (rg (Xb rfl (Xb rfl (Xb rfl (dn (lb ih9 ⟨s112, _, rfl, (ue (ue (ue rfl rfl) rfl) rfl), Ky76, By76_b7, By76_b5⟩)))))))
 refine xt rfl (sgb (sq (sr (Xb rfl (dn (bl (lpI (fun (x116 : Int) e w => ∃ (s : St) (e0 : Env), w = s.w ∧ e = upd (upd (upd e0 2 (pB b5)) 3 (pB b7)) 6 (iI x116) ∧ Kp s0 s ∧ BlF s b7 43 [(iI a1.Xid), (iI a1.Begun), (iI a1.Ended), w1_0, w1_1] 41 ∧ BlF s b5 43 [(iI a0.Xid), (iI a0.Begun), (iI a0.Ended), w0_0, w0_1] 40) ⟨s12, _, rfl, (ue (ue (ue rfl rfl) rfl) rfl), Kx9, Bx9_b7, Bx9_b5⟩ (fun g116 ih116 => ?_))))))))
 rintro x116 _ _ ⟨s117, _, rfl, rfl, Kx116, Bx116_b7, Bx116_b5⟩
 unfold spec_l14edge.b1
 refine sq (sr (Xb rfl (Xn fa43_4 rfl (ld' Bx116_b7 u41 rfl ?_))))
 refine ln' (A1_1.kp Kx116) u41 rfl (Xb rfl (dn (cd rfl (fun h121 => ?_) (fun h121 => ?_))))
 ·
  refine sk (sq (bl (sq (zdraw [[], [0], [], [2], [1, 3], [4], [5], [5], [7, 5], [5], [8, 9, 5], [10, 5], [6, 11, 5, 5], [5, 12]] [some 50, some 51, some 52, some 53, some 54, some 55, some 56, some 57, some 58, some 59, some 60, some 61, some 62, some 63] [[3], [50], [2], [52], [51, 53], [54], [2, 55], [3, 55], [57, 55], [6, 55], [58, 59, 55], [60, 55], [56, 61, 55], [55, 62]] [0, 1, 2, 3, 4, 5, 6, 7, 8, 9, 10, 11, 12, 13] ⟨by kernel_rfl, by kernel_rfl, by kernel_rfl⟩ (by kernel_rfl) (fun s122 p122 l122 tb122 zd122 => ?_)))))
  have zd130 := (((((zd122.add 0 50 (pO b7 2) rfl).add 1 51 (iI a1.Ended) rfl).add 2 52 (pO b5 1) rfl).add 3 53 (iI a0.Begun) rfl).add 4 54 (.bool (decide (a1.Ended > a0.Begun))) rfl).add 5 55 (.bool (decide (a1.Ended > a0.Begun))) rfl
  refine ji [] (fun (y131 : Bool) e w => ∃ (s : St) (e0 : Env), w = s.w ∧ e = upd (upd (upd (upd e0 2 (pB b5)) 3 (pB b7)) 6 (iI x116)) 63 (.bool y131) ∧ Kp s0 s ∧ BlF s b7 43 [(iI a1.Xid), (iI a1.Begun), (iI a1.Ended), w1_0, w1_1] 41 ∧ BlF s b5 43 [(iI a0.Xid), (iI a0.Begun), (iI a0.Ended), w0_0, w0_1] 40) (fun Gj131 Kj131 => ?_) ?_
  ·
   rcases bft (decide (a1.Ended > a0.Begun)) with hb131 | hb131
   ·
    rw [if_pos hb131]
    rw [hb131] at zd130
    try rw [hb131]
    have K138 := Kx116.st p122 rfl
    have A139 := A1_1.kp K138
    refine mg fun hg140 => ?_
    obtain ⟨ad140, es140, he140, ce140, ia140⟩ := ix_e A139 rfl hg140.1 hg140.2
    obtain ⟨v140_0, v140_1, rfl, A140_0, A140_1⟩ := op61 he140
    refine zfin [12, 13] tb122 ((((((zd130.add 6 56 (.agg #[(iI a0.Xid), (iI a0.Begun), (iI a0.Ended), w0_0, w0_1]) rfl).add 7 57 (pO b7 4) rfl).add 8 58 w1_1 rfl).add 9 59 (iI x116) rfl).add 10 60 (.pointer (some ad140)) rfl).add 11 61 (.agg #[(iI ((at_ a1.Writes x116).Kind)), (iI ((at_ a1.Writes x116).N)), v140_0, v140_1]) rfl) (Xa (lca_q ce140 u61 z61 rfl rfl rfl rfl rfl rfl rfl) rfl (Xa (ix_q' A139 u41 z61 hg140.1 hg140.2 ia140 rfl) rfl (Xa (Xh rfl) rfl (Xa (Xl (Bx116_b7.st p122 rfl) u41 rfl) rfl (Xa (Xp fa43_4 rfl) rfl (Xa (lda_q (es := [(iI a0.Xid), (iI a0.Begun), (iI a0.Ended), w0_0, w0_1]) (Bx116_b5.st p122 rfl) u43 z43 rfl rfl rfl rfl rfl rfl rfl rfl) rfl (Xa (Xh rfl) rfl (Xa (qv_b (Xh rfl) hb131) rfl (Xa (Xl (Bx116_b5.st p122 rfl) u3 rfl) rfl (Xa (Xp fa43_1 rfl) rfl (Xa (Xl (Bx116_b7.st p122 rfl) u3 rfl) rfl (Xa (Xp fa43_2 rfl) rfl Xo)))))))))))) (by kernel_rfl) (by decide) (clV 44 rfl func31 rfl (spec_l14reads.calls a0 (at_ a1.Writes x116) s122.w (mm [0] s122) w0_0 w0_1 v140_0 v140_1 (A0_0.kp K138) (A0_1.kp K138) ((Xe (s := s122) A140_0).sub (D := [0]) rfl) A140_1) (fun r151 s152 p152 n152 => ?_))
    exact Xb rfl (Kj131 _ _ _ ⟨s152, _, rfl, (ue (ue (ue (ue rfl rfl) rfl) rfl) rfl), (K138.st p152 rfl), (Bx116_b7.st (tr2 p122 p152) rfl), (Bx116_b5.st (tr2 p122 p152) rfl)⟩)
   rw [if_neg (by rw [hb131]; decide)]
   rw [hb131] at zd130
   try rw [hb131]
   refine zfin [12, 13] tb122 ((((((zd130.add 6 56 undef rfl).add 7 57 undef rfl).add 8 58 undef rfl).add 9 59 undef rfl).add 10 60 undef rfl).add 11 61 undef rfl) (Xa (Xq rfl) rfl (Xa (Xq rfl) rfl (Xa (Xq rfl) rfl (Xa (Xq rfl) rfl (Xa (Xq rfl) rfl (Xa (Xq rfl) rfl (Xa (Xh rfl) rfl (Xa (qv_b (Xh rfl) hb131) rfl (Xa (Xl (Bx116_b5.st p122 rfl) u3 rfl) rfl (Xa (Xp fa43_1 rfl) rfl (Xa (Xl (Bx116_b7.st p122 rfl) u3 rfl) rfl (Xa (Xp fa43_2 rfl) rfl Xo)))))))))))) (by kernel_rfl) (by decide) (Xg rfl (Xb rfl ?_))
   exact Kj131 _ _ _ ⟨s122, _, rfl, (ue (ue (ue (ue rfl rfl) rfl) rfl) rfl), (Kx116.st p122 rfl), (Bx116_b7.st p122 rfl), (Bx116_b5.st p122 rfl)⟩
  rintro y131 _ _ ⟨s167, _, rfl, rfl, Ky131, By131_b7, By131_b5⟩
  refine dn (cd rfl (fun h170 => ?_) (fun h170 => ?_))
  ·
   exact sr (Xb rfl (dn (sgi (re rfl func15 rfl (Xj rfl Xd) rfl ⟨_, rfl, rfl, z.ky Ky131⟩))))
  exact sk (ib (rg (Xb rfl (Xb rfl (Xb rfl (dn (lb ih116 ⟨s167, _, rfl, (ue (ue (ue rfl rfl) rfl) rfl), Ky131, By131_b7, By131_b5⟩)))))))
 exact xt rfl (sgb (sr (Xb rfl (dn (re rfl func15 rfl (Xj rfl Xd) rfl ⟨_, rfl, rfl, z.ky Kx116⟩)))))
def spec_GraphEdges.b1 (a0 : (List Deed)) (x6 : (List A2Int) × Int) (x12 : (List A2Int) × Int) : Option (((List A2Int) × Int) ⊕ ((List A2Int) × Int ⊕ (List A2Int))) :=
 (if (decide (x12.2 < (a0.length : Int))) = true then ((if (x6.2 != x12.2) = true then (if 0 ≤ x6.2 ∧ x6.2 < (a0.length : Int) then (if 0 ≤ x12.2 ∧ x12.2 < (a0.length : Int) then ((spec_l14edge.f (at_ a0 x6.2) (at_ a0 x12.2)).bind fun r41 => (some r41)) else none) else none) else (some false)).bind fun y22 => ((if y22 = true then (if x12.1.length + ([(A2Int.mk x6.2 x12.2)]).length ≤ Lim then (some (x12.1 ++ [(A2Int.mk x6.2 x12.2)])) else none) else (some x12.1)).bind fun y56 => (some (Sum.inl (y56, (IntKind.wrap .i64 (x12.2 + (1 : Int)))))))) else ((some (Sum.inl (x12.1, (IntKind.wrap .i64 (x6.2 + (1 : Int)))))).bind fun o => some (Sum.inr o)))
def spec_GraphEdges.b0 (a0 : (List Deed)) (x6 : (List A2Int) × Int) : Option (((List A2Int) × Int) ⊕ (List A2Int)) :=
 (if (decide (x6.2 < (a0.length : Int))) = true then (iter (spec_GraphEdges.b1 a0 x6) (x6.1, (0 : Int))) else ((some x6.1).bind fun o => some (Sum.inr o)))
def spec_GraphEdges.f (a0 : (List Deed)) : Option ((List A2Int)) :=
 ((spec_DeedsOk.f a0).bind fun r2 => (if (!r2) = true then (some ([] : (List A2Int))) else (iter (spec_GraphEdges.b0 a0) (([] : (List A2Int)), (0 : Int)))))
def spec_GraphEdges.Q (w : World) (F : Nat → Prop) (r : (List A2Int)) (v : Value) (w' : World) : Prop :=
 FO Xv w w' [v] r ∧ Ky [] w w'
theorem spec_GraphEdges.calls (a0 : (List Deed)) (w : World) (F : Nat → Prop) (w0_0 : Value) (h0_0 : Xu.rd w [w0_0] a0 F) (r : (List A2Int)) (m : spec_GraphEdges.f a0 = some r) :
  Calls prog 5 #[w0_0] w (RT (spec_GraphEdges.Q w F) r) := by
 obtain ⟨s0, rfl, kp0, z⟩ := Xf w F
 have A0_0 := z.rd h0_0
 refine Xc (args := [w0_0]) func5 ntmps5 rfl rfl m ?_
 unfold spec_GraphEdges.f
 refine sr (Xb rfl (dn (sr (Xb rfl (dn (sq (sr (Xi w0_0 rfl (clV 40 rfl func14 rfl (spec_DeedsOk.calls a0 s0.w (mm [0] s0) w0_0 A0_0) (fun r2 s3 p3 n3 => ?_))))))))))
 refine Xb rfl (dn (cd rfl (fun h4 => ?_) (fun h4 => ?_)))
 ·
  refine sr (Xb rfl (Xb rfl (dn ?_)))
  have K5 := kp0.st p3 rfl
  exact re rfl func5 rfl (Xj rfl Xd) rfl ⟨_, rfl, (ow_nil 44 kd44 s3 40).fo K5 rfl z.l, z.ky K5⟩
 refine sk (sq (sr (Xb rfl (dn (bl ?_)))))
 refine lpI (fun (x6 : (List A2Int) × Int) e w => ∃ (s : St) (e0 : Env) (vx6_0 : Value), w = s.w ∧ e = upd (upd (upd e0 0 w0_0) 3 vx6_0) 4 (iI x6.2) ∧ Kp s0 s ∧ OwF Xv s [vx6_0] x6.1 41) ⟨s3, _, (.slice none 0 0), rfl, (ue (ue (ue rfl rfl) rfl) rfl), (kp0.st p3 rfl), (ow_nil 44 kd44 _ 41)⟩ (fun g6 ih6 => ?_)
 rintro x6 _ _ ⟨s8, _, vx6_0, rfl, rfl, Kx6, Ax6_0⟩
 unfold spec_GraphEdges.b0
 refine sq (sr (Xb rfl (Xi w0_0 rfl ?_)))
 refine ln' (A0_0.kp Kx6) u26 rfl (Xb rfl (dn (cd rfl (fun h11 => ?_) (fun h11 => ?_))))
 ·
  refine sk (sq (bl (sr (Xb rfl (dn (bl (lpI (fun (x12 : (List A2Int) × Int) e w => ∃ (s : St) (e0 : Env) (vx12_0 : Value), w = s.w ∧ e = upd (upd (upd (upd e0 0 w0_0) 3 vx12_0) 4 (iI x6.2)) 5 (iI x12.2) ∧ Kp s0 s ∧ OwF Xv s [vx12_0] x12.1 41) ⟨s8, _, vx6_0, rfl, (ue (ue (ue (ue rfl rfl) rfl) rfl) rfl), Kx6, Ax6_0⟩ (fun g12 ih12 => ?_))))))))
  rintro x12 _ _ ⟨s13, _, vx12_0, rfl, rfl, Kx12, Ax12_0⟩
  unfold spec_GraphEdges.b1
  refine sq (sr (Xb rfl (Xi w0_0 rfl ?_)))
  refine ln' (A0_0.kp Kx12) u26 rfl (Xb rfl (dn (cd rfl (fun h16 => ?_) (fun h16 => ?_))))
  ·
   refine sk (sq (bl (sq (zdraw [[], [], [0, 1], [2], [3], [3], [4, 5, 3], [6, 3], [3], [3], [8, 9, 3], [10, 3], [7, 11, 3, 3], [3, 12]] [some 22, some 23, some 24, some 25, some 26, some 27, some 28, some 29, some 30, some 31, some 32, some 33, some 34, some 35] [[4], [5], [22, 23], [24], [0, 25], [4, 25], [26, 27, 25], [28, 25], [0, 25], [5, 25], [30, 31, 25], [32, 25], [29, 33, 25], [25, 34]] [0, 1, 2, 3, 4, 5, 6, 7, 8, 9, 10, 11, 12, 13] ⟨by kernel_rfl, by kernel_rfl, by kernel_rfl⟩ (by kernel_rfl) (fun s17 p17 l17 tb17 zd17 => ?_)))))
   have zd21 := (((zd17.add 0 22 (iI x6.2) rfl).add 1 23 (iI x12.2) rfl).add 2 24 (.bool (x6.2 != x12.2)) rfl).add 3 25 (.bool (x6.2 != x12.2)) rfl
   refine ji [] (fun (y22 : Bool) e w => ∃ (s : St) (e0 : Env), w = s.w ∧ e = upd (upd (upd (upd (upd e0 0 w0_0) 3 vx12_0) 4 (iI x6.2)) 5 (iI x12.2)) 35 (.bool y22) ∧ Kp s0 s ∧ OwF Xv s [vx12_0] x12.1 41) (fun Gj22 Kj22 => ?_) ?_
   ·
    rcases bft (x6.2 != x12.2) with hb22 | hb22
    ·
     rw [if_pos hb22]
     rw [hb22] at zd21
     try rw [hb22]
     have K25 := Kx12.st p17 rfl
     have A26 := A0_0.kp K25
     refine mg fun hg27 => ?_
     obtain ⟨ad27, es27, he27, ce27, ia27⟩ := ix_e A26 rfl hg27.1 hg27.2
     obtain ⟨v27_0, v27_1, rfl, A27_0, A27_1⟩ := op43 he27
     refine mg fun hg35 => ?_
     obtain ⟨ad35, es35, he35, ce35, ia35⟩ := ix_e A26 rfl hg35.1 hg35.2
     obtain ⟨v35_0, v35_1, rfl, A35_0, A35_1⟩ := op43 he35
     refine zfin [12, 13] tb17 ((((((((zd21.add 4 26 w0_0 rfl).add 5 27 (iI x6.2) rfl).add 6 28 (.pointer (some ad27)) rfl).add 7 29 (.agg #[(iI ((at_ a0 x6.2).Xid)), (iI ((at_ a0 x6.2).Begun)), (iI ((at_ a0 x6.2).Ended)), v27_0, v27_1]) rfl).add 8 30 w0_0 rfl).add 9 31 (iI x12.2) rfl).add 10 32 (.pointer (some ad35)) rfl).add 11 33 (.agg #[(iI ((at_ a0 x12.2).Xid)), (iI ((at_ a0 x12.2).Begun)), (iI ((at_ a0 x12.2).Ended)), v35_0, v35_1]) rfl) (Xa (lca_q ce35 u43 z43 rfl rfl rfl rfl rfl rfl rfl) rfl (Xa (ix_q' A26 u26 z43 hg35.1 hg35.2 ia35 rfl) rfl (Xa (Xh rfl) rfl (Xa (mv_q w0_0 rfl rfl rfl rfl rfl rfl) rfl (Xa (lca_q ce27 u43 z43 rfl rfl rfl rfl rfl rfl rfl) rfl (Xa (ix_q' A26 u26 z43 hg27.1 hg27.2 ia27 rfl) rfl (Xa (Xh rfl) rfl (Xa (mv_q w0_0 rfl rfl rfl rfl rfl rfl) rfl (Xa (Xh rfl) rfl (Xa (qv_b (Xh rfl) hb22) rfl (Xa (Xh rfl) rfl (Xa (Xh rfl) rfl Xo)))))))))))) (by kernel_rfl) (by decide) (clV 42 rfl func15 rfl (spec_l14edge.calls (at_ a0 x6.2) (at_ a0 x12.2) s17.w (mm [0] s17) v27_0 v27_1 v35_0 v35_1 A27_0 A27_1 A35_0 A35_1) (fun r41 s42 p42 n42 => ?_))
     exact Xb rfl (Kj22 _ _ _ ⟨s42, _, rfl, (ue (ue (ue (ue (ue rfl rfl) rfl) rfl) rfl) rfl), (K25.st p42 rfl), (Ax12_0.st (tr2 p17 p42) rfl)⟩)
    rw [if_neg (by rw [hb22]; decide)]
    rw [hb22] at zd21
    try rw [hb22]
    refine zfin [12, 13] tb17 ((((((((zd21.add 4 26 undef rfl).add 5 27 undef rfl).add 6 28 undef rfl).add 7 29 undef rfl).add 8 30 undef rfl).add 9 31 undef rfl).add 10 32 undef rfl).add 11 33 undef rfl) (Xa (Xq rfl) rfl (Xa (Xq rfl) rfl (Xa (Xq rfl) rfl (Xa (Xq rfl) rfl (Xa (Xq rfl) rfl (Xa (Xq rfl) rfl (Xa (Xq rfl) rfl (Xa (Xq rfl) rfl (Xa (Xh rfl) rfl (Xa (qv_b (Xh rfl) hb22) rfl (Xa (Xh rfl) rfl (Xa (Xh rfl) rfl Xo)))))))))))) (by kernel_rfl) (by decide) (Xg rfl (Xb rfl ?_))
    exact Kj22 _ _ _ ⟨s17, _, rfl, (ue (ue (ue (ue (ue rfl rfl) rfl) rfl) rfl) rfl), (Kx12.st p17 rfl), (Ax12_0.st p17 rfl)⟩
   rintro y22 _ _ ⟨s55, _, rfl, rfl, Ky22, Cy22_14⟩
   refine dn (jc (fun (y56 : (List A2Int)) e w => ∃ (s : St) (e0 : Env) (vy56_0 : Value), w = s.w ∧ e = upd (upd (upd (upd e0 0 w0_0) 3 vy56_0) 4 (iI x6.2)) 5 (iI x12.2) ∧ Kp s0 s ∧ OwF Xv s [vy56_0] y56 41) (fun Gj56 Kj56 => ?_) ?_)
   ·
    refine cd rfl (fun h57 => ?_) (fun h57 => ?_)
    ·
     refine rg (Xi vx12_0 rfl (Xb rfl (Xb rfl (bdA (cells := [(iI x6.2), (iI x12.2)]) u44 z3 o44 rfl rfl rfl rfl rfl rfl (ltF (K := kd44) (cells := [(iI x6.2), (iI x12.2)]) [(A2Int.mk x6.2 x12.2)] 43 (fl_iso (fl_pair fl_int fl_int)) u24 z44 o44 (fun w => ⟨[(iI x6.2), (iI x12.2)], [], rfl, ⟨[(iI x6.2)], [(iI x12.2)], rfl, rfl, rfl⟩, rfl⟩) rfl rfl rfl rfl rfl rfl rfl rfl rfl rfl (fun v58 s58 p58 A58 => ?_))))))
     refine apF (fl_iso (fl_pair fl_int fl_int)) sl24 (Cy22_14.st p58 rfl) A58.rd rfl rfl rfl rfl rfl rfl rfl (fun v61 s61 p61 A61 => ?_)
     refine asg' v61 rfl (dn ?_)
     exact Kj56 _ _ _ ⟨s61, _, v61, rfl, (ue (ue (ue (ue rfl rfl) rfl) rfl) rfl), (Ky22.st (tr2 p58 p61) rfl), A61⟩
    exact sk (Kj56 _ _ _ ⟨s55, _, vx12_0, rfl, (ue (ue (ue (ue rfl rfl) rfl) rfl) rfl), Ky22, Cy22_14⟩)
   rintro y56 _ _ ⟨s64, _, vy56_0, rfl, rfl, Ky56, Ay56_0⟩
   exact ib (rg (Xb rfl (Xb rfl (Xb rfl (dn (lb ih12 ⟨s64, _, vy56_0, rfl, (ue (ue (ue (ue rfl rfl) rfl) rfl) rfl), Ky56, Ay56_0⟩))))))
  exact xt rfl (sgb (ib (rg (Xb rfl (Xb rfl (Xb rfl (dn (lb ih6 ⟨s13, _, vx12_0, rfl, (ue (ue (ue rfl rfl) rfl) rfl), Kx12, Ax12_0⟩))))))))
 exact xt rfl (sgb (sr (Xi vx6_0 rfl (asg' vx6_0 rfl (dn (re rfl func5 rfl (Xj rfl Xd) rfl ⟨_, rfl, Ax6_0.fo Kx6 rfl z.l, z.ky Kx6⟩))))))
def impl_areAll_impl_Deed_1.f (a0 : Deed) (a1 : (Deed → Option Bool)) : Option (Bool) :=
 ((a1 a0).bind fun r10 => (some (!r10)))
def impl_areAll_impl_Deed_1.Q (w : World) (F : Nat → Prop) (r : Bool) (v : Value) (w' : World) : Prop :=
 v = (.bool r) ∧ Ky [] w w'
theorem impl_areAll_impl_Deed_1.calls (a0 : Deed) (a1 : (Deed → Option Bool)) (w : World) (F : Nat → Prop) (w0_0 : Value) (w0_1 : Value) (c1 : Nat) (f1 : Value) (h0_0 : Xs.rd w [w0_0] a0.Reads F) (h0_1 : Xt.rd w [w0_1] a0.Writes F) (hf1 : ∀ (x0 : Deed) (u0_0 u0_1 : Value) (w' : World), Ky [] w w' → Xs.rd w' [u0_0] x0.Reads (fun _ => True) → Xt.rd w' [u0_1] x0.Writes (fun _ => True) → ∀ r, a1 x0 = some r → CallV prog f1 [(.agg #[(iI x0.Xid), (iI x0.Begun), (iI x0.Ended), u0_0, u0_1])] w' fun en w'' => ∃ v, en = .returned v ∧ v = (.bool r) ∧ Ky [] w' w'') (ho1 : f1.cells = #[f1]) (hb1 : BlW w c1 70 [f1]) (hp1 : F c1) (r : Bool) (m : impl_areAll_impl_Deed_1.f a0 a1 = some r) :
  Calls prog 54 #[(.agg #[(iI a0.Xid), (iI a0.Begun), (iI a0.Ended), w0_0, w0_1]), (pB c1)] w (RT (impl_areAll_impl_Deed_1.Q w F) r) := by
 obtain ⟨s0, rfl, kp0, z⟩ := Xf w F
 refine Xc (args := [(.agg #[(iI a0.Xid), (iI a0.Begun), (iI a0.Ended), w0_0, w0_1]), (pB c1)]) func54 ntmps54 rfl rfl m ?_
 unfold impl_areAll_impl_Deed_1.f
 refine sr (bx' (cs := [(iI a0.Xid), (iI a0.Begun), (iI a0.Ended), w0_0, w0_1]) 40 rfl rfl (fun b4 s4 p4 B4 => ?_))
 refine Xb rfl (dn (sr ?_))
 refine ld' (BlF.st (z.b0 hb1 hp1) p4 rfl) u70 rfl (lda' (es := [(iI a0.Xid), (iI a0.Begun), (iI a0.Ended), w0_0, w0_1]) B4 u43 z43 rfl ?_)
 have K7 := kp0.st p4 rfl
 refine clv rfl rfl rfl rfl rfl rfl rfl (fun r10 m10 => hf1 a0 w0_0 w0_1 s4.w (z.ky K7) (RdF.top ((z.rd h0_0).kp K7)) (RdF.top ((z.rd h0_1).kp K7)) r10 m10) ?_
 rintro r10 _ w10 m10 ⟨rfl, ky10⟩
 obtain ⟨s11, rfl, p11, n11⟩ := nwx s4 w10 41 ky10
 refine Xb rfl (Xb rfl (dn ?_))
 exact re rfl func54 rfl (Xj rfl Xd) rfl ⟨_, rfl, rfl, z.ky (K7.st p11 rfl)⟩
def slices_IndexFunc_impl_Deed_impl_Deed.b0 (a0 : (List Deed)) (a1 : (Deed → Option Bool)) (x2 : Int) : Option (Int ⊕ Int) :=
 (if (decide (x2 < (a0.length : Int))) = true then (if 0 ≤ x2 ∧ x2 < (a0.length : Int) then ((a1 (at_ a0 x2)).bind fun r10 => (if r10 = true then (some (Sum.inr x2)) else (some (Sum.inl (IntKind.wrap .i64 (x2 + (1 : Int))))))) else none) else ((some (-1 : Int)).bind fun o => some (Sum.inr o)))
def slices_IndexFunc_impl_Deed_impl_Deed.f (a0 : (List Deed)) (a1 : (Deed → Option Bool)) : Option (Int) :=
 (iter (slices_IndexFunc_impl_Deed_impl_Deed.b0 a0 a1) (0 : Int))
def slices_IndexFunc_impl_Deed_impl_Deed.Q (w : World) (F : Nat → Prop) (r : Int) (v : Value) (w' : World) : Prop :=
 v = (iI r) ∧ Ky [] w w'
theorem slices_IndexFunc_impl_Deed_impl_Deed.calls (a0 : (List Deed)) (a1 : (Deed → Option Bool)) (w : World) (F : Nat → Prop) (w0_0 : Value) (f1 : Value) (h0_0 : Xu.rd w [w0_0] a0 F) (hf1 : ∀ (x0 : Deed) (u0_0 u0_1 : Value) (w' : World), Ky [] w w' → Xs.rd w' [u0_0] x0.Reads (fun _ => True) → Xt.rd w' [u0_1] x0.Writes (fun _ => True) → ∀ r, a1 x0 = some r → CallV prog f1 [(.agg #[(iI x0.Xid), (iI x0.Begun), (iI x0.Ended), u0_0, u0_1])] w' fun en w'' => ∃ v, en = .returned v ∧ v = (.bool r) ∧ Ky [] w' w'') (ho1 : f1.cells = #[f1]) (r : Int) (m : slices_IndexFunc_impl_Deed_impl_Deed.f a0 a1 = some r) :
  Calls prog 79 #[w0_0, f1] w (RT (slices_IndexFunc_impl_Deed_impl_Deed.Q w F) r) := by
 obtain ⟨s0, rfl, kp0, z⟩ := Xf w F
 have A0_0 := z.rd h0_0
 refine Xc (args := [w0_0, f1]) func79 ntmps79 rfl rfl m ?_
 unfold slices_IndexFunc_impl_Deed_impl_Deed.f
 refine sr (Xb rfl (dn (sq (sr (Xi w0_0 rfl (ln' A0_0 u26 rfl (Xb rfl (dn (bl (lpI (fun (x2 : Int) e w => ∃ (s : St) (e0 : Env), w = s.w ∧ e = upd (upd (upd (upd e0 0 w0_0) 1 f1) 7 (iI (a0.length : Int))) 8 (iI x2) ∧ Kp s0 s) ⟨s0, _, rfl, (ue (ue (ue (ue rfl rfl) rfl) rfl) rfl), kp0⟩ (fun g2 ih2 => ?_)))))))))))
 rintro x2 _ _ ⟨s3, _, rfl, rfl, Kx2⟩
 unfold slices_IndexFunc_impl_Deed_impl_Deed.b0
 refine sr (Xb rfl (dn (sq (cd rfl (fun h4 => ?_) (fun h4 => ?_)))))
 ·
  refine sk (sq (bl (sr (Xb rfl (Xb rfl (dn (sr (Xi f1 rfl (Xi w0_0 rfl (Xb rfl ?_))))))))))
  refine ix' (A0_0.kp Kx2) u26 z43 rfl (fun ad6 es6 h0_6 h1_6 he6 ce6 ia6 => ?_)
  obtain ⟨v6_0, v6_1, rfl, A6_0, A6_1⟩ := op43 he6
  refine lca ce6 u43 z43 rfl rfl rfl rfl rfl rfl rfl (clv rfl rfl rfl rfl rfl rfl rfl (fun r10 m10 => hf1 (at_ a0 x2) v6_0 v6_1 s3.w (z.ky Kx2) (RdF.top A6_0) (RdF.top A6_1) r10 m10) ?_)
  rintro r10 _ w10 m10 ⟨rfl, ky10⟩
  obtain ⟨s11, rfl, p11, n11⟩ := nwx s3 w10 40 ky10
  refine dn (cd rfl (fun h12 => ?_) (fun h12 => ?_))
  ·
   refine sr (Xb rfl (Xb rfl (dn (sgi ?_))))
   exact re rfl func79 rfl (Xj rfl Xd) rfl ⟨_, rfl, rfl, z.ky (Kx2.st p11 rfl)⟩
  refine sk (ib (rg (Xb rfl (Xb rfl (dn ?_)))))
  exact lb ih2 ⟨s11, _, rfl, (ue (ue (ue (ue rfl rfl) rfl) rfl) rfl), (Kx2.st p11 rfl)⟩
 exact xt rfl (sgb (sr (Xb rfl (dn (re rfl func79 rfl (Xj rfl Xd) rfl ⟨_, rfl, rfl, z.ky Kx2⟩)))))
def slices_ContainsFunc_impl_Deed_impl_Deed.f (a0 : (List Deed)) (a1 : (Deed → Option Bool)) : Option (Bool) :=
 ((slices_IndexFunc_impl_Deed_impl_Deed.f a0 a1).bind fun r2 => (some (decide (r2 ≥ (0 : Int)))))
def slices_ContainsFunc_impl_Deed_impl_Deed.Q (w : World) (F : Nat → Prop) (r : Bool) (v : Value) (w' : World) : Prop :=
 v = (.bool r) ∧ Ky [] w w'
theorem slices_ContainsFunc_impl_Deed_impl_Deed.calls (a0 : (List Deed)) (a1 : (Deed → Option Bool)) (w : World) (F : Nat → Prop) (w0_0 : Value) (f1 : Value) (h0_0 : Xu.rd w [w0_0] a0 F) (hf1 : ∀ (x0 : Deed) (u0_0 u0_1 : Value) (w' : World), Ky [] w w' → Xs.rd w' [u0_0] x0.Reads (fun _ => True) → Xt.rd w' [u0_1] x0.Writes (fun _ => True) → ∀ r, a1 x0 = some r → CallV prog f1 [(.agg #[(iI x0.Xid), (iI x0.Begun), (iI x0.Ended), u0_0, u0_1])] w' fun en w'' => ∃ v, en = .returned v ∧ v = (.bool r) ∧ Ky [] w' w'') (ho1 : f1.cells = #[f1]) (r : Bool) (m : slices_ContainsFunc_impl_Deed_impl_Deed.f a0 a1 = some r) :
  Calls prog 53 #[w0_0, f1] w (RT (slices_ContainsFunc_impl_Deed_impl_Deed.Q w F) r) := by
 obtain ⟨s0, rfl, kp0, z⟩ := Xf w F
 refine Xc (args := [w0_0, f1]) func53 ntmps53 rfl rfl m ?_
 unfold slices_ContainsFunc_impl_Deed_impl_Deed.f
 refine sr (Xb rfl (dn (sr (Xi w0_0 rfl (Xi f1 rfl (clV 40 rfl func79 rfl (slices_IndexFunc_impl_Deed_impl_Deed.calls a0 a1 s0.w (mm [0] s0) w0_0 f1 (z.rd h0_0) (fun x0 u0_0 u0_1 w' k h0 h1 r m =>  hf1 x0 u0_0 u0_1 w' (Ky.trans (z.ky kp0) k) h0 h1 r m) ho1) (fun r2 s3 p3 n3 => ?_)))))))
 refine Xb rfl (Xb rfl (dn ?_))
 exact re rfl func53 rfl (Xj rfl Xd) rfl ⟨_, rfl, rfl, z.ky (kp0.st p3 rfl)⟩
def impl_areAll_impl_Deed.f (a0 : (List Deed)) (a1 : (Deed → Option Bool)) : Option (Bool) :=
 ((slices_ContainsFunc_impl_Deed_impl_Deed.f a0 (fun x0 => impl_areAll_impl_Deed_1.f x0 a1)).bind fun r6 => (some (!r6)))
def impl_areAll_impl_Deed.Q (w : World) (F : Nat → Prop) (r : Bool) (v : Value) (w' : World) : Prop :=
 v = (.bool r) ∧ Ky [] w w'
theorem impl_areAll_impl_Deed.calls (a0 : (List Deed)) (a1 : (Deed → Option Bool)) (w : World) (F : Nat → Prop) (w0_0 : Value) (f1 : Value) (h0_0 : Xu.rd w [w0_0] a0 F) (hf1 : ∀ (x0 : Deed) (u0_0 u0_1 : Value) (w' : World), Ky [] w w' → Xs.rd w' [u0_0] x0.Reads (fun _ => True) → Xt.rd w' [u0_1] x0.Writes (fun _ => True) → ∀ r, a1 x0 = some r → CallV prog f1 [(.agg #[(iI x0.Xid), (iI x0.Begun), (iI x0.Ended), u0_0, u0_1])] w' fun en w'' => ∃ v, en = .returned v ∧ v = (.bool r) ∧ Ky [] w' w'') (ho1 : f1.cells = #[f1]) (r : Bool) (m : impl_areAll_impl_Deed.f a0 a1 = some r) :
  Calls prog 34 #[w0_0, f1] w (RT (impl_areAll_impl_Deed.Q w F) r) := by
 obtain ⟨s0, rfl, kp0, z⟩ := Xf w F
 refine Xc (args := [w0_0, f1]) func34 ntmps34 rfl rfl m ?_
 unfold impl_areAll_impl_Deed.f
 refine sr (bx' (cs := [f1]) 40 rfl ho1 (fun b2 s2 p2 B2 => ?_))
 refine Xb rfl (dn (sr (Xi w0_0 rfl (mkf (fs := []) (cs := [(pB b2)]) rfl rfl rfl rfl rfl rfl rfl ?_))))
 have K4 := kp0.st p2 rfl
 refine clV 41 rfl func53 rfl (slices_ContainsFunc_impl_Deed_impl_Deed.calls a0 (fun x0 => impl_areAll_impl_Deed_1.f x0 a1) s2.w (mm [0] s2) w0_0 (.func (.func 54) (List.toArray []) (List.toArray [(pB b2)])) ((z.rd h0_0).kp K4) (fun x0 u0_0 u0_1 w' k h0 h1 r m =>  ⟨54, _, _, [], [(pB b2)], rfl, func54, rfl, rfl, (impl_areAll_impl_Deed_1.calls x0 a1 w' (fun _ => True) u0_0 u0_1 b2 f1 h0 h1 (fun x0c u0_0c u0_1c w'c kc h0c h1c r m =>  hf1 x0c u0_0c u0_1c w'c (Ky.trans (z.ky K4) (Ky.trans k kc)) h0c h1c r m) ho1 (B2.ky k) trivial r m).mono fun en w2 hq => by obtain ⟨v, e, q⟩ := hq; exact ⟨v, e, q⟩⟩) rfl) (fun r6 s7 p7 n7 => ?_)
 refine Xb rfl (Xb rfl (dn ?_))
 exact re rfl func34 rfl (Xj rfl Xd) rfl ⟨_, rfl, rfl, z.ky (K4.st p7 rfl)⟩
def impl_areAll_impl_Span_1.f (a0 : Span) (a1 : (Span → Option Bool)) : Option (Bool) :=
 ((a1 a0).bind fun r10 => (some (!r10)))
def impl_areAll_impl_Span_1.Q (w : World) (F : Nat → Prop) (r : Bool) (v : Value) (w' : World) : Prop :=
 v = (.bool r) ∧ Ky [] w w'
theorem impl_areAll_impl_Span_1.calls (a0 : Span) (a1 : (Span → Option Bool)) (w : World) (F : Nat → Prop) (w0_0 : Value) (w0_1 : Value) (w0_2 : Value) (w0_3 : Value) (c1 : Nat) (f1 : Value) (h0_0 : Kd.flt.rd w [w0_0] a0.From.F F) (h0_1 : Xr.rd w [w0_1] a0.From.T F) (h0_2 : Kd.flt.rd w [w0_2] a0.To.F F) (h0_3 : Xr.rd w [w0_3] a0.To.T F) (hf1 : ∀ (x0 : Span) (u0_0 u0_1 u0_2 u0_3 : Value) (w' : World), Ky [] w w' → Kd.flt.rd w' [u0_0] x0.From.F (fun _ => True) → Xr.rd w' [u0_1] x0.From.T (fun _ => True) → Kd.flt.rd w' [u0_2] x0.To.F (fun _ => True) → Xr.rd w' [u0_3] x0.To.T (fun _ => True) → ∀ r, a1 x0 = some r → CallV prog f1 [(.agg #[(iI x0.From.Kind), (iI x0.From.N), u0_0, u0_1, (iI x0.To.Kind), (iI x0.To.N), u0_2, u0_3])] w' fun en w'' => ∃ v, en = .returned v ∧ v = (.bool r) ∧ Ky [] w' w'') (ho1 : f1.cells = #[f1]) (hb1 : BlW w c1 57 [f1]) (hp1 : F c1) (r : Bool) (m : impl_areAll_impl_Span_1.f a0 a1 = some r) :
  Calls prog 81 #[(.agg #[(iI a0.From.Kind), (iI a0.From.N), w0_0, w0_1, (iI a0.To.Kind), (iI a0.To.N), w0_2, w0_3]), (pB c1)] w (RT (impl_areAll_impl_Span_1.Q w F) r) := by
 obtain ⟨s0, rfl, kp0, z⟩ := Xf w F
 refine Xc (args := [(.agg #[(iI a0.From.Kind), (iI a0.From.N), w0_0, w0_1, (iI a0.To.Kind), (iI a0.To.N), w0_2, w0_3]), (pB c1)]) func81 ntmps81 rfl rfl m ?_
 unfold impl_areAll_impl_Span_1.f
 refine sr (bx' (cs := [(iI a0.From.Kind), (iI a0.From.N), w0_0, w0_1, (iI a0.To.Kind), (iI a0.To.N), w0_2, w0_3]) 40 rfl rfl (fun b4 s4 p4 B4 => ?_))
 refine Xb rfl (dn (sr ?_))
 refine ld' (BlF.st (z.b0 hb1 hp1) p4 rfl) u57 rfl (lda' (es := [(iI a0.From.Kind), (iI a0.From.N), w0_0, w0_1, (iI a0.To.Kind), (iI a0.To.N), w0_2, w0_3]) B4 u63 z63 rfl ?_)
 have K7 := kp0.st p4 rfl
 refine clv rfl rfl rfl rfl rfl rfl rfl (fun r10 m10 => hf1 a0 w0_0 w0_1 w0_2 w0_3 s4.w (z.ky K7) (fl_rd (Xm h0_0)) (RdF.top ((z.rd h0_1).kp K7)) (fl_rd (Xm h0_2)) (RdF.top ((z.rd h0_3).kp K7)) r10 m10) ?_
 rintro r10 _ w10 m10 ⟨rfl, ky10⟩
 obtain ⟨s11, rfl, p11, n11⟩ := nwx s4 w10 41 ky10
 refine Xb rfl (Xb rfl (dn ?_))
 exact re rfl func81 rfl (Xj rfl Xd) rfl ⟨_, rfl, rfl, z.ky (K7.st p11 rfl)⟩
def slices_IndexFunc_impl_Span_impl_Span.b0 (a0 : (List Span)) (a1 : (Span → Option Bool)) (x2 : Int) : Option (Int ⊕ Int) :=
 (if (decide (x2 < (a0.length : Int))) = true then (if 0 ≤ x2 ∧ x2 < (a0.length : Int) then ((a1 (Span.mk ((at_ a0 x2).From) ((at_ a0 x2).To))).bind fun r10 => (if r10 = true then (some (Sum.inr x2)) else (some (Sum.inl (IntKind.wrap .i64 (x2 + (1 : Int))))))) else none) else ((some (-1 : Int)).bind fun o => some (Sum.inr o)))
def slices_IndexFunc_impl_Span_impl_Span.f (a0 : (List Span)) (a1 : (Span → Option Bool)) : Option (Int) :=
 (iter (slices_IndexFunc_impl_Span_impl_Span.b0 a0 a1) (0 : Int))
def slices_IndexFunc_impl_Span_impl_Span.Q (w : World) (F : Nat → Prop) (r : Int) (v : Value) (w' : World) : Prop :=
 v = (iI r) ∧ Ky [] w w'
theorem slices_IndexFunc_impl_Span_impl_Span.calls (a0 : (List Span)) (a1 : (Span → Option Bool)) (w : World) (F : Nat → Prop) (w0_0 : Value) (f1 : Value) (h0_0 : Xs.rd w [w0_0] a0 F) (hf1 : ∀ (x0 : Span) (u0_0 u0_1 u0_2 u0_3 : Value) (w' : World), Ky [] w w' → Kd.flt.rd w' [u0_0] x0.From.F (fun _ => True) → Xr.rd w' [u0_1] x0.From.T (fun _ => True) → Kd.flt.rd w' [u0_2] x0.To.F (fun _ => True) → Xr.rd w' [u0_3] x0.To.T (fun _ => True) → ∀ r, a1 x0 = some r → CallV prog f1 [(.agg #[(iI x0.From.Kind), (iI x0.From.N), u0_0, u0_1, (iI x0.To.Kind), (iI x0.To.N), u0_2, u0_3])] w' fun en w'' => ∃ v, en = .returned v ∧ v = (.bool r) ∧ Ky [] w' w'') (ho1 : f1.cells = #[f1]) (r : Int) (m : slices_IndexFunc_impl_Span_impl_Span.f a0 a1 = some r) :
  Calls prog 98 #[w0_0, f1] w (RT (slices_IndexFunc_impl_Span_impl_Span.Q w F) r) := by
 obtain ⟨s0, rfl, kp0, z⟩ := Xf w F
 have A0_0 := z.rd h0_0
 refine Xc (args := [w0_0, f1]) func98 ntmps98 rfl rfl m ?_
 unfold slices_IndexFunc_impl_Span_impl_Span.f
 refine sr (Xb rfl (dn (sq (sr (Xi w0_0 rfl (ln' A0_0 u40 rfl (Xb rfl (dn (bl (lpI (fun (x2 : Int) e w => ∃ (s : St) (e0 : Env), w = s.w ∧ e = upd (upd (upd (upd e0 0 w0_0) 1 f1) 7 (iI (a0.length : Int))) 8 (iI x2) ∧ Kp s0 s) ⟨s0, _, rfl, (ue (ue (ue (ue rfl rfl) rfl) rfl) rfl), kp0⟩ (fun g2 ih2 => ?_)))))))))))
 rintro x2 _ _ ⟨s3, _, rfl, rfl, Kx2⟩
 unfold slices_IndexFunc_impl_Span_impl_Span.b0
 refine sr (Xb rfl (dn (sq (cd rfl (fun h4 => ?_) (fun h4 => ?_)))))
 ·
  refine sk (sq (bl (sr (Xb rfl (Xb rfl (dn (sr (Xi f1 rfl (Xi w0_0 rfl (Xb rfl ?_))))))))))
  refine ix' (A0_0.kp Kx2) u40 z63 rfl (fun ad6 es6 h0_6 h1_6 he6 ce6 ia6 => ?_)
  obtain ⟨v6_0, v6_1, v6_2, v6_3, rfl, A6_0, A6_1, A6_2, A6_3⟩ := op63 he6
  refine lca ce6 u63 z63 rfl rfl rfl rfl rfl rfl rfl (clv rfl rfl rfl rfl rfl rfl rfl (fun r10 m10 => hf1 (Span.mk ((at_ a0 x2).From) ((at_ a0 x2).To)) v6_0 v6_1 v6_2 v6_3 s3.w (z.ky Kx2) (fl_rd A6_0) (RdF.top A6_1) (fl_rd A6_2) (RdF.top A6_3) r10 m10) ?_)
  rintro r10 _ w10 m10 ⟨rfl, ky10⟩
  obtain ⟨s11, rfl, p11, n11⟩ := nwx s3 w10 40 ky10
  refine dn (cd rfl (fun h12 => ?_) (fun h12 => ?_))
  ·
   refine sr (Xb rfl (Xb rfl (dn (sgi ?_))))
   exact re rfl func98 rfl (Xj rfl Xd) rfl ⟨_, rfl, rfl, z.ky (Kx2.st p11 rfl)⟩
  refine sk (ib (rg (Xb rfl (Xb rfl (dn ?_)))))
  exact lb ih2 ⟨s11, _, rfl, (ue (ue (ue (ue rfl rfl) rfl) rfl) rfl), (Kx2.st p11 rfl)⟩
 exact xt rfl (sgb (sr (Xb rfl (dn (re rfl func98 rfl (Xj rfl Xd) rfl ⟨_, rfl, rfl, z.ky Kx2⟩)))))
def slices_ContainsFunc_impl_Span_impl_Span.f (a0 : (List Span)) (a1 : (Span → Option Bool)) : Option (Bool) :=
 ((slices_IndexFunc_impl_Span_impl_Span.f a0 a1).bind fun r2 => (some (decide (r2 ≥ (0 : Int)))))
def slices_ContainsFunc_impl_Span_impl_Span.Q (w : World) (F : Nat → Prop) (r : Bool) (v : Value) (w' : World) : Prop :=
 v = (.bool r) ∧ Ky [] w w'
theorem slices_ContainsFunc_impl_Span_impl_Span.calls (a0 : (List Span)) (a1 : (Span → Option Bool)) (w : World) (F : Nat → Prop) (w0_0 : Value) (f1 : Value) (h0_0 : Xs.rd w [w0_0] a0 F) (hf1 : ∀ (x0 : Span) (u0_0 u0_1 u0_2 u0_3 : Value) (w' : World), Ky [] w w' → Kd.flt.rd w' [u0_0] x0.From.F (fun _ => True) → Xr.rd w' [u0_1] x0.From.T (fun _ => True) → Kd.flt.rd w' [u0_2] x0.To.F (fun _ => True) → Xr.rd w' [u0_3] x0.To.T (fun _ => True) → ∀ r, a1 x0 = some r → CallV prog f1 [(.agg #[(iI x0.From.Kind), (iI x0.From.N), u0_0, u0_1, (iI x0.To.Kind), (iI x0.To.N), u0_2, u0_3])] w' fun en w'' => ∃ v, en = .returned v ∧ v = (.bool r) ∧ Ky [] w' w'') (ho1 : f1.cells = #[f1]) (r : Bool) (m : slices_ContainsFunc_impl_Span_impl_Span.f a0 a1 = some r) :
  Calls prog 80 #[w0_0, f1] w (RT (slices_ContainsFunc_impl_Span_impl_Span.Q w F) r) := by
 obtain ⟨s0, rfl, kp0, z⟩ := Xf w F
 refine Xc (args := [w0_0, f1]) func80 ntmps80 rfl rfl m ?_
 unfold slices_ContainsFunc_impl_Span_impl_Span.f
 refine sr (Xb rfl (dn (sr (Xi w0_0 rfl (Xi f1 rfl (clV 40 rfl func98 rfl (slices_IndexFunc_impl_Span_impl_Span.calls a0 a1 s0.w (mm [0] s0) w0_0 f1 (z.rd h0_0) (fun x0 u0_0 u0_1 u0_2 u0_3 w' k h0 h1 h2 h3 r m =>  hf1 x0 u0_0 u0_1 u0_2 u0_3 w' (Ky.trans (z.ky kp0) k) h0 h1 h2 h3 r m) ho1) (fun r2 s3 p3 n3 => ?_)))))))
 refine Xb rfl (Xb rfl (dn ?_))
 exact re rfl func80 rfl (Xj rfl Xd) rfl ⟨_, rfl, rfl, z.ky (kp0.st p3 rfl)⟩
def impl_areAll_impl_Span.f (a0 : (List Span)) (a1 : (Span → Option Bool)) : Option (Bool) :=
 ((slices_ContainsFunc_impl_Span_impl_Span.f a0 (fun x0 => impl_areAll_impl_Span_1.f x0 a1)).bind fun r6 => (some (!r6)))
def impl_areAll_impl_Span.Q (w : World) (F : Nat → Prop) (r : Bool) (v : Value) (w' : World) : Prop :=
 v = (.bool r) ∧ Ky [] w w'
theorem impl_areAll_impl_Span.calls (a0 : (List Span)) (a1 : (Span → Option Bool)) (w : World) (F : Nat → Prop) (w0_0 : Value) (f1 : Value) (h0_0 : Xs.rd w [w0_0] a0 F) (hf1 : ∀ (x0 : Span) (u0_0 u0_1 u0_2 u0_3 : Value) (w' : World), Ky [] w w' → Kd.flt.rd w' [u0_0] x0.From.F (fun _ => True) → Xr.rd w' [u0_1] x0.From.T (fun _ => True) → Kd.flt.rd w' [u0_2] x0.To.F (fun _ => True) → Xr.rd w' [u0_3] x0.To.T (fun _ => True) → ∀ r, a1 x0 = some r → CallV prog f1 [(.agg #[(iI x0.From.Kind), (iI x0.From.N), u0_0, u0_1, (iI x0.To.Kind), (iI x0.To.N), u0_2, u0_3])] w' fun en w'' => ∃ v, en = .returned v ∧ v = (.bool r) ∧ Ky [] w' w'') (ho1 : f1.cells = #[f1]) (r : Bool) (m : impl_areAll_impl_Span.f a0 a1 = some r) :
  Calls prog 55 #[w0_0, f1] w (RT (impl_areAll_impl_Span.Q w F) r) := by
 obtain ⟨s0, rfl, kp0, z⟩ := Xf w F
 refine Xc (args := [w0_0, f1]) func55 ntmps55 rfl rfl m ?_
 unfold impl_areAll_impl_Span.f
 refine sr (bx' (cs := [f1]) 40 rfl ho1 (fun b2 s2 p2 B2 => ?_))
 refine Xb rfl (dn (sr (Xi w0_0 rfl (mkf (fs := []) (cs := [(pB b2)]) rfl rfl rfl rfl rfl rfl rfl ?_))))
 have K4 := kp0.st p2 rfl
 refine clV 41 rfl func80 rfl (slices_ContainsFunc_impl_Span_impl_Span.calls a0 (fun x0 => impl_areAll_impl_Span_1.f x0 a1) s2.w (mm [0] s2) w0_0 (.func (.func 81) (List.toArray []) (List.toArray [(pB b2)])) ((z.rd h0_0).kp K4) (fun x0 u0_0 u0_1 u0_2 u0_3 w' k h0 h1 h2 h3 r m =>  ⟨81, _, _, [], [(pB b2)], rfl, func81, rfl, rfl, (impl_areAll_impl_Span_1.calls x0 a1 w' (fun _ => True) u0_0 u0_1 u0_2 u0_3 b2 f1 h0 h1 h2 h3 (fun x0c u0_0c u0_1c u0_2c u0_3c w'c kc h0c h1c h2c h3c r m =>  hf1 x0c u0_0c u0_1c u0_2c u0_3c w'c (Ky.trans (z.ky K4) (Ky.trans k kc)) h0c h1c h2c h3c r m) ho1 (B2.ky k) trivial r m).mono fun en w2 hq => by obtain ⟨v, e, q⟩ := hq; exact ⟨v, e, q⟩⟩) rfl) (fun r6 s7 p7 n7 => ?_)
 refine Xb rfl (Xb rfl (dn ?_))
 exact re rfl func55 rfl (Xj rfl Xd) rfl ⟨_, rfl, rfl, z.ky (K4.st p7 rfl)⟩
def impl_within.f (a0 : Int) (a1 : Int) (a2 : Int) : Option (Bool) :=
 (some ((decide (a1 ≤ a0)) && (decide (a0 ≤ a2))))
def impl_within.Q (w : World) (F : Nat → Prop) (r : Bool) (v : Value) (w' : World) : Prop :=
 v = (.bool r) ∧ Ky [] w w'
theorem impl_within.calls (a0 : Int) (a1 : Int) (a2 : Int) (w : World) (F : Nat → Prop)   (r : Bool) (m : impl_within.f a0 a1 a2 = some r) :
  Calls prog 102 #[(iI a0), (iI a1), (iI a2)] w (RT (impl_within.Q w F) r) := by
 obtain ⟨s0, rfl, kp0, z⟩ := Xf w F
 refine Xc (args := [(iI a0), (iI a1), (iI a2)]) func102 ntmps102 rfl rfl m ?_
 unfold impl_within.f
 refine sr (Xb rfl (dn (sr (Xb rfl (Xb rfl (Xb rfl (Xb rfl (jy [10, 11, 12, 13, 14] [8] 14 (.bool ((decide (a1 ≤ a0)) && (decide (a0 ≤ a2)))) rfl (fun Kg1 => ?_) (fun j1 => ?_)))))))))
 ·
  rcases bft (decide (a1 ≤ a0)) with hb1 | hb1
  ·
   exact sbT hb1 (Xb rfl (Xb rfl (Xb rfl (Xb rfl (Kg1 _ (Ag.put ((Ag.put ((Ag.put ((Ag.put (Ag.base rfl) rfl)) rfl)) rfl)) rfl) (by rw [hb1]; rfl))))))
  exact sbT hb1 (Xg rfl (Xg rfl (Xg rfl (Xb rfl (Kg1 _ (Ag.put ((Ag.put ((Ag.put ((Ag.put (Ag.base rfl) rfl)) rfl)) rfl)) rfl) (by rw [hb1]; rfl))))))
 exact Xb rfl (dn (re rfl func102 rfl (Xj rfl Xd) rfl ⟨_, rfl, rfl, z.ky kp0⟩))
def impl_ItemOk.f (a0 : Item) : Option (Bool) :=
 ((impl_within.f a0.Kind (0 : Int) (3 : Int)).bind fun r4 => (some (((r4 && ((a0.N == (0 : Int)) || (a0.Kind == (1 : Int)))) && (((a0.F : Int) == 0) || (a0.Kind == (2 : Int)))) && (((a0.T.length : Int) == (0 : Int)) || ((a0.Kind == (3 : Int)) && (decide ((a0.T.length : Int) ≤ (40 : Int))))))))
def impl_ItemOk.Q (w : World) (F : Nat → Prop) (r : Bool) (v : Value) (w' : World) : Prop :=
 v = (.bool r) ∧ Ky [] w w'
theorem impl_ItemOk.calls (a0 : Item) (w : World) (F : Nat → Prop) (w0_0 : Value) (w0_1 : Value) (h0_0 : Kd.flt.rd w [w0_0] a0.F F) (h0_1 : Xr.rd w [w0_1] a0.T F) (r : Bool) (m : impl_ItemOk.f a0 = some r) :
  Calls prog 84 #[(.agg #[(iI a0.Kind), (iI a0.N), w0_0, w0_1])] w (RT (impl_ItemOk.Q w F) r) := by
 obtain ⟨s0, rfl, kp0, z⟩ := Xf w F
 refine Xc (args := [(.agg #[(iI a0.Kind), (iI a0.N), w0_0, w0_1])]) func84 ntmps84 rfl rfl m ?_
 unfold impl_ItemOk.f
 refine sr (bx' (cs := [(iI a0.Kind), (iI a0.N), w0_0, w0_1]) 40 rfl rfl (fun b2 s2 p2 B2 => ?_))
 refine Xb rfl (dn (sr (Xn fa61_0 rfl (ld' B2 u3 rfl (clV 41 rfl func102 rfl (impl_within.calls a0.Kind (0 : Int) (3 : Int) s2.w (mm [] s2)) (fun r4 s5 p5 n5 => ?_))))))
 refine Xb rfl (jy [6, 7, 8, 9, 10, 11, 12, 13, 14, 15] [13, 14, 15, 16, 17, 18, 19, 20, 21, 22, 23, 24, 25, 26, 27, 28, 29, 30, 31, 32, 33, 34, 35, 36, 37, 38, 39, 40, 41] 15 (.bool (r4 && ((a0.N == (0 : Int)) || (a0.Kind == (1 : Int))))) rfl (fun Kg6 => ?_) (fun j6 => ?_))
 ·
  rcases bft r4 with hb6 | hb6
  ·
   refine sbT hb6 (Xn fa61_1 rfl ?_)
   have A7 := B2.st p5 rfl
   refine ld' A7 u3 rfl (Xb rfl (Xb rfl (jy [10, 11, 12, 13, 14] [12, 13, 14, 15, 16, 17, 18, 19, 20, 21, 22, 23, 24, 25, 26, 27, 28, 29, 30, 31, 32, 33, 34, 35, 36, 37, 38, 39, 40, 41] 14 (.bool ((a0.N == (0 : Int)) || (a0.Kind == (1 : Int)))) rfl (fun Kg8 => ?_) (fun j8 => ?_))))
   ·
    rcases bft (a0.N == (0 : Int)) with hb8 | hb8
    ·
     exact sbT hb8 (Xg rfl (Xg rfl (Xg rfl (Xb rfl (Kg8 _ (Ag.put ((Ag.put ((Ag.put ((Ag.put (Ag.base rfl) rfl)) rfl)) rfl)) rfl) (by rw [hb8]; rfl))))))
    exact sbT hb8 (Xn fa61_0 rfl (ld' A7 u3 rfl (Xb rfl (Xb rfl (Kg8 _ (Ag.put ((Ag.put ((Ag.put ((Ag.put (Ag.base rfl) rfl)) rfl)) rfl)) rfl) (by rw [hb8]; rfl))))))
   exact Xb rfl (Kg6 _ (Ag.put ((Ag.put ((Ag.ov ((Ag.put ((Ag.put ((Ag.put ((Ag.put (Ag.base rfl) rfl)) rfl)) rfl)) rfl)) rfl)) rfl)) rfl) (by rw [hb6]; rfl))
  exact sbT hb6 (Xg rfl (Xg rfl (Xg rfl (Xg rfl (Xg rfl (Xg rfl (Xg rfl (Xg rfl (Xb rfl (Kg6 _ (Ag.put ((Ag.put ((Ag.put ((Ag.put ((Ag.put ((Ag.put ((Ag.put ((Ag.put ((Ag.put (Ag.base rfl) rfl)) rfl)) rfl)) rfl)) rfl)) rfl)) rfl)) rfl)) rfl) (by rw [hb6]; rfl)))))))))))
 refine Xb rfl (jy [16, 17, 18, 19, 20, 21, 22, 23, 24, 25, 26] [24, 25, 26, 27, 28, 29, 30, 31, 32, 33, 34, 35, 36, 37, 38, 39, 40, 41] 26 (.bool ((r4 && ((a0.N == (0 : Int)) || (a0.Kind == (1 : Int)))) && (((a0.F : Int) == 0) || (a0.Kind == (2 : Int))))) rfl (fun Kg9 => ?_) (fun j9 => ?_))
 ·
  rcases bft (r4 && ((a0.N == (0 : Int)) || (a0.Kind == (1 : Int)))) with hb9 | hb9
  ·
   refine sbT hb9 (Xn fa61_2 rfl ?_)
   have A10 := B2.st p5 rfl
   refine ld' A10 u58 rfl (fbu (Xm h0_0) rfl rfl rfl rfl rfl func85 rfl rfl xn85 xf85 rfl (fun b11 A11 => ?_))
   refine fz0 A11 rfl rfl rfl rfl rfl rfl rfl (Xb rfl (jy [21, 22, 23, 24, 25] [23, 24, 25, 26, 27, 28, 29, 30, 31, 32, 33, 34, 35, 36, 37, 38, 39, 40, 41] 25 (.bool (((a0.F : Int) == 0) || (a0.Kind == (2 : Int)))) rfl (fun Kg12 => ?_) (fun j12 => ?_)))
   ·
    rcases bft ((a0.F : Int) == 0) with hb12 | hb12
    ·
     exact sbT hb12 (Xg rfl (Xg rfl (Xg rfl (Xb rfl (Kg12 _ (Ag.put ((Ag.put ((Ag.put ((Ag.put (Ag.base rfl) rfl)) rfl)) rfl)) rfl) (by rw [hb12]; rfl))))))
    exact sbT hb12 (Xn fa61_0 rfl (ld' A10 u3 rfl (Xb rfl (Xb rfl (Kg12 _ (Ag.put ((Ag.put ((Ag.put ((Ag.put (Ag.base rfl) rfl)) rfl)) rfl)) rfl) (by rw [hb12]; rfl))))))
   exact Xb rfl (Kg9 _ (Ag.put ((Ag.put ((Ag.ov ((Ag.put ((Ag.put ((Ag.put ((Ag.put ((Ag.put (Ag.base rfl) rfl)) rfl)) rfl)) rfl)) rfl)) rfl)) rfl)) rfl) (by rw [hb9]; rfl))
  exact sbT hb9 (Xg rfl (Xg rfl (Xg rfl (Xg rfl (Xg rfl (Xg rfl (Xg rfl (Xg rfl (Xg rfl (Xb rfl (Kg9 _ (Ag.put ((Ag.put ((Ag.put ((Ag.put ((Ag.put ((Ag.put ((Ag.put ((Ag.put ((Ag.put ((Ag.put (Ag.base rfl) rfl)) rfl)) rfl)) rfl)) rfl)) rfl)) rfl)) rfl)) rfl)) rfl) (by rw [hb9]; rfl))))))))))))
 refine Xb rfl (jy [27, 28, 29, 30, 31, 32, 33, 34, 35, 36, 37, 38, 39, 40, 41, 42, 43] [41] 43 (.bool (((r4 && ((a0.N == (0 : Int)) || (a0.Kind == (1 : Int)))) && (((a0.F : Int) == 0) || (a0.Kind == (2 : Int)))) && (((a0.T.length : Int) == (0 : Int)) || ((a0.Kind == (3 : Int)) && (decide ((a0.T.length : Int) ≤ (40 : Int))))))) rfl (fun Kg13 => ?_) (fun j13 => ?_))
 ·
  rcases bft ((r4 && ((a0.N == (0 : Int)) || (a0.Kind == (1 : Int)))) && (((a0.F : Int) == 0) || (a0.Kind == (2 : Int)))) with hb13 | hb13
  ·
   refine sbT hb13 (Xn fa61_3 rfl ?_)
   have A14 := B2.st p5 rfl
   refine ld' A14 u59 rfl ?_
   have A16 := (z.rd h0_1).kp (kp0.st (tr2 p2 p5) rfl)
   refine ln' A16 u59 rfl (Xb rfl (Xb rfl (jy [32, 33, 34, 35, 36, 37, 38, 39, 40, 41, 42] [40, 41] 42 (.bool (((a0.T.length : Int) == (0 : Int)) || ((a0.Kind == (3 : Int)) && (decide ((a0.T.length : Int) ≤ (40 : Int)))))) rfl (fun Kg17 => ?_) (fun j17 => ?_))))
   ·
    rcases bft ((a0.T.length : Int) == (0 : Int)) with hb17 | hb17
    ·
     exact sbT hb17 (Xg rfl (Xg rfl (Xg rfl (Xg rfl (Xg rfl (Xg rfl (Xg rfl (Xg rfl (Xg rfl (Xb rfl (Kg17 _ (Ag.put ((Ag.put ((Ag.put ((Ag.put ((Ag.put ((Ag.put ((Ag.put ((Ag.put ((Ag.put ((Ag.put (Ag.base rfl) rfl)) rfl)) rfl)) rfl)) rfl)) rfl)) rfl)) rfl)) rfl)) rfl) (by rw [hb17]; rfl))))))))))))
    refine sbT hb17 (Xn fa61_0 rfl (ld' A14 u3 rfl (Xb rfl (Xb rfl (jy [36, 37, 38, 39, 40, 41] [39, 40, 41] 41 (.bool ((a0.Kind == (3 : Int)) && (decide ((a0.T.length : Int) ≤ (40 : Int))))) rfl (fun Kg18 => ?_) (fun j18 => ?_))))))
    ·
     rcases bft (a0.Kind == (3 : Int)) with hb18 | hb18
     ·
      exact sbT hb18 (Xn fa61_3 rfl (ld' A14 u59 rfl (ln' A16 u59 rfl (Xb rfl (Xb rfl (Kg18 _ (Ag.put ((Ag.put ((Ag.put ((Ag.put ((Ag.put (Ag.base rfl) rfl)) rfl)) rfl)) rfl)) rfl) (by rw [hb18]; rfl)))))))
     exact sbT hb18 (Xg rfl (Xg rfl (Xg rfl (Xg rfl (Xb rfl (Kg18 _ (Ag.put ((Ag.put ((Ag.put ((Ag.put ((Ag.put (Ag.base rfl) rfl)) rfl)) rfl)) rfl)) rfl) (by rw [hb18]; rfl)))))))
    exact Xb rfl (Kg17 _ (Ag.put ((Ag.put ((Ag.ov ((Ag.put ((Ag.put ((Ag.put ((Ag.put (Ag.base rfl) rfl)) rfl)) rfl)) rfl)) rfl)) rfl)) rfl) (by rw [hb17]; rfl))
   exact Xb rfl (Kg13 _ (Ag.put ((Ag.put ((Ag.ov ((Ag.put ((Ag.put ((Ag.put ((Ag.put ((Ag.put (Ag.base rfl) rfl)) rfl)) rfl)) rfl)) rfl)) rfl)) rfl)) rfl) (by rw [hb13]; rfl))
  refine sbT hb13 (Xg rfl (Xg rfl (Xg rfl (Xg rfl (Xg rfl (Xg rfl (Xg rfl (Xg rfl (Xg rfl (Xg rfl (Xg rfl (Xg rfl (Xg rfl (Xg rfl ?_))))))))))))))
  exact Xg rfl (Xb rfl (Kg13 _ (Ag.put ((Ag.put ((Ag.put ((Ag.put ((Ag.put ((Ag.put ((Ag.put ((Ag.put ((Ag.put ((Ag.put ((Ag.put ((Ag.put ((Ag.put ((Ag.put ((Ag.put ((Ag.put (Ag.base rfl) rfl)) rfl)) rfl)) rfl)) rfl)) rfl)) rfl)) rfl)) rfl)) rfl)) rfl)) rfl)) rfl)) rfl)) rfl)) rfl) (by rw [hb13]; rfl)))
 refine Xb rfl (dn ?_)
 exact re rfl func84 rfl (Xj rfl Xd) rfl ⟨_, rfl, rfl, z.ky (kp0.st (tr2 p2 p5) rfl)⟩
def impl_KeyOk.f (a0 : Item) : Option (Bool) :=
 ((impl_ItemOk.f a0).bind fun r6 => (some ((r6 && (a0.Kind != (0 : Int))) && ((fcmp .f64 a0.F (0 : Nat) != some .eq) || ((a0.F : Int) == 0)))))
def impl_KeyOk.Q (w : World) (F : Nat → Prop) (r : Bool) (v : Value) (w' : World) : Prop :=
 v = (.bool r) ∧ Ky [] w w'
theorem impl_KeyOk.calls (a0 : Item) (w : World) (F : Nat → Prop) (w0_0 : Value) (w0_1 : Value) (h0_0 : Kd.flt.rd w [w0_0] a0.F F) (h0_1 : Xr.rd w [w0_1] a0.T F) (r : Bool) (m : impl_KeyOk.f a0 = some r) :
  Calls prog 58 #[(.agg #[(iI a0.Kind), (iI a0.N), w0_0, w0_1])] w (RT (impl_KeyOk.Q w F) r) := by
 obtain ⟨s0, rfl, kp0, z⟩ := Xf w F
 have A0_0 := Xm h0_0
 refine Xc (args := [(.agg #[(iI a0.Kind), (iI a0.N), w0_0, w0_1])]) func58 ntmps58 rfl rfl m ?_
 unfold impl_KeyOk.f
 refine sr (bx' (cs := [(iI a0.Kind), (iI a0.N), w0_0, w0_1]) 40 rfl rfl (fun b2 s2 p2 B2 => ?_))
 refine Xb rfl (dn (sr (lda' (es := [(iI a0.Kind), (iI a0.N), w0_0, w0_1]) B2 u61 z61 rfl ?_)))
 have K4 := kp0.st p2 rfl
 refine clV 41 rfl func84 rfl (impl_ItemOk.calls a0 s2.w (mm [0] s2) w0_0 w0_1 ((Xe (s := s2) A0_0).sub (D := [0]) rfl) ((z.rd h0_1).kp K4)) (fun r6 s7 p7 n7 => ?_)
 refine Xb rfl (jy [5, 6, 7, 8, 9] [7, 8, 9, 10, 11, 12, 13, 14, 15, 16, 17, 18] 9 (.bool (r6 && (a0.Kind != (0 : Int)))) rfl (fun Kg8 => ?_) (fun j8 => ?_))
 ·
  rcases bft r6 with hb8 | hb8
  ·
   refine sbT hb8 (Xn fa61_0 rfl ?_)
   exact ld' (B2.st p7 rfl) u3 rfl (Xb rfl (Xb rfl (Kg8 _ (Ag.put ((Ag.put ((Ag.put ((Ag.put (Ag.base rfl) rfl)) rfl)) rfl)) rfl) (by rw [hb8]; rfl))))
  exact sbT hb8 (Xg rfl (Xg rfl (Xg rfl (Xb rfl (Kg8 _ (Ag.put ((Ag.put ((Ag.put ((Ag.put (Ag.base rfl) rfl)) rfl)) rfl)) rfl) (by rw [hb8]; rfl))))))
 refine Xb rfl (jy [10, 11, 12, 13, 14, 15, 16, 17, 18, 19, 20] [18] 20 (.bool ((r6 && (a0.Kind != (0 : Int))) && ((fcmp .f64 a0.F (0 : Nat) != some .eq) || ((a0.F : Int) == 0)))) rfl (fun Kg10 => ?_) (fun j10 => ?_))
 ·
  rcases bft (r6 && (a0.Kind != (0 : Int))) with hb10 | hb10
  ·
   refine sbT hb10 (Xn fa61_2 rfl ?_)
   have A11 := B2.st p7 rfl
   refine ld' A11 u58 rfl (fq_' A0_0 (fl_c rfl) rfl (Xb rfl (jy [14, 15, 16, 17, 18, 19] [17, 18] 19 (.bool ((fcmp .f64 a0.F (0 : Nat) != some .eq) || ((a0.F : Int) == 0))) rfl (fun Kg12 => ?_) (fun j12 => ?_))))
   ·
    rcases bft (fcmp .f64 a0.F (0 : Nat) != some .eq) with hb12 | hb12
    ·
     exact sbT hb12 (Xg rfl (Xg rfl (Xg rfl (Xg rfl (Xb rfl (Kg12 _ (Ag.put ((Ag.put ((Ag.put ((Ag.put ((Ag.put (Ag.base rfl) rfl)) rfl)) rfl)) rfl)) rfl) (by rw [hb12]; rfl)))))))
    refine sbT hb12 (Xn fa61_2 rfl (ld' A11 u58 rfl (fbu A0_0 rfl rfl rfl rfl rfl func85 rfl rfl xn85 xf85 rfl (fun b13 A13 => ?_))))
    exact fz0 A13 rfl rfl rfl rfl rfl rfl rfl (Xb rfl (Kg12 _ (Ag.put ((Ag.put ((Ag.put ((Ag.put ((Ag.put (Ag.base rfl) rfl)) rfl)) rfl)) rfl)) rfl) (by rw [hb12]; rfl)))
   exact Xb rfl (Kg10 _ (Ag.put ((Ag.put ((Ag.ov ((Ag.put ((Ag.put ((Ag.put ((Ag.put (Ag.base rfl) rfl)) rfl)) rfl)) rfl)) rfl)) rfl)) rfl) (by rw [hb10]; rfl))
  exact sbT hb10 (Xg rfl (Xg rfl (Xg rfl (Xg rfl (Xg rfl (Xg rfl (Xg rfl (Xg rfl (Xg rfl (Xb rfl (Kg10 _ (Ag.put ((Ag.put ((Ag.put ((Ag.put ((Ag.put ((Ag.put ((Ag.put ((Ag.put ((Ag.put ((Ag.put (Ag.base rfl) rfl)) rfl)) rfl)) rfl)) rfl)) rfl)) rfl)) rfl)) rfl)) rfl) (by rw [hb10]; rfl))))))))))))
 refine Xb rfl (dn ?_)
 exact re rfl func58 rfl (Xj rfl Xd) rfl ⟨_, rfl, rfl, z.ky (K4.st p7 rfl)⟩
def cmp_isNaN_int.f (a0 : Int) : Option (Bool) :=
 (some (a0 != a0))
def cmp_isNaN_int.Q (w : World) (F : Nat → Prop) (r : Bool) (v : Value) (w' : World) : Prop :=
 v = (.bool r) ∧ Ky [] w w'
theorem cmp_isNaN_int.calls (a0 : Int) (w : World) (F : Nat → Prop)   (r : Bool) (m : cmp_isNaN_int.f a0 = some r) :
  Calls prog 72 #[(iI a0)] w (RT (cmp_isNaN_int.Q w F) r) := by
 obtain ⟨s0, rfl, kp0, z⟩ := Xf w F
 refine Xc (args := [(iI a0)]) func72 ntmps72 rfl rfl m ?_
 unfold cmp_isNaN_int.f
 exact sr (Xb rfl (dn (sr (Xb rfl (Xb rfl (Xb rfl (Xb rfl (dn (re rfl func72 rfl (Xj rfl Xd) rfl ⟨_, rfl, rfl, z.ky kp0⟩)))))))))
def cmp_Compare_int.f (a0 : Int) (a1 : Int) : Option (Int) :=
 ((cmp_isNaN_int.f a0).bind fun r1 => ((cmp_isNaN_int.f a1).bind fun r3 => (if r1 = true then (if r3 = true then (some (0 : Int)) else (some (-1 : Int))) else (if r3 = true then (some (1 : Int)) else (if (decide (a0 < a1)) = true then (some (-1 : Int)) else (if (decide (a0 > a1)) = true then (some (1 : Int)) else (some (0 : Int))))))))
def cmp_Compare_int.Q (w : World) (F : Nat → Prop) (r : Int) (v : Value) (w' : World) : Prop :=
 v = (iI r) ∧ Ky [] w w'
theorem cmp_Compare_int.calls (a0 : Int) (a1 : Int) (w : World) (F : Nat → Prop)   (r : Int) (m : cmp_Compare_int.f a0 a1 = some r) :
  Calls prog 41 #[(iI a0), (iI a1)] w (RT (cmp_Compare_int.Q w F) r) := by
 obtain ⟨s0, rfl, kp0, z⟩ := Xf w F
 refine Xc (args := [(iI a0), (iI a1)]) func41 ntmps41 rfl rfl m ?_
 unfold cmp_Compare_int.f
 refine sr (Xb rfl (dn (sr (Xb rfl (clV 40 rfl func72 rfl (cmp_isNaN_int.calls a0 s0.w (mm [] s0)) (fun r1 s2 p2 n2 => ?_))))))
 refine Xb rfl (dn (sr (Xb rfl (clV 41 rfl func72 rfl (cmp_isNaN_int.calls a1 s2.w (mm [] s2)) (fun r3 s4 p4 n4 => ?_)))))
 refine Xb rfl (dn (sq (sr (Xb rfl (dn (cd rfl (fun h5 => ?_) (fun h5 => ?_)))))))
 ·
  refine sq (sr (Xb rfl (dn (cd rfl (fun h6 => ?_) (fun h6 => ?_)))))
  ·
   refine sr (Xb rfl (dn ?_))
   exact re rfl func41 rfl (Xj rfl Xd) rfl ⟨_, rfl, rfl, z.ky (kp0.st (tr2 p2 p4) rfl)⟩
  refine sk (sr (Xb rfl (dn ?_)))
  exact re rfl func41 rfl (Xj rfl Xd) rfl ⟨_, rfl, rfl, z.ky (kp0.st (tr2 p2 p4) rfl)⟩
 refine sk (sq (sr (Xb rfl (dn (cd rfl (fun h9 => ?_) (fun h9 => ?_))))))
 ·
  refine sr (Xb rfl (dn ?_))
  exact re rfl func41 rfl (Xj rfl Xd) rfl ⟨_, rfl, rfl, z.ky (kp0.st (tr2 p2 p4) rfl)⟩
 refine sk (sq (sr (Xb rfl (Xb rfl (Xb rfl (dn (cd rfl (fun h11 => ?_) (fun h11 => ?_))))))))
 ·
  refine sr (Xb rfl (dn ?_))
  exact re rfl func41 rfl (Xj rfl Xd) rfl ⟨_, rfl, rfl, z.ky (kp0.st (tr2 p2 p4) rfl)⟩
 refine sk (sq (sr (Xb rfl (Xb rfl (Xb rfl (dn (cd rfl (fun h13 => ?_) (fun h13 => ?_))))))))
 ·
  refine sr (Xb rfl (dn ?_))
  exact re rfl func41 rfl (Xj rfl Xd) rfl ⟨_, rfl, rfl, z.ky (kp0.st (tr2 p2 p4) rfl)⟩
 refine sk (sr (Xb rfl (dn ?_)))
 exact re rfl func41 rfl (Xj rfl Xd) rfl ⟨_, rfl, rfl, z.ky (kp0.st (tr2 p2 p4) rfl)⟩
def impl_FloatRank.f (a0 : Nat) : Option (Int) :=
 (if (fcmp .f64 a0 a0 != some .eq) = true then (some (18446744073709551615 : Int)) else (if (fcmp .f64 a0 (0 : Nat) == some .eq) = true then (some (9223372036854775808 : Int)) else (if (fcmp .f64 a0 (0 : Nat) == some .gt) = true then (if isN a0 = false then (some (ior .u64 (a0 : Int) (9223372036854775808 : Int))) else none) else (if isN a0 = false then (some (ixor .u64 (IntKind.max .u64) (a0 : Int))) else none))))
def impl_FloatRank.Q (w : World) (F : Nat → Prop) (r : Int) (v : Value) (w' : World) : Prop :=
 v = (.int .u64 r) ∧ Ky [] w w'
theorem impl_FloatRank.calls (a0 : Nat) (w : World) (F : Nat → Prop) (w0_0 : Value) (h0_0 : Kd.flt.rd w [w0_0] a0 F) (r : Int) (m : impl_FloatRank.f a0 = some r) :
  Calls prog 106 #[w0_0] w (RT (impl_FloatRank.Q w F) r) := by
 obtain ⟨s0, rfl, kp0, z⟩ := Xf w F
 have A0_0 := Xm h0_0
 refine Xc (args := [w0_0]) func106 ntmps106 rfl rfl m ?_
 unfold impl_FloatRank.f
 refine sr (Xb rfl (dn (sq (bl (sr (Xi w0_0 rfl (Xi w0_0 rfl (fq_' A0_0 A0_0 rfl (Xb rfl (dn (cd rfl (fun h1 => ?_) (fun h1 => ?_))))))))))))
 ·
  exact sr (Xb rfl (dn (re rfl func106 rfl (Xj rfl Xd) rfl ⟨_, rfl, rfl, z.ky kp0⟩)))
 refine sr (Xi w0_0 rfl (fq_' A0_0 (fl_c rfl) rfl (Xb rfl (dn (cd rfl (fun h2 => ?_) (fun h2 => ?_))))))
 ·
  exact sr (Xb rfl (dn (re rfl func106 rfl (Xj rfl Xd) rfl ⟨_, rfl, rfl, z.ky kp0⟩)))
 refine sr (Xi w0_0 rfl (fq_' A0_0 (fl_c rfl) rfl (Xb rfl (dn (cd rfl (fun h3 => ?_) (fun h3 => ?_))))))
 ·
  exact sr (Xi w0_0 rfl (fb_ A0_0 rfl rfl rfl rfl rfl func85 rfl rfl xn85 xf85 rfl (Xb rfl (Xb rfl (dn (re rfl func106 rfl (Xj rfl Xd) rfl ⟨_, rfl, rfl, z.ky kp0⟩))))))
 exact sk (ib (sr (Xi w0_0 rfl (fb_ A0_0 rfl rfl rfl rfl rfl func85 rfl rfl xn85 xf85 rfl (Xb rfl (Xb rfl (dn (re rfl func106 rfl (Xj rfl Xd) rfl ⟨_, rfl, rfl, z.ky kp0⟩))))))))
def cmp_isNaN_uint64.f (a0 : Int) : Option (Bool) :=
 (some (a0 != a0))
def cmp_isNaN_uint64.Q (w : World) (F : Nat → Prop) (r : Bool) (v : Value) (w' : World) : Prop :=
 v = (.bool r) ∧ Ky [] w w'
theorem cmp_isNaN_uint64.calls (a0 : Int) (w : World) (F : Nat → Prop)   (r : Bool) (m : cmp_isNaN_uint64.f a0 = some r) :
  Calls prog 108 #[(.int .u64 a0)] w (RT (cmp_isNaN_uint64.Q w F) r) := by
 obtain ⟨s0, rfl, kp0, z⟩ := Xf w F
 refine Xc (args := [(.int .u64 a0)]) func108 ntmps108 rfl rfl m ?_
 unfold cmp_isNaN_uint64.f
 exact sr (Xb rfl (dn (sr (Xb rfl (Xb rfl (Xb rfl (Xb rfl (dn (re rfl func108 rfl (Xj rfl Xd) rfl ⟨_, rfl, rfl, z.ky kp0⟩)))))))))
def cmp_Compare_uint64.f (a0 : Int) (a1 : Int) : Option (Int) :=
 ((cmp_isNaN_uint64.f a0).bind fun r1 => ((cmp_isNaN_uint64.f a1).bind fun r3 => (if r1 = true then (if r3 = true then (some (0 : Int)) else (some (-1 : Int))) else (if r3 = true then (some (1 : Int)) else (if (decide (a0 < a1)) = true then (some (-1 : Int)) else (if (decide (a0 > a1)) = true then (some (1 : Int)) else (some (0 : Int))))))))
def cmp_Compare_uint64.Q (w : World) (F : Nat → Prop) (r : Int) (v : Value) (w' : World) : Prop :=
 v = (iI r) ∧ Ky [] w w'
theorem cmp_Compare_uint64.calls (a0 : Int) (a1 : Int) (w : World) (F : Nat → Prop)   (r : Int) (m : cmp_Compare_uint64.f a0 a1 = some r) :
  Calls prog 105 #[(.int .u64 a0), (.int .u64 a1)] w (RT (cmp_Compare_uint64.Q w F) r) := by
 obtain ⟨s0, rfl, kp0, z⟩ := Xf w F
 refine Xc (args := [(.int .u64 a0), (.int .u64 a1)]) func105 ntmps105 rfl rfl m ?_
 unfold cmp_Compare_uint64.f
 refine sr (Xb rfl (dn (sr (Xb rfl (clV 40 rfl func108 rfl (cmp_isNaN_uint64.calls a0 s0.w (mm [] s0)) (fun r1 s2 p2 n2 => ?_))))))
 refine Xb rfl (dn (sr (Xb rfl (clV 41 rfl func108 rfl (cmp_isNaN_uint64.calls a1 s2.w (mm [] s2)) (fun r3 s4 p4 n4 => ?_)))))
 refine Xb rfl (dn (sq (sr (Xb rfl (dn (cd rfl (fun h5 => ?_) (fun h5 => ?_)))))))
 ·
  refine sq (sr (Xb rfl (dn (cd rfl (fun h6 => ?_) (fun h6 => ?_)))))
  ·
   refine sr (Xb rfl (dn ?_))
   exact re rfl func105 rfl (Xj rfl Xd) rfl ⟨_, rfl, rfl, z.ky (kp0.st (tr2 p2 p4) rfl)⟩
  refine sk (sr (Xb rfl (dn ?_)))
  exact re rfl func105 rfl (Xj rfl Xd) rfl ⟨_, rfl, rfl, z.ky (kp0.st (tr2 p2 p4) rfl)⟩
 refine sk (sq (sr (Xb rfl (dn (cd rfl (fun h9 => ?_) (fun h9 => ?_))))))
 ·
  refine sr (Xb rfl (dn ?_))
  exact re rfl func105 rfl (Xj rfl Xd) rfl ⟨_, rfl, rfl, z.ky (kp0.st (tr2 p2 p4) rfl)⟩
 refine sk (sq (sr (Xb rfl (Xb rfl (Xb rfl (dn (cd rfl (fun h11 => ?_) (fun h11 => ?_))))))))
 ·
  refine sr (Xb rfl (dn ?_))
  exact re rfl func105 rfl (Xj rfl Xd) rfl ⟨_, rfl, rfl, z.ky (kp0.st (tr2 p2 p4) rfl)⟩
 refine sk (sq (sr (Xb rfl (Xb rfl (Xb rfl (dn (cd rfl (fun h13 => ?_) (fun h13 => ?_))))))))
 ·
  refine sr (Xb rfl (dn ?_))
  exact re rfl func105 rfl (Xj rfl Xd) rfl ⟨_, rfl, rfl, z.ky (kp0.st (tr2 p2 p4) rfl)⟩
 refine sk (sr (Xb rfl (dn ?_)))
 exact re rfl func105 rfl (Xj rfl Xd) rfl ⟨_, rfl, rfl, z.ky (kp0.st (tr2 p2 p4) rfl)⟩
def impl_FloatCompare.f (a0 : Nat) (a1 : Nat) : Option (Int) :=
 ((impl_FloatRank.f a0).bind fun r1 => ((impl_FloatRank.f a1).bind fun r3 => ((cmp_Compare_uint64.f r1 r3).bind fun r5 => (some r5))))
def impl_FloatCompare.Q (w : World) (F : Nat → Prop) (r : Int) (v : Value) (w' : World) : Prop :=
 v = (iI r) ∧ Ky [] w w'
theorem impl_FloatCompare.calls (a0 : Nat) (a1 : Nat) (w : World) (F : Nat → Prop) (w0_0 : Value) (w1_0 : Value) (h0_0 : Kd.flt.rd w [w0_0] a0 F) (h1_0 : Kd.flt.rd w [w1_0] a1 F) (r : Int) (m : impl_FloatCompare.f a0 a1 = some r) :
  Calls prog 100 #[w0_0, w1_0] w (RT (impl_FloatCompare.Q w F) r) := by
 obtain ⟨s0, rfl, kp0, z⟩ := Xf w F
 refine Xc (args := [w0_0, w1_0]) func100 ntmps100 rfl rfl m ?_
 unfold impl_FloatCompare.f
 refine sr (Xb rfl (dn (sr (Xi w0_0 rfl (clV 40 rfl func106 rfl (impl_FloatRank.calls a0 s0.w (mm [] s0) w0_0 (Xe (s := s0) (Xm h0_0))) (fun r1 s2 p2 n2 => ?_))))))
 refine Xi w1_0 rfl (clV 41 rfl func106 rfl (impl_FloatRank.calls a1 s2.w (mm [] s2) w1_0 (Xe (s := s2) (Xm h1_0))) (fun r3 s4 p4 n4 => ?_))
 refine clV 42 rfl func105 rfl (cmp_Compare_uint64.calls r1 r3 s4.w (mm [] s4)) (fun r5 s6 p6 n6 => ?_)
 refine Xb rfl (dn ?_)
 exact re rfl func100 rfl (Xj rfl Xd) rfl ⟨_, rfl, rfl, z.ky (kp0.st (tr3 p2 p4 p6) rfl)⟩
def bytes_Compare.f (a0 : (List Int)) (a1 : (List Int)) : Option (Int) :=
 (some (bcmpS a0 a1))
def bytes_Compare.Q (w : World) (F : Nat → Prop) (r : Int) (v : Value) (w' : World) : Prop :=
 v = (iI r) ∧ Ky [] w w'
theorem bytes_Compare.calls (a0 : (List Int)) (a1 : (List Int)) (w : World) (F : Nat → Prop) (w0_0 : Value) (w1_0 : Value) (h0_0 : Xr.rd w [w0_0] a0 F) (h1_0 : Xr.rd w [w1_0] a1 F) (r : Int) (m : bytes_Compare.f a0 a1 = some r) :
  Calls prog 101 #[w0_0, w1_0] w (RT (bytes_Compare.Q w F) r) := by
 obtain ⟨s0, rfl, kp0, z⟩ := Xf w F
 refine Xc (args := [w0_0, w1_0]) func101 ntmps101 rfl rfl m ?_
 unfold bytes_Compare.f
 exact sr (Xb rfl (dn (sr (Xi w0_0 rfl (Xi w1_0 rfl (bcx (z.rd h0_0) (z.rd h1_0) rfl rfl rfl rfl rfl func107 rfl rfl xn107 xf107 rfl rfl (Xb rfl (dn (re rfl func101 rfl (Xj rfl Xd) rfl ⟨_, rfl, rfl, z.ky kp0⟩)))))))))
def cmp_Or_int.b0 (a0 : (List Int)) (x2 : Int) : Option (Int ⊕ Int) :=
 (if (decide (x2 < (a0.length : Int))) = true then (if 0 ≤ x2 ∧ x2 < (a0.length : Int) then (if ((at_ a0 x2) != (0 : Int)) = true then (some (Sum.inr (at_ a0 x2))) else (some (Sum.inl (IntKind.wrap .i64 (x2 + (1 : Int)))))) else none) else ((some (0 : Int)).bind fun o => some (Sum.inr o)))
def cmp_Or_int.f (a0 : (List Int)) : Option (Int) :=
 (iter (cmp_Or_int.b0 a0) (0 : Int))
def cmp_Or_int.Q (w : World) (F : Nat → Prop) (r : Int) (v : Value) (w' : World) : Prop :=
 v = (iI r) ∧ Ky [] w w'
theorem cmp_Or_int.calls (a0 : (List Int)) (w : World) (F : Nat → Prop) (w0_0 : Value) (h0_0 : Xw.rd w [w0_0] a0 F) (r : Int) (m : cmp_Or_int.f a0 = some r) :
  Calls prog 99 #[w0_0] w (RT (cmp_Or_int.Q w F) r) := by
 obtain ⟨s0, rfl, kp0, z⟩ := Xf w F
 have A0_0 := z.rd h0_0
 refine Xc (args := [w0_0]) func99 ntmps99 rfl rfl m ?_
 unfold cmp_Or_int.f
 refine sr (Xb rfl (dn (sr (Xb rfl (dn (sq (sr (Xi w0_0 rfl (ln' A0_0 u48 rfl (Xb rfl (dn (bl (lpI (fun (x2 : Int) e w => ∃ (s : St) (e0 : Env), w = s.w ∧ e = upd (upd (upd (upd e0 3 (iI 0)) 6 w0_0) 7 (iI (a0.length : Int))) 8 (iI x2) ∧ Kp s0 s) ⟨s0, _, rfl, (ue (ue (ue (ue rfl rfl) rfl) rfl) rfl), kp0⟩ (fun g2 ih2 => ?_))))))))))))))
 rintro x2 _ _ ⟨s3, _, rfl, rfl, Kx2⟩
 unfold cmp_Or_int.b0
 refine sr (Xb rfl (dn (sq (cd rfl (fun h4 => ?_) (fun h4 => ?_)))))
 ·
  refine sk (sq (bl (sr ?_)))
  refine ix' (A0_0.kp Kx2) u48 z3 rfl (fun ad6 es6 h0_6 h1_6 he6 ce6 ia6 => ?_)
  obtain rfl := he6
  refine lc0 ce6 u3 rfl rfl rfl rfl rfl rfl rfl rfl (Xb rfl (dn (sr (Xb rfl (Xb rfl (Xb rfl (dn (cd rfl (fun h8 => ?_) (fun h8 => ?_)))))))))
  ·
   exact sr (Xb rfl (Xb rfl (dn (sgi (re rfl func99 rfl (Xj rfl Xd) rfl ⟨_, rfl, rfl, z.ky Kx2⟩)))))
  exact sk (ib (rg (Xb rfl (Xb rfl (dn (lb ih2 ⟨s3, _, rfl, (ue (ue (ue (ue rfl rfl) rfl) rfl) rfl), Kx2⟩))))))
 exact xt rfl (sgb (sr (Xb rfl (Xb rfl (dn (re rfl func99 rfl (Xj rfl Xd) rfl ⟨_, rfl, rfl, z.ky Kx2⟩))))))
def impl_compareItems.f (a0 : Item) (a1 : Item) : Option (Int) :=
 ((cmp_Compare_int.f a0.Kind a1.Kind).bind fun r41 => ((cmp_Compare_int.f a0.N a1.N).bind fun r51 => ((impl_FloatCompare.f a0.F a1.F).bind fun r59 => ((bytes_Compare.f a0.T a1.T).bind fun r67 => ((cmp_Or_int.f ([r41, r51, r59, r67])).bind fun r71 => (some r71))))))
def impl_compareItems.Q (w : World) (F : Nat → Prop) (r : Int) (v : Value) (w' : World) : Prop :=
 v = (iI r) ∧ Ky [] w w'
theorem impl_compareItems.calls (a0 : Item) (a1 : Item) (w : World) (F : Nat → Prop) (w0_0 : Value) (w0_1 : Value) (w1_0 : Value) (w1_1 : Value) (h0_0 : Kd.flt.rd w [w0_0] a0.F F) (h0_1 : Xr.rd w [w0_1] a0.T F) (h1_0 : Kd.flt.rd w [w1_0] a1.F F) (h1_1 : Xr.rd w [w1_1] a1.T F) (r : Int) (m : impl_compareItems.f a0 a1 = some r) :
  Calls prog 82 #[(.agg #[(iI a0.Kind), (iI a0.N), w0_0, w0_1]), (.agg #[(iI a1.Kind), (iI a1.N), w1_0, w1_1])] w (RT (impl_compareItems.Q w F) r) := by
 obtain ⟨s0, rfl, kp0, z⟩ := Xf w F
 refine Xc (args := [(.agg #[(iI a0.Kind), (iI a0.N), w0_0, w0_1]), (.agg #[(iI a1.Kind), (iI a1.N), w1_0, w1_1])]) func82 ntmps82 rfl rfl m ?_
 unfold impl_compareItems.f
 refine sr (bx' (cs := [(iI a0.Kind), (iI a0.N), w0_0, w0_1]) 40 rfl rfl (fun b3 s3 p3 B3 => ?_))
 refine bx' (cs := [(iI a1.Kind), (iI a1.N), w1_0, w1_1]) 41 rfl rfl (fun b5 s5 p5 B5 => ?_)
 refine Xb rfl (dn (sq (zdraw [[], [0], [], [2], [1, 3], [], [5], [], [7], [6, 8, 4], [], [10], [], [12], [11, 13, 9], [], [15], [], [17], [16, 18, 14], [4, 9, 14, 19], [20, 19], [21, 21, 0, 1, 2, 3, 4, 5, 6, 7, 8, 9, 10, 11, 12, 13, 14, 15, 16, 17, 18, 19, 20, 21]] [some 5, some 6, some 7, some 8, some 9, some 10, some 11, some 12, some 13, some 14, some 15, some 16, some 17, some 18, some 19, some 20, some 21, some 22, some 23, some 24, some 25, some 26, some 4] [[2], [5], [3], [7], [6, 8], [2], [10], [3], [12], [11, 13], [2], [15], [3], [17], [16, 18], [2], [20], [3], [22], [21, 23], [9, 14, 19, 24], [25], [26]] [0, 1, 2, 3, 4, 5, 6, 7, 8, 9, 10, 11, 12, 13, 14, 15, 16, 17, 18, 19, 20, 21, 22] ⟨by kernel_rfl, by kernel_rfl, by kernel_rfl⟩ (by kernel_rfl) (fun s7 p7 l7 tb7 zd7 => ?_))))
 have zd11 := ((zd7.add 0 5 (pB b3) rfl).add 1 6 (iI a0.Kind) rfl).add 2 7 (pB b5) rfl
 refine zstep 4 [some 23, some 22, some 21, some 20, some 18, some 17, some 16, some 15, some 13, some 12, some 11, some 10] tb7 (((((((((((((zd11.add 3 8 (iI a1.Kind) rfl).add 5 10 (pO b3 1) rfl).add 6 11 (iI a0.N) rfl).add 7 12 (pO b5 1) rfl).add 8 13 (iI a1.N) rfl).add 10 15 (pO b3 2) rfl).add 11 16 w0_0 rfl).add 12 17 (pO b5 2) rfl).add 13 18 w1_0 rfl).add 15 20 (pO b3 3) rfl).add 16 21 w0_1 rfl).add 17 22 (pO b5 3) rfl).add 18 23 w1_1 rfl) (Xa (Xl (B5.st p7 rfl) u59 rfl) rfl (Xa (Xp fa61_3 rfl) rfl (Xa (Xl (B3.st (tr2 p5 p7) rfl) u59 rfl) rfl (Xa (Xp fa61_3 rfl) rfl (Xa (Xl (B5.st p7 rfl) u58 rfl) rfl (Xa (Xp fa61_2 rfl) rfl (Xa (Xl (B3.st (tr2 p5 p7) rfl) u58 rfl) rfl (Xa (Xp fa61_2 rfl) rfl (Xa (Xl (B5.st p7 rfl) u3 rfl) rfl (Xa (Xp fa61_1 rfl) rfl (Xa (Xl (B3.st (tr2 p5 p7) rfl) u3 rfl) rfl (Xa (Xp fa61_1 rfl) rfl (Xa (Xl (B5.st p7 rfl) u3 rfl) rfl (Xa (Xp fa61_0 rfl) rfl (Xa (Xl (B3.st (tr2 p5 p7) rfl) u3 rfl) rfl (Xa (Xp fa61_0 rfl) rfl Xo)))))))))))))))) (by kernel_rfl) rfl (fun l32 e32 zd32 => ?_)
 refine clV 42 rfl func41 rfl (cmp_Compare_int.calls a0.Kind a1.Kind s7.w (mm [] s7)) (fun r41 s42 p42 n42 => ?_)
 refine zdone (L' := [18, 17, 16, 15, 13, 12, 11, 10, 8, 7, 6, 5]) (D' := [0, 2, 1, 3, 4]) zd32 rfl rfl rfl (fun zd43 => ?_)
 refine zstep 9 [some 23, some 22, some 21, some 20, some 18, some 17, some 16, some 15] tb7 zd43 (Xa (Xl (B5.st (tr2 p7 p42) rfl) u59 rfl) rfl (Xa (Xp fa61_3 rfl) rfl (Xa (Xl (B3.st (tr3 p5 p7 p42) rfl) u59 rfl) rfl (Xa (Xp fa61_3 rfl) rfl (Xa (Xl (B5.st (tr2 p7 p42) rfl) u58 rfl) rfl (Xa (Xp fa61_2 rfl) rfl (Xa (Xl (B3.st (tr3 p5 p7 p42) rfl) u58 rfl) rfl (Xa (Xp fa61_2 rfl) rfl (Xa (Xl (B5.st (tr2 p7 p42) rfl) u3 rfl) rfl (Xa (Xp fa61_1 rfl) rfl (Xa (Xl (B3.st (tr3 p5 p7 p42) rfl) u3 rfl) rfl (Xa (Xp fa61_1 rfl) rfl Xo)))))))))))) (by kernel_rfl) rfl (fun l44 e44 zd44 => ?_)
 refine clV 43 rfl func41 rfl (cmp_Compare_int.calls a0.N a1.N s42.w (mm [] s42)) (fun r51 s52 p52 n52 => ?_)
 refine zdone (L' := [18, 17, 16, 15, 13, 12, 11, 10]) (D' := [5, 7, 6, 8, 9, 0, 2, 1, 3, 4]) zd44 rfl rfl rfl (fun zd53 => ?_)
 refine zstep 14 [some 23, some 22, some 21, some 20] tb7 zd53 (Xa (Xl (B5.st (tr3 p7 p42 p52) rfl) u59 rfl) rfl (Xa (Xp fa61_3 rfl) rfl (Xa (Xl (B3.st (tr4 p5 p7 p42 p52) rfl) u59 rfl) rfl (Xa (Xp fa61_3 rfl) rfl (Xa (Xl (B5.st (tr3 p7 p42 p52) rfl) u58 rfl) rfl (Xa (Xp fa61_2 rfl) rfl (Xa (Xl (B3.st (tr4 p5 p7 p42 p52) rfl) u58 rfl) rfl (Xa (Xp fa61_2 rfl) rfl Xo)))))))) (by kernel_rfl) rfl (fun l54 e54 zd54 => ?_)
 refine clV 44 rfl func100 rfl (impl_FloatCompare.calls a0.F a1.F s52.w (mm [] s52) w0_0 w1_0 (Xe (s := s52) (Xm h0_0)) (Xe (s := s52) (Xm h1_0))) (fun r59 s60 p60 n60 => ?_)
 refine zdone (L' := [18, 17, 16, 15]) (D' := [10, 12, 11, 13, 14, 5, 7, 6, 8, 9, 0, 2, 1, 3, 4]) zd54 rfl rfl rfl (fun zd61 => ?_)
 refine zfin [19, 20, 21, 22] tb7 zd61 (Xa (Xl (B5.st (tr4 p7 p42 p52 p60) rfl) u59 rfl) rfl (Xa (Xp fa61_3 rfl) rfl (Xa (Xl (B3.st (tr5 p5 p7 p42 p52 p60) rfl) u59 rfl) rfl (Xa (Xp fa61_3 rfl) rfl Xo)))) (by kernel_rfl) (by decide) ?_
 have K64 := kp0.st (tr6 p3 p5 p7 p42 p52 p60) rfl
 refine clV 45 rfl func101 rfl (bytes_Compare.calls a0.T a1.T s60.w (mm [0] s60) w0_1 w1_1 ((z.rd h0_1).kp K64) ((z.rd h1_1).kp K64)) (fun r67 s68 p68 n68 => ?_)
 refine ltF (K := (Kd.int .i64)) (cells := [(iI r41), (iI r51), (iI r59), (iI r67)]) [r41, r51, r59, r67] 46 fl_int u48 z3 o3 (fun w => (els_flat _ _ _)) rfl rfl rfl rfl rfl rfl rfl rfl rfl rfl (fun v69 s69 p69 A69 => ?_)
 refine clV 47 rfl func99 rfl (cmp_Or_int.calls ([r41, r51, r59, r67]) s69.w (mm [46] s69) v69 A69.rd) (fun r71 s72 p72 n72 => ?_)
 refine Xb rfl (dn ?_)
 exact re rfl func82 rfl (Xj rfl Xd) rfl ⟨_, rfl, rfl, z.ky (K64.st (tr3 p68 p69 p72) rfl)⟩
def impl_SpanOk.f (a0 : Span) : Option (Bool) :=
 ((impl_KeyOk.f a0.From).bind fun r7 => ((if r7 = true then ((impl_KeyOk.f a0.To).bind fun r13 => (some r13)) else (some false)).bind fun y9 => ((if y9 = true then ((impl_compareItems.f a0.From a0.To).bind fun r24 => (some (decide (r24 ≤ (0 : Int))))) else (some false)).bind fun y21 => (some y21))))
def impl_SpanOk.Q (w : World) (F : Nat → Prop) (r : Bool) (v : Value) (w' : World) : Prop :=
 v = (.bool r) ∧ Ky [] w w'
theorem impl_SpanOk.calls (a0 : Span) (w : World) (F : Nat → Prop) (w0_0 : Value) (w0_1 : Value) (w0_2 : Value) (w0_3 : Value) (h0_0 : Kd.flt.rd w [w0_0] a0.From.F F) (h0_1 : Xr.rd w [w0_1] a0.From.T F) (h0_2 : Kd.flt.rd w [w0_2] a0.To.F F) (h0_3 : Xr.rd w [w0_3] a0.To.T F) (r : Bool) (m : impl_SpanOk.f a0 = some r) :
  Calls prog 56 #[(.agg #[(iI a0.From.Kind), (iI a0.From.N), w0_0, w0_1, (iI a0.To.Kind), (iI a0.To.N), w0_2, w0_3])] w (RT (impl_SpanOk.Q w F) r) := by
 obtain ⟨s0, rfl, kp0, z⟩ := Xf w F
 have A0_0 := Xm h0_0
 have A0_1 := z.rd h0_1
 have A0_2 := Xm h0_2
 have A0_3 := z.rd h0_3
 refine Xc (args := [(.agg #[(iI a0.From.Kind), (iI a0.From.N), w0_0, w0_1, (iI a0.To.Kind), (iI a0.To.N), w0_2, w0_3])]) func56 ntmps56 rfl rfl m ?_
 unfold impl_SpanOk.f
 refine sr (bx' (cs := [(iI a0.From.Kind), (iI a0.From.N), w0_0, w0_1, (iI a0.To.Kind), (iI a0.To.N), w0_2, w0_3]) 40 rfl rfl (fun b3 s3 p3 B3 => ?_))
 refine Xb rfl (dn (sr (Xn fa63_0 rfl (lda' (es := [(iI a0.From.Kind), (iI a0.From.N), w0_0, w0_1]) B3 u61 z61 rfl ?_))))
 have K5 := kp0.st p3 rfl
 refine clV 41 rfl func58 rfl (impl_KeyOk.calls a0.From s3.w (mm [0] s3) w0_0 w0_1 ((Xe (s := s3) A0_0).sub (D := [0]) rfl) (A0_1.kp K5)) (fun r7 s8 p8 n8 => ?_)
 refine Xb rfl (ji [8, 9, 10, 11, 12, 13, 14, 15, 16] (fun (y9 : Bool) e w => ∃ (s : St) (e0 : Env), w = s.w ∧ e = upd (upd e0 1 (pB b3)) 10 (.bool y9) ∧ Kp s0 s ∧ BlF s b3 63 [(iI a0.From.Kind), (iI a0.From.N), w0_0, w0_1, (iI a0.To.Kind), (iI a0.To.N), w0_2, w0_3] 40) (fun Gj9 Kj9 => ?_) ?_)
 ·
  rcases bft r7 with hb9 | hb9
  ·
   refine sbT hb9 ?_
   rw [if_pos hb9]
   refine Xn fa63_1 rfl ?_
   have A10 := B3.st p8 rfl
   refine lda' (es := [(iI a0.To.Kind), (iI a0.To.N), w0_2, w0_3]) A10 u61 z61 rfl ?_
   have K11 := K5.st p8 rfl
   refine clV 42 rfl func58 rfl (impl_KeyOk.calls a0.To s8.w (mm [0] s8) w0_2 w0_3 ((Xe (s := s8) A0_2).sub (D := [0]) rfl) (A0_3.kp K11)) (fun r13 s14 p14 n14 => ?_)
   exact Xb rfl (Kj9 _ _ _ ⟨s14, _, rfl, (ue (ue rfl rfl) rfl), (K11.st p14 rfl), (A10.st p14 rfl)⟩)
  refine sbT hb9 ?_
  rw [if_neg (by rw [hb9]; decide)]
  refine Xg rfl (Xg rfl (Xg rfl (Xb rfl ?_)))
  exact Kj9 _ _ _ ⟨s8, _, rfl, (ue (ue rfl rfl) rfl), (K5.st p8 rfl), (B3.st p8 rfl)⟩
 rintro y9 _ _ ⟨s19, _, rfl, rfl, Ky9, By9_b3⟩
 refine Xb rfl (ji [16] (fun (y21 : Bool) e w => ∃ (s : St) (e0 : Env), w = s.w ∧ e = upd e0 18 (.bool y21) ∧ Kp s0 s) (fun Gj21 Kj21 => ?_) ?_)
 ·
  rcases bft y9 with hb21 | hb21
  ·
   refine sbT hb21 ?_
   rw [if_pos hb21]
   refine Xn fa63_0 rfl (lda' (es := [(iI a0.From.Kind), (iI a0.From.N), w0_0, w0_1]) By9_b3 u61 z61 rfl (Xn fa63_1 rfl (lda' (es := [(iI a0.To.Kind), (iI a0.To.N), w0_2, w0_3]) By9_b3 u61 z61 rfl ?_)))
   refine clV 43 rfl func82 rfl (impl_compareItems.calls a0.From a0.To s19.w (mm [0] s19) w0_0 w0_1 w0_2 w0_3 ((Xe (s := s19) A0_0).sub (D := [0]) rfl) (A0_1.kp Ky9) ((Xe (s := s19) A0_2).sub (D := [0]) rfl) (A0_3.kp Ky9)) (fun r24 s25 p25 n25 => ?_)
   refine Xb rfl (Xb rfl ?_)
   exact Kj21 _ _ _ ⟨s25, _, rfl, (ue rfl rfl), (Ky9.st p25 rfl)⟩
  refine sbT hb21 ?_
  rw [if_neg (by rw [hb21]; decide)]
  exact Xg rfl (Xg rfl (Xg rfl (Xg rfl (Xg rfl (Xg rfl (Xb rfl (Kj21 _ _ _ ⟨s19, _, rfl, (ue rfl rfl), Ky9⟩)))))))
 rintro y21 _ _ ⟨s27, _, rfl, rfl, Ky21⟩
 exact Xb rfl (dn (re rfl func56 rfl (Xj rfl Xd) rfl ⟨_, rfl, rfl, z.ky Ky21⟩))
def impl_areAll_impl_Item_1.f (a0 : Item) (a1 : (Item → Option Bool)) : Option (Bool) :=
 ((a1 a0).bind fun r8 => (some (!r8)))
def impl_areAll_impl_Item_1.Q (w : World) (F : Nat → Prop) (r : Bool) (v : Value) (w' : World) : Prop :=
 v = (.bool r) ∧ Ky [] w w'
theorem impl_areAll_impl_Item_1.calls (a0 : Item) (a1 : (Item → Option Bool)) (w : World) (F : Nat → Prop) (w0_0 : Value) (w0_1 : Value) (c1 : Nat) (f1 : Value) (h0_0 : Kd.flt.rd w [w0_0] a0.F F) (h0_1 : Xr.rd w [w0_1] a0.T F) (hf1 : ∀ (x0 : Item) (u0_0 u0_1 : Value) (w' : World), Ky [] w w' → Kd.flt.rd w' [u0_0] x0.F (fun _ => True) → Xr.rd w' [u0_1] x0.T (fun _ => True) → ∀ r, a1 x0 = some r → CallV prog f1 [(.agg #[(iI x0.Kind), (iI x0.N), u0_0, u0_1])] w' fun en w'' => ∃ v, en = .returned v ∧ v = (.bool r) ∧ Ky [] w' w'') (ho1 : f1.cells = #[f1]) (hb1 : BlW w c1 64 [f1]) (hp1 : F c1) (r : Bool) (m : impl_areAll_impl_Item_1.f a0 a1 = some r) :
  Calls prog 83 #[(.agg #[(iI a0.Kind), (iI a0.N), w0_0, w0_1]), (pB c1)] w (RT (impl_areAll_impl_Item_1.Q w F) r) := by
 obtain ⟨s0, rfl, kp0, z⟩ := Xf w F
 refine Xc (args := [(.agg #[(iI a0.Kind), (iI a0.N), w0_0, w0_1]), (pB c1)]) func83 ntmps83 rfl rfl m ?_
 unfold impl_areAll_impl_Item_1.f
 refine sr (bx' (cs := [(iI a0.Kind), (iI a0.N), w0_0, w0_1]) 40 rfl rfl (fun b3 s3 p3 B3 => ?_))
 refine Xb rfl (dn (sr ?_))
 refine ld' (BlF.st (z.b0 hb1 hp1) p3 rfl) u64 rfl (lda' (es := [(iI a0.Kind), (iI a0.N), w0_0, w0_1]) B3 u61 z61 rfl ?_)
 have K6 := kp0.st p3 rfl
 refine clv rfl rfl rfl rfl rfl rfl rfl (fun r8 m8 => hf1 a0 w0_0 w0_1 s3.w (z.ky K6) (fl_rd (Xm h0_0)) (RdF.top ((z.rd h0_1).kp K6)) r8 m8) ?_
 rintro r8 _ w8 m8 ⟨rfl, ky8⟩
 obtain ⟨s9, rfl, p9, n9⟩ := nwx s3 w8 41 ky8
 refine Xb rfl (Xb rfl (dn ?_))
 exact re rfl func83 rfl (Xj rfl Xd) rfl ⟨_, rfl, rfl, z.ky (K6.st p9 rfl)⟩
def slices_IndexFunc_impl_Item_impl_Item.b0 (a0 : (List Item)) (a1 : (Item → Option Bool)) (x2 : Int) : Option (Int ⊕ Int) :=
 (if (decide (x2 < (a0.length : Int))) = true then (if 0 ≤ x2 ∧ x2 < (a0.length : Int) then ((a1 (at_ a0 x2)).bind fun r9 => (if r9 = true then (some (Sum.inr x2)) else (some (Sum.inl (IntKind.wrap .i64 (x2 + (1 : Int))))))) else none) else ((some (-1 : Int)).bind fun o => some (Sum.inr o)))
def slices_IndexFunc_impl_Item_impl_Item.f (a0 : (List Item)) (a1 : (Item → Option Bool)) : Option (Int) :=
 (iter (slices_IndexFunc_impl_Item_impl_Item.b0 a0 a1) (0 : Int))
def slices_IndexFunc_impl_Item_impl_Item.Q (w : World) (F : Nat → Prop) (r : Int) (v : Value) (w' : World) : Prop :=
 v = (iI r) ∧ Ky [] w w'
theorem slices_IndexFunc_impl_Item_impl_Item.calls (a0 : (List Item)) (a1 : (Item → Option Bool)) (w : World) (F : Nat → Prop) (w0_0 : Value) (f1 : Value) (h0_0 : Xt.rd w [w0_0] a0 F) (hf1 : ∀ (x0 : Item) (u0_0 u0_1 : Value) (w' : World), Ky [] w w' → Kd.flt.rd w' [u0_0] x0.F (fun _ => True) → Xr.rd w' [u0_1] x0.T (fun _ => True) → ∀ r, a1 x0 = some r → CallV prog f1 [(.agg #[(iI x0.Kind), (iI x0.N), u0_0, u0_1])] w' fun en w'' => ∃ v, en = .returned v ∧ v = (.bool r) ∧ Ky [] w' w'') (ho1 : f1.cells = #[f1]) (r : Int) (m : slices_IndexFunc_impl_Item_impl_Item.f a0 a1 = some r) :
  Calls prog 86 #[w0_0, f1] w (RT (slices_IndexFunc_impl_Item_impl_Item.Q w F) r) := by
 obtain ⟨s0, rfl, kp0, z⟩ := Xf w F
 have A0_0 := z.rd h0_0
 refine Xc (args := [w0_0, f1]) func86 ntmps86 rfl rfl m ?_
 unfold slices_IndexFunc_impl_Item_impl_Item.f
 refine sr (Xb rfl (dn (sq (sr (Xi w0_0 rfl (ln' A0_0 u41 rfl (Xb rfl (dn (bl (lpI (fun (x2 : Int) e w => ∃ (s : St) (e0 : Env), w = s.w ∧ e = upd (upd (upd (upd e0 0 w0_0) 1 f1) 7 (iI (a0.length : Int))) 8 (iI x2) ∧ Kp s0 s) ⟨s0, _, rfl, (ue (ue (ue (ue rfl rfl) rfl) rfl) rfl), kp0⟩ (fun g2 ih2 => ?_)))))))))))
 rintro x2 _ _ ⟨s3, _, rfl, rfl, Kx2⟩
 unfold slices_IndexFunc_impl_Item_impl_Item.b0
 refine sr (Xb rfl (dn (sq (cd rfl (fun h4 => ?_) (fun h4 => ?_)))))
 ·
  refine sk (sq (bl (sr (Xb rfl (Xb rfl (dn (sr (Xi f1 rfl (Xi w0_0 rfl (Xb rfl ?_))))))))))
  refine ix' (A0_0.kp Kx2) u41 z61 rfl (fun ad6 es6 h0_6 h1_6 he6 ce6 ia6 => ?_)
  obtain ⟨v6_0, v6_1, rfl, A6_0, A6_1⟩ := op61 he6
  refine lca ce6 u61 z61 rfl rfl rfl rfl rfl rfl rfl (clv rfl rfl rfl rfl rfl rfl rfl (fun r9 m9 => hf1 (at_ a0 x2) v6_0 v6_1 s3.w (z.ky Kx2) (fl_rd A6_0) (RdF.top A6_1) r9 m9) ?_)
  rintro r9 _ w9 m9 ⟨rfl, ky9⟩
  obtain ⟨s10, rfl, p10, n10⟩ := nwx s3 w9 40 ky9
  refine dn (cd rfl (fun h11 => ?_) (fun h11 => ?_))
  ·
   refine sr (Xb rfl (Xb rfl (dn (sgi ?_))))
   exact re rfl func86 rfl (Xj rfl Xd) rfl ⟨_, rfl, rfl, z.ky (Kx2.st p10 rfl)⟩
  refine sk (ib (rg (Xb rfl (Xb rfl (dn ?_)))))
  exact lb ih2 ⟨s10, _, rfl, (ue (ue (ue (ue rfl rfl) rfl) rfl) rfl), (Kx2.st p10 rfl)⟩
 exact xt rfl (sgb (sr (Xb rfl (dn (re rfl func86 rfl (Xj rfl Xd) rfl ⟨_, rfl, rfl, z.ky Kx2⟩)))))
def slices_ContainsFunc_impl_Item_impl_Item.f (a0 : (List Item)) (a1 : (Item → Option Bool)) : Option (Bool) :=
 ((slices_IndexFunc_impl_Item_impl_Item.f a0 a1).bind fun r2 => (some (decide (r2 ≥ (0 : Int)))))
def slices_ContainsFunc_impl_Item_impl_Item.Q (w : World) (F : Nat → Prop) (r : Bool) (v : Value) (w' : World) : Prop :=
 v = (.bool r) ∧ Ky [] w w'
theorem slices_ContainsFunc_impl_Item_impl_Item.calls (a0 : (List Item)) (a1 : (Item → Option Bool)) (w : World) (F : Nat → Prop) (w0_0 : Value) (f1 : Value) (h0_0 : Xt.rd w [w0_0] a0 F) (hf1 : ∀ (x0 : Item) (u0_0 u0_1 : Value) (w' : World), Ky [] w w' → Kd.flt.rd w' [u0_0] x0.F (fun _ => True) → Xr.rd w' [u0_1] x0.T (fun _ => True) → ∀ r, a1 x0 = some r → CallV prog f1 [(.agg #[(iI x0.Kind), (iI x0.N), u0_0, u0_1])] w' fun en w'' => ∃ v, en = .returned v ∧ v = (.bool r) ∧ Ky [] w' w'') (ho1 : f1.cells = #[f1]) (r : Bool) (m : slices_ContainsFunc_impl_Item_impl_Item.f a0 a1 = some r) :
  Calls prog 59 #[w0_0, f1] w (RT (slices_ContainsFunc_impl_Item_impl_Item.Q w F) r) := by
 obtain ⟨s0, rfl, kp0, z⟩ := Xf w F
 refine Xc (args := [w0_0, f1]) func59 ntmps59 rfl rfl m ?_
 unfold slices_ContainsFunc_impl_Item_impl_Item.f
 refine sr (Xb rfl (dn (sr (Xi w0_0 rfl (Xi f1 rfl (clV 40 rfl func86 rfl (slices_IndexFunc_impl_Item_impl_Item.calls a0 a1 s0.w (mm [0] s0) w0_0 f1 (z.rd h0_0) (fun x0 u0_0 u0_1 w' k h0 h1 r m =>  hf1 x0 u0_0 u0_1 w' (Ky.trans (z.ky kp0) k) h0 h1 r m) ho1) (fun r2 s3 p3 n3 => ?_)))))))
 refine Xb rfl (Xb rfl (dn ?_))
 exact re rfl func59 rfl (Xj rfl Xd) rfl ⟨_, rfl, rfl, z.ky (kp0.st p3 rfl)⟩
def impl_areAll_impl_Item.f (a0 : (List Item)) (a1 : (Item → Option Bool)) : Option (Bool) :=
 ((slices_ContainsFunc_impl_Item_impl_Item.f a0 (fun x0 => impl_areAll_impl_Item_1.f x0 a1)).bind fun r6 => (some (!r6)))
def impl_areAll_impl_Item.Q (w : World) (F : Nat → Prop) (r : Bool) (v : Value) (w' : World) : Prop :=
 v = (.bool r) ∧ Ky [] w w'
theorem impl_areAll_impl_Item.calls (a0 : (List Item)) (a1 : (Item → Option Bool)) (w : World) (F : Nat → Prop) (w0_0 : Value) (f1 : Value) (h0_0 : Xt.rd w [w0_0] a0 F) (hf1 : ∀ (x0 : Item) (u0_0 u0_1 : Value) (w' : World), Ky [] w w' → Kd.flt.rd w' [u0_0] x0.F (fun _ => True) → Xr.rd w' [u0_1] x0.T (fun _ => True) → ∀ r, a1 x0 = some r → CallV prog f1 [(.agg #[(iI x0.Kind), (iI x0.N), u0_0, u0_1])] w' fun en w'' => ∃ v, en = .returned v ∧ v = (.bool r) ∧ Ky [] w' w'') (ho1 : f1.cells = #[f1]) (r : Bool) (m : impl_areAll_impl_Item.f a0 a1 = some r) :
  Calls prog 57 #[w0_0, f1] w (RT (impl_areAll_impl_Item.Q w F) r) := by
 obtain ⟨s0, rfl, kp0, z⟩ := Xf w F
 refine Xc (args := [w0_0, f1]) func57 ntmps57 rfl rfl m ?_
 unfold impl_areAll_impl_Item.f
 refine sr (bx' (cs := [f1]) 40 rfl ho1 (fun b2 s2 p2 B2 => ?_))
 refine Xb rfl (dn (sr (Xi w0_0 rfl (mkf (fs := []) (cs := [(pB b2)]) rfl rfl rfl rfl rfl rfl rfl ?_))))
 have K4 := kp0.st p2 rfl
 refine clV 41 rfl func59 rfl (slices_ContainsFunc_impl_Item_impl_Item.calls a0 (fun x0 => impl_areAll_impl_Item_1.f x0 a1) s2.w (mm [0] s2) w0_0 (.func (.func 83) (List.toArray []) (List.toArray [(pB b2)])) ((z.rd h0_0).kp K4) (fun x0 u0_0 u0_1 w' k h0 h1 r m =>  ⟨83, _, _, [], [(pB b2)], rfl, func83, rfl, rfl, (impl_areAll_impl_Item_1.calls x0 a1 w' (fun _ => True) u0_0 u0_1 b2 f1 h0 h1 (fun x0c u0_0c u0_1c w'c kc h0c h1c r m =>  hf1 x0c u0_0c u0_1c w'c (Ky.trans (z.ky K4) (Ky.trans k kc)) h0c h1c r m) ho1 (B2.ky k) trivial r m).mono fun en w2 hq => by obtain ⟨v, e, q⟩ := hq; exact ⟨v, e, q⟩⟩) rfl) (fun r6 s7 p7 n7 => ?_)
 refine Xb rfl (Xb rfl (dn ?_))
 exact re rfl func57 rfl (Xj rfl Xd) rfl ⟨_, rfl, rfl, z.ky (K4.st p7 rfl)⟩
def impl_isDeed.f (a0 : Deed) : Option (Bool) :=
 ((if (((decide (a0.Begun ≥ (1 : Int))) && (decide (a0.Ended > a0.Begun))) && (decide ((a0.Reads.length : Int) ≤ (200 : Int)))) = true then ((impl_areAll_impl_Span.f a0.Reads impl_SpanOk.f).bind fun r12 => (some r12)) else (some false)).bind fun y9 => ((if (y9 && (decide ((a0.Writes.length : Int) ≤ (200 : Int)))) = true then ((impl_areAll_impl_Item.f a0.Writes impl_KeyOk.f).bind fun r23 => (some r23)) else (some false)).bind fun y21 => (some y21)))
def impl_isDeed.Q (w : World) (F : Nat → Prop) (r : Bool) (v : Value) (w' : World) : Prop :=
 v = (.bool r) ∧ Ky [] w w'
theorem impl_isDeed.calls (a0 : Deed) (w : World) (F : Nat → Prop) (w0_0 : Value) (w0_1 : Value) (h0_0 : Xs.rd w [w0_0] a0.Reads F) (h0_1 : Xt.rd w [w0_1] a0.Writes F) (r : Bool) (m : impl_isDeed.f a0 = some r) :
  Calls prog 35 #[(.agg #[(iI a0.Xid), (iI a0.Begun), (iI a0.Ended), w0_0, w0_1])] w (RT (impl_isDeed.Q w F) r) := by
 obtain ⟨s0, rfl, kp0, z⟩ := Xf w F
 have A0_0 := z.rd h0_0
 have A0_1 := z.rd h0_1
 refine Xc (args := [(.agg #[(iI a0.Xid), (iI a0.Begun), (iI a0.Ended), w0_0, w0_1])]) func35 ntmps35 rfl rfl m ?_
 unfold impl_isDeed.f
 refine sr (bx' (cs := [(iI a0.Xid), (iI a0.Begun), (iI a0.Ended), w0_0, w0_1]) 40 rfl rfl (fun b3 s3 p3 B3 => ?_))
 refine Xb rfl (dn (sr (Xn fa43_1 rfl (ld' B3 u3 rfl (Xb rfl (Xb rfl (jy [6, 7, 8, 9, 10, 11, 12] [10, 11, 12, 13, 14, 15, 16, 17, 18, 19, 20, 21, 22, 23, 24, 25, 26, 27, 28, 29, 30, 31, 32] 12 (.bool ((decide (a0.Begun ≥ (1 : Int))) && (decide (a0.Ended > a0.Begun)))) rfl (fun Kg5 => ?_) (fun j5 => ?_))))))))
 ·
  rcases bft (decide (a0.Begun ≥ (1 : Int))) with hb5 | hb5
  ·
   exact sbT hb5 (Xn fa43_2 rfl (ld' B3 u3 rfl (Xn fa43_1 rfl (ld' B3 u3 rfl (Xb rfl (Xb rfl (Kg5 _ (Ag.put ((Ag.put ((Ag.put ((Ag.put ((Ag.put ((Ag.put (Ag.base rfl) rfl)) rfl)) rfl)) rfl)) rfl)) rfl) (by rw [hb5]; rfl))))))))
  exact sbT hb5 (Xg rfl (Xg rfl (Xg rfl (Xg rfl (Xg rfl (Xb rfl (Kg5 _ (Ag.put ((Ag.put ((Ag.put ((Ag.put ((Ag.put ((Ag.put (Ag.base rfl) rfl)) rfl)) rfl)) rfl)) rfl)) rfl) (by rw [hb5]; rfl))))))))
 refine Xb rfl (jy [13, 14, 15, 16, 17, 18] [16, 17, 18, 19, 20, 21, 22, 23, 24, 25, 26, 27, 28, 29, 30, 31, 32] 18 (.bool (((decide (a0.Begun ≥ (1 : Int))) && (decide (a0.Ended > a0.Begun))) && (decide ((a0.Reads.length : Int) ≤ (200 : Int))))) rfl (fun Kg6 => ?_) (fun j6 => ?_))
 ·
  rcases bft ((decide (a0.Begun ≥ (1 : Int))) && (decide (a0.Ended > a0.Begun))) with hb6 | hb6
  ·
   refine sbT hb6 (Xn fa43_3 rfl (ld' B3 u40 rfl ?_))
   exact ln' (A0_0.kp (kp0.st p3 rfl)) u40 rfl (Xb rfl (Xb rfl (Kg6 _ (Ag.put ((Ag.put ((Ag.put ((Ag.put ((Ag.put (Ag.base rfl) rfl)) rfl)) rfl)) rfl)) rfl) (by rw [hb6]; rfl))))
  exact sbT hb6 (Xg rfl (Xg rfl (Xg rfl (Xg rfl (Xb rfl (Kg6 _ (Ag.put ((Ag.put ((Ag.put ((Ag.put ((Ag.put (Ag.base rfl) rfl)) rfl)) rfl)) rfl)) rfl) (by rw [hb6]; rfl)))))))
 refine Xb rfl (ji [21, 22, 23, 24, 25, 26, 27, 28, 29, 30, 31, 32] (fun (y9 : Bool) e w => ∃ (s : St) (e0 : Env), w = s.w ∧ e = upd (upd e0 1 (pB b3)) 23 (.bool y9) ∧ Kp s0 s ∧ BlF s b3 43 [(iI a0.Xid), (iI a0.Begun), (iI a0.Ended), w0_0, w0_1] 40) (fun Gj9 Kj9 => ?_) ?_)
 ·
  rcases bft (((decide (a0.Begun ≥ (1 : Int))) && (decide (a0.Ended > a0.Begun))) && (decide ((a0.Reads.length : Int) ≤ (200 : Int)))) with hb9 | hb9
  ·
   refine sbT hb9 ?_
   rw [if_pos hb9]
   refine Xn fa43_3 rfl (ld' B3 u40 rfl ?_)
   have K10 := kp0.st p3 rfl
   refine clV 41 rfl func55 rfl (impl_areAll_impl_Span.calls a0.Reads impl_SpanOk.f s3.w (mm [0] s3) w0_0 (.func (.func 56) #[] #[]) (A0_0.kp K10) (fun x0 u0_0 u0_1 u0_2 u0_3 w' k h0 h1 h2 h3 r m =>  ⟨56, _, _, [], [], rfl, func56, rfl, rfl, (impl_SpanOk.calls x0 w' (fun _ => True) u0_0 u0_1 u0_2 u0_3 h0 h1 h2 h3 r m).mono fun en w2 hq => by obtain ⟨v, e, q⟩ := hq; exact ⟨v, e, q⟩⟩) rfl) (fun r12 s13 p13 n13 => ?_)
   exact Xb rfl (Kj9 _ _ _ ⟨s13, _, rfl, (ue (ue rfl rfl) rfl), (K10.st p13 rfl), (B3.st p13 rfl)⟩)
  refine sbT hb9 ?_
  rw [if_neg (by rw [hb9]; decide)]
  refine Xg rfl (Xg rfl (Xg rfl (Xb rfl ?_)))
  exact Kj9 _ _ _ ⟨s3, _, rfl, (ue (ue rfl rfl) rfl), (kp0.st p3 rfl), B3⟩
 rintro y9 _ _ ⟨s17, _, rfl, rfl, Ky9, By9_b3⟩
 refine Xb rfl (jy [24, 25, 26, 27, 28, 29] [27, 28, 29, 30, 31, 32] 29 (.bool (y9 && (decide ((a0.Writes.length : Int) ≤ (200 : Int))))) rfl (fun Kg19 => ?_) (fun j19 => ?_))
 ·
  rcases bft y9 with hb19 | hb19
  ·
   refine sbT hb19 (Xn fa43_4 rfl (ld' By9_b3 u41 rfl ?_))
   exact ln' (A0_1.kp Ky9) u41 rfl (Xb rfl (Xb rfl (Kg19 _ (Ag.put ((Ag.put ((Ag.put ((Ag.put ((Ag.put (Ag.base rfl) rfl)) rfl)) rfl)) rfl)) rfl) (by rw [hb19]; rfl))))
  exact sbT hb19 (Xg rfl (Xg rfl (Xg rfl (Xg rfl (Xb rfl (Kg19 _ (Ag.put ((Ag.put ((Ag.put ((Ag.put ((Ag.put (Ag.base rfl) rfl)) rfl)) rfl)) rfl)) rfl) (by rw [hb19]; rfl)))))))
 refine Xb rfl (ji [32] (fun (y21 : Bool) e w => ∃ (s : St) (e0 : Env), w = s.w ∧ e = upd e0 34 (.bool y21) ∧ Kp s0 s) (fun Gj21 Kj21 => ?_) ?_)
 ·
  rcases bft (y9 && (decide ((a0.Writes.length : Int) ≤ (200 : Int)))) with hb21 | hb21
  ·
   refine sbT hb21 ?_
   rw [if_pos hb21]
   refine Xn fa43_4 rfl (ld' By9_b3 u41 rfl ?_)
   refine clV 42 rfl func57 rfl (impl_areAll_impl_Item.calls a0.Writes impl_KeyOk.f s17.w (mm [0] s17) w0_1 (.func (.func 58) #[] #[]) (A0_1.kp Ky9) (fun x0 u0_0 u0_1 w' k h0 h1 r m =>  ⟨58, _, _, [], [], rfl, func58, rfl, rfl, (impl_KeyOk.calls x0 w' (fun _ => True) u0_0 u0_1 h0 h1 r m).mono fun en w2 hq => by obtain ⟨v, e, q⟩ := hq; exact ⟨v, e, q⟩⟩) rfl) (fun r23 s24 p24 n24 => ?_)
   exact Xb rfl (Kj21 _ _ _ ⟨s24, _, rfl, (ue rfl rfl), (Ky9.st p24 rfl)⟩)
  refine sbT hb21 ?_
  rw [if_neg (by rw [hb21]; decide)]
  exact Xg rfl (Xg rfl (Xg rfl (Xb rfl (Kj21 _ _ _ ⟨s17, _, rfl, (ue rfl rfl), Ky9⟩))))
 rintro y21 _ _ ⟨s26, _, rfl, rfl, Ky21⟩
 exact Xb rfl (dn (re rfl func35 rfl (Xj rfl Xd) rfl ⟨_, rfl, rfl, z.ky Ky21⟩))
def impl_areDifferent_int.b0 (a0 : (List Int)) (a1 : (Int → Option Int)) (x6 : Int × MD) : Option ((Int × MD) ⊕ Bool) :=
 (if (decide (x6.1 < (a0.length : Int))) = true then (if 0 ≤ x6.1 ∧ x6.1 < (a0.length : Int) then ((a1 (at_ a0 x6.1)).bind fun r13 => (if (mget x6.2 r13) = true then (some (Sum.inr false)) else ((a1 (at_ a0 x6.1)).bind fun r19 => (some (Sum.inl ((IntKind.wrap .i64 (x6.1 + (1 : Int))), (mset x6.2 r19 true))))))) else none) else ((some true).bind fun o => some (Sum.inr o)))
def impl_areDifferent_int.f (a0 : (List Int)) (a1 : (Int → Option Int)) : Option (Bool) :=
 (iter (impl_areDifferent_int.b0 a0 a1) ((0 : Int), ([] : MD)))
def impl_areDifferent_int.Q (w : World) (F : Nat → Prop) (r : Bool) (v : Value) (w' : World) : Prop :=
 v = (.bool r) ∧ Ky [] w w'
theorem impl_areDifferent_int.calls (a0 : (List Int)) (a1 : (Int → Option Int)) (w : World) (F : Nat → Prop) (w0_0 : Value) (f1 : Value) (h0_0 : Xw.rd w [w0_0] a0 F) (hf1 : ∀ (x0 : Int) (w' : World), Ky [] w w' → ∀ r, a1 x0 = some r → CallV prog f1 [(iI x0)] w' fun en w'' => ∃ v, en = .returned v ∧ v = (iI r) ∧ Ky [] w' w'') (ho1 : f1.cells = #[f1]) (r : Bool) (m : impl_areDifferent_int.f a0 a1 = some r) :
  Calls prog 36 #[w0_0, f1] w (RT (impl_areDifferent_int.Q w F) r) := by
 obtain ⟨s0, rfl, kp0, z⟩ := Xf w F
 have A0_0 := z.rd h0_0
 refine Xc (args := [w0_0, f1]) func36 ntmps36 rfl rfl m ?_
 unfold impl_areDifferent_int.f
 refine sr (Xb rfl (dn (sr (mkm 40 rfl rfl rfl rfl rfl (fun b2 s2 p2 B2 => ?_)))))
 refine Xb rfl (dn (sq (sr (Xi w0_0 rfl ?_))))
 have K4 := kp0.st p2 rfl
 refine ln' (A0_0.kp K4) u48 rfl (Xb rfl (dn (bl (lpI (fun (x6 : Int × MD) e w => ∃ (s : St) (e0 : Env), w = s.w ∧ e = upd (upd (upd (upd (upd e0 1 f1) 5 (.map (some b2))) 9 w0_0) 10 (iI (a0.length : Int))) 11 (iI x6.1) ∧ Kp s0 s ∧ MpF s b2 x6.2 40) ⟨s2, _, rfl, (ue (ue (ue (ue (ue rfl rfl) rfl) rfl) rfl) rfl), K4, B2⟩ (fun g6 ih6 => ?_)))))
 rintro x6 _ _ ⟨s7, _, rfl, rfl, Kx6, Bx6_b2⟩
 unfold impl_areDifferent_int.b0
 refine sr (Xb rfl (dn (sq (cd rfl (fun h9 => ?_) (fun h9 => ?_)))))
 ·
  refine sk (sq (bl (sr ?_)))
  refine ix' (A0_0.kp Kx6) u48 z3 rfl (fun ad11 es11 h0_11 h1_11 he11 ce11 ia11 => ?_)
  obtain rfl := he11
  refine lc0 ce11 u3 rfl rfl rfl rfl rfl rfl rfl rfl (Xb rfl (dn (sq (sr (Xb rfl (Xi f1 rfl (Xb rfl (clv rfl rfl rfl rfl rfl rfl rfl (fun r13 m13 => hf1 (at_ a0 x6.1) s7.w (z.ky Kx6)  r13 m13) ?_))))))))
  rintro r13 _ w13 m13 ⟨rfl, ky13⟩
  obtain ⟨s14, rfl, p14, n14⟩ := nwx s7 w13 41 ky13
  have A15 := Bx6_b2.st p14 rfl
  refine lkm A15 u93 u3 o4 rfl rfl rfl rfl rfl rfl rfl (dn (cd rfl (fun h16 => ?_) (fun h16 => ?_)))
  ·
   refine sr (Xb rfl (dn (sgi ?_)))
   exact re rfl func36 rfl (Xj rfl Xd) rfl ⟨_, rfl, rfl, z.ky (Kx6.st p14 rfl)⟩
  refine sk (rg (Xb rfl (Xi f1 rfl (Xb rfl ?_))))
  have K18 := Kx6.st p14 rfl
  refine clv rfl rfl rfl rfl rfl rfl rfl (fun r19 m19 => hf1 (at_ a0 x6.1) s14.w (z.ky K18)  r19 m19) ?_
  rintro r19 _ w19 m19 ⟨rfl, ky19⟩
  obtain ⟨s20, rfl, p20, n20⟩ := nwx s14 w19 42 ky19
  refine upm (A15.st p20 rfl) u93 u3 rfl rfl rfl rfl rfl rfl rfl (fun s22 p22 B22 => ?_)
  refine dn (ib (rg (Xb rfl (Xb rfl (dn ?_)))))
  exact lb ih6 ⟨s22, _, rfl, (ue (ue (ue (ue (ue rfl rfl) rfl) rfl) rfl) rfl), (K18.st (tr2 p20 p22) rfl), B22⟩
 exact xt rfl (sgb (sr (Xb rfl (dn (re rfl func36 rfl (Xj rfl Xd) rfl ⟨_, rfl, rfl, z.ky Kx6⟩)))))
def impl_DeedsOk_1.f (a0 : Int) : Option (Int) :=
 (some a0)
def impl_DeedsOk_1.Q (w : World) (F : Nat → Prop) (r : Int) (v : Value) (w' : World) : Prop :=
 v = (iI r) ∧ Ky [] w w'
theorem impl_DeedsOk_1.calls (a0 : Int) (w : World) (F : Nat → Prop)   (r : Int) (m : impl_DeedsOk_1.f a0 = some r) :
  Calls prog 37 #[(iI a0)] w (RT (impl_DeedsOk_1.Q w F) r) := by
 obtain ⟨s0, rfl, kp0, z⟩ := Xf w F
 refine Xc (args := [(iI a0)]) func37 ntmps37 rfl rfl m ?_
 unfold impl_DeedsOk_1.f
 exact sr (Xb rfl (dn (sr (Xb rfl (Xb rfl (dn (re rfl func37 rfl (Xj rfl Xd) rfl ⟨_, rfl, rfl, z.ky kp0⟩)))))))
def impl_DeedsOk.b0 (a0 : (List Deed)) (x9 : (List Int) × Int) : Option (((List Int) × Int) ⊕ Bool) :=
 (if (decide (x9.2 < (a0.length : Int))) = true then (if 0 ≤ x9.2 ∧ x9.2 < (a0.length : Int) then (if x9.1.length + ([(at_ a0 x9.2).Begun, (at_ a0 x9.2).Ended]).length ≤ Lim then (some (Sum.inl ((x9.1 ++ [(at_ a0 x9.2).Begun, (at_ a0 x9.2).Ended]), (IntKind.wrap .i64 (x9.2 + (1 : Int)))))) else none) else none) else (((impl_areDifferent_int.f x9.1 impl_DeedsOk_1.f).bind fun r30 => (some r30)).bind fun o => some (Sum.inr o)))
def impl_DeedsOk.f (a0 : (List Deed)) : Option (Bool) :=
 ((if (decide ((a0.length : Int) > (100 : Int))) = true then (some true) else ((impl_areAll_impl_Deed.f a0 impl_isDeed.f).bind fun r3 => (some (!r3)))).bind fun y2 => (if y2 = true then (some false) else (iter (impl_DeedsOk.b0 a0) (([] : (List Int)), (0 : Int)))))
def impl_DeedsOk.Q (w : World) (F : Nat → Prop) (r : Bool) (v : Value) (w' : World) : Prop :=
 v = (.bool r) ∧ Ky [] w w'
theorem impl_DeedsOk.calls (a0 : (List Deed)) (w : World) (F : Nat → Prop) (w0_0 : Value) (h0_0 : Xu.rd w [w0_0] a0 F) (r : Bool) (m : impl_DeedsOk.f a0 = some r) :
  Calls prog 17 #[w0_0] w (RT (impl_DeedsOk.Q w F) r) := by
 obtain ⟨s0, rfl, kp0, z⟩ := Xf w F
 have A0_0 := z.rd h0_0
 refine Xc (args := [w0_0]) func17 ntmps17 rfl rfl m ?_
 unfold impl_DeedsOk.f
 refine sr (Xb rfl (dn (sq (sr (Xi w0_0 rfl (ln' A0_0 u26 rfl (Xb rfl (Xb rfl (ji [] (fun (y2 : Bool) e w => ∃ (s : St) (e0 : Env), w = s.w ∧ e = upd (upd e0 0 w0_0) 13 (.bool y2) ∧ Kp s0 s) (fun Gj2 Kj2 => ?_) ?_)))))))))
 ·
  rcases bft (decide ((a0.length : Int) > (100 : Int))) with hb2 | hb2
  ·
   refine sbT hb2 ?_
   rw [if_pos hb2]
   exact Xg rfl (Xg rfl (Xg rfl (Xb rfl (Kj2 _ _ _ ⟨s0, _, rfl, (ue (ue rfl rfl) rfl), kp0⟩))))
  refine sbT hb2 ?_
  rw [if_neg (by rw [hb2]; decide)]
  refine Xi w0_0 rfl (clV 40 rfl func34 rfl (impl_areAll_impl_Deed.calls a0 impl_isDeed.f s0.w (mm [0] s0) w0_0 (.func (.func 35) #[] #[]) A0_0 (fun x0 u0_0 u0_1 w' k h0 h1 r m =>  ⟨35, _, _, [], [], rfl, func35, rfl, rfl, (impl_isDeed.calls x0 w' (fun _ => True) u0_0 u0_1 h0 h1 r m).mono fun en w2 hq => by obtain ⟨v, e, q⟩ := hq; exact ⟨v, e, q⟩⟩) rfl) (fun r3 s4 p4 n4 => ?_))
  refine Xb rfl (Xb rfl ?_)
  exact Kj2 _ _ _ ⟨s4, _, rfl, (ue (ue rfl rfl) rfl), (kp0.st p4 rfl)⟩
 rintro y2 _ _ ⟨s6, _, rfl, rfl, Ky2⟩
 refine dn (cd rfl (fun h7 => ?_) (fun h7 => ?_))
 ·
  exact sr (Xb rfl (dn (re rfl func17 rfl (Xj rfl Xd) rfl ⟨_, rfl, rfl, z.ky Ky2⟩)))
 refine sk (sr (Xb rfl (dn (sq (sr (Xi w0_0 rfl ?_))))))
 refine ln' (A0_0.kp Ky2) u26 rfl (Xb rfl (dn (bl (lpI (fun (x9 : (List Int) × Int) e w => ∃ (s : St) (e0 : Env) (vx9_0 : Value), w = s.w ∧ e = upd (upd (upd (upd e0 3 vx9_0) 14 w0_0) 15 (iI (a0.length : Int))) 16 (iI x9.2) ∧ Kp s0 s ∧ OwF Xw s [vx9_0] x9.1 41) ⟨s6, _, (.slice none 0 0), rfl, (ue (ue (ue (ue rfl rfl) rfl) rfl) rfl), Ky2, (ow_nil 3 (Kd.int .i64) _ 41)⟩ (fun g9 ih9 => ?_)))))
 rintro x9 _ _ ⟨s10, _, vx9_0, rfl, rfl, Kx9, Ax9_0⟩
 unfold impl_DeedsOk.b0
 refine sr (Xb rfl (dn (sq (cd rfl (fun h12 => ?_) (fun h12 => ?_)))))
 ·
  refine sk (sq (bl (sr ?_)))
  refine ix' (A0_0.kp Kx9) u26 z43 rfl (fun ad14 es14 h0_14 h1_14 he14 ce14 ia14 => ?_)
  obtain ⟨v14_0, v14_1, rfl, A14_0, A14_1⟩ := op43 he14
  refine lca ce14 u43 z43 rfl rfl rfl rfl rfl rfl rfl (al (cs := [(iI 0), (iI 0), (iI 0), (.slice none 0 0), (.slice none 0 0)]) 42 rfl rfl rfl rfl rfl o43 rfl (fun b18 s18 p18 B18 => ?_))
  refine sva (vs := [(iI ((at_ a0 x9.2).Xid)), (iI ((at_ a0 x9.2).Begun)), (iI ((at_ a0 x9.2).Ended)), v14_0, v14_1]) B18 z43 rfl rfl rfl rfl rfl rfl (Xk rfl (Xk rfl (Xk rfl (Xk (A14_0.st p18 rfl).one (Xk (A14_1.st p18 rfl).one on_nil))))) rfl (fun s22 p22 B22 => ?_)
  refine dn (rg (Xi vx9_0 rfl (Xn fa43_1 rfl (ld' B22 u3 rfl (Xn fa43_2 rfl (ld' B22 u3 rfl (ltF (K := (Kd.int .i64)) (cells := [(iI ((at_ a0 x9.2).Begun)), (iI ((at_ a0 x9.2).Ended))]) [(at_ a0 x9.2).Begun, (at_ a0 x9.2).Ended] 43 fl_int u48 z3 o3 (fun w => (els_flat _ _ _)) rfl rfl rfl rfl rfl rfl rfl rfl rfl rfl (fun v24 s24 p24 A24 => ?_))))))))
  refine apF fl_int sl48 (Ax9_0.st (tr3 p18 p22 p24) rfl) A24.rd rfl rfl rfl rfl rfl rfl rfl (fun v27 s27 p27 A27 => ?_)
  refine asg' v27 rfl (dn (ib (rg (Xb rfl (Xb rfl (dn ?_))))))
  exact lb ih9 ⟨s27, _, v27, rfl, (ue (ue (ue (ue rfl rfl) rfl) rfl) rfl), (Kx9.st (tr4 p18 p22 p24 p27) rfl), A27⟩
 refine xt rfl (sgb (sr (Xi vx9_0 rfl (clV 44 rfl func36 rfl (impl_areDifferent_int.calls x9.1 impl_DeedsOk_1.f s10.w (mm [41] s10) vx9_0 (.func (.func 37) #[] #[]) Ax9_0.rd (fun x0 w' k  r m =>  ⟨37, _, _, [], [], rfl, func37, rfl, rfl, (impl_DeedsOk_1.calls x0 w' (fun _ => True)  r m).mono fun en w2 hq => by obtain ⟨v, e, q⟩ := hq; exact ⟨v, e, q⟩⟩) rfl) (fun r30 s31 p31 n31 => ?_)))))
 refine Xb rfl (dn ?_)
 exact re rfl func17 rfl (Xj rfl Xd) rfl ⟨_, rfl, rfl, z.ky (Kx9.st p31 rfl)⟩
def impl_Deed_writes_1.f (a0 : Item) (a1 : Item) : Option (Bool) :=
 ((impl_compareItems.f a0 a1).bind fun r10 => (some (r10 == (0 : Int))))
def impl_Deed_writes_1.Q (w : World) (F : Nat → Prop) (r : Bool) (v : Value) (w' : World) : Prop :=
 v = (.bool r) ∧ Ky [] w w'
theorem impl_Deed_writes_1.calls (a0 : Item) (a1 : Item) (w : World) (F : Nat → Prop) (w0_0 : Value) (w0_1 : Value) (c1 : Nat) (w1_0 : Value) (w1_1 : Value) (h0_0 : Kd.flt.rd w [w0_0] a0.F F) (h0_1 : Xr.rd w [w0_1] a0.T F) (h1_0 : Kd.flt.rd w [w1_0] a1.F F) (h1_1 : Xr.rd w [w1_1] a1.T F) (hb1 : BlW w c1 61 [(iI a1.Kind), (iI a1.N), w1_0, w1_1]) (hp1 : F c1) (r : Bool) (m : impl_Deed_writes_1.f a0 a1 = some r) :
  Calls prog 87 #[(.agg #[(iI a0.Kind), (iI a0.N), w0_0, w0_1]), (pB c1)] w (RT (impl_Deed_writes_1.Q w F) r) := by
 obtain ⟨s0, rfl, kp0, z⟩ := Xf w F
 refine Xc (args := [(.agg #[(iI a0.Kind), (iI a0.N), w0_0, w0_1]), (pB c1)]) func87 ntmps87 rfl rfl m ?_
 unfold impl_Deed_writes_1.f
 refine sr (bx' (cs := [(iI a0.Kind), (iI a0.N), w0_0, w0_1]) 40 rfl rfl (fun b4 s4 p4 B4 => ?_))
 refine Xb rfl (dn (sr (lda' (es := [(iI a0.Kind), (iI a0.N), w0_0, w0_1]) B4 u61 z61 rfl ?_)))
 refine lda' (es := [(iI a1.Kind), (iI a1.N), w1_0, w1_1]) (BlF.st (z.b0 hb1 hp1) p4 rfl) u61 z61 rfl ?_
 have K7 := kp0.st p4 rfl
 refine clV 41 rfl func82 rfl (impl_compareItems.calls a0 a1 s4.w (mm [0] s4) w0_0 w0_1 w1_0 w1_1 ((Xe (s := s4) (Xm h0_0)).sub (D := [0]) rfl) ((z.rd h0_1).kp K7) ((Xe (s := s4) (Xm h1_0)).sub (D := [0]) rfl) ((z.rd h1_1).kp K7)) (fun r10 s11 p11 n11 => ?_)
 refine Xb rfl (Xb rfl (dn ?_))
 exact re rfl func87 rfl (Xj rfl Xd) rfl ⟨_, rfl, rfl, z.ky (K7.st p11 rfl)⟩
def impl_Deed_writes.f (a0 : Deed) (a1 : Item) : Option (Bool) :=
 ((slices_ContainsFunc_impl_Item_impl_Item.f a0.Writes (fun x0 => impl_Deed_writes_1.f x0 a1)).bind fun r12 => (some r12))
def impl_Deed_writes.Q (w : World) (F : Nat → Prop) (r : Bool) (v : Value) (w' : World) : Prop :=
 v = (.bool r) ∧ Ky [] w w'
theorem impl_Deed_writes.calls (a0 : Deed) (a1 : Item) (w : World) (F : Nat → Prop) (w0_0 : Value) (w0_1 : Value) (w1_0 : Value) (w1_1 : Value) (h0_0 : Xs.rd w [w0_0] a0.Reads F) (h0_1 : Xt.rd w [w0_1] a0.Writes F) (h1_0 : Kd.flt.rd w [w1_0] a1.F F) (h1_1 : Xr.rd w [w1_1] a1.T F) (r : Bool) (m : impl_Deed_writes.f a0 a1 = some r) :
  Calls prog 60 #[(.agg #[(iI a0.Xid), (iI a0.Begun), (iI a0.Ended), w0_0, w0_1]), (.agg #[(iI a1.Kind), (iI a1.N), w1_0, w1_1])] w (RT (impl_Deed_writes.Q w F) r) := by
 obtain ⟨s0, rfl, kp0, z⟩ := Xf w F
 refine Xc (args := [(.agg #[(iI a0.Xid), (iI a0.Begun), (iI a0.Ended), w0_0, w0_1]), (.agg #[(iI a1.Kind), (iI a1.N), w1_0, w1_1])]) func60 ntmps60 rfl rfl m ?_
 unfold impl_Deed_writes.f
 refine sr (bx' (cs := [(iI a0.Xid), (iI a0.Begun), (iI a0.Ended), w0_0, w0_1]) 40 rfl rfl (fun b4 s4 p4 B4 => ?_))
 refine bx' (cs := [(iI a1.Kind), (iI a1.N), w1_0, w1_1]) 41 rfl rfl (fun b6 s6 p6 B6 => ?_)
 refine Xb rfl (dn (sr (Xn fa43_4 rfl ?_)))
 refine ld' (B4.st p6 rfl) u41 rfl (mkf (fs := []) (cs := [(pB b6)]) rfl rfl rfl rfl rfl rfl rfl ?_)
 have K9 := kp0.st (tr2 p4 p6) rfl
 refine clV 42 rfl func59 rfl (slices_ContainsFunc_impl_Item_impl_Item.calls a0.Writes (fun x0 => impl_Deed_writes_1.f x0 a1) s6.w (mm [0] s6) w0_1 (.func (.func 87) (List.toArray []) (List.toArray [(pB b6)])) ((z.rd h0_1).kp K9) (fun x0 u0_0 u0_1 w' k h0 h1 r m =>  ⟨87, _, _, [], [(pB b6)], rfl, func87, rfl, rfl, (impl_Deed_writes_1.calls x0 a1 w' (fun _ => True) u0_0 u0_1 b6 w1_0 w1_1 h0 h1 (fl_rd (Xm h1_0)) (RdF.ky ((z.rd h1_1).kp K9) k) (B6.ky k) trivial r m).mono fun en w2 hq => by obtain ⟨v, e, q⟩ := hq; exact ⟨v, e, q⟩⟩) rfl) (fun r12 s13 p13 n13 => ?_)
 refine Xb rfl (dn ?_)
 exact re rfl func60 rfl (Xj rfl Xd) rfl ⟨_, rfl, rfl, z.ky (K9.st p13 rfl)⟩
def impl_InSpan.f (a0 : Item) (a1 : Item) (a2 : Item) : Option (Bool) :=
 ((impl_KeyOk.f a0).bind fun r13 => ((if r13 = true then ((impl_KeyOk.f a1).bind fun r19 => (some r19)) else (some false)).bind fun y15 => ((if y15 = true then ((impl_KeyOk.f a2).bind fun r35 => (some r35)) else (some false)).bind fun y33 => ((if y33 = true then ((impl_compareItems.f a0 a2).bind fun r48 => (some (decide (r48 ≤ (0 : Int))))) else (some false)).bind fun y45 => ((if y45 = true then ((impl_compareItems.f a2 a1).bind fun r59 => (some (decide (r59 ≤ (0 : Int))))) else (some false)).bind fun y56 => (some y56))))))
def impl_InSpan.Q (w : World) (F : Nat → Prop) (r : Bool) (v : Value) (w' : World) : Prop :=
 v = (.bool r) ∧ Ky [] w w'
theorem impl_InSpan.calls (a0 : Item) (a1 : Item) (a2 : Item) (w : World) (F : Nat → Prop) (w0_0 : Value) (w0_1 : Value) (w1_0 : Value) (w1_1 : Value) (w2_0 : Value) (w2_1 : Value) (h0_0 : Kd.flt.rd w [w0_0] a0.F F) (h0_1 : Xr.rd w [w0_1] a0.T F) (h1_0 : Kd.flt.rd w [w1_0] a1.F F) (h1_1 : Xr.rd w [w1_1] a1.T F) (h2_0 : Kd.flt.rd w [w2_0] a2.F F) (h2_1 : Xr.rd w [w2_1] a2.T F) (r : Bool) (m : impl_InSpan.f a0 a1 a2 = some r) :
  Calls prog 103 #[(.agg #[(iI a0.Kind), (iI a0.N), w0_0, w0_1]), (.agg #[(iI a1.Kind), (iI a1.N), w1_0, w1_1]), (.agg #[(iI a2.Kind), (iI a2.N), w2_0, w2_1])] w (RT (impl_InSpan.Q w F) r) := by
 obtain ⟨s0, rfl, kp0, z⟩ := Xf w F
 have A0_0 := Xm h0_0
 have A0_1 := z.rd h0_1
 have A1_0 := Xm h1_0
 have A1_1 := z.rd h1_1
 have A2_0 := Xm h2_0
 have A2_1 := z.rd h2_1
 refine Xc (args := [(.agg #[(iI a0.Kind), (iI a0.N), w0_0, w0_1]), (.agg #[(iI a1.Kind), (iI a1.N), w1_0, w1_1]), (.agg #[(iI a2.Kind), (iI a2.N), w2_0, w2_1])]) func103 ntmps103 rfl rfl m ?_
 unfold impl_InSpan.f
 refine sr (bx' (cs := [(iI a0.Kind), (iI a0.N), w0_0, w0_1]) 40 rfl rfl (fun b4 s4 p4 B4 => ?_))
 refine bx' (cs := [(iI a1.Kind), (iI a1.N), w1_0, w1_1]) 41 rfl rfl (fun b6 s6 p6 B6 => ?_)
 refine bx' (cs := [(iI a2.Kind), (iI a2.N), w2_0, w2_1]) 42 rfl rfl (fun b8 s8 p8 B8 => ?_)
 refine Xb rfl (dn (sr ?_))
 have A10 := B4.st (tr2 p6 p8) rfl
 refine lda' (es := [(iI a0.Kind), (iI a0.N), w0_0, w0_1]) A10 u61 z61 rfl ?_
 have K11 := kp0.st (tr3 p4 p6 p8) rfl
 refine clV 43 rfl func58 rfl (impl_KeyOk.calls a0 s8.w (mm [0] s8) w0_0 w0_1 ((Xe (s := s8) A0_0).sub (D := [0]) rfl) (A0_1.kp K11)) (fun r13 s14 p14 n14 => ?_)
 refine Xb rfl (ji [6, 7, 8, 9, 10, 11, 12, 13, 14, 15, 16, 17, 18, 19, 20, 21, 22] (fun (y15 : Bool) e w => ∃ (s : St) (e0 : Env), w = s.w ∧ e = upd (upd (upd (upd e0 3 (pB b4)) 4 (pB b6)) 5 (pB b8)) 12 (.bool y15) ∧ Kp s0 s ∧ BlF s b8 61 [(iI a2.Kind), (iI a2.N), w2_0, w2_1] 42 ∧ BlF s b6 61 [(iI a1.Kind), (iI a1.N), w1_0, w1_1] 41 ∧ BlF s b4 61 [(iI a0.Kind), (iI a0.N), w0_0, w0_1] 40) (fun Gj15 Kj15 => ?_) ?_)
 ·
  rcases bft r13 with hb15 | hb15
  ·
   refine sbT hb15 ?_
   rw [if_pos hb15]
   have A16 := B6.st (tr2 p8 p14) rfl
   refine lda' (es := [(iI a1.Kind), (iI a1.N), w1_0, w1_1]) A16 u61 z61 rfl ?_
   have K17 := K11.st p14 rfl
   refine clV 44 rfl func58 rfl (impl_KeyOk.calls a1 s14.w (mm [0] s14) w1_0 w1_1 ((Xe (s := s14) A1_0).sub (D := [0]) rfl) (A1_1.kp K17)) (fun r19 s20 p20 n20 => ?_)
   exact Xb rfl (Kj15 _ _ _ ⟨s20, _, rfl, (ue (ue (ue (ue rfl rfl) rfl) rfl) rfl), (K17.st p20 rfl), (B8.st (tr2 p14 p20) rfl), (A16.st p20 rfl), (A10.st (tr2 p14 p20) rfl)⟩)
  refine sbT hb15 ?_
  rw [if_neg (by rw [hb15]; decide)]
  refine Xg rfl (Xg rfl (Xb rfl ?_))
  exact Kj15 _ _ _ ⟨s14, _, rfl, (ue (ue (ue (ue rfl rfl) rfl) rfl) rfl), (K11.st p14 rfl), (B8.st p14 rfl), (B6.st (tr2 p8 p14) rfl), (A10.st p14 rfl)⟩
 rintro y15 _ _ ⟨s29, _, rfl, rfl, Ky15, By15_b8, By15_b6, By15_b4⟩
 refine Xb rfl (ji [10, 11, 12, 13, 14, 15, 16, 17, 18, 19, 20, 21, 22] (fun (y33 : Bool) e w => ∃ (s : St) (e0 : Env), w = s.w ∧ e = upd (upd (upd (upd e0 3 (pB b4)) 4 (pB b6)) 5 (pB b8)) 16 (.bool y33) ∧ Kp s0 s ∧ BlF s b8 61 [(iI a2.Kind), (iI a2.N), w2_0, w2_1] 42 ∧ BlF s b6 61 [(iI a1.Kind), (iI a1.N), w1_0, w1_1] 41 ∧ BlF s b4 61 [(iI a0.Kind), (iI a0.N), w0_0, w0_1] 40) (fun Gj33 Kj33 => ?_) ?_)
 ·
  rcases bft y15 with hb33 | hb33
  ·
   refine sbT hb33 ?_
   rw [if_pos hb33]
   refine lda' (es := [(iI a2.Kind), (iI a2.N), w2_0, w2_1]) By15_b8 u61 z61 rfl (clV 45 rfl func58 rfl (impl_KeyOk.calls a2 s29.w (mm [0] s29) w2_0 w2_1 ((Xe (s := s29) A2_0).sub (D := [0]) rfl) (A2_1.kp Ky15)) (fun r35 s36 p36 n36 => ?_))
   exact Xb rfl (Kj33 _ _ _ ⟨s36, _, rfl, (ue (ue (ue (ue rfl rfl) rfl) rfl) rfl), (Ky15.st p36 rfl), (By15_b8.st p36 rfl), (By15_b6.st p36 rfl), (By15_b4.st p36 rfl)⟩)
  refine sbT hb33 ?_
  rw [if_neg (by rw [hb33]; decide)]
  exact Xg rfl (Xg rfl (Xb rfl (Kj33 _ _ _ ⟨s29, _, rfl, (ue (ue (ue (ue rfl rfl) rfl) rfl) rfl), Ky15, By15_b8, By15_b6, By15_b4⟩)))
 rintro y33 _ _ ⟨s41, _, rfl, rfl, Ky33, By33_b8, By33_b6, By33_b4⟩
 refine Xb rfl (ji [16, 17, 18, 19, 20, 21, 22] (fun (y45 : Bool) e w => ∃ (s : St) (e0 : Env), w = s.w ∧ e = upd (upd (upd e0 4 (pB b6)) 5 (pB b8)) 22 (.bool y45) ∧ Kp s0 s ∧ BlF s b8 61 [(iI a2.Kind), (iI a2.N), w2_0, w2_1] 42 ∧ BlF s b6 61 [(iI a1.Kind), (iI a1.N), w1_0, w1_1] 41) (fun Gj45 Kj45 => ?_) ?_)
 ·
  rcases bft y33 with hb45 | hb45
  ·
   refine sbT hb45 ?_
   rw [if_pos hb45]
   refine lda' (es := [(iI a0.Kind), (iI a0.N), w0_0, w0_1]) By33_b4 u61 z61 rfl (lda' (es := [(iI a2.Kind), (iI a2.N), w2_0, w2_1]) By33_b8 u61 z61 rfl ?_)
   refine clV 46 rfl func82 rfl (impl_compareItems.calls a0 a2 s41.w (mm [0] s41) w0_0 w0_1 w2_0 w2_1 ((Xe (s := s41) A0_0).sub (D := [0]) rfl) (A0_1.kp Ky33) ((Xe (s := s41) A2_0).sub (D := [0]) rfl) (A2_1.kp Ky33)) (fun r48 s49 p49 n49 => ?_)
   refine Xb rfl (Xb rfl ?_)
   exact Kj45 _ _ _ ⟨s49, _, rfl, (ue (ue (ue rfl rfl) rfl) rfl), (Ky33.st p49 rfl), (By33_b8.st p49 rfl), (By33_b6.st p49 rfl)⟩
  refine sbT hb45 ?_
  rw [if_neg (by rw [hb45]; decide)]
  exact Xg rfl (Xg rfl (Xg rfl (Xg rfl (Xb rfl (Kj45 _ _ _ ⟨s41, _, rfl, (ue (ue (ue rfl rfl) rfl) rfl), Ky33, By33_b8, By33_b6⟩)))))
 rintro y45 _ _ ⟨s53, _, rfl, rfl, Ky45, By45_b8, By45_b6⟩
 refine Xb rfl (ji [22] (fun (y56 : Bool) e w => ∃ (s : St) (e0 : Env), w = s.w ∧ e = upd e0 28 (.bool y56) ∧ Kp s0 s) (fun Gj56 Kj56 => ?_) ?_)
 ·
  rcases bft y45 with hb56 | hb56
  ·
   refine sbT hb56 ?_
   rw [if_pos hb56]
   refine lda' (es := [(iI a2.Kind), (iI a2.N), w2_0, w2_1]) By45_b8 u61 z61 rfl (lda' (es := [(iI a1.Kind), (iI a1.N), w1_0, w1_1]) By45_b6 u61 z61 rfl ?_)
   refine clV 47 rfl func82 rfl (impl_compareItems.calls a2 a1 s53.w (mm [0] s53) w2_0 w2_1 w1_0 w1_1 ((Xe (s := s53) A2_0).sub (D := [0]) rfl) (A2_1.kp Ky45) ((Xe (s := s53) A1_0).sub (D := [0]) rfl) (A1_1.kp Ky45)) (fun r59 s60 p60 n60 => ?_)
   refine Xb rfl (Xb rfl ?_)
   exact Kj56 _ _ _ ⟨s60, _, rfl, (ue rfl rfl), (Ky45.st p60 rfl)⟩
  refine sbT hb56 ?_
  rw [if_neg (by rw [hb56]; decide)]
  exact Xg rfl (Xg rfl (Xg rfl (Xg rfl (Xb rfl (Kj56 _ _ _ ⟨s53, _, rfl, (ue rfl rfl), Ky45⟩)))))
 rintro y56 _ _ ⟨s62, _, rfl, rfl, Ky56⟩
 exact Xb rfl (dn (re rfl func103 rfl (Xj rfl Xd) rfl ⟨_, rfl, rfl, z.ky Ky56⟩))
def impl_Span_has.f (a0 : Span) (a1 : Item) : Option (Bool) :=
 ((impl_InSpan.f a0.From a0.To a1).bind fun r13 => (some r13))
def impl_Span_has.Q (w : World) (F : Nat → Prop) (r : Bool) (v : Value) (w' : World) : Prop :=
 v = (.bool r) ∧ Ky [] w w'
theorem impl_Span_has.calls (a0 : Span) (a1 : Item) (w : World) (F : Nat → Prop) (w0_0 : Value) (w0_1 : Value) (w0_2 : Value) (w0_3 : Value) (w1_0 : Value) (w1_1 : Value) (h0_0 : Kd.flt.rd w [w0_0] a0.From.F F) (h0_1 : Xr.rd w [w0_1] a0.From.T F) (h0_2 : Kd.flt.rd w [w0_2] a0.To.F F) (h0_3 : Xr.rd w [w0_3] a0.To.T F) (h1_0 : Kd.flt.rd w [w1_0] a1.F F) (h1_1 : Xr.rd w [w1_1] a1.T F) (r : Bool) (m : impl_Span_has.f a0 a1 = some r) :
  Calls prog 89 #[(.agg #[(iI a0.From.Kind), (iI a0.From.N), w0_0, w0_1, (iI a0.To.Kind), (iI a0.To.N), w0_2, w0_3]), (.agg #[(iI a1.Kind), (iI a1.N), w1_0, w1_1])] w (RT (impl_Span_has.Q w F) r) := by
 obtain ⟨s0, rfl, kp0, z⟩ := Xf w F
 refine Xc (args := [(.agg #[(iI a0.From.Kind), (iI a0.From.N), w0_0, w0_1, (iI a0.To.Kind), (iI a0.To.N), w0_2, w0_3]), (.agg #[(iI a1.Kind), (iI a1.N), w1_0, w1_1])]) func89 ntmps89 rfl rfl m ?_
 unfold impl_Span_has.f
 refine sr (bx' (cs := [(iI a0.From.Kind), (iI a0.From.N), w0_0, w0_1, (iI a0.To.Kind), (iI a0.To.N), w0_2, w0_3]) 40 rfl rfl (fun b4 s4 p4 B4 => ?_))
 refine bx' (cs := [(iI a1.Kind), (iI a1.N), w1_0, w1_1]) 41 rfl rfl (fun b6 s6 p6 B6 => ?_)
 refine Xb rfl (dn (sr (Xn fa63_0 rfl ?_)))
 have A8 := B4.st p6 rfl
 refine lda' (es := [(iI a0.From.Kind), (iI a0.From.N), w0_0, w0_1]) A8 u61 z61 rfl (Xn fa63_1 rfl (lda' (es := [(iI a0.To.Kind), (iI a0.To.N), w0_2, w0_3]) A8 u61 z61 rfl (lda' (es := [(iI a1.Kind), (iI a1.N), w1_0, w1_1]) B6 u61 z61 rfl ?_)))
 have K9 := kp0.st (tr2 p4 p6) rfl
 refine clV 42 rfl func103 rfl (impl_InSpan.calls a0.From a0.To a1 s6.w (mm [0] s6) w0_0 w0_1 w0_2 w0_3 w1_0 w1_1 ((Xe (s := s6) (Xm h0_0)).sub (D := [0]) rfl) ((z.rd h0_1).kp K9) ((Xe (s := s6) (Xm h0_2)).sub (D := [0]) rfl) ((z.rd h0_3).kp K9) ((Xe (s := s6) (Xm h1_0)).sub (D := [0]) rfl) ((z.rd h1_1).kp K9)) (fun r13 s14 p14 n14 => ?_)
 refine Xb rfl (dn ?_)
 exact re rfl func89 rfl (Xj rfl Xd) rfl ⟨_, rfl, rfl, z.ky (K9.st p14 rfl)⟩
def impl_Deed_readsKey_1.f (a0 : Span) (a1 : Item) : Option (Bool) :=
 ((impl_Span_has.f a0 a1).bind fun r12 => (some r12))
def impl_Deed_readsKey_1.Q (w : World) (F : Nat → Prop) (r : Bool) (v : Value) (w' : World) : Prop :=
 v = (.bool r) ∧ Ky [] w w'
theorem impl_Deed_readsKey_1.calls (a0 : Span) (a1 : Item) (w : World) (F : Nat → Prop) (w0_0 : Value) (w0_1 : Value) (w0_2 : Value) (w0_3 : Value) (c1 : Nat) (w1_0 : Value) (w1_1 : Value) (h0_0 : Kd.flt.rd w [w0_0] a0.From.F F) (h0_1 : Xr.rd w [w0_1] a0.From.T F) (h0_2 : Kd.flt.rd w [w0_2] a0.To.F F) (h0_3 : Xr.rd w [w0_3] a0.To.T F) (h1_0 : Kd.flt.rd w [w1_0] a1.F F) (h1_1 : Xr.rd w [w1_1] a1.T F) (hb1 : BlW w c1 61 [(iI a1.Kind), (iI a1.N), w1_0, w1_1]) (hp1 : F c1) (r : Bool) (m : impl_Deed_readsKey_1.f a0 a1 = some r) :
  Calls prog 88 #[(.agg #[(iI a0.From.Kind), (iI a0.From.N), w0_0, w0_1, (iI a0.To.Kind), (iI a0.To.N), w0_2, w0_3]), (pB c1)] w (RT (impl_Deed_readsKey_1.Q w F) r) := by
 obtain ⟨s0, rfl, kp0, z⟩ := Xf w F
 refine Xc (args := [(.agg #[(iI a0.From.Kind), (iI a0.From.N), w0_0, w0_1, (iI a0.To.Kind), (iI a0.To.N), w0_2, w0_3]), (pB c1)]) func88 ntmps88 rfl rfl m ?_
 unfold impl_Deed_readsKey_1.f
 refine sr (bx' (cs := [(iI a0.From.Kind), (iI a0.From.N), w0_0, w0_1, (iI a0.To.Kind), (iI a0.To.N), w0_2, w0_3]) 40 rfl rfl (fun b5 s5 p5 B5 => ?_))
 refine Xb rfl (dn (sr (lda' (es := [(iI a0.From.Kind), (iI a0.From.N), w0_0, w0_1, (iI a0.To.Kind), (iI a0.To.N), w0_2, w0_3]) B5 u63 z63 rfl ?_)))
 refine lda' (es := [(iI a1.Kind), (iI a1.N), w1_0, w1_1]) (BlF.st (z.b0 hb1 hp1) p5 rfl) u61 z61 rfl ?_
 have K8 := kp0.st p5 rfl
 refine clV 41 rfl func89 rfl (impl_Span_has.calls a0 a1 s5.w (mm [0] s5) w0_0 w0_1 w0_2 w0_3 w1_0 w1_1 ((Xe (s := s5) (Xm h0_0)).sub (D := [0]) rfl) ((z.rd h0_1).kp K8) ((Xe (s := s5) (Xm h0_2)).sub (D := [0]) rfl) ((z.rd h0_3).kp K8) ((Xe (s := s5) (Xm h1_0)).sub (D := [0]) rfl) ((z.rd h1_1).kp K8)) (fun r12 s13 p13 n13 => ?_)
 refine Xb rfl (dn ?_)
 exact re rfl func88 rfl (Xj rfl Xd) rfl ⟨_, rfl, rfl, z.ky (K8.st p13 rfl)⟩
def impl_Deed_readsKey.f (a0 : Deed) (a1 : Item) : Option (Bool) :=
 ((slices_ContainsFunc_impl_Span_impl_Span.f a0.Reads (fun x0 => impl_Deed_readsKey_1.f x0 a1)).bind fun r12 => (some r12))
def impl_Deed_readsKey.Q (w : World) (F : Nat → Prop) (r : Bool) (v : Value) (w' : World) : Prop :=
 v = (.bool r) ∧ Ky [] w w'
theorem impl_Deed_readsKey.calls (a0 : Deed) (a1 : Item) (w : World) (F : Nat → Prop) (w0_0 : Value) (w0_1 : Value) (w1_0 : Value) (w1_1 : Value) (h0_0 : Xs.rd w [w0_0] a0.Reads F) (h0_1 : Xt.rd w [w0_1] a0.Writes F) (h1_0 : Kd.flt.rd w [w1_0] a1.F F) (h1_1 : Xr.rd w [w1_1] a1.T F) (r : Bool) (m : impl_Deed_readsKey.f a0 a1 = some r) :
  Calls prog 61 #[(.agg #[(iI a0.Xid), (iI a0.Begun), (iI a0.Ended), w0_0, w0_1]), (.agg #[(iI a1.Kind), (iI a1.N), w1_0, w1_1])] w (RT (impl_Deed_readsKey.Q w F) r) := by
 obtain ⟨s0, rfl, kp0, z⟩ := Xf w F
 refine Xc (args := [(.agg #[(iI a0.Xid), (iI a0.Begun), (iI a0.Ended), w0_0, w0_1]), (.agg #[(iI a1.Kind), (iI a1.N), w1_0, w1_1])]) func61 ntmps61 rfl rfl m ?_
 unfold impl_Deed_readsKey.f
 refine sr (bx' (cs := [(iI a0.Xid), (iI a0.Begun), (iI a0.Ended), w0_0, w0_1]) 40 rfl rfl (fun b4 s4 p4 B4 => ?_))
 refine bx' (cs := [(iI a1.Kind), (iI a1.N), w1_0, w1_1]) 41 rfl rfl (fun b6 s6 p6 B6 => ?_)
 refine Xb rfl (dn (sr (Xn fa43_3 rfl ?_)))
 refine ld' (B4.st p6 rfl) u40 rfl (mkf (fs := []) (cs := [(pB b6)]) rfl rfl rfl rfl rfl rfl rfl ?_)
 have K9 := kp0.st (tr2 p4 p6) rfl
 refine clV 42 rfl func80 rfl (slices_ContainsFunc_impl_Span_impl_Span.calls a0.Reads (fun x0 => impl_Deed_readsKey_1.f x0 a1) s6.w (mm [0] s6) w0_0 (.func (.func 88) (List.toArray []) (List.toArray [(pB b6)])) ((z.rd h0_0).kp K9) (fun x0 u0_0 u0_1 u0_2 u0_3 w' k h0 h1 h2 h3 r m =>  ⟨88, _, _, [], [(pB b6)], rfl, func88, rfl, rfl, (impl_Deed_readsKey_1.calls x0 a1 w' (fun _ => True) u0_0 u0_1 u0_2 u0_3 b6 w1_0 w1_1 h0 h1 h2 h3 (fl_rd (Xm h1_0)) (RdF.ky ((z.rd h1_1).kp K9) k) (B6.ky k) trivial r m).mono fun en w2 hq => by obtain ⟨v, e, q⟩ := hq; exact ⟨v, e, q⟩⟩) rfl) (fun r12 s13 p13 n13 => ?_)
 refine Xb rfl (dn ?_)
 exact re rfl func61 rfl (Xj rfl Xd) rfl ⟨_, rfl, rfl, z.ky (K9.st p13 rfl)⟩
def impl_isAhead.f (a0 : Deed) (a1 : Deed) : Option (Bool) :=
 ((if (decide (a0.Ended < a1.Ended)) = true then ((slices_ContainsFunc_impl_Item_impl_Item.f a0.Writes (fun x0 => impl_Deed_writes.f a1 x0)).bind fun r15 => (some r15)) else (some false)).bind fun y10 => (if y10 = true then (some true) else ((if (decide (a0.Ended < a1.Begun)) = true then ((slices_ContainsFunc_impl_Item_impl_Item.f a0.Writes (fun x0 => impl_Deed_readsKey.f a1 x0)).bind fun r29 => (some r29)) else (some false)).bind fun y25 => (if y25 = true then (some true) else ((if (decide (a1.Ended > a0.Begun)) = true then ((slices_ContainsFunc_impl_Item_impl_Item.f a1.Writes (fun x0 => impl_Deed_readsKey.f a0 x0)).bind fun r42 => (some r42)) else (some false)).bind fun y38 => (some y38))))))
def impl_isAhead.Q (w : World) (F : Nat → Prop) (r : Bool) (v : Value) (w' : World) : Prop :=
 v = (.bool r) ∧ Ky [] w w'
theorem impl_isAhead.calls (a0 : Deed) (a1 : Deed) (w : World) (F : Nat → Prop) (w0_0 : Value) (w0_1 : Value) (w1_0 : Value) (w1_1 : Value) (h0_0 : Xs.rd w [w0_0] a0.Reads F) (h0_1 : Xt.rd w [w0_1] a0.Writes F) (h1_0 : Xs.rd w [w1_0] a1.Reads F) (h1_1 : Xt.rd w [w1_1] a1.Writes F) (r : Bool) (m : impl_isAhead.f a0 a1 = some r) :
  Calls prog 38 #[(.agg #[(iI a0.Xid), (iI a0.Begun), (iI a0.Ended), w0_0, w0_1]), (.agg #[(iI a1.Xid), (iI a1.Begun), (iI a1.Ended), w1_0, w1_1])] w (RT (impl_isAhead.Q w F) r) := by
 obtain ⟨s0, rfl, kp0, z⟩ := Xf w F
 have A0_1 := z.rd h0_1
 have A1_0 := z.rd h1_0
 have A1_1 := z.rd h1_1
 refine Xc (args := [(.agg #[(iI a0.Xid), (iI a0.Begun), (iI a0.Ended), w0_0, w0_1]), (.agg #[(iI a1.Xid), (iI a1.Begun), (iI a1.Ended), w1_0, w1_1])]) func38 ntmps38 rfl rfl m ?_
 unfold impl_isAhead.f
 refine sr (bx' (cs := [(iI a0.Xid), (iI a0.Begun), (iI a0.Ended), w0_0, w0_1]) 40 rfl rfl (fun b5 s5 p5 B5 => ?_))
 refine bx' (cs := [(iI a1.Xid), (iI a1.Begun), (iI a1.Ended), w1_0, w1_1]) 41 rfl rfl (fun b7 s7 p7 B7 => ?_)
 refine Xb rfl (dn (sq (bl (sr (Xn fa43_2 rfl ?_)))))
 have A9 := B5.st p7 rfl
 refine ld' A9 u3 rfl (Xn fa43_2 rfl (ld' B7 u3 rfl (Xb rfl (Xb rfl (ji [12] (fun (y10 : Bool) e w => ∃ (s : St) (e0 : Env), w = s.w ∧ e = upd (upd (upd e0 2 (pB b5)) 3 (pB b7)) 17 (.bool y10) ∧ Kp s0 s ∧ BlF s b7 43 [(iI a1.Xid), (iI a1.Begun), (iI a1.Ended), w1_0, w1_1] 41 ∧ BlF s b5 43 [(iI a0.Xid), (iI a0.Begun), (iI a0.Ended), w0_0, w0_1] 40) (fun Gj10 Kj10 => ?_) ?_)))))
 ·
  rcases bft (decide (a0.Ended < a1.Ended)) with hb10 | hb10
  ·
   refine sbT hb10 ?_
   rw [if_pos hb10]
   refine Xn fa43_4 rfl (ld' A9 u41 rfl (lda' (es := [(iI a1.Xid), (iI a1.Begun), (iI a1.Ended), w1_0, w1_1]) B7 u43 z43 rfl (mkf (fs := [(.agg #[(iI a1.Xid), (iI a1.Begun), (iI a1.Ended), w1_0, w1_1])]) (cs := []) rfl rfl rfl rfl rfl rfl rfl ?_)))
   have K11 := kp0.st (tr2 p5 p7) rfl
   refine clV 42 rfl func59 rfl (slices_ContainsFunc_impl_Item_impl_Item.calls a0.Writes (fun x0 => impl_Deed_writes.f a1 x0) s7.w (mm [0] s7) w0_1 (.func (.func 60) (List.toArray [(.agg #[(iI a1.Xid), (iI a1.Begun), (iI a1.Ended), w1_0, w1_1])]) (List.toArray [])) (A0_1.kp K11) (fun x0 u0_0 u0_1 w' k h0 h1 r m =>  ⟨60, _, _, [(.agg #[(iI a1.Xid), (iI a1.Begun), (iI a1.Ended), w1_0, w1_1])], [], rfl, func60, rfl, rfl, (impl_Deed_writes.calls a1 x0 w' (fun _ => True) w1_0 w1_1 u0_0 u0_1 (RdF.ky (A1_0.kp K11) k) (RdF.ky (A1_1.kp K11) k) h0 h1 r m).mono fun en w2 hq => by obtain ⟨v, e, q⟩ := hq; exact ⟨v, e, q⟩⟩) rfl) (fun r15 s16 p16 n16 => ?_)
   exact Xb rfl (Kj10 _ _ _ ⟨s16, _, rfl, (ue (ue (ue rfl rfl) rfl) rfl), (K11.st p16 rfl), (B7.st p16 rfl), (A9.st p16 rfl)⟩)
  refine sbT hb10 ?_
  rw [if_neg (by rw [hb10]; decide)]
  refine Xg rfl (Xg rfl (Xg rfl (Xg rfl (Xg rfl (Xb rfl ?_)))))
  exact Kj10 _ _ _ ⟨s7, _, rfl, (ue (ue (ue rfl rfl) rfl) rfl), (kp0.st (tr2 p5 p7) rfl), B7, A9⟩
 rintro y10 _ _ ⟨s21, _, rfl, rfl, Ky10, By10_b7, By10_b5⟩
 refine Xb rfl (dn (cd rfl (fun h24 => ?_) (fun h24 => ?_)))
 ·
  exact sr (Xb rfl (dn (re rfl func38 rfl (Xj rfl Xd) rfl ⟨_, rfl, rfl, z.ky Ky10⟩)))
 refine sr (Xn fa43_2 rfl (ld' By10_b5 u3 rfl (Xn fa43_1 rfl (ld' By10_b7 u3 rfl (Xb rfl (Xb rfl (ji [12] (fun (y25 : Bool) e w => ∃ (s : St) (e0 : Env), w = s.w ∧ e = upd (upd (upd e0 2 (pB b5)) 3 (pB b7)) 30 (.bool y25) ∧ Kp s0 s ∧ BlF s b7 43 [(iI a1.Xid), (iI a1.Begun), (iI a1.Ended), w1_0, w1_1] 41 ∧ BlF s b5 43 [(iI a0.Xid), (iI a0.Begun), (iI a0.Ended), w0_0, w0_1] 40) (fun Gj25 Kj25 => ?_) ?_)))))))
 ·
  rcases bft (decide (a0.Ended < a1.Begun)) with hb25 | hb25
  ·
   refine sbT hb25 ?_
   rw [if_pos hb25]
   refine Xn fa43_4 rfl (ld' By10_b5 u41 rfl (lda' (es := [(iI a1.Xid), (iI a1.Begun), (iI a1.Ended), w1_0, w1_1]) By10_b7 u43 z43 rfl (mkf (fs := [(.agg #[(iI a1.Xid), (iI a1.Begun), (iI a1.Ended), w1_0, w1_1])]) (cs := []) rfl rfl rfl rfl rfl rfl rfl ?_)))
   refine clV 43 rfl func59 rfl (slices_ContainsFunc_impl_Item_impl_Item.calls a0.Writes (fun x0 => impl_Deed_readsKey.f a1 x0) s21.w (mm [0] s21) w0_1 (.func (.func 61) (List.toArray [(.agg #[(iI a1.Xid), (iI a1.Begun), (iI a1.Ended), w1_0, w1_1])]) (List.toArray [])) (A0_1.kp Ky10) (fun x0 u0_0 u0_1 w' k h0 h1 r m =>  ⟨61, _, _, [(.agg #[(iI a1.Xid), (iI a1.Begun), (iI a1.Ended), w1_0, w1_1])], [], rfl, func61, rfl, rfl, (impl_Deed_readsKey.calls a1 x0 w' (fun _ => True) w1_0 w1_1 u0_0 u0_1 (RdF.ky (A1_0.kp Ky10) k) (RdF.ky (A1_1.kp Ky10) k) h0 h1 r m).mono fun en w2 hq => by obtain ⟨v, e, q⟩ := hq; exact ⟨v, e, q⟩⟩) rfl) (fun r29 s30 p30 n30 => ?_)
   exact Xb rfl (Kj25 _ _ _ ⟨s30, _, rfl, (ue (ue (ue rfl rfl) rfl) rfl), (Ky10.st p30 rfl), (By10_b7.st p30 rfl), (By10_b5.st p30 rfl)⟩)
  refine sbT hb25 ?_
  rw [if_neg (by rw [hb25]; decide)]
  exact Xg rfl (Xg rfl (Xg rfl (Xg rfl (Xg rfl (Xb rfl (Kj25 _ _ _ ⟨s21, _, rfl, (ue (ue (ue rfl rfl) rfl) rfl), Ky10, By10_b7, By10_b5⟩))))))
 rintro y25 _ _ ⟨s34, _, rfl, rfl, Ky25, By25_b7, By25_b5⟩
 refine Xb rfl (dn (cd rfl (fun h37 => ?_) (fun h37 => ?_)))
 ·
  exact sr (Xb rfl (dn (re rfl func38 rfl (Xj rfl Xd) rfl ⟨_, rfl, rfl, z.ky Ky25⟩)))
 refine sk (ib (sr (Xn fa43_2 rfl (ld' By25_b7 u3 rfl (Xn fa43_1 rfl (ld' By25_b5 u3 rfl (Xb rfl (Xb rfl (ji [12] (fun (y38 : Bool) e w => ∃ (s : St) (e0 : Env), w = s.w ∧ e = upd e0 42 (.bool y38) ∧ Kp s0 s) (fun Gj38 Kj38 => ?_) ?_)))))))))
 ·
  rcases bft (decide (a1.Ended > a0.Begun)) with hb38 | hb38
  ·
   refine sbT hb38 ?_
   rw [if_pos hb38]
   refine Xn fa43_4 rfl (ld' By25_b7 u41 rfl (lda' (es := [(iI a0.Xid), (iI a0.Begun), (iI a0.Ended), w0_0, w0_1]) By25_b5 u43 z43 rfl (mkf (fs := [(.agg #[(iI a0.Xid), (iI a0.Begun), (iI a0.Ended), w0_0, w0_1])]) (cs := []) rfl rfl rfl rfl rfl rfl rfl ?_)))
   refine clV 44 rfl func59 rfl (slices_ContainsFunc_impl_Item_impl_Item.calls a1.Writes (fun x0 => impl_Deed_readsKey.f a0 x0) s34.w (mm [0] s34) w1_1 (.func (.func 61) (List.toArray [(.agg #[(iI a0.Xid), (iI a0.Begun), (iI a0.Ended), w0_0, w0_1])]) (List.toArray [])) (A1_1.kp Ky25) (fun x0 u0_0 u0_1 w' k h0 h1 r m =>  ⟨61, _, _, [(.agg #[(iI a0.Xid), (iI a0.Begun), (iI a0.Ended), w0_0, w0_1])], [], rfl, func61, rfl, rfl, (impl_Deed_readsKey.calls a0 x0 w' (fun _ => True) w0_0 w0_1 u0_0 u0_1 (RdF.ky ((z.rd h0_0).kp Ky25) k) (RdF.ky (A0_1.kp Ky25) k) h0 h1 r m).mono fun en w2 hq => by obtain ⟨v, e, q⟩ := hq; exact ⟨v, e, q⟩⟩) rfl) (fun r42 s43 p43 n43 => ?_)
   exact Xb rfl (Kj38 _ _ _ ⟨s43, _, rfl, (ue rfl rfl), (Ky25.st p43 rfl)⟩)
  refine sbT hb38 ?_
  rw [if_neg (by rw [hb38]; decide)]
  exact Xg rfl (Xg rfl (Xg rfl (Xg rfl (Xg rfl (Xb rfl (Kj38 _ _ _ ⟨s34, _, rfl, (ue rfl rfl), Ky25⟩))))))
 rintro y38 _ _ ⟨s45, _, rfl, rfl, Ky38⟩
 exact Xb rfl (dn (re rfl func38 rfl (Xj rfl Xd) rfl ⟨_, rfl, rfl, z.ky Ky38⟩))
def impl_ahead.b1 (a0 : (List Deed)) (x6 : (List (List Int)) × Int) (x11 : (List (List Int)) × Int) : Option (((List (List Int)) × Int) ⊕ ((List (List Int)) × Int ⊕ (List (List Int)))) :=
 (if (decide (x11.2 < (a0.length : Int))) = true then ((if (x11.2 != x6.2) = true then (if 0 ≤ x11.2 ∧ x11.2 < (a0.length : Int) then (if 0 ≤ x6.2 ∧ x6.2 < (a0.length : Int) then ((impl_isAhead.f (at_ a0 x11.2) (at_ a0 x6.2)).bind fun r39 => (some r39)) else none) else none) else (some false)).bind fun y20 => ((if y20 = true then (if 0 ≤ x6.2 ∧ x6.2 < (x11.1.length : Int) then (if (at_ x11.1 x6.2).length + ([x11.2]).length ≤ Lim then (if 0 ≤ x6.2 ∧ x6.2 < (x11.1.length : Int) then (some (x11.1.set (x6.2).toNat ((at_ x11.1 x6.2) ++ [x11.2]))) else none) else none) else none) else (some x11.1)).bind fun y54 => (some (Sum.inl (y54, (IntKind.wrap .i64 (x11.2 + (1 : Int)))))))) else ((some (Sum.inl (x11.1, (IntKind.wrap .i64 (x6.2 + (1 : Int)))))).bind fun o => some (Sum.inr o)))
def impl_ahead.b0 (a0 : (List Deed)) (x6 : (List (List Int)) × Int) : Option (((List (List Int)) × Int) ⊕ (List (List Int))) :=
 (if (decide (x6.2 < (a0.length : Int))) = true then (iter (impl_ahead.b1 a0 x6) (x6.1, (0 : Int))) else ((some x6.1).bind fun o => some (Sum.inr o)))
def impl_ahead.f (a0 : (List Deed)) : Option ((List (List Int))) :=
 (if 0 ≤ (a0.length : Int) ∧ (a0.length : Int) ≤ (Lim : Int) then (iter (impl_ahead.b0 a0) ((List.replicate ((a0.length : Int)).toNat ([] : (List Int))), (0 : Int))) else none)
def impl_ahead.Q (w : World) (F : Nat → Prop) (r : (List (List Int))) (v : Value) (w' : World) : Prop :=
 FO (Kd.sl 48 Xw) w w' [v] r ∧ Ky [] w w'
theorem impl_ahead.calls (a0 : (List Deed)) (w : World) (F : Nat → Prop) (w0_0 : Value) (h0_0 : Xu.rd w [w0_0] a0 F) (r : (List (List Int))) (m : impl_ahead.f a0 = some r) :
  Calls prog 18 #[w0_0] w (RT (impl_ahead.Q w F) r) := by
 obtain ⟨s0, rfl, kp0, z⟩ := Xf w F
 have A0_0 := z.rd h0_0
 refine Xc (args := [w0_0]) func18 ntmps18 rfl rfl m ?_
 unfold impl_ahead.f
 refine sr (Xb rfl (dn (sr (Xi w0_0 rfl (ln' A0_0 u26 rfl (mk (x0 := ([] : (List Int))) (K := Xw) 40 sl46 o48 (fun _ => ⟨_, rfl, [], [], [], rfl, ⟨by simp, .inl ⟨rfl, rfl, rfl⟩⟩, ⟨rfl, rfl⟩⟩) rfl rfl rfl rfl rfl rfl rfl (fun v2 s2 p2 A2 => ?_)))))))
 refine asg' v2 rfl (dn (sq (sr (Xi w0_0 rfl ?_))))
 have K4 := kp0.st p2 rfl
 refine ln' (A0_0.kp K4) u26 rfl (Xb rfl (dn (bl (lpI (fun (x6 : (List (List Int)) × Int) e w => ∃ (s : St) (e0 : Env), w = s.w ∧ e = upd (upd (upd (upd e0 0 w0_0) 3 v2) 10 (iI (a0.length : Int))) 11 (iI x6.2) ∧ Kp s0 s ∧ OwF (Kd.sl 48 Xw) s [v2] x6.1 40) ⟨s2, _, rfl, (ue (ue (ue (ue rfl rfl) rfl) rfl) rfl), K4, A2⟩ (fun g6 ih6 => ?_)))))
 rintro x6 _ _ ⟨s7, _, rfl, rfl, Kx6, Ax6_0⟩
 unfold impl_ahead.b0
 refine sr (Xb rfl (dn (sq (cd rfl (fun h9 => ?_) (fun h9 => ?_)))))
 ·
  refine sk (sq (bl (sr (Xb rfl (Xb rfl (dn (sr (Xi w0_0 rfl ?_))))))))
  refine ln' (A0_0.kp Kx6) u26 rfl (Xb rfl (dn (bl (lpI (fun (x11 : (List (List Int)) × Int) e w => ∃ (s : St) (e0 : Env), w = s.w ∧ e = upd (upd (upd (upd (upd (upd (upd e0 0 w0_0) 3 v2) 4 (iI x6.2)) 10 (iI (a0.length : Int))) 11 (iI x6.2)) 15 (iI (a0.length : Int))) 16 (iI x11.2) ∧ Kp s0 s ∧ OwF (Kd.sl 48 Xw) s [v2] x11.1 40) ⟨s7, _, rfl, (ue (ue (ue (ue (ue (ue (ue rfl rfl) rfl) rfl) rfl) rfl) rfl) rfl), Kx6, Ax6_0⟩ (fun g11 ih11 => ?_)))))
  rintro x11 _ _ ⟨s12, _, rfl, rfl, Kx11, Ax11_0⟩
  unfold impl_ahead.b1
  refine sr (Xb rfl (dn (sq (cd rfl (fun h14 => ?_) (fun h14 => ?_)))))
  ·
   refine sk (sq (bl (sr (Xb rfl (Xb rfl (dn (sq (zdraw [[], [], [0, 1], [2], [3], [3], [4, 5, 3], [6, 3], [3], [3], [8, 9, 3], [10, 3], [7, 11, 3, 3], [3, 12]] [some 19, some 20, some 21, some 22, some 23, some 24, some 25, some 26, some 27, some 28, some 29, some 30, some 31, some 32] [[5], [4], [19, 20], [21], [0, 22], [5, 22], [23, 24, 22], [25, 22], [0, 22], [4, 22], [27, 28, 22], [29, 22], [26, 30, 22], [22, 31]] [0, 1, 2, 3, 4, 5, 6, 7, 8, 9, 10, 11, 12, 13] ⟨by kernel_rfl, by kernel_rfl, by kernel_rfl⟩ (by kernel_rfl) (fun s15 p15 l15 tb15 zd15 => ?_)))))))))
   have zd19 := (((zd15.add 0 19 (iI x11.2) rfl).add 1 20 (iI x6.2) rfl).add 2 21 (.bool (x11.2 != x6.2)) rfl).add 3 22 (.bool (x11.2 != x6.2)) rfl
   refine ji [] (fun (y20 : Bool) e w => ∃ (s : St) (e0 : Env), w = s.w ∧ e = upd (upd (upd (upd (upd (upd (upd (upd (upd e0 0 w0_0) 3 v2) 4 (iI x6.2)) 5 (iI x11.2)) 10 (iI (a0.length : Int))) 11 (iI x6.2)) 15 (iI (a0.length : Int))) 16 (iI x11.2)) 32 (.bool y20) ∧ Kp s0 s ∧ OwF (Kd.sl 48 Xw) s [v2] x11.1 40) (fun Gj20 Kj20 => ?_) ?_
   ·
    rcases bft (x11.2 != x6.2) with hb20 | hb20
    ·
     rw [if_pos hb20]
     rw [hb20] at zd19
     try rw [hb20]
     have K23 := Kx11.st p15 rfl
     have A24 := A0_0.kp K23
     refine mg fun hg25 => ?_
     obtain ⟨ad25, es25, he25, ce25, ia25⟩ := ix_e A24 rfl hg25.1 hg25.2
     obtain ⟨v25_0, v25_1, rfl, A25_0, A25_1⟩ := op43 he25
     refine mg fun hg33 => ?_
     obtain ⟨ad33, es33, he33, ce33, ia33⟩ := ix_e A24 rfl hg33.1 hg33.2
     obtain ⟨v33_0, v33_1, rfl, A33_0, A33_1⟩ := op43 he33
     refine zfin [12, 13] tb15 ((((((((zd19.add 4 23 w0_0 rfl).add 5 24 (iI x11.2) rfl).add 6 25 (.pointer (some ad25)) rfl).add 7 26 (.agg #[(iI ((at_ a0 x11.2).Xid)), (iI ((at_ a0 x11.2).Begun)), (iI ((at_ a0 x11.2).Ended)), v25_0, v25_1]) rfl).add 8 27 w0_0 rfl).add 9 28 (iI x6.2) rfl).add 10 29 (.pointer (some ad33)) rfl).add 11 30 (.agg #[(iI ((at_ a0 x6.2).Xid)), (iI ((at_ a0 x6.2).Begun)), (iI ((at_ a0 x6.2).Ended)), v33_0, v33_1]) rfl) (Xa (lca_q ce33 u43 z43 rfl rfl rfl rfl rfl rfl rfl) rfl (Xa (ix_q' A24 u26 z43 hg33.1 hg33.2 ia33 rfl) rfl (Xa (Xh rfl) rfl (Xa (mv_q w0_0 rfl rfl rfl rfl rfl rfl) rfl (Xa (lca_q ce25 u43 z43 rfl rfl rfl rfl rfl rfl rfl) rfl (Xa (ix_q' A24 u26 z43 hg25.1 hg25.2 ia25 rfl) rfl (Xa (Xh rfl) rfl (Xa (mv_q w0_0 rfl rfl rfl rfl rfl rfl) rfl (Xa (Xh rfl) rfl (Xa (qv_b (Xh rfl) hb20) rfl (Xa (Xh rfl) rfl (Xa (Xh rfl) rfl Xo)))))))))))) (by kernel_rfl) (by decide) (clV 41 rfl func38 rfl (impl_isAhead.calls (at_ a0 x11.2) (at_ a0 x6.2) s15.w (mm [0] s15) v25_0 v25_1 v33_0 v33_1 A25_0 A25_1 A33_0 A33_1) (fun r39 s40 p40 n40 => ?_))
     exact Xb rfl (Kj20 _ _ _ ⟨s40, _, rfl, (ue (ue (ue (ue (ue (ue (ue (ue (ue rfl rfl) rfl) rfl) rfl) rfl) rfl) rfl) rfl) rfl), (K23.st p40 rfl), (Ax11_0.st (tr2 p15 p40) rfl)⟩)
    rw [if_neg (by rw [hb20]; decide)]
    rw [hb20] at zd19
    try rw [hb20]
    refine zfin [12, 13] tb15 ((((((((zd19.add 4 23 undef rfl).add 5 24 undef rfl).add 6 25 undef rfl).add 7 26 undef rfl).add 8 27 undef rfl).add 9 28 undef rfl).add 10 29 undef rfl).add 11 30 undef rfl) (Xa (Xq rfl) rfl (Xa (Xq rfl) rfl (Xa (Xq rfl) rfl (Xa (Xq rfl) rfl (Xa (Xq rfl) rfl (Xa (Xq rfl) rfl (Xa (Xq rfl) rfl (Xa (Xq rfl) rfl (Xa (Xh rfl) rfl (Xa (qv_b (Xh rfl) hb20) rfl (Xa (Xh rfl) rfl (Xa (Xh rfl) rfl Xo)))))))))))) (by kernel_rfl) (by decide) (Xg rfl (Xb rfl ?_))
    exact Kj20 _ _ _ ⟨s15, _, rfl, (ue (ue (ue (ue (ue (ue (ue (ue (ue rfl rfl) rfl) rfl) rfl) rfl) rfl) rfl) rfl) rfl), (Kx11.st p15 rfl), (Ax11_0.st p15 rfl)⟩
   rintro y20 _ _ ⟨s53, _, rfl, rfl, Ky20, Cy20_13⟩
   refine dn (jc (fun (y54 : (List (List Int))) e w => ∃ (s : St) (e0 : Env), w = s.w ∧ e = upd (upd (upd (upd (upd (upd (upd e0 0 w0_0) 3 v2) 4 (iI x6.2)) 10 (iI (a0.length : Int))) 11 (iI x6.2)) 15 (iI (a0.length : Int))) 16 (iI x11.2) ∧ Kp s0 s ∧ OwF (Kd.sl 48 Xw) s [v2] y54 40) (fun Gj54 Kj54 => ?_) ?_)
   ·
    refine cd rfl (fun h55 => ?_) (fun h55 => ?_)
    ·
     refine rg (Xi v2 rfl (Xb rfl (Xi v2 rfl (Xb rfl (ix' Cy20_13.rd u46 z48 rfl (fun ad56 es56 h0_56 h1_56 he56 ce56 ia56 => ?_))))))
     obtain ⟨v56, rfl, he56'⟩ := he56
     have A56 : RdF Xw s53 [v56] (at_ x11.1 x6.2) [40] := ⟨v56, rfl, he56'⟩
     refine lc0 ce56 u48 rfl rfl rfl rfl rfl rfl rfl rfl (Xb rfl (ltF (K := (Kd.int .i64)) (cells := [(iI x11.2)]) [x11.2] 42 fl_int u48 z3 o3 (fun w => (els_flat _ _ _)) rfl rfl rfl rfl rfl rfl rfl rfl rfl rfl (fun v59 s59 p59 A59 => ?_)))
     obtain ⟨s63, hw63, p63, A63, H63, ce63⟩ := take_ 43 lg_id (Cy20_13.st p59 rfl) h0_56 h1_56 ia56 (ce56.st p59 rfl rfl) rfl rfl rfl rfl
     rw [hw63]
     refine apF fl_int sl48 A63 (A59.st p63 rfl).rd rfl rfl rfl rfl rfl rfl rfl (fun v67 s67 p67 A67 => ?_)
     have A70 := H63.st p67 rfl
     refine ixh A70 u46 z48 rfl rfl rfl rfl rfl rfl rfl (fun ad69 h0_69 h1_69 ia69 => ?_)
     refine soh (x' := ((at_ x11.1 x6.2) ++ [x11.2])) A70 ia69 A67 rfl rfl z48 rfl rfl rfl rfl (by rw [V.add_zero]; rfl) (oc A67.rd.one) (fun s71 p71 A71 => ?_)
     exact dn (Kj54 _ _ _ ⟨s71, _, rfl, (ue (ue (ue (ue (ue (ue (ue rfl rfl) rfl) rfl) rfl) rfl) rfl) rfl), (Ky20.st (tr4 p59 p63 p67 p71) rfl), A71⟩)
    exact sk (Kj54 _ _ _ ⟨s53, _, rfl, (ue (ue (ue (ue (ue (ue (ue rfl rfl) rfl) rfl) rfl) rfl) rfl) rfl), Ky20, Cy20_13⟩)
   rintro y54 _ _ ⟨s74, _, rfl, rfl, Ky54, Ay54_0⟩
   exact ib (rg (Xb rfl (Xb rfl (dn (lb ih11 ⟨s74, _, rfl, (ue (ue (ue (ue (ue (ue (ue rfl rfl) rfl) rfl) rfl) rfl) rfl) rfl), Ky54, Ay54_0⟩)))))
  exact xt rfl (sgb (ib (rg (Xb rfl (Xb rfl (dn (lb ih6 ⟨s12, _, rfl, (ue (ue (ue (ue rfl rfl) rfl) rfl) rfl), Kx11, Ax11_0⟩)))))))
 exact xt rfl (sgb (sr (Xi v2 rfl (asg' v2 rfl (dn (re rfl func18 rfl (Xj rfl Xd) rfl ⟨_, rfl, Ax6_0.fo Kx6 rfl z.l, z.ky Kx6⟩))))))
section
open Go.Shelf Go.Lib Go.Sort
shelf_lay_g SlLaysC2.n5 Slgc 5 at Tryz 41 as lay_cmp
shelf_lay_g SlLaysF0.n6 Slsf 6 at Tryz 19 as lay_sort
def pairCmp (x y : A2Int) : Int := if Lib.compareInt x.e0 y.e0 = 0 then Lib.compareInt x.e1 y.e1 else Lib.compareInt x.e0 y.e0
def pairEnc (x : A2Int) : List Value := [.int .i64 x.e0, .int .i64 x.e1]
def pairLe (x y : A2Int) : Bool := !(ltOf pairCmp) y x
set_option maxHeartbeats 4000000 in
theorem pair_compare (x y : A2Int) (b1 b2 : Nat) (W : World) (h1 : W.cell? ⟨b1, 0, none⟩ = some (.int .i64 x.e0)) (h2 : W.cell? ⟨b1, 1, none⟩ = some (.int .i64 x.e1)) (h3 : W.cell? ⟨b2, 0, none⟩ = some (.int .i64 y.e0)) (h4 : W.cell? ⟨b2, 1, none⟩ = some (.int .i64 y.e1)) :
    Calls Tryz.prog 21 #[.slice (some ⟨b1, 0, none⟩) 2 2, .slice (some ⟨b2, 0, none⟩) 2 2] W fun e w' => e = .returned (.int .i64 (pairCmp x y)) ∧ w' = W := by
  have hcon := fun a b W' => AnyG.cmp_Compare_int lay_cmp a b W'
  change ∀ a b W', Calls Tryz.prog 41 _ _ _ at hcon
  unfold pairCmp
  obtain ⟨x0, x1⟩ := x
  obtain ⟨y0, y1⟩ := y
  simp only [] at h1 h2 h3 h4 ⊢
  generalize hr0 : Lib.compareInt x0 y0 = r0
  have hc0 := fun W' => hcon x0 y0 W'
  rw [hr0] at hc0
  have hc1 := fun W' => hcon x1 y1 W'
  generalize Lib.compareInt x1 y1 = r1 at hc1 ⊢
  clear hcon
  by_cases hz : r0 = 0
  · subst hz
    rw [if_pos rfl]
    go_enter Tryz.func21, Tryz.ntmps21
    go_wp2
    refine wp_loop_rounds 3 ?_
    rw [rounds_succ]
    go_wp2_with (go_at_call 41; refine (hc0 _).mono ?_; rintro e w' ⟨rfl, hw⟩; subst hw)
    rw [rounds_succ]
    by_cases hz1 : r1 = 0
    · subst hz1
      go_wp2_with (go_at_call 41; refine (hc1 _).mono ?_; rintro e w' ⟨rfl, hw⟩; subst hw)
      rw [rounds_succ]
      go_wp2
      go_ret
      exact ⟨rfl, rfl⟩
    · go_wp2_with (go_at_call 41; refine (hc1 _).mono ?_; rintro e w' ⟨rfl, hw⟩; subst hw)
      all_goals first | (go_ret; exact ⟨rfl, rfl⟩) | (rename_i h; exact absurd (by simpa using h) hz1)
  · rw [if_neg hz]
    go_enter Tryz.func21, Tryz.ntmps21
    go_wp2
    refine wp_loop_rounds 3 ?_
    rw [rounds_succ]
    go_wp2_with (go_at_call 41; refine (hc0 _).mono ?_; rintro e w' ⟨rfl, hw⟩; subst hw)
    all_goals first | (go_ret; exact ⟨rfl, rfl⟩) | (rename_i h; exact absurd (by simpa using h) hz)
set_option maxHeartbeats 4000000 in
theorem pair_closure (x y : A2Int) (W : World) : Calls Tryz.prog 20 #[.agg (pairEnc x).toArray, .agg (pairEnc y).toArray] W fun e w' => e = .returned (.int .i64 (pairCmp x y)) ∧ ∃ q os', w' = grow (W.drewN q) os' := by
  have hcon := fun b1 b2 W' => pair_compare x y b1 b2 W'
  generalize pairCmp x y = r at hcon ⊢
  show Calls Tryz.prog 20 #[.agg #[.int .i64 x.e0, .int .i64 x.e1], .agg #[.int .i64 y.e0, .int .i64 y.e1]] W _
  go_enter Tryz.func20, Tryz.ntmps20
  go_wp2
  obtain ⟨W2, hW2⟩ : ∃ W2, W2 = grow W #[Obj.cells #[.int .i64 x.e0, .int .i64 x.e1] 44, Obj.cells #[.int .i64 y.e0, .int .i64 y.e1] 44] := ⟨_, rfl⟩
  have c1 : W2.cell? ⟨W.heap.size, 0, none⟩ = some (.int .i64 x.e0) := by subst hW2; simp [World.cell?, grow]
  have c2 : W2.cell? ⟨W.heap.size, 1, none⟩ = some (.int .i64 x.e1) := by subst hW2; simp [World.cell?, grow]
  have c3 : W2.cell? ⟨W.heap.size + 1, 0, none⟩ = some (.int .i64 y.e0) := by subst hW2; simp [World.cell?, grow]
  have c4 : W2.cell? ⟨W.heap.size + 1, 1, none⟩ = some (.int .i64 y.e1) := by subst hW2; simp [World.cell?, grow]
  have he : (W.alloc (Obj.cells #[.int .i64 x.e0, .int .i64 x.e1] 44)).alloc (Obj.cells #[.int .i64 y.e0, .int .i64 y.e1] 44) = W2 := by subst hW2; rw [alloc_eq_grow, alloc_eq_grow, grow_grow]; rfl
  change Code.wp _ _ _ _ ((W.alloc (Obj.cells #[.int .i64 x.e0, .int .i64 x.e1] 44)).alloc (Obj.cells #[.int .i64 y.e0, .int .i64 y.e1] 44))
  rw [he]
  clear he
  have hgr : ∃ o, ∀ n, W2.drewN n = grow (W.drewN n) o := ⟨_, fun n => by subst hW2; rfl⟩
  clear hW2
  have e21 : ∀ args w, (callFunc 21 args).run Tryz.prog w = .ok (.enter 21 args) w := enters_of Tryz.func21 (by kernel_rfl) rfl
  have hc := fun n => hcon W.heap.size (W.heap.size + 1) (W2.drewN n) c1 c2 c3 c4
  clear hcon
  go_quiet ((go_at_call 21; exact Calls.quiet_of_same (hc _)))
  go_wp2
  go_ret
  obtain ⟨o, ho⟩ := hgr
  exact ⟨rfl, nq, o, ho nq⟩
theorem pair_lt (x y : A2Int) : ltOf pairCmp x y = decide (x.e0 < y.e0 ∨ x.e0 = y.e0 ∧ x.e1 < y.e1) := by
  unfold ltOf pairCmp Lib.compareInt
  by_cases h1 : x.e0 < y.e0
  · simp [h1]
  · by_cases h2 : y.e0 < x.e0
    · have h3 : ¬ x.e0 = y.e0 := by omega
      simp [h1, h2, h3]
    · have h3 : x.e0 = y.e0 := by omega
      by_cases h4 : x.e1 < y.e1
      · simp [h3, h4]
      · by_cases h5 : y.e1 < x.e1 <;> simp [h3, h4, h5]
theorem pair_swo : SWO (ltOf pairCmp) where
  irrefl x := by rw [pair_lt]; simp
  trans x y z h1 h2 := by rw [pair_lt] at *; simp only [decide_eq_true_eq] at *; omega
  ntrans x y z h1 h2 := by rw [pair_lt] at *; simp only [decide_eq_false_iff_not] at *; omega
theorem pair_tot (x y : A2Int) (h1 : ltOf pairCmp x y = false) (h2 : ltOf pairCmp y x = false) : x = y := by
  rw [pair_lt] at *
  simp only [decide_eq_false_iff_not] at *
  obtain ⟨a, b⟩ := x
  obtain ⟨c, d⟩ := y
  simp only [] at h1 h2
  have e1 : a = c := by omega
  have e2 : b = d := by omega
  rw [e1, e2]
def slices_SortFunc_2_int_2_int.f (a0 : (List A2Int)) : Option ((List A2Int)) := if a0.length < 4611686018427387904 then some (a0.mergeSort pairLe) else none
def slices_SortFunc_2_int_2_int.Q (w : World) (F : Nat → Prop) (os : List Nat) (w0_0 : Value) (r : (List A2Int)) (v : Value) (w' : World) : Prop := v = .tuple #[] ∧ FW Xv os w w' [w0_0] r ∧ Ky os w w'
theorem slices_SortFunc_2_int_2_int.calls (a0 : (List A2Int)) (w : World) (F : Nat → Prop) (w0_0 : Value) (os : List Nat) (h0 : Xv.ow w [w0_0] a0 os) (hn : os.Nodup) (hF : ∀ b, F b → b ∉ os) (r : (List A2Int)) (m : slices_SortFunc_2_int_2_int.f a0 = some r) :
    Calls Tryz.prog 19 #[w0_0, .func (.func 20) #[] #[]] w (RT (slices_SortFunc_2_int_2_int.Q w F os w0_0) r) := by
  unfold slices_SortFunc_2_int_2_int.f at m
  by_cases hs : a0.length < 4611686018427387904
  · rw [if_pos hs] at m
    obtain rfl : a0.mergeSort pairLe = r := by simpa using m
    have eg : ∀ args w, (callFunc 20 args).run Tryz.prog w = .ok (.enter 20 args) w := enters_of Tryz.func20 (by kernel_rfl) rfl
    refine sortW (f := 19) (te := 44) (k := 2) (K := kd44) (enc := pairEnc) (srt := fun xs => xs.mergeSort pairLe) (fun _ => rfl) rfl (fun w cs x os => ?_) (fun xs => List.length_mergeSort _) (fun p cap w => ?_) (fun blk cap d w hH hblk hsz => ?_) a0 w w0_0 os h0 hn hs
    · constructor
      · rintro ⟨c1, c2, o1, o2, rfl, rfl, ⟨rfl, rfl⟩, ⟨rfl, rfl⟩⟩
        exact ⟨rfl, rfl⟩
      · rintro ⟨rfl, rfl⟩
        exact ⟨[_], [_], [], [], rfl, rfl, ⟨rfl, rfl⟩, ⟨rfl, rfl⟩⟩
    · exact AnyF.slices_SortFunc_none lay_sort p cap _ w
    · exact AnyQ.slices_SortFunc_total lay_sort 2 Tryz.isAgg44 Tryz.sizeOf44 pairEnc (fun _ => rfl) (fun x v hv => by simp [pairEnc] at hv; rcases hv with rfl | rfl <;> rfl) pairCmp pair_swo 20 #[] blk 0 cap d w eg (fun _ _ _ _ x y => pair_closure x y _) hH hblk hsz pair_tot
  · rw [if_neg hs] at m; cases m
end

def impl_GraphEdges.b1 (r8 : (List (List Int))) (x11 : (List A2Int) × Int) (x19 : (List A2Int) × Int) : Option (((List A2Int) × Int) ⊕ ((List A2Int) × Int ⊕ (List A2Int))) :=
 (if (decide (x19.2 < ((at_ r8 x11.2).length : Int))) = true then (if 0 ≤ x19.2 ∧ x19.2 < ((at_ r8 x11.2).length : Int) then (if x19.1.length + ([(A2Int.mk (at_ (at_ r8 x11.2) x19.2) x11.2)]).length ≤ Lim then (some (Sum.inl ((x19.1 ++ [(A2Int.mk (at_ (at_ r8 x11.2) x19.2) x11.2)]), (IntKind.wrap .i64 (x19.2 + (1 : Int)))))) else none) else none) else ((some (Sum.inl (x19.1, (IntKind.wrap .i64 (x11.2 + (1 : Int)))))).bind fun o => some (Sum.inr o)))
def impl_GraphEdges.b0 (r8 : (List (List Int))) (x11 : (List A2Int) × Int) : Option (((List A2Int) × Int) ⊕ (List A2Int)) :=
 (if (decide (x11.2 < (r8.length : Int))) = true then (if 0 ≤ x11.2 ∧ x11.2 < (r8.length : Int) then (iter (impl_GraphEdges.b1 r8 x11) (x11.1, (0 : Int))) else none) else (((slices_SortFunc_2_int_2_int.f x11.1).bind fun r33 => (some r33)).bind fun o => some (Sum.inr o)))
def impl_GraphEdges.f (a0 : (List Deed)) : Option ((List A2Int)) :=
 ((impl_DeedsOk.f a0).bind fun r2 => (if (!r2) = true then (some ([] : (List A2Int))) else ((impl_ahead.f a0).bind fun r8 => (iter (impl_GraphEdges.b0 r8) (([] : (List A2Int)), (0 : Int))))))
def impl_GraphEdges.Q (w : World) (F : Nat → Prop) (r : (List A2Int)) (v : Value) (w' : World) : Prop :=
 FO Xv w w' [v] r ∧ Ky [] w w'
theorem impl_GraphEdges.calls (a0 : (List Deed)) (w : World) (F : Nat → Prop) (w0_0 : Value) (h0_0 : Xu.rd w [w0_0] a0 F) (r : (List A2Int)) (m : impl_GraphEdges.f a0 = some r) :
  Calls prog 7 #[w0_0] w (RT (impl_GraphEdges.Q w F) r) := by
 obtain ⟨s0, rfl, kp0, z⟩ := Xf w F
 have A0_0 := z.rd h0_0
 refine Xc (args := [w0_0]) func7 ntmps7 rfl rfl m ?_
 unfold impl_GraphEdges.f
 refine sr (Xb rfl (dn (sq (sr (Xi w0_0 rfl (clV 40 rfl func17 rfl (impl_DeedsOk.calls a0 s0.w (mm [0] s0) w0_0 A0_0) (fun r2 s3 p3 n3 => ?_)))))))
 refine Xb rfl (dn (cd rfl (fun h4 => ?_) (fun h4 => ?_)))
 ·
  refine sr (Xb rfl (dn ?_))
  have K5 := kp0.st p3 rfl
  exact re rfl func7 rfl (Xj rfl Xd) rfl ⟨_, rfl, (ow_nil 44 kd44 s3 40).fo K5 rfl z.l, z.ky K5⟩
 refine sk (sr (Xb rfl (dn (sq (sr (Xi w0_0 rfl ?_))))))
 have K6 := kp0.st p3 rfl
 refine clO 41 rfl func18 rfl (impl_ahead.calls a0 s3.w (mm [0] s3) w0_0 (A0_0.kp K6)) (fun r8 v8_0 s9 p9 A8_0 => ?_)
 refine ln' A8_0.rd u46 rfl (Xb rfl (dn (bl ?_)))
 refine lpI (fun (x11 : (List A2Int) × Int) e w => ∃ (s : St) (e0 : Env) (vx11_0 : Value), w = s.w ∧ e = upd (upd (upd (upd e0 3 vx11_0) 12 v8_0) 13 (iI (r8.length : Int))) 14 (iI x11.2) ∧ Kp s0 s ∧ OwF Xv s [vx11_0] x11.1 42 ∧ OwF (Kd.sl 48 Xw) s [v8_0] r8 41) ⟨s9, _, (.slice none 0 0), rfl, (ue (ue (ue (ue rfl rfl) rfl) rfl) rfl), (K6.st p9 rfl), (ow_nil 44 kd44 _ 42), A8_0⟩ (fun g11 ih11 => ?_)
 rintro x11 _ _ ⟨s13, _, vx11_0, rfl, rfl, Kx11, Ax11_0, Cx11_10⟩
 unfold impl_GraphEdges.b0
 refine sr (Xb rfl (dn (sq (cd rfl (fun h15 => ?_) (fun h15 => ?_)))))
 ·
  refine sk (sq (bl (sr (Xb rfl (ix' Cx11_10.rd u46 z48 rfl (fun ad16 es16 h0_16 h1_16 he16 ce16 ia16 => ?_))))))
  obtain ⟨v16, rfl, he16'⟩ := he16
  have A16 : RdF Xw s13 [v16] (at_ r8 x11.2) [41] := ⟨v16, rfl, he16'⟩
  refine lc0 ce16 u48 rfl rfl rfl rfl rfl rfl rfl rfl (Xb rfl (asg' v16 rfl (dn (sr (Xi v16 rfl (ln' A16 u48 rfl (Xb rfl (dn (bl (lpI (fun (x19 : (List A2Int) × Int) e w => ∃ (s : St) (e0 : Env) (vx19_0 : Value), w = s.w ∧ e = upd (upd (upd (upd (upd (upd (upd (upd e0 3 vx19_0) 4 (iI x11.2)) 12 v8_0) 13 (iI (r8.length : Int))) 14 (iI x11.2)) 19 v16) 20 (iI ((at_ r8 x11.2).length : Int))) 21 (iI x19.2) ∧ Kp s0 s ∧ OwF Xv s [vx19_0] x19.1 42 ∧ OwF (Kd.sl 48 Xw) s [v8_0] r8 41 ∧ RdF Xw s [v16] (at_ r8 x11.2) [41]) ⟨s13, _, vx11_0, rfl, (ue (ue (ue (ue (ue (ue (ue (ue rfl rfl) rfl) rfl) rfl) rfl) rfl) rfl) rfl), Kx11, Ax11_0, Cx11_10, A16⟩ (fun g19 ih19 => ?_)))))))))))
  rintro x19 _ _ ⟨s20, _, vx19_0, rfl, rfl, Kx19, Ax19_0, Cx19_10, Cx19_17⟩
  unfold impl_GraphEdges.b1
  refine sr (Xb rfl (dn (sq (cd rfl (fun h22 => ?_) (fun h22 => ?_)))))
  ·
   refine sk (sq (bl (sr (ix' Cx19_17 u48 z3 rfl (fun ad23 es23 h0_23 h1_23 he23 ce23 ia23 => ?_)))))
   obtain rfl := he23
   refine lc0 ce23 u3 rfl rfl rfl rfl rfl rfl rfl rfl (Xb rfl (dn (rg (Xi vx19_0 rfl (Xb rfl (Xb rfl (bdA (cells := [(iI (at_ (at_ r8 x11.2) x19.2)), (iI x11.2)]) u44 z3 o44 rfl rfl rfl rfl rfl rfl (ltF (K := kd44) (cells := [(iI (at_ (at_ r8 x11.2) x19.2)), (iI x11.2)]) [(A2Int.mk (at_ (at_ r8 x11.2) x19.2) x11.2)] 43 (fl_iso (fl_pair fl_int fl_int)) u24 z44 o44 (fun w => ⟨[(iI (at_ (at_ r8 x11.2) x19.2)), (iI x11.2)], [], rfl, ⟨[(iI (at_ (at_ r8 x11.2) x19.2))], [(iI x11.2)], rfl, rfl, rfl⟩, rfl⟩) rfl rfl rfl rfl rfl rfl rfl rfl rfl rfl (fun v25 s25 p25 A25 => ?_)))))))))
   refine apF (fl_iso (fl_pair fl_int fl_int)) sl24 (Ax19_0.st p25 rfl) A25.rd rfl rfl rfl rfl rfl rfl rfl (fun v28 s28 p28 A28 => ?_)
   refine asg' v28 rfl (dn (ib (rg (Xb rfl (Xb rfl (dn ?_))))))
   exact lb ih19 ⟨s28, _, v28, rfl, (ue (ue (ue (ue (ue (ue (ue (ue rfl rfl) rfl) rfl) rfl) rfl) rfl) rfl) rfl), (Kx19.st (tr2 p25 p28) rfl), A28, (Cx19_10.st (tr2 p25 p28) rfl), (Cx19_17.st (tr2 p25 p28) rfl)⟩
  exact xt rfl (sgb (ib (rg (Xb rfl (Xb rfl (dn (lb ih11 ⟨s20, _, vx19_0, rfl, (ue (ue (ue (ue rfl rfl) rfl) rfl) rfl), Kx19, Ax19_0, Cx19_10⟩)))))))
 refine xt rfl (sgb (sr (Xi vx11_0 rfl ?_)))
 obtain ⟨os33, ho33, hn33, hc33⟩ := Ax11_0
 refine cl' rfl func19 rfl (slices_SortFunc_2_int_2_int.calls x11.1 s13.w (mm [] s13) vx11_0 os33 ho33 hn33 (apart_of hc33 rfl)) ?_
 rintro r33 _ w33 m33 ⟨rfl, w33_, ky33⟩
 obtain ⟨s34, rfl, p34, A34⟩ := nwo 44 hc33 ky33 w33_
 refine dn (sr (Xi vx11_0 rfl (asg' vx11_0 rfl (dn ?_))))
 have K36 := Kx11.st p34 rfl
 exact re rfl func7 rfl (Xj rfl Xd) rfl ⟨_, rfl, A34.fo K36 rfl z.l, z.ky K36⟩
end Go.Proofs.YtbkiaccollbjnaaGreat
