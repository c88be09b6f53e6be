/- The functions as models, and that the calls come to what the models tell. -/
import Derived.Test.YtcagjdngannneaaXsb
set_option linter.unusedVariables false
set_option linter.unusedSimpArgs false
namespace Go.Proofs.Ytcagjdngannneaa
open Go V
noncomputable def laws_markSpanS.b0  (x2 : (List Span) × Int × Int) : Option (((List Span) × Int × Int) ⊕ (Int × (List Span))) :=
 (if (decide (x2.2.2 < (x2.1.length : Int))) = true then (if 0 ≤ x2.2.2 ∧ x2.2.2 < (x2.1.length : Int) then ((some (x2.1.set (x2.2.2).toNat (Span.mk (Item.mk x2.2.1 ((at_ x2.1 x2.2.2).From).N ((at_ x2.1 x2.2.2).From).F ((at_ x2.1 x2.2.2).From).T) (at_ x2.1 x2.2.2).To))).bind fun y12 => (if 0 ≤ x2.2.2 ∧ x2.2.2 < (y12.length : Int) then ((some (y12.set (x2.2.2).toNat (Span.mk (Item.mk ((at_ y12 x2.2.2).From).Kind (IntKind.wrap .i64 (x2.2.1 + (1 : Int))) ((at_ y12 x2.2.2).From).F ((at_ y12 x2.2.2).From).T) (at_ y12 x2.2.2).To))).bind fun y19 => (if 0 ≤ x2.2.2 ∧ x2.2.2 < (y19.length : Int) then ((some (y19.set (x2.2.2).toNat (Span.mk (Item.mk ((at_ y19 x2.2.2).From).Kind ((at_ y19 x2.2.2).From).N (FloatKind.f64.nearest (IntKind.wrap .i64 ((IntKind.wrap .i64 (x2.2.1 + (1 : Int))) + (1 : Int)))) ((at_ y19 x2.2.2).From).T) (at_ y19 x2.2.2).To))).bind fun y27 => (if 0 ≤ x2.2.2 ∧ x2.2.2 < (y27.length : Int) then ((laws_markByteS.f (((at_ y27 x2.2.2).From).T) (IntKind.wrap .i64 ((IntKind.wrap .i64 ((IntKind.wrap .i64 (x2.2.1 + (1 : Int))) + (1 : Int))) + (1 : Int)))).bind fun r32 => ((some (y27.set (x2.2.2).toNat (Span.mk (Item.mk ((at_ y27 x2.2.2).From).Kind ((at_ y27 x2.2.2).From).N ((at_ y27 x2.2.2).From).F r32.2) (at_ y27 x2.2.2).To))).bind fun y35 => (if 0 ≤ x2.2.2 ∧ x2.2.2 < (y35.length : Int) then ((some (y35.set (x2.2.2).toNat (Span.mk (at_ y35 x2.2.2).From (Item.mk r32.1 ((at_ y35 x2.2.2).To).N ((at_ y35 x2.2.2).To).F ((at_ y35 x2.2.2).To).T)))).bind fun y42 => (if 0 ≤ x2.2.2 ∧ x2.2.2 < (y42.length : Int) then ((some (y42.set (x2.2.2).toNat (Span.mk (at_ y42 x2.2.2).From (Item.mk ((at_ y42 x2.2.2).To).Kind (IntKind.wrap .i64 (r32.1 + (1 : Int))) ((at_ y42 x2.2.2).To).F ((at_ y42 x2.2.2).To).T)))).bind fun y49 => (if 0 ≤ x2.2.2 ∧ x2.2.2 < (y49.length : Int) then ((some (y49.set (x2.2.2).toNat (Span.mk (at_ y49 x2.2.2).From (Item.mk ((at_ y49 x2.2.2).To).Kind ((at_ y49 x2.2.2).To).N (FloatKind.f64.nearest (IntKind.wrap .i64 ((IntKind.wrap .i64 (r32.1 + (1 : Int))) + (1 : Int)))) ((at_ y49 x2.2.2).To).T)))).bind fun y57 => (if 0 ≤ x2.2.2 ∧ x2.2.2 < (y57.length : Int) then ((laws_markByteS.f (((at_ y57 x2.2.2).To).T) (IntKind.wrap .i64 ((IntKind.wrap .i64 ((IntKind.wrap .i64 (r32.1 + (1 : Int))) + (1 : Int))) + (1 : Int)))).bind fun r62 => ((some (y57.set (x2.2.2).toNat (Span.mk (at_ y57 x2.2.2).From (Item.mk ((at_ y57 x2.2.2).To).Kind ((at_ y57 x2.2.2).To).N ((at_ y57 x2.2.2).To).F r62.2)))).bind fun y65 => (some (Sum.inl (y65, r62.1, (IntKind.wrap .i64 (x2.2.2 + (1 : Int)))))))) else none)) else none)) else none)) else none))) else none)) else none)) else none)) else none) else ((some (x2.2.1, x2.1)).bind fun o => some (Sum.inr o)))
noncomputable def laws_markSpanS.f (a0 : (List Span)) (a1 : Int) : Option (Int × (List Span)) :=
 (iter laws_markSpanS.b0 (a0, a1, (0 : Int)))
def laws_markSpanS.Q (w : World) (F : Nat → Prop) (os : List Nat) (w0_0 : Value) (r : Int × (List Span)) (v : Value) (w' : World) : Prop :=
 v = (.int .i64 r.1) ∧ FW (Kd.sl 80 kd80) os w w' [w0_0] r.2 ∧ Ky os w w'
set_option maxHeartbeats 4000000 in
set_option maxRecDepth 100000 in
theorem laws_markSpanS.calls (a0 : (List Span)) (a1 : Int) (w : World) (F : Nat → Prop) (w0_0 : Value) (os : List Nat) (h0_0 : (Kd.sl 80 kd80).ow w [w0_0] a0 os) (hn : os.Nodup) (hF : ∀ b, F b → b ∉ os) (r : Int × (List Span)) (m : laws_markSpanS.f a0 a1 = some r) :
  Calls Try.prog 59 #[w0_0, (.int .i64 a1)] w fun en w' => ∃ v, en = .returned v ∧ laws_markSpanS.Q w F os w0_0 r v w' := by
 obtain ⟨s0, rfl, kp0, z⟩ := start1 w F os hF
 have A0_0 := z.ow h0_0 hn
 refine calls_of_TM (args := [w0_0, (.int .i64 a1)]) (R := fun r en w' => ∃ v, en = .returned v ∧ laws_markSpanS.Q s0.w F os w0_0 r v w') Try.func59 Try.ntmps59 rfl rfl m ?_
 unfold laws_markSpanS.f
 refine sr ?_
 refine pu rfl rfl rfl rfl rfl ?_
 refine dn ?_
 refine sq ?_
 refine sr ?_
 refine pu rfl rfl rfl rfl rfl ?_
 refine dn ?_
 refine bl ?_
 refine lpI (fun (x2 : (List Span) × Int × Int) (e : Env) (w : World) => ∃ (s : St) (e0 : Env), w = s.w ∧ e = upd (upd (upd e0 0 w0_0) 1 (.int .i64 x2.2.1)) 5 (.int .i64 x2.2.2) ∧ Kp s0 s ∧ OwF (Kd.sl 80 kd80) s [w0_0] x2.1 2) ⟨s0, _, rfl, (ue (ue (ue rfl rfl) rfl) rfl), kp0, A0_0⟩ (fun g2 ih2 => ?_)
 rintro x2 _ _ ⟨s3, _, rfl, rfl, Kx2, Ax2_0⟩
 unfold laws_markSpanS.b0
 refine sq ?_
 refine sr ?_
 refine pu rfl rfl rfl rfl rfl ?_
 refine mv w0_0 rfl rfl rfl rfl rfl rfl ?_
 refine ln Ax2_0.rd Try.underlying56 rfl rfl rfl rfl rfl rfl ?_
 refine pu rfl rfl rfl rfl rfl ?_
 refine dn ?_
 refine cd rfl (fun h5 => ?_) (fun h5 => ?_)
 ·
  refine sk ?_
  refine sq ?_
  refine bl ?_
  refine sr ?_
  refine mv w0_0 rfl rfl rfl rfl rfl rfl ?_
  refine pu rfl rfl rfl rfl rfl ?_
  refine pu rfl rfl rfl rfl rfl ?_
  refine ix Ax2_0.rd Try.underlying56 z80 rfl rfl rfl rfl rfl rfl rfl rfl (fun ad6 es6 h0_6 h1_6 he6 ce6 ia6 => ?_)
  obtain ⟨v6_0, v6_1, v6_2, v6_3, rfl, A6_0, A6_1, A6_2, A6_3⟩ := op80 he6
  refine fa fa80_0 rfl rfl rfl rfl rfl rfl ?_
  refine fa fa48_0 rfl rfl rfl rfl rfl rfl ?_
  refine so (x' := (Span.mk (Item.mk x2.2.1 ((at_ x2.1 x2.2.2).From).N ((at_ x2.1 x2.2.2).From).F ((at_ x2.1 x2.2.2).From).T) (at_ x2.1 x2.2.2).To)) Ax2_0 ia6 h0_6 h1_6 (cs_iso (cs_left (cs_iso (cs_left cs_flat)))) z3 rfl rfl rfl rfl rfl rfl (fun s10 p10 A10 => ?_)
  refine nb (fun y12 h12 => ?_)
  have A12 : OwF (Kd.sl 80 kd80) s10 [w0_0] y12 2 := by rw [h12]; exact A10
  refine dn ?_
  refine sr ?_
  refine pu rfl rfl rfl rfl rfl ?_
  refine pu rfl rfl rfl rfl rfl ?_
  refine pu rfl rfl rfl rfl rfl ?_
  refine dn ?_
  refine sr ?_
  refine mv w0_0 rfl rfl rfl rfl rfl rfl ?_
  refine pu rfl rfl rfl rfl rfl ?_
  refine pu rfl rfl rfl rfl rfl ?_
  refine ix A12.rd Try.underlying56 z80 rfl rfl rfl rfl rfl rfl rfl rfl (fun ad13 es13 h0_13 h1_13 he13 ce13 ia13 => ?_)
  obtain ⟨v13_0, v13_1, v13_2, v13_3, rfl, A13_0, A13_1, A13_2, A13_3⟩ := op80 he13
  refine fa fa80_0 rfl rfl rfl rfl rfl rfl ?_
  refine fa fa48_1 rfl rfl rfl rfl rfl rfl ?_
  refine so (x' := (Span.mk (Item.mk ((at_ y12 x2.2.2).From).Kind (IntKind.wrap .i64 (x2.2.1 + (1 : Int))) ((at_ y12 x2.2.2).From).F ((at_ y12 x2.2.2).From).T) (at_ y12 x2.2.2).To)) A12 ia13 h0_13 h1_13 (cs_iso (cs_left (cs_iso (cs_right (cs_left cs_flat))))) z3 rfl rfl rfl rfl rfl rfl (fun s17 p17 A17 => ?_)
  refine nb (fun y19 h19 => ?_)
  have A19 : OwF (Kd.sl 80 kd80) s17 [w0_0] y19 2 := by rw [h19]; exact A17
  refine dn ?_
  refine sr ?_
  refine pu rfl rfl rfl rfl rfl ?_
  refine pu rfl rfl rfl rfl rfl ?_
  refine pu rfl rfl rfl rfl rfl ?_
  refine dn ?_
  refine sr ?_
  refine mv w0_0 rfl rfl rfl rfl rfl rfl ?_
  refine pu rfl rfl rfl rfl rfl ?_
  refine pu rfl rfl rfl rfl rfl ?_
  refine i2f Try.underlying36 Try.underlying3 rfl rfl rfl rfl rfl rfl (fun v20 A20 => ?_)
  refine ix A19.rd Try.underlying56 z80 rfl rfl rfl rfl rfl rfl rfl rfl (fun ad21 es21 h0_21 h1_21 he21 ce21 ia21 => ?_)
  obtain ⟨v21_0, v21_1, v21_2, v21_3, rfl, A21_0, A21_1, A21_2, A21_3⟩ := op80 he21
  refine fa fa80_0 rfl rfl rfl rfl rfl rfl ?_
  refine fa fa48_2 rfl rfl rfl rfl rfl rfl ?_
  refine so (x' := (Span.mk (Item.mk ((at_ y19 x2.2.2).From).Kind ((at_ y19 x2.2.2).From).N (FloatKind.f64.nearest (IntKind.wrap .i64 ((IntKind.wrap .i64 (x2.2.1 + (1 : Int))) + (1 : Int)))) ((at_ y19 x2.2.2).From).T) (at_ y19 x2.2.2).To)) A19 ia21 h0_21 h1_21 (cs_iso (cs_left (cs_iso (cs_right (cs_right (cs_left (cs_flt A20))))))) z36 rfl rfl rfl rfl rfl rfl (fun s25 p25 A25 => ?_)
  refine nb (fun y27 h27 => ?_)
  have A27 : OwF (Kd.sl 80 kd80) s25 [w0_0] y27 2 := by rw [h27]; exact A25
  refine dn ?_
  refine sr ?_
  refine pu rfl rfl rfl rfl rfl ?_
  refine pu rfl rfl rfl rfl rfl ?_
  refine pu rfl rfl rfl rfl rfl ?_
  refine dn ?_
  refine sr ?_
  refine mv w0_0 rfl rfl rfl rfl rfl rfl ?_
  refine pu rfl rfl rfl rfl rfl ?_
  refine ix A27.rd Try.underlying56 z80 rfl rfl rfl rfl rfl rfl rfl rfl (fun ad28 es28 h0_28 h1_28 he28 ce28 ia28 => ?_)
  obtain ⟨v28_0, v28_1, v28_2, v28_3, rfl, A28_0, A28_1, A28_2, A28_3⟩ := op80 he28
  refine fa fa80_0 rfl rfl rfl rfl rfl rfl ?_
  refine fa fa48_3 rfl rfl rfl rfl rfl rfl ?_
  refine lc ce28 Try.underlying37 rfl rfl rfl rfl rfl rfl rfl rfl ?_
  refine pu rfl rfl rfl rfl rfl ?_
  obtain ⟨os32, ho32, hn32, hc32, put32⟩ := focus (ln_iso (fun x : Span => (x.From, x.To)) (fun x => x.From.T) (fun x y => (Span.mk (Item.mk x.From.Kind x.From.N x.From.F y) x.To)) (ln_left (ln_iso (fun x : Item => (x.Kind, x.N, x.F, x.T)) (fun x => x.T) (fun x y => (Item.mk x.Kind x.N x.F y)) (ln_right (ln_right (ln_right ln_sl))) (fun _ => rfl) (fun _ _ => rfl))) (fun _ => rfl) (fun _ _ => rfl)) A27 h0_28 h1_28 ia28 ce28 rfl rfl
  refine cl rfl rfl rfl rfl rfl Try.func81 rfl rfl rfl (fun r32 m32 => laws_markByteS.calls (((at_ y27 x2.2.2).From).T) (IntKind.wrap .i64 ((IntKind.wrap .i64 ((IntKind.wrap .i64 (x2.2.1 + (1 : Int))) + (1 : Int))) + (1 : Int))) s25.w (fun b => memb [] (s25.g b) = true) v28_1 os32 ho32 hn32 (apart_of hc32 rfl) r32 m32) ?_
  rintro r32 _ w32 m32 ⟨rfl, w32_, ky32⟩
  obtain ⟨s33, rfl, p33, A33⟩ := put32 w32 _ 40 ky32 w32_
  refine nb (fun y35 h35 => ?_)
  have A35 : OwF (Kd.sl 80 kd80) s33 [w0_0] y35 2 := by rw [h35]; exact A33
  refine pu rfl rfl rfl rfl rfl ?_
  refine dn ?_
  refine sr ?_
  refine mv w0_0 rfl rfl rfl rfl rfl rfl ?_
  refine pu rfl rfl rfl rfl rfl ?_
  refine pu rfl rfl rfl rfl rfl ?_
  refine ix A35.rd Try.underlying56 z80 rfl rfl rfl rfl rfl rfl rfl rfl (fun ad36 es36 h0_36 h1_36 he36 ce36 ia36 => ?_)
  obtain ⟨v36_0, v36_1, v36_2, v36_3, rfl, A36_0, A36_1, A36_2, A36_3⟩ := op80 he36
  refine fa fa80_1 rfl rfl rfl rfl rfl rfl ?_
  refine faq (q := 4) (q' := 0) (n := 4) fa48_0 rfl rfl rfl rfl rfl rfl rfl ?_
  refine so (x' := (Span.mk (at_ y35 x2.2.2).From (Item.mk r32.1 ((at_ y35 x2.2.2).To).N ((at_ y35 x2.2.2).To).F ((at_ y35 x2.2.2).To).T))) A35 ia36 h0_36 h1_36 (cs_iso (cs_right (cs_iso (cs_left cs_flat)))) z3 rfl rfl rfl rfl rfl rfl (fun s40 p40 A40 => ?_)
  refine nb (fun y42 h42 => ?_)
  have A42 : OwF (Kd.sl 80 kd80) s40 [w0_0] y42 2 := by rw [h42]; exact A40
  refine dn ?_
  refine sr ?_
  refine pu rfl rfl rfl rfl rfl ?_
  refine pu rfl rfl rfl rfl rfl ?_
  refine pu rfl rfl rfl rfl rfl ?_
  refine dn ?_
  refine sr ?_
  refine mv w0_0 rfl rfl rfl rfl rfl rfl ?_
  refine pu rfl rfl rfl rfl rfl ?_
  refine pu rfl rfl rfl rfl rfl ?_
  refine ix A42.rd Try.underlying56 z80 rfl rfl rfl rfl rfl rfl rfl rfl (fun ad43 es43 h0_43 h1_43 he43 ce43 ia43 => ?_)
  obtain ⟨v43_0, v43_1, v43_2, v43_3, rfl, A43_0, A43_1, A43_2, A43_3⟩ := op80 he43
  refine fa fa80_1 rfl rfl rfl rfl rfl rfl ?_
  refine faq (q := 4) (q' := 1) (n := 5) fa48_1 rfl rfl rfl rfl rfl rfl rfl ?_
  refine so (x' := (Span.mk (at_ y42 x2.2.2).From (Item.mk ((at_ y42 x2.2.2).To).Kind (IntKind.wrap .i64 (r32.1 + (1 : Int))) ((at_ y42 x2.2.2).To).F ((at_ y42 x2.2.2).To).T))) A42 ia43 h0_43 h1_43 (cs_iso (cs_right (cs_iso (cs_right (cs_left cs_flat))))) z3 rfl rfl rfl rfl rfl rfl (fun s47 p47 A47 => ?_)
  refine nb (fun y49 h49 => ?_)
  have A49 : OwF (Kd.sl 80 kd80) s47 [w0_0] y49 2 := by rw [h49]; exact A47
  refine dn ?_
  refine sr ?_
  refine pu rfl rfl rfl rfl rfl ?_
  refine pu rfl rfl rfl rfl rfl ?_
  refine pu rfl rfl rfl rfl rfl ?_
  refine dn ?_
  refine sr ?_
  refine mv w0_0 rfl rfl rfl rfl rfl rfl ?_
  refine pu rfl rfl rfl rfl rfl ?_
  refine pu rfl rfl rfl rfl rfl ?_
  refine i2f Try.underlying36 Try.underlying3 rfl rfl rfl rfl rfl rfl (fun v50 A50 => ?_)
  refine ix A49.rd Try.underlying56 z80 rfl rfl rfl rfl rfl rfl rfl rfl (fun ad51 es51 h0_51 h1_51 he51 ce51 ia51 => ?_)
  obtain ⟨v51_0, v51_1, v51_2, v51_3, rfl, A51_0, A51_1, A51_2, A51_3⟩ := op80 he51
  refine fa fa80_1 rfl rfl rfl rfl rfl rfl ?_
  refine faq (q := 4) (q' := 2) (n := 6) fa48_2 rfl rfl rfl rfl rfl rfl rfl ?_
  refine so (x' := (Span.mk (at_ y49 x2.2.2).From (Item.mk ((at_ y49 x2.2.2).To).Kind ((at_ y49 x2.2.2).To).N (FloatKind.f64.nearest (IntKind.wrap .i64 ((IntKind.wrap .i64 (r32.1 + (1 : Int))) + (1 : Int)))) ((at_ y49 x2.2.2).To).T))) A49 ia51 h0_51 h1_51 (cs_iso (cs_right (cs_iso (cs_right (cs_right (cs_left (cs_flt A50))))))) z36 rfl rfl rfl rfl rfl rfl (fun s55 p55 A55 => ?_)
  refine nb (fun y57 h57 => ?_)
  have A57 : OwF (Kd.sl 80 kd80) s55 [w0_0] y57 2 := by rw [h57]; exact A55
  refine dn ?_
  refine sr ?_
  refine pu rfl rfl rfl rfl rfl ?_
  refine pu rfl rfl rfl rfl rfl ?_
  refine pu rfl rfl rfl rfl rfl ?_
  refine dn ?_
  refine rg ?_
  refine mv w0_0 rfl rfl rfl rfl rfl rfl ?_
  refine pu rfl rfl rfl rfl rfl ?_
  refine ix A57.rd Try.underlying56 z80 rfl rfl rfl rfl rfl rfl rfl rfl (fun ad58 es58 h0_58 h1_58 he58 ce58 ia58 => ?_)
  obtain ⟨v58_0, v58_1, v58_2, v58_3, rfl, A58_0, A58_1, A58_2, A58_3⟩ := op80 he58
  refine fa fa80_1 rfl rfl rfl rfl rfl rfl ?_
  refine faq (q := 4) (q' := 3) (n := 7) fa48_3 rfl rfl rfl rfl rfl rfl rfl ?_
  refine lc ce58 Try.underlying37 rfl rfl rfl rfl rfl rfl rfl rfl ?_
  refine pu rfl rfl rfl rfl rfl ?_
  obtain ⟨os62, ho62, hn62, hc62, put62⟩ := focus (ln_iso (fun x : Span => (x.From, x.To)) (fun x => x.To.T) (fun x y => (Span.mk x.From (Item.mk x.To.Kind x.To.N x.To.F y))) (ln_right (ln_iso (fun x : Item => (x.Kind, x.N, x.F, x.T)) (fun x => x.T) (fun x y => (Item.mk x.Kind x.N x.F y)) (ln_right (ln_right (ln_right ln_sl))) (fun _ => rfl) (fun _ _ => rfl))) (fun _ => rfl) (fun _ _ => rfl)) A57 h0_58 h1_58 ia58 ce58 rfl rfl
  refine cl rfl rfl rfl rfl rfl Try.func81 rfl rfl rfl (fun r62 m62 => laws_markByteS.calls (((at_ y57 x2.2.2).To).T) (IntKind.wrap .i64 ((IntKind.wrap .i64 ((IntKind.wrap .i64 (r32.1 + (1 : Int))) + (1 : Int))) + (1 : Int))) s55.w (fun b => memb [] (s55.g b) = true) v58_3 os62 ho62 hn62 (apart_of hc62 rfl) r62 m62) ?_
  rintro r62 _ w62 m62 ⟨rfl, w62_, ky62⟩
  obtain ⟨s63, rfl, p63, A63⟩ := put62 w62 _ 41 ky62 w62_
  refine nb (fun y65 h65 => ?_)
  have A65 : OwF (Kd.sl 80 kd80) s63 [w0_0] y65 2 := by rw [h65]; exact A63
  refine pu rfl rfl rfl rfl rfl ?_
  refine dn ?_
  refine ib ?_
  refine rg ?_
  refine pu rfl rfl rfl rfl rfl ?_
  refine pu rfl rfl rfl rfl rfl ?_
  refine pu rfl rfl rfl rfl rfl ?_
  refine dn ?_
  have K66 := ((((((((Kx2.st p10 rfl).st p17 rfl).st p25 rfl).st p33 rfl).st p40 rfl).st p47 rfl).st p55 rfl).st p63 rfl)
  exact lb ih2 ⟨s63, _, rfl, (ue (ue (ue rfl rfl) rfl) rfl), K66, A65⟩
 ·
  refine xt rfl ?_
  refine sgb ?_
  refine sr ?_
  refine pu rfl rfl rfl rfl rfl ?_
  refine pu rfl rfl rfl rfl rfl ?_
  refine dn ?_
  exact re rfl Try.func59 rfl (r_t rfl r_nil) rfl ⟨_, rfl, rfl, z.fw Kx2 Ax2_0, z.ky Kx2⟩
noncomputable def laws_markItemS.b0  (x2 : (List Item) × Int × Int) : Option (((List Item) × Int × Int) ⊕ (Int × (List Item))) :=
 (if (decide (x2.2.2 < (x2.1.length : Int))) = true then (if 0 ≤ x2.2.2 ∧ x2.2.2 < (x2.1.length : Int) then (if 0 ≤ x2.2.2 ∧ x2.2.2 < ((x2.1.set (x2.2.2).toNat (Item.mk x2.2.1 (at_ x2.1 x2.2.2).N (at_ x2.1 x2.2.2).F (at_ x2.1 x2.2.2).T)).length : Int) then ((some ((x2.1.set (x2.2.2).toNat (Item.mk x2.2.1 (at_ x2.1 x2.2.2).N (at_ x2.1 x2.2.2).F (at_ x2.1 x2.2.2).T)).set (x2.2.2).toNat (Item.mk (at_ (x2.1.set (x2.2.2).toNat (Item.mk x2.2.1 (at_ x2.1 x2.2.2).N (at_ x2.1 x2.2.2).F (at_ x2.1 x2.2.2).T)) x2.2.2).Kind (IntKind.wrap .i64 (x2.2.1 + (1 : Int))) (at_ (x2.1.set (x2.2.2).toNat (Item.mk x2.2.1 (at_ x2.1 x2.2.2).N (at_ x2.1 x2.2.2).F (at_ x2.1 x2.2.2).T)) x2.2.2).F (at_ (x2.1.set (x2.2.2).toNat (Item.mk x2.2.1 (at_ x2.1 x2.2.2).N (at_ x2.1 x2.2.2).F (at_ x2.1 x2.2.2).T)) x2.2.2).T))).bind fun y16 => (if 0 ≤ x2.2.2 ∧ x2.2.2 < (y16.length : Int) then ((some (y16.set (x2.2.2).toNat (Item.mk (at_ y16 x2.2.2).Kind (at_ y16 x2.2.2).N (FloatKind.f64.nearest (IntKind.wrap .i64 ((IntKind.wrap .i64 (x2.2.1 + (1 : Int))) + (1 : Int)))) (at_ y16 x2.2.2).T))).bind fun y23 => (if 0 ≤ x2.2.2 ∧ x2.2.2 < (y23.length : Int) then ((laws_markByteS.f ((at_ y23 x2.2.2).T) (IntKind.wrap .i64 ((IntKind.wrap .i64 ((IntKind.wrap .i64 (x2.2.1 + (1 : Int))) + (1 : Int))) + (1 : Int)))).bind fun r27 => (some (Sum.inl ((y23.set (x2.2.2).toNat (Item.mk (at_ y23 x2.2.2).Kind (at_ y23 x2.2.2).N (at_ y23 x2.2.2).F r27.2)), r27.1, (IntKind.wrap .i64 (x2.2.2 + (1 : Int))))))) else none)) else none)) else none) else none) else ((some (x2.2.1, x2.1)).bind fun o => some (Sum.inr o)))
noncomputable def laws_markItemS.f (a0 : (List Item)) (a1 : Int) : Option (Int × (List Item)) :=
 (iter laws_markItemS.b0 (a0, a1, (0 : Int)))
def laws_markItemS.Q (w : World) (F : Nat → Prop) (os : List Nat) (w0_0 : Value) (r : Int × (List Item)) (v : Value) (w' : World) : Prop :=
 v = (.int .i64 r.1) ∧ FW (Kd.sl 48 kd48) os w w' [w0_0] r.2 ∧ Ky os w w'
set_option maxHeartbeats 4000000 in
set_option maxRecDepth 100000 in
theorem laws_markItemS.calls (a0 : (List Item)) (a1 : Int) (w : World) (F : Nat → Prop) (w0_0 : Value) (os : List Nat) (h0_0 : (Kd.sl 48 kd48).ow w [w0_0] a0 os) (hn : os.Nodup) (hF : ∀ b, F b → b ∉ os) (r : Int × (List Item)) (m : laws_markItemS.f a0 a1 = some r) :
  Calls Try.prog 60 #[w0_0, (.int .i64 a1)] w fun en w' => ∃ v, en = .returned v ∧ laws_markItemS.Q w F os w0_0 r v w' := by
 obtain ⟨s0, rfl, kp0, z⟩ := start1 w F os hF
 have A0_0 := z.ow h0_0 hn
 refine calls_of_TM (args := [w0_0, (.int .i64 a1)]) (R := fun r en w' => ∃ v, en = .returned v ∧ laws_markItemS.Q s0.w F os w0_0 r v w') Try.func60 Try.ntmps60 rfl rfl m ?_
 unfold laws_markItemS.f
 refine sr ?_
 refine pu rfl rfl rfl rfl rfl ?_
 refine dn ?_
 refine sq ?_
 refine sr ?_
 refine pu rfl rfl rfl rfl rfl ?_
 refine dn ?_
 refine bl ?_
 refine lpI (fun (x2 : (List Item) × Int × Int) (e : Env) (w : World) => ∃ (s : St) (e0 : Env), w = s.w ∧ e = upd (upd (upd e0 0 w0_0) 1 (.int .i64 x2.2.1)) 5 (.int .i64 x2.2.2) ∧ Kp s0 s ∧ OwF (Kd.sl 48 kd48) s [w0_0] x2.1 2) ⟨s0, _, rfl, (ue (ue (ue rfl rfl) rfl) rfl), kp0, A0_0⟩ (fun g2 ih2 => ?_)
 rintro x2 _ _ ⟨s3, _, rfl, rfl, Kx2, Ax2_0⟩
 unfold laws_markItemS.b0
 refine sq ?_
 refine sr ?_
 refine pu rfl rfl rfl rfl rfl ?_
 refine mv w0_0 rfl rfl rfl rfl rfl rfl ?_
 refine ln Ax2_0.rd Try.underlying57 rfl rfl rfl rfl rfl rfl ?_
 refine pu rfl rfl rfl rfl rfl ?_
 refine dn ?_
 refine cd rfl (fun h5 => ?_) (fun h5 => ?_)
 ·
  refine sk ?_
  refine sq ?_
  refine bl ?_
  refine sr ?_
  refine mv w0_0 rfl rfl rfl rfl rfl rfl ?_
  refine pu rfl rfl rfl rfl rfl ?_
  refine pu rfl rfl rfl rfl rfl ?_
  refine ix Ax2_0.rd Try.underlying57 z48 rfl rfl rfl rfl rfl rfl rfl rfl (fun ad6 es6 h0_6 h1_6 he6 ce6 ia6 => ?_)
  obtain ⟨v6_0, v6_1, rfl, A6_0, A6_1⟩ := op48 he6
  refine fa fa48_0 rfl rfl rfl rfl rfl rfl ?_
  refine so (x' := (Item.mk x2.2.1 (at_ x2.1 x2.2.2).N (at_ x2.1 x2.2.2).F (at_ x2.1 x2.2.2).T)) Ax2_0 ia6 h0_6 h1_6 (cs_iso (cs_left cs_flat)) z3 rfl rfl rfl rfl rfl rfl (fun s9 p9 A9 => ?_)
  refine dn ?_
  refine sr ?_
  refine pu rfl rfl rfl rfl rfl ?_
  refine pu rfl rfl rfl rfl rfl ?_
  refine pu rfl rfl rfl rfl rfl ?_
  refine dn ?_
  refine sr ?_
  refine mv w0_0 rfl rfl rfl rfl rfl rfl ?_
  refine pu rfl rfl rfl rfl rfl ?_
  refine pu rfl rfl rfl rfl rfl ?_
  refine ix A9.rd Try.underlying57 z48 rfl rfl rfl rfl rfl rfl rfl rfl (fun ad11 es11 h0_11 h1_11 he11 ce11 ia11 => ?_)
  obtain ⟨v11_0, v11_1, rfl, A11_0, A11_1⟩ := op48 he11
  refine fa fa48_1 rfl rfl rfl rfl rfl rfl ?_
  refine so (x' := (Item.mk (at_ (x2.1.set (x2.2.2).toNat (Item.mk x2.2.1 (at_ x2.1 x2.2.2).N (at_ x2.1 x2.2.2).F (at_ x2.1 x2.2.2).T)) x2.2.2).Kind (IntKind.wrap .i64 (x2.2.1 + (1 : Int))) (at_ (x2.1.set (x2.2.2).toNat (Item.mk x2.2.1 (at_ x2.1 x2.2.2).N (at_ x2.1 x2.2.2).F (at_ x2.1 x2.2.2).T)) x2.2.2).F (at_ (x2.1.set (x2.2.2).toNat (Item.mk x2.2.1 (at_ x2.1 x2.2.2).N (at_ x2.1 x2.2.2).F (at_ x2.1 x2.2.2).T)) x2.2.2).T)) A9 ia11 h0_11 h1_11 (cs_iso (cs_right (cs_left cs_flat))) z3 rfl rfl rfl rfl rfl rfl (fun s14 p14 A14 => ?_)
  refine nb (fun y16 h16 => ?_)
  have A16 : OwF (Kd.sl 48 kd48) s14 [w0_0] y16 2 := by rw [h16]; exact A14
  refine dn ?_
  refine sr ?_
  refine pu rfl rfl rfl rfl rfl ?_
  refine pu rfl rfl rfl rfl rfl ?_
  refine pu rfl rfl rfl rfl rfl ?_
  refine dn ?_
  refine sr ?_
  refine mv w0_0 rfl rfl rfl rfl rfl rfl ?_
  refine pu rfl rfl rfl rfl rfl ?_
  refine pu rfl rfl rfl rfl rfl ?_
  refine i2f Try.underlying36 Try.underlying3 rfl rfl rfl rfl rfl rfl (fun v17 A17 => ?_)
  refine ix A16.rd Try.underlying57 z48 rfl rfl rfl rfl rfl rfl rfl rfl (fun ad18 es18 h0_18 h1_18 he18 ce18 ia18 => ?_)
  obtain ⟨v18_0, v18_1, rfl, A18_0, A18_1⟩ := op48 he18
  refine fa fa48_2 rfl rfl rfl rfl rfl rfl ?_
  refine so (x' := (Item.mk (at_ y16 x2.2.2).Kind (at_ y16 x2.2.2).N (FloatKind.f64.nearest (IntKind.wrap .i64 ((IntKind.wrap .i64 (x2.2.1 + (1 : Int))) + (1 : Int)))) (at_ y16 x2.2.2).T)) A16 ia18 h0_18 h1_18 (cs_iso (cs_right (cs_right (cs_left (cs_flt A17))))) z36 rfl rfl rfl rfl rfl rfl (fun s21 p21 A21 => ?_)
  refine nb (fun y23 h23 => ?_)
  have A23 : OwF (Kd.sl 48 kd48) s21 [w0_0] y23 2 := by rw [h23]; exact A21
  refine dn ?_
  refine sr ?_
  refine pu rfl rfl rfl rfl rfl ?_
  refine pu rfl rfl rfl rfl rfl ?_
  refine pu rfl rfl rfl rfl rfl ?_
  refine dn ?_
  refine rg ?_
  refine mv w0_0 rfl rfl rfl rfl rfl rfl ?_
  refine pu rfl rfl rfl rfl rfl ?_
  refine ix A23.rd Try.underlying57 z48 rfl rfl rfl rfl rfl rfl rfl rfl (fun ad24 es24 h0_24 h1_24 he24 ce24 ia24 => ?_)
  obtain ⟨v24_0, v24_1, rfl, A24_0, A24_1⟩ := op48 he24
  refine fa fa48_3 rfl rfl rfl rfl rfl rfl ?_
  refine lc ce24 Try.underlying37 rfl rfl rfl rfl rfl rfl rfl rfl ?_
  refine pu rfl rfl rfl rfl rfl ?_
  obtain ⟨os27, ho27, hn27, hc27, put27⟩ := focus (ln_iso (fun x : Item => (x.Kind, x.N, x.F, x.T)) (fun x => x.T) (fun x y => (Item.mk x.Kind x.N x.F y)) (ln_right (ln_right (ln_right ln_sl))) (fun _ => rfl) (fun _ _ => rfl)) A23 h0_24 h1_24 ia24 ce24 rfl rfl
  refine cl rfl rfl rfl rfl rfl Try.func81 rfl rfl rfl (fun r27 m27 => laws_markByteS.calls ((at_ y23 x2.2.2).T) (IntKind.wrap .i64 ((IntKind.wrap .i64 ((IntKind.wrap .i64 (x2.2.1 + (1 : Int))) + (1 : Int))) + (1 : Int))) s21.w (fun b => memb [] (s21.g b) = true) v24_1 os27 ho27 hn27 (apart_of hc27 rfl) r27 m27) ?_
  rintro r27 _ w27 m27 ⟨rfl, w27_, ky27⟩
  obtain ⟨s28, rfl, p28, A28⟩ := put27 w27 _ 40 ky27 w27_
  refine pu rfl rfl rfl rfl rfl ?_
  refine dn ?_
  refine ib ?_
  refine rg ?_
  refine pu rfl rfl rfl rfl rfl ?_
  refine pu rfl rfl rfl rfl rfl ?_
  refine pu rfl rfl rfl rfl rfl ?_
  refine dn ?_
  have K30 := ((((Kx2.st p9 rfl).st p14 rfl).st p21 rfl).st p28 rfl)
  exact lb ih2 ⟨s28, _, rfl, (ue (ue (ue rfl rfl) rfl) rfl), K30, A28⟩
 ·
  refine xt rfl ?_
  refine sgb ?_
  refine sr ?_
  refine pu rfl rfl rfl rfl rfl ?_
  refine pu rfl rfl rfl rfl rfl ?_
  refine dn ?_
  exact re rfl Try.func60 rfl (r_t rfl r_nil) rfl ⟨_, rfl, rfl, z.fw Kx2 Ax2_0, z.ky Kx2⟩
noncomputable def laws_markDeedS.b0  (x2 : (List Deed) × Int × Int) : Option (((List Deed) × Int × Int) ⊕ (Int × (List Deed))) :=
 (if (decide (x2.2.2 < (x2.1.length : Int))) = true then (if 0 ≤ x2.2.2 ∧ x2.2.2 < (x2.1.length : Int) then ((some (x2.1.set (x2.2.2).toNat (Deed.mk x2.2.1 (at_ x2.1 x2.2.2).Begun (at_ x2.1 x2.2.2).Ended (at_ x2.1 x2.2.2).Reads (at_ x2.1 x2.2.2).Writes))).bind fun y12 => (if 0 ≤ x2.2.2 ∧ x2.2.2 < (y12.length : Int) then ((some (y12.set (x2.2.2).toNat (Deed.mk (at_ y12 x2.2.2).Xid (IntKind.wrap .i64 (x2.2.1 + (1 : Int))) (at_ y12 x2.2.2).Ended (at_ y12 x2.2.2).Reads (at_ y12 x2.2.2).Writes))).bind fun y19 => (if 0 ≤ x2.2.2 ∧ x2.2.2 < (y19.length : Int) then ((some (y19.set (x2.2.2).toNat (Deed.mk (at_ y19 x2.2.2).Xid (at_ y19 x2.2.2).Begun (IntKind.wrap .i64 ((IntKind.wrap .i64 (x2.2.1 + (1 : Int))) + (1 : Int))) (at_ y19 x2.2.2).Reads (at_ y19 x2.2.2).Writes))).bind fun y26 => (if 0 ≤ x2.2.2 ∧ x2.2.2 < (y26.length : Int) then ((laws_markSpanS.f ((at_ y26 x2.2.2).Reads) (IntKind.wrap .i64 ((IntKind.wrap .i64 ((IntKind.wrap .i64 (x2.2.1 + (1 : Int))) + (1 : Int))) + (1 : Int)))).bind fun r31 => ((some (y26.set (x2.2.2).toNat (Deed.mk (at_ y26 x2.2.2).Xid (at_ y26 x2.2.2).Begun (at_ y26 x2.2.2).Ended r31.2 (at_ y26 x2.2.2).Writes))).bind fun y34 => (if 0 ≤ x2.2.2 ∧ x2.2.2 < (y34.length : Int) then ((laws_markItemS.f ((at_ y34 x2.2.2).Writes) r31.1).bind fun r39 => ((some (y34.set (x2.2.2).toNat (Deed.mk (at_ y34 x2.2.2).Xid (at_ y34 x2.2.2).Begun (at_ y34 x2.2.2).Ended (at_ y34 x2.2.2).Reads r39.2))).bind fun y42 => (some (Sum.inl (y42, r39.1, (IntKind.wrap .i64 (x2.2.2 + (1 : Int)))))))) else none))) else none)) else none)) else none)) else none) else ((some (x2.2.1, x2.1)).bind fun o => some (Sum.inr o)))
noncomputable def laws_markDeedS.f (a0 : (List Deed)) (a1 : Int) : Option (Int × (List Deed)) :=
 (iter laws_markDeedS.b0 (a0, a1, (0 : Int)))
def laws_markDeedS.Q (w : World) (F : Nat → Prop) (os : List Nat) (w0_0 : Value) (r : Int × (List Deed)) (v : Value) (w' : World) : Prop :=
 v = (.int .i64 r.1) ∧ FW (Kd.sl 99 kd99) os w w' [w0_0] r.2 ∧ Ky os w w'
set_option maxHeartbeats 4000000 in
set_option maxRecDepth 100000 in
theorem laws_markDeedS.calls (a0 : (List Deed)) (a1 : Int) (w : World) (F : Nat → Prop) (w0_0 : Value) (os : List Nat) (h0_0 : (Kd.sl 99 kd99).ow w [w0_0] a0 os) (hn : os.Nodup) (hF : ∀ b, F b → b ∉ os) (r : Int × (List Deed)) (m : laws_markDeedS.f a0 a1 = some r) :
  Calls Try.prog 14 #[w0_0, (.int .i64 a1)] w fun en w' => ∃ v, en = .returned v ∧ laws_markDeedS.Q w F os w0_0 r v w' := by
 obtain ⟨s0, rfl, kp0, z⟩ := start1 w F os hF
 have A0_0 := z.ow h0_0 hn
 refine calls_of_TM (args := [w0_0, (.int .i64 a1)]) (R := fun r en w' => ∃ v, en = .returned v ∧ laws_markDeedS.Q s0.w F os w0_0 r v w') Try.func14 Try.ntmps14 rfl rfl m ?_
 unfold laws_markDeedS.f
 refine sr ?_
 refine pu rfl rfl rfl rfl rfl ?_
 refine dn ?_
 refine sq ?_
 refine sr ?_
 refine pu rfl rfl rfl rfl rfl ?_
 refine dn ?_
 refine bl ?_
 refine lpI (fun (x2 : (List Deed) × Int × Int) (e : Env) (w : World) => ∃ (s : St) (e0 : Env), w = s.w ∧ e = upd (upd (upd e0 0 w0_0) 1 (.int .i64 x2.2.1)) 5 (.int .i64 x2.2.2) ∧ Kp s0 s ∧ OwF (Kd.sl 99 kd99) s [w0_0] x2.1 2) ⟨s0, _, rfl, (ue (ue (ue rfl rfl) rfl) rfl), kp0, A0_0⟩ (fun g2 ih2 => ?_)
 rintro x2 _ _ ⟨s3, _, rfl, rfl, Kx2, Ax2_0⟩
 unfold laws_markDeedS.b0
 refine sq ?_
 refine sr ?_
 refine pu rfl rfl rfl rfl rfl ?_
 refine mv w0_0 rfl rfl rfl rfl rfl rfl ?_
 refine ln Ax2_0.rd Try.underlying26 rfl rfl rfl rfl rfl rfl ?_
 refine pu rfl rfl rfl rfl rfl ?_
 refine dn ?_
 refine cd rfl (fun h5 => ?_) (fun h5 => ?_)
 ·
  refine sk ?_
  refine sq ?_
  refine bl ?_
  refine sr ?_
  refine mv w0_0 rfl rfl rfl rfl rfl rfl ?_
  refine pu rfl rfl rfl rfl rfl ?_
  refine pu rfl rfl rfl rfl rfl ?_
  refine ix Ax2_0.rd Try.underlying26 z99 rfl rfl rfl rfl rfl rfl rfl rfl (fun ad6 es6 h0_6 h1_6 he6 ce6 ia6 => ?_)
  obtain ⟨v6_0, v6_1, rfl, A6_0, A6_1⟩ := op99 he6
  refine fa fa99_0 rfl rfl rfl rfl rfl rfl ?_
  refine so (x' := (Deed.mk x2.2.1 (at_ x2.1 x2.2.2).Begun (at_ x2.1 x2.2.2).Ended (at_ x2.1 x2.2.2).Reads (at_ x2.1 x2.2.2).Writes)) Ax2_0 ia6 h0_6 h1_6 (cs_iso (cs_left cs_flat)) z3 rfl rfl rfl rfl rfl rfl (fun s10 p10 A10 => ?_)
  refine nb (fun y12 h12 => ?_)
  have A12 : OwF (Kd.sl 99 kd99) s10 [w0_0] y12 2 := by rw [h12]; exact A10
  refine dn ?_
  refine sr ?_
  refine pu rfl rfl rfl rfl rfl ?_
  refine pu rfl rfl rfl rfl rfl ?_
  refine pu rfl rfl rfl rfl rfl ?_
  refine dn ?_
  refine sr ?_
  refine mv w0_0 rfl rfl rfl rfl rfl rfl ?_
  refine pu rfl rfl rfl rfl rfl ?_
  refine pu rfl rfl rfl rfl rfl ?_
  refine ix A12.rd Try.underlying26 z99 rfl rfl rfl rfl rfl rfl rfl rfl (fun ad13 es13 h0_13 h1_13 he13 ce13 ia13 => ?_)
  obtain ⟨v13_0, v13_1, rfl, A13_0, A13_1⟩ := op99 he13
  refine fa fa99_1 rfl rfl rfl rfl rfl rfl ?_
  refine so (x' := (Deed.mk (at_ y12 x2.2.2).Xid (IntKind.wrap .i64 (x2.2.1 + (1 : Int))) (at_ y12 x2.2.2).Ended (at_ y12 x2.2.2).Reads (at_ y12 x2.2.2).Writes)) A12 ia13 h0_13 h1_13 (cs_iso (cs_right (cs_left cs_flat))) z3 rfl rfl rfl rfl rfl rfl (fun s17 p17 A17 => ?_)
  refine nb (fun y19 h19 => ?_)
  have A19 : OwF (Kd.sl 99 kd99) s17 [w0_0] y19 2 := by rw [h19]; exact A17
  refine dn ?_
  refine sr ?_
  refine pu rfl rfl rfl rfl rfl ?_
  refine pu rfl rfl rfl rfl rfl ?_
  refine pu rfl rfl rfl rfl rfl ?_
  refine dn ?_
  refine sr ?_
  refine mv w0_0 rfl rfl rfl rfl rfl rfl ?_
  refine pu rfl rfl rfl rfl rfl ?_
  refine pu rfl rfl rfl rfl rfl ?_
  refine ix A19.rd Try.underlying26 z99 rfl rfl rfl rfl rfl rfl rfl rfl (fun ad20 es20 h0_20 h1_20 he20 ce20 ia20 => ?_)
  obtain ⟨v20_0, v20_1, rfl, A20_0, A20_1⟩ := op99 he20
  refine fa fa99_2 rfl rfl rfl rfl rfl rfl ?_
  refine so (x' := (Deed.mk (at_ y19 x2.2.2).Xid (at_ y19 x2.2.2).Begun (IntKind.wrap .i64 ((IntKind.wrap .i64 (x2.2.1 + (1 : Int))) + (1 : Int))) (at_ y19 x2.2.2).Reads (at_ y19 x2.2.2).Writes)) A19 ia20 h0_20 h1_20 (cs_iso (cs_right (cs_right (cs_left cs_flat)))) z3 rfl rfl rfl rfl rfl rfl (fun s24 p24 A24 => ?_)
  refine nb (fun y26 h26 => ?_)
  have A26 : OwF (Kd.sl 99 kd99) s24 [w0_0] y26 2 := by rw [h26]; exact A24
  refine dn ?_
  refine sr ?_
  refine pu rfl rfl rfl rfl rfl ?_
  refine pu rfl rfl rfl rfl rfl ?_
  refine pu rfl rfl rfl rfl rfl ?_
  refine dn ?_
  refine sr ?_
  refine mv w0_0 rfl rfl rfl rfl rfl rfl ?_
  refine pu rfl rfl rfl rfl rfl ?_
  refine ix A26.rd Try.underlying26 z99 rfl rfl rfl rfl rfl rfl rfl rfl (fun ad27 es27 h0_27 h1_27 he27 ce27 ia27 => ?_)
  obtain ⟨v27_0, v27_1, rfl, A27_0, A27_1⟩ := op99 he27
  refine fa fa99_3 rfl rfl rfl rfl rfl rfl ?_
  refine lc ce27 Try.underlying56 rfl rfl rfl rfl rfl rfl rfl rfl ?_
  refine pu rfl rfl rfl rfl rfl ?_
  obtain ⟨os31, ho31, hn31, hc31, put31⟩ := focus (ln_iso (fun x : Deed => (x.Xid, x.Begun, x.Ended, x.Reads, x.Writes)) (fun x => x.Reads) (fun x y => (Deed.mk x.Xid x.Begun x.Ended y x.Writes)) (ln_right (ln_right (ln_right (ln_left ln_sl)))) (fun _ => rfl) (fun _ _ => rfl)) A26 h0_27 h1_27 ia27 ce27 rfl rfl
  refine cl rfl rfl rfl rfl rfl Try.func59 rfl rfl rfl (fun r31 m31 => laws_markSpanS.calls ((at_ y26 x2.2.2).Reads) (IntKind.wrap .i64 ((IntKind.wrap .i64 ((IntKind.wrap .i64 (x2.2.1 + (1 : Int))) + (1 : Int))) + (1 : Int))) s24.w (fun b => memb [] (s24.g b) = true) v27_0 os31 ho31 hn31 (apart_of hc31 rfl) r31 m31) ?_
  rintro r31 _ w31 m31 ⟨rfl, w31_, ky31⟩
  obtain ⟨s32, rfl, p32, A32⟩ := put31 w31 _ 40 ky31 w31_
  refine nb (fun y34 h34 => ?_)
  have A34 : OwF (Kd.sl 99 kd99) s32 [w0_0] y34 2 := by rw [h34]; exact A32
  refine pu rfl rfl rfl rfl rfl ?_
  refine dn ?_
  refine rg ?_
  refine mv w0_0 rfl rfl rfl rfl rfl rfl ?_
  refine pu rfl rfl rfl rfl rfl ?_
  refine ix A34.rd Try.underlying26 z99 rfl rfl rfl rfl rfl rfl rfl rfl (fun ad35 es35 h0_35 h1_35 he35 ce35 ia35 => ?_)
  obtain ⟨v35_0, v35_1, rfl, A35_0, A35_1⟩ := op99 he35
  refine fa fa99_4 rfl rfl rfl rfl rfl rfl ?_
  refine lc ce35 Try.underlying57 rfl rfl rfl rfl rfl rfl rfl rfl ?_
  refine pu rfl rfl rfl rfl rfl ?_
  obtain ⟨os39, ho39, hn39, hc39, put39⟩ := focus (ln_iso (fun x : Deed => (x.Xid, x.Begun, x.Ended, x.Reads, x.Writes)) (fun x => x.Writes) (fun x y => (Deed.mk x.Xid x.Begun x.Ended x.Reads y)) (ln_right (ln_right (ln_right (ln_right ln_sl)))) (fun _ => rfl) (fun _ _ => rfl)) A34 h0_35 h1_35 ia35 ce35 rfl rfl
  refine cl rfl rfl rfl rfl rfl Try.func60 rfl rfl rfl (fun r39 m39 => laws_markItemS.calls ((at_ y34 x2.2.2).Writes) r31.1 s32.w (fun b => memb [] (s32.g b) = true) v35_1 os39 ho39 hn39 (apart_of hc39 rfl) r39 m39) ?_
  rintro r39 _ w39 m39 ⟨rfl, w39_, ky39⟩
  obtain ⟨s40, rfl, p40, A40⟩ := put39 w39 _ 41 ky39 w39_
  refine nb (fun y42 h42 => ?_)
  have A42 : OwF (Kd.sl 99 kd99) s40 [w0_0] y42 2 := by rw [h42]; exact A40
  refine pu rfl rfl rfl rfl rfl ?_
  refine dn ?_
  refine ib ?_
  refine rg ?_
  refine pu rfl rfl rfl rfl rfl ?_
  refine pu rfl rfl rfl rfl rfl ?_
  refine pu rfl rfl rfl rfl rfl ?_
  refine dn ?_
  have K43 := (((((Kx2.st p10 rfl).st p17 rfl).st p24 rfl).st p32 rfl).st p40 rfl)
  exact lb ih2 ⟨s40, _, rfl, (ue (ue (ue rfl rfl) rfl) rfl), K43, A42⟩
 ·
  refine xt rfl ?_
  refine sgb ?_
  refine sr ?_
  refine pu rfl rfl rfl rfl rfl ?_
  refine pu rfl rfl rfl rfl rfl ?_
  refine dn ?_
  exact re rfl Try.func14 rfl (r_t rfl r_nil) rfl ⟨_, rfl, rfl, z.fw Kx2 Ax2_0, z.ky Kx2⟩
noncomputable def laws_markIntS.b0  (x2 : (List Int) × Int × Int) : Option (((List Int) × Int × Int) ⊕ (Int × (List Int))) :=
 (if (decide (x2.2.2 < (x2.1.length : Int))) = true then (if 0 ≤ x2.2.2 ∧ x2.2.2 < (x2.1.length : Int) then (some (Sum.inl ((x2.1.set (x2.2.2).toNat x2.2.1), (IntKind.wrap .i64 (x2.2.1 + (1 : Int))), (IntKind.wrap .i64 (x2.2.2 + (1 : Int)))))) else none) else ((some (x2.2.1, x2.1)).bind fun o => some (Sum.inr o)))
noncomputable def laws_markIntS.f (a0 : (List Int)) (a1 : Int) : Option (Int × (List Int)) :=
 (iter laws_markIntS.b0 (a0, a1, (0 : Int)))
def laws_markIntS.Q (w : World) (F : Nat → Prop) (os : List Nat) (w0_0 : Value) (r : Int × (List Int)) (v : Value) (w' : World) : Prop :=
 v = (.int .i64 r.1) ∧ FW (Kd.sl 3 (Kd.int .i64)) os w w' [w0_0] r.2 ∧ Ky os w w'
set_option maxHeartbeats 4000000 in
set_option maxRecDepth 100000 in
theorem laws_markIntS.calls (a0 : (List Int)) (a1 : Int) (w : World) (F : Nat → Prop) (w0_0 : Value) (os : List Nat) (h0_0 : (Kd.sl 3 (Kd.int .i64)).ow w [w0_0] a0 os) (hn : os.Nodup) (hF : ∀ b, F b → b ∉ os) (r : Int × (List Int)) (m : laws_markIntS.f a0 a1 = some r) :
  Calls Try.prog 15 #[w0_0, (.int .i64 a1)] w fun en w' => ∃ v, en = .returned v ∧ laws_markIntS.Q w F os w0_0 r v w' := by
 obtain ⟨s0, rfl, kp0, z⟩ := start1 w F os hF
 have A0_0 := z.ow h0_0 hn
 refine calls_of_TM (args := [w0_0, (.int .i64 a1)]) (R := fun r en w' => ∃ v, en = .returned v ∧ laws_markIntS.Q s0.w F os w0_0 r v w') Try.func15 Try.ntmps15 rfl rfl m ?_
 unfold laws_markIntS.f
 refine sr ?_
 refine pu rfl rfl rfl rfl rfl ?_
 refine dn ?_
 refine sq ?_
 refine sr ?_
 refine pu rfl rfl rfl rfl rfl ?_
 refine dn ?_
 refine bl ?_
 refine lpI (fun (x2 : (List Int) × Int × Int) (e : Env) (w : World) => ∃ (s : St) (e0 : Env), w = s.w ∧ e = upd (upd (upd e0 0 w0_0) 1 (.int .i64 x2.2.1)) 5 (.int .i64 x2.2.2) ∧ Kp s0 s ∧ OwF (Kd.sl 3 (Kd.int .i64)) s [w0_0] x2.1 2) ⟨s0, _, rfl, (ue (ue (ue rfl rfl) rfl) rfl), kp0, A0_0⟩ (fun g2 ih2 => ?_)
 rintro x2 _ _ ⟨s3, _, rfl, rfl, Kx2, Ax2_0⟩
 unfold laws_markIntS.b0
 refine sq ?_
 refine sr ?_
 refine pu rfl rfl rfl rfl rfl ?_
 refine mv w0_0 rfl rfl rfl rfl rfl rfl ?_
 refine ln Ax2_0.rd Try.underlying24 rfl rfl rfl rfl rfl rfl ?_
 refine pu rfl rfl rfl rfl rfl ?_
 refine dn ?_
 refine cd rfl (fun h5 => ?_) (fun h5 => ?_)
 ·
  refine sk ?_
  refine sq ?_
  refine bl ?_
  refine sr ?_
  refine mv w0_0 rfl rfl rfl rfl rfl rfl ?_
  refine pu rfl rfl rfl rfl rfl ?_
  refine pu rfl rfl rfl rfl rfl ?_
  refine ix Ax2_0.rd Try.underlying24 z3 rfl rfl rfl rfl rfl rfl rfl rfl (fun ad6 es6 h0_6 h1_6 he6 ce6 ia6 => ?_)
  obtain rfl := he6
  refine so (x' := x2.2.1) Ax2_0 ia6 h0_6 h1_6 cs_flat z3 rfl rfl rfl rfl rfl rfl (fun s8 p8 A8 => ?_)
  refine dn ?_
  refine rg ?_
  refine pu rfl rfl rfl rfl rfl ?_
  refine pu rfl rfl rfl rfl rfl ?_
  refine pu rfl rfl rfl rfl rfl ?_
  refine dn ?_
  refine ib ?_
  refine rg ?_
  refine pu rfl rfl rfl rfl rfl ?_
  refine pu rfl rfl rfl rfl rfl ?_
  refine pu rfl rfl rfl rfl rfl ?_
  refine dn ?_
  have K10 := (Kx2.st p8 rfl)
  exact lb ih2 ⟨s8, _, rfl, (ue (ue (ue rfl rfl) rfl) rfl), K10, A8⟩
 ·
  refine xt rfl ?_
  refine sgb ?_
  refine sr ?_
  refine pu rfl rfl rfl rfl rfl ?_
  refine pu rfl rfl rfl rfl rfl ?_
  refine dn ?_
  exact re rfl Try.func15 rfl (r_t rfl r_nil) rfl ⟨_, rfl, rfl, z.fw Kx2 Ax2_0, z.ky Kx2⟩
noncomputable def laws_heldIntS.b0 (a0 : (List Int)) (x2 : Int × Int) : Option ((Int × Int) ⊕ Int) :=
 (if (decide (x2.2 < (a0.length : Int))) = true then (if 0 ≤ x2.2 ∧ x2.2 < (a0.length : Int) then (if ((at_ a0 x2.2) != x2.1) = true then (some (Sum.inr (-1 : Int))) else (some (Sum.inl ((IntKind.wrap .i64 (x2.1 + (1 : Int))), (IntKind.wrap .i64 (x2.2 + (1 : Int))))))) else none) else ((some x2.1).bind fun o => some (Sum.inr o)))
noncomputable def laws_heldIntS.f (a0 : (List Int)) (a1 : Int) : Option (Int) :=
 (iter (laws_heldIntS.b0 a0) (a1, (0 : Int)))
def laws_heldIntS.Q (w : World) (F : Nat → Prop) (r : Int) (v : Value) (w' : World) : Prop :=
 v = (.int .i64 r) ∧ Ky [] w w'
set_option maxHeartbeats 4000000 in
set_option maxRecDepth 100000 in
theorem laws_heldIntS.calls (a0 : (List Int)) (a1 : Int) (w : World) (F : Nat → Prop) (w0_0 : Value) (h0_0 : (Kd.sl 3 (Kd.int .i64)).rd w [w0_0] a0 F) (r : Int) (m : laws_heldIntS.f a0 a1 = some r) :
  Calls Try.prog 16 #[w0_0, (.int .i64 a1)] w fun en w' => ∃ v, en = .returned v ∧ laws_heldIntS.Q w F r v w' := by
 obtain ⟨s0, rfl, kp0, z⟩ := start0 w F
 have A0_0 := z.rd h0_0
 refine calls_of_TM (args := [w0_0, (.int .i64 a1)]) (R := fun r en w' => ∃ v, en = .returned v ∧ laws_heldIntS.Q s0.w F r v w') Try.func16 Try.ntmps16 rfl rfl m ?_
 unfold laws_heldIntS.f
 refine sr ?_
 refine pu rfl rfl rfl rfl rfl ?_
 refine dn ?_
 refine sq ?_
 refine sr ?_
 refine pu rfl rfl rfl rfl rfl ?_
 refine dn ?_
 refine bl ?_
 refine lpI (fun (x2 : Int × Int) (e : Env) (w : World) => ∃ (s : St) (e0 : Env), w = s.w ∧ e = upd (upd (upd e0 0 w0_0) 1 (.int .i64 x2.1)) 5 (.int .i64 x2.2) ∧ Kp s0 s) ⟨s0, _, rfl, (ue (ue (ue rfl rfl) rfl) rfl), kp0⟩ (fun g2 ih2 => ?_)
 rintro x2 _ _ ⟨s3, _, rfl, rfl, Kx2⟩
 unfold laws_heldIntS.b0
 refine sq ?_
 refine sr ?_
 refine pu rfl rfl rfl rfl rfl ?_
 refine mv w0_0 rfl rfl rfl rfl rfl rfl ?_
 have A4 := (A0_0.kp Kx2)
 refine ln A4 Try.underlying24 rfl rfl rfl rfl rfl rfl ?_
 refine pu rfl rfl rfl rfl rfl ?_
 refine dn ?_
 refine cd rfl (fun h5 => ?_) (fun h5 => ?_)
 ·
  refine sk ?_
  refine sq ?_
  refine bl ?_
  refine sq ?_
  refine sr ?_
  refine mv w0_0 rfl rfl rfl rfl rfl rfl ?_
  refine pu rfl rfl rfl rfl rfl ?_
  refine ix A4 Try.underlying24 z3 rfl rfl rfl rfl rfl rfl rfl rfl (fun ad6 es6 h0_6 h1_6 he6 ce6 ia6 => ?_)
  obtain rfl := he6
  refine lc0 ce6 Try.underlying3 rfl rfl rfl rfl rfl rfl rfl rfl ?_
  refine pu rfl rfl rfl rfl rfl ?_
  refine pu rfl rfl rfl rfl rfl ?_
  refine dn ?_
  refine cd rfl (fun h8 => ?_) (fun h8 => ?_)
  ·
   refine sr ?_
   refine pu rfl rfl rfl rfl rfl ?_
   refine dn ?_
   refine sgi ?_
   exact re rfl Try.func16 rfl (r_t rfl r_nil) rfl ⟨_, rfl, rfl, z.ky Kx2⟩
  ·
   refine sk ?_
   refine rg ?_
   refine pu rfl rfl rfl rfl rfl ?_
   refine pu rfl rfl rfl rfl rfl ?_
   refine pu rfl rfl rfl rfl rfl ?_
   refine dn ?_
   refine ib ?_
   refine rg ?_
   refine pu rfl rfl rfl rfl rfl ?_
   refine pu rfl rfl rfl rfl rfl ?_
   refine pu rfl rfl rfl rfl rfl ?_
   refine dn ?_
   exact lb ih2 ⟨s3, _, rfl, (ue (ue (ue rfl rfl) rfl) rfl), Kx2⟩
 ·
  refine xt rfl ?_
  refine sgb ?_
  refine sr ?_
  refine pu rfl rfl rfl rfl rfl ?_
  refine pu rfl rfl rfl rfl rfl ?_
  refine dn ?_
  exact re rfl Try.func16 rfl (r_t rfl r_nil) rfl ⟨_, rfl, rfl, z.ky Kx2⟩
noncomputable def laws_FnExactGraphRing.f (a0 : (List Deed)) : Option (Bool) :=
 ((laws_szDeedS.f a0 (1048576 : Int)).bind fun r2 => (if (decide (r2 < (0 : Int))) = true then (some true) else ((laws_toDeedS.f a0).bind fun r8 => ((spec_GraphRing.f r8).bind fun r11 => ((laws_toDeedS.f a0).bind fun r16 => ((impl_GraphRing.f r16).bind fun r19 => ((laws_eqIntS.f r19 r11).bind fun r23 => (if (!r23) = true then (some false) else ((laws_toDeedS.f a0).bind fun r29 => ((laws_eqDeedS.f r16 r29).bind fun r33 => (if (!r33) = true then (some false) else ((laws_markDeedS.f r16 (1 : Int)).bind fun r37 => ((if (decide (r37.1 < (0 : Int))) = true then (some true) else ((laws_eqIntS.f r19 r11).bind fun r47 => (some (!r47)))).bind fun y41 => (if y41 = true then (some false) else ((laws_markIntS.f r19 (1 : Int)).bind fun r54 => ((laws_heldIntS.f r54.2 (1 : Int)).bind fun r57 => (if (decide (r57 < (0 : Int))) = true then (some false) else (if (r57 != r54.1) = true then (some false) else ((laws_toDeedS.f a0).bind fun r65 => ((impl_GraphRing.f r65).bind fun r68 => ((laws_eqIntS.f r68 r11).bind fun r72 => (if (!r72) = true then (some false) else ((laws_heldIntS.f r54.2 (1 : Int)).bind fun r77 => (if (decide (r77 < (0 : Int))) = true then (some false) else (if (r77 != r54.1) = true then (some false) else (some true))))))))))))))))))))))))))
def laws_FnExactGraphRing.Q (w : World) (F : Nat → Prop) (r : Bool) (v : Value) (w' : World) : Prop :=
 v = (.bool r) ∧ Ky [] w w'
set_option maxHeartbeats 4000000 in
set_option maxRecDepth 100000 in
theorem laws_FnExactGraphRing.calls (a0 : (List Deed)) (w : World) (F : Nat → Prop) (w0_0 : Value) (h0_0 : (Kd.sl 89 kd89).rd w [w0_0] a0 F) (r : Bool) (m : laws_FnExactGraphRing.f a0 = some r) :
  Calls Try.prog 3 #[w0_0] w fun en w' => ∃ v, en = .returned v ∧ laws_FnExactGraphRing.Q w F r v w' := by
 obtain ⟨s0, rfl, kp0, z⟩ := start0 w F
 have A0_0 := z.rd h0_0
 refine calls_of_TM (args := [w0_0]) (R := fun r en w' => ∃ v, en = .returned v ∧ laws_FnExactGraphRing.Q s0.w F r v w') Try.func3 Try.ntmps3 rfl rfl m ?_
 unfold laws_FnExactGraphRing.f
 refine sr ?_
 refine pu rfl rfl rfl rfl rfl ?_
 refine dn ?_
 refine sr ?_
 refine pu rfl rfl rfl rfl rfl ?_
 refine dn ?_
 refine sr ?_
 refine mv w0_0 rfl rfl rfl rfl rfl rfl ?_
 refine pu rfl rfl rfl rfl rfl ?_
 refine cl rfl rfl rfl rfl rfl Try.func8 rfl rfl rfl (fun r2 m2 => laws_szDeedS.calls a0 (1048576 : Int) s0.w (fun b => memb [0] (s0.g b) = true) w0_0 A0_0 r2 m2) ?_
 rintro r2 _ w2 m2 ⟨rfl, ky2⟩
 obtain ⟨s3, rfl, p3, n3⟩ := nwx s0 w2 40 ky2
 refine pu rfl rfl rfl rfl rfl ?_
 refine dn ?_
 refine sq ?_
 refine sr ?_
 refine pu rfl rfl rfl rfl rfl ?_
 refine pu rfl rfl rfl rfl rfl ?_
 refine dn ?_
 refine cd rfl (fun h4 => ?_) (fun h4 => ?_)
 ·
  refine sr ?_
  refine pu rfl rfl rfl rfl rfl ?_
  refine dn ?_
  have K5 := (kp0.st p3 rfl)
  exact re rfl Try.func3 rfl (r_t rfl r_nil) rfl ⟨_, rfl, rfl, z.ky K5⟩
 ·
  refine sk ?_
  refine sr ?_
  refine mv w0_0 rfl rfl rfl rfl rfl rfl ?_
  have K6 := (kp0.st p3 rfl)
  have A7 := (A0_0.kp K6)
  refine cl rfl rfl rfl rfl rfl Try.func10 rfl rfl rfl (fun r8 m8 => laws_toDeedS.calls a0 s3.w (fun b => memb [0] (s3.g b) = true) w0_0 A7 r8 m8) ?_
  rintro r8 v8_0 w8 m8 ⟨f8_0, ky8⟩
  obtain ⟨s9, rfl, p9, n9⟩ := nwx s3 w8 41 ky8
  have A8_0 := f8_0.c n9
  refine cl rfl rfl rfl rfl rfl Try.func9 rfl rfl rfl (fun r11 m11 => spec_GraphRing.calls r8 s9.w (fun b => memb [41] (s9.g b) = true) v8_0 A8_0.rd r11 m11) ?_
  rintro r11 v11_0 w11 m11 ⟨f11_0, ky11⟩
  obtain ⟨s12, rfl, p12, n12⟩ := nwx s9 w11 42 ky11
  have A11_0 := f11_0.c n12
  refine asg v11_0 rfl rfl rfl rfl rfl rfl ?_
  refine dn ?_
  refine sr ?_
  refine mv w0_0 rfl rfl rfl rfl rfl rfl ?_
  have K14 := ((K6.st p9 rfl).st p12 rfl)
  have A15 := (A0_0.kp K14)
  refine cl rfl rfl rfl rfl rfl Try.func10 rfl rfl rfl (fun r16 m16 => laws_toDeedS.calls a0 s12.w (fun b => memb [0] (s12.g b) = true) w0_0 A15 r16 m16) ?_
  rintro r16 v16_0 w16 m16 ⟨f16_0, ky16⟩
  obtain ⟨s17, rfl, p17, n17⟩ := nwx s12 w16 43 ky16
  have A16_0 := f16_0.c n17
  refine asg v16_0 rfl rfl rfl rfl rfl rfl ?_
  refine dn ?_
  refine sr ?_
  refine mv v16_0 rfl rfl rfl rfl rfl rfl ?_
  refine cl rfl rfl rfl rfl rfl Try.func11 rfl rfl rfl (fun r19 m19 => impl_GraphRing.calls r16 s17.w (fun b => memb [43] (s17.g b) = true) v16_0 A16_0.rd r19 m19) ?_
  rintro r19 v19_0 w19 m19 ⟨f19_0, ky19⟩
  obtain ⟨s20, rfl, p20, n20⟩ := nwx s17 w19 44 ky19
  have A19_0 := f19_0.c n20
  refine asg v19_0 rfl rfl rfl rfl rfl rfl ?_
  refine dn ?_
  refine sq ?_
  refine sr ?_
  refine mv v19_0 rfl rfl rfl rfl rfl rfl ?_
  refine mv v11_0 rfl rfl rfl rfl rfl rfl ?_
  have A22 := ((A11_0.st p17 rfl).st p20 rfl)
  refine cl rfl rfl rfl rfl rfl Try.func12 rfl rfl rfl (fun r23 m23 => laws_eqIntS.calls r19 r11 s20.w (fun b => memb [44, 42] (s20.g b) = true) v19_0 v11_0 (A19_0.rd.sub (D := [44, 42]) rfl) (A22.rd.sub (D := [44, 42]) rfl) r23 m23) ?_
  rintro r23 _ w23 m23 ⟨rfl, ky23⟩
  obtain ⟨s24, rfl, p24, n24⟩ := nwx s20 w23 45 ky23
  refine pu rfl rfl rfl rfl rfl ?_
  refine dn ?_
  refine cd rfl (fun h25 => ?_) (fun h25 => ?_)
  ·
   refine sr ?_
   refine pu rfl rfl rfl rfl rfl ?_
   refine dn ?_
   have K26 := (((K14.st p17 rfl).st p20 rfl).st p24 rfl)
   exact re rfl Try.func3 rfl (r_t rfl r_nil) rfl ⟨_, rfl, rfl, z.ky K26⟩
  ·
   refine sk ?_
   refine sq ?_
   refine sr ?_
   refine mv v16_0 rfl rfl rfl rfl rfl rfl ?_
   refine mv w0_0 rfl rfl rfl rfl rfl rfl ?_
   have K27 := (((K14.st p17 rfl).st p20 rfl).st p24 rfl)
   have A28 := (A0_0.kp K27)
   refine cl rfl rfl rfl rfl rfl Try.func10 rfl rfl rfl (fun r29 m29 => laws_toDeedS.calls a0 s24.w (fun b => memb [0] (s24.g b) = true) w0_0 A28 r29 m29) ?_
   rintro r29 v29_0 w29 m29 ⟨f29_0, ky29⟩
   obtain ⟨s30, rfl, p30, n30⟩ := nwx s24 w29 46 ky29
   have A29_0 := f29_0.c n30
   have A32 := (((A16_0.st p20 rfl).st p24 rfl).st p30 rfl)
   refine cl rfl rfl rfl rfl rfl Try.func13 rfl rfl rfl (fun r33 m33 => laws_eqDeedS.calls r16 r29 s30.w (fun b => memb [43, 46] (s30.g b) = true) v16_0 v29_0 (A32.rd.sub (D := [43, 46]) rfl) (A29_0.rd.sub (D := [43, 46]) rfl) r33 m33) ?_
   rintro r33 _ w33 m33 ⟨rfl, ky33⟩
   obtain ⟨s34, rfl, p34, n34⟩ := nwx s30 w33 47 ky33
   refine pu rfl rfl rfl rfl rfl ?_
   refine dn ?_
   refine cd rfl (fun h35 => ?_) (fun h35 => ?_)
   ·
    refine sr ?_
    refine pu rfl rfl rfl rfl rfl ?_
    refine dn ?_
    have K36 := ((K27.st p30 rfl).st p34 rfl)
    exact re rfl Try.func3 rfl (r_t rfl r_nil) rfl ⟨_, rfl, rfl, z.ky K36⟩
   ·
    refine sk ?_
    refine sr ?_
    refine pu rfl rfl rfl rfl rfl ?_
    refine dn ?_
    refine sr ?_
    refine mv v16_0 rfl rfl rfl rfl rfl rfl ?_
    refine pu rfl rfl rfl rfl rfl ?_
    have A38 := (A32.st p34 rfl)
    obtain ⟨os37, ho37, hn37, hc37⟩ := A38
    refine cl rfl rfl rfl rfl rfl Try.func14 rfl rfl rfl (fun r37 m37 => laws_markDeedS.calls r16 (1 : Int) s34.w (fun b => memb [] (s34.g b) = true) v16_0 os37 ho37 hn37 (apart_of hc37 rfl) r37 m37) ?_
    rintro r37 _ w37 m37 ⟨rfl, w37_, ky37⟩
    obtain ⟨s39, rfl, p39, A39⟩ := nwo 48 hc37 ky37 w37_
    refine pu rfl rfl rfl rfl rfl ?_
    refine dn ?_
    refine sq ?_
    refine sr ?_
    refine pu rfl rfl rfl rfl rfl ?_
    refine pu rfl rfl rfl rfl rfl ?_
    refine pu rfl rfl rfl rfl rfl ?_
    refine ji [] (fun (y41 : Bool) (e : Env) (w : World) => ∃ (s : St) (e0 : Env), w = s.w ∧ e = upd (upd (upd (upd e0 0 w0_0) 4 v11_0) 6 v19_0) 42 (.bool y41) ∧ Kp s0 s ∧ OwF (Kd.sl 3 (Kd.int .i64)) s [v11_0] r11 42 ∧ OwF (Kd.sl 3 (Kd.int .i64)) s [v19_0] r19 44) (fun Gj41 Kj41 => ?_) ?_
    ·
     rcases Bool.eq_false_or_eq_true (decide (r37.1 < (0 : Int))) with hb41 | hb41
     ·
      refine sbT hb41 ?_
      rw [if_pos hb41]
      refine uw rfl rfl rfl rfl ?_
      refine uw rfl rfl rfl rfl ?_
      refine uw rfl rfl rfl rfl ?_
      refine uw rfl rfl rfl rfl ?_
      refine pu rfl rfl rfl rfl rfl ?_
      have A42 := ((((A22.st p24 rfl).st p30 rfl).st p34 rfl).st p39 rfl)
      have A43 := ((((A19_0.st p24 rfl).st p30 rfl).st p34 rfl).st p39 rfl)
      have K44 := (((K27.st p30 rfl).st p34 rfl).st p39 rfl)
      exact Kj41 _ _ _ ⟨s39, _, rfl, (ue (ue (ue (ue rfl rfl) rfl) rfl) rfl), K44, A42, A43⟩
     ·
      refine sbT hb41 ?_
      rw [if_neg (by rw [hb41]; decide)]
      refine mv v19_0 rfl rfl rfl rfl rfl rfl ?_
      refine mv v11_0 rfl rfl rfl rfl rfl rfl ?_
      have A45 := ((((A19_0.st p24 rfl).st p30 rfl).st p34 rfl).st p39 rfl)
      have A46 := ((((A22.st p24 rfl).st p30 rfl).st p34 rfl).st p39 rfl)
      refine cl rfl rfl rfl rfl rfl Try.func12 rfl rfl rfl (fun r47 m47 => laws_eqIntS.calls r19 r11 s39.w (fun b => memb [44, 42] (s39.g b) = true) v19_0 v11_0 (A45.rd.sub (D := [44, 42]) rfl) (A46.rd.sub (D := [44, 42]) rfl) r47 m47) ?_
      rintro r47 _ w47 m47 ⟨rfl, ky47⟩
      obtain ⟨s48, rfl, p48, n48⟩ := nwx s39 w47 49 ky47
      refine pu rfl rfl rfl rfl rfl ?_
      refine pu rfl rfl rfl rfl rfl ?_
      have A49 := (A46.st p48 rfl)
      have A50 := (A45.st p48 rfl)
      have K51 := ((((K27.st p30 rfl).st p34 rfl).st p39 rfl).st p48 rfl)
      exact Kj41 _ _ _ ⟨s48, _, rfl, (ue (ue (ue (ue rfl rfl) rfl) rfl) rfl), K51, A49, A50⟩
    rintro y41 _ _ ⟨s52, _, rfl, rfl, Ky41, Cy41_13, Cy41_21⟩
    refine dn ?_
    refine cd rfl (fun h53 => ?_) (fun h53 => ?_)
    ·
     refine sr ?_
     refine pu rfl rfl rfl rfl rfl ?_
     refine dn ?_
     exact re rfl Try.func3 rfl (r_t rfl r_nil) rfl ⟨_, rfl, rfl, z.ky Ky41⟩
    ·
     refine sk ?_
     refine sr ?_
     refine pu rfl rfl rfl rfl rfl ?_
     refine dn ?_
     refine sr ?_
     refine mv v19_0 rfl rfl rfl rfl rfl rfl ?_
     refine pu rfl rfl rfl rfl rfl ?_
     obtain ⟨os54, ho54, hn54, hc54⟩ := Cy41_21
     refine cl rfl rfl rfl rfl rfl Try.func15 rfl rfl rfl (fun r54 m54 => laws_markIntS.calls r19 (1 : Int) s52.w (fun b => memb [] (s52.g b) = true) v19_0 os54 ho54 hn54 (apart_of hc54 rfl) r54 m54) ?_
     rintro r54 _ w54 m54 ⟨rfl, w54_, ky54⟩
     obtain ⟨s55, rfl, p55, A55⟩ := nwo 50 hc54 ky54 w54_
     refine pu rfl rfl rfl rfl rfl ?_
     refine dn ?_
     refine sr ?_
     refine pu rfl rfl rfl rfl rfl ?_
     refine dn ?_
     refine sr ?_
     refine mv v19_0 rfl rfl rfl rfl rfl rfl ?_
     refine pu rfl rfl rfl rfl rfl ?_
     refine cl rfl rfl rfl rfl rfl Try.func16 rfl rfl rfl (fun r57 m57 => laws_heldIntS.calls r54.2 (1 : Int) s55.w (fun b => memb [44] (s55.g b) = true) v19_0 A55.rd r57 m57) ?_
     rintro r57 _ w57 m57 ⟨rfl, ky57⟩
     obtain ⟨s58, rfl, p58, n58⟩ := nwx s55 w57 51 ky57
     refine pu rfl rfl rfl rfl rfl ?_
     refine dn ?_
     refine sq ?_
     refine sr ?_
     refine pu rfl rfl rfl rfl rfl ?_
     refine pu rfl rfl rfl rfl rfl ?_
     refine dn ?_
     refine cd rfl (fun h59 => ?_) (fun h59 => ?_)
     ·
      refine sr ?_
      refine pu rfl rfl rfl rfl rfl ?_
      refine dn ?_
      have K60 := ((Ky41.st p55 rfl).st p58 rfl)
      exact re rfl Try.func3 rfl (r_t rfl r_nil) rfl ⟨_, rfl, rfl, z.ky K60⟩
     ·
      refine sk ?_
      refine sq ?_
      refine sr ?_
      refine pu rfl rfl rfl rfl rfl ?_
      refine pu rfl rfl rfl rfl rfl ?_
      refine pu rfl rfl rfl rfl rfl ?_
      refine dn ?_
      refine cd rfl (fun h61 => ?_) (fun h61 => ?_)
      ·
       refine sr ?_
       refine pu rfl rfl rfl rfl rfl ?_
       refine dn ?_
       have K62 := ((Ky41.st p55 rfl).st p58 rfl)
       exact re rfl Try.func3 rfl (r_t rfl r_nil) rfl ⟨_, rfl, rfl, z.ky K62⟩
      ·
       refine sk ?_
       refine sr ?_
       refine mv w0_0 rfl rfl rfl rfl rfl rfl ?_
       have K63 := ((Ky41.st p55 rfl).st p58 rfl)
       have A64 := (A0_0.kp K63)
       refine cl rfl rfl rfl rfl rfl Try.func10 rfl rfl rfl (fun r65 m65 => laws_toDeedS.calls a0 s58.w (fun b => memb [0] (s58.g b) = true) w0_0 A64 r65 m65) ?_
       rintro r65 v65_0 w65 m65 ⟨f65_0, ky65⟩
       obtain ⟨s66, rfl, p66, n66⟩ := nwx s58 w65 52 ky65
       have A65_0 := f65_0.c n66
       refine cl rfl rfl rfl rfl rfl Try.func11 rfl rfl rfl (fun r68 m68 => impl_GraphRing.calls r65 s66.w (fun b => memb [52] (s66.g b) = true) v65_0 A65_0.rd r68 m68) ?_
       rintro r68 v68_0 w68 m68 ⟨f68_0, ky68⟩
       obtain ⟨s69, rfl, p69, n69⟩ := nwx s66 w68 53 ky68
       have A68_0 := f68_0.c n69
       refine asg v68_0 rfl rfl rfl rfl rfl rfl ?_
       refine dn ?_
       refine sq ?_
       refine sr ?_
       refine mv v68_0 rfl rfl rfl rfl rfl rfl ?_
       refine mv v11_0 rfl rfl rfl rfl rfl rfl ?_
       have A71 := ((((Cy41_13.st p55 rfl).st p58 rfl).st p66 rfl).st p69 rfl)
       refine cl rfl rfl rfl rfl rfl Try.func12 rfl rfl rfl (fun r72 m72 => laws_eqIntS.calls r68 r11 s69.w (fun b => memb [53, 42] (s69.g b) = true) v68_0 v11_0 (A68_0.rd.sub (D := [53, 42]) rfl) (A71.rd.sub (D := [53, 42]) rfl) r72 m72) ?_
       rintro r72 _ w72 m72 ⟨rfl, ky72⟩
       obtain ⟨s73, rfl, p73, n73⟩ := nwx s69 w72 54 ky72
       refine pu rfl rfl rfl rfl rfl ?_
       refine dn ?_
       refine cd rfl (fun h74 => ?_) (fun h74 => ?_)
       ·
        refine sr ?_
        refine pu rfl rfl rfl rfl rfl ?_
        refine dn ?_
        have K75 := (((K63.st p66 rfl).st p69 rfl).st p73 rfl)
        exact re rfl Try.func3 rfl (r_t rfl r_nil) rfl ⟨_, rfl, rfl, z.ky K75⟩
       ·
        refine sk ?_
        refine sr ?_
        refine pu rfl rfl rfl rfl rfl ?_
        refine dn ?_
        refine sr ?_
        refine mv v19_0 rfl rfl rfl rfl rfl rfl ?_
        refine pu rfl rfl rfl rfl rfl ?_
        have A76 := ((((A55.st p58 rfl).st p66 rfl).st p69 rfl).st p73 rfl)
        refine cl rfl rfl rfl rfl rfl Try.func16 rfl rfl rfl (fun r77 m77 => laws_heldIntS.calls r54.2 (1 : Int) s73.w (fun b => memb [44] (s73.g b) = true) v19_0 A76.rd r77 m77) ?_
        rintro r77 _ w77 m77 ⟨rfl, ky77⟩
        obtain ⟨s78, rfl, p78, n78⟩ := nwx s73 w77 55 ky77
        refine pu rfl rfl rfl rfl rfl ?_
        refine dn ?_
        refine sq ?_
        refine sr ?_
        refine pu rfl rfl rfl rfl rfl ?_
        refine pu rfl rfl rfl rfl rfl ?_
        refine dn ?_
        refine cd rfl (fun h79 => ?_) (fun h79 => ?_)
        ·
         refine sr ?_
         refine pu rfl rfl rfl rfl rfl ?_
         refine dn ?_
         have K80 := ((((K63.st p66 rfl).st p69 rfl).st p73 rfl).st p78 rfl)
         exact re rfl Try.func3 rfl (r_t rfl r_nil) rfl ⟨_, rfl, rfl, z.ky K80⟩
        ·
         refine sk ?_
         refine sq ?_
         refine sr ?_
         refine pu rfl rfl rfl rfl rfl ?_
         refine pu rfl rfl rfl rfl rfl ?_
         refine pu rfl rfl rfl rfl rfl ?_
         refine dn ?_
         refine cd rfl (fun h81 => ?_) (fun h81 => ?_)
         ·
          refine sr ?_
          refine pu rfl rfl rfl rfl rfl ?_
          refine dn ?_
          have K82 := ((((K63.st p66 rfl).st p69 rfl).st p73 rfl).st p78 rfl)
          exact re rfl Try.func3 rfl (r_t rfl r_nil) rfl ⟨_, rfl, rfl, z.ky K82⟩
         ·
          refine sk ?_
          refine sr ?_
          refine pu rfl rfl rfl rfl rfl ?_
          refine dn ?_
          have K83 := ((((K63.st p66 rfl).st p69 rfl).st p73 rfl).st p78 rfl)
          exact re rfl Try.func3 rfl (r_t rfl r_nil) rfl ⟨_, rfl, rfl, z.ky K83⟩
noncomputable def spec_l5in.f (a0 : Int) (a1 : Int) (a2 : Int) : Option (Bool) :=
 (some ((decide (a0 ≥ a1)) && (decide (a0 ≤ a2))))
def spec_l5in.Q (w : World) (F : Nat → Prop) (r : Bool) (v : Value) (w' : World) : Prop :=
 v = (.bool r) ∧ Ky [] w w'
set_option maxHeartbeats 4000000 in
set_option maxRecDepth 100000 in
theorem spec_l5in.calls (a0 : Int) (a1 : Int) (a2 : Int) (w : World) (F : Nat → Prop)   (r : Bool) (m : spec_l5in.f a0 a1 a2 = some r) :
  Calls Try.prog 135 #[(.int .i64 a0), (.int .i64 a1), (.int .i64 a2)] w fun en w' => ∃ v, en = .returned v ∧ spec_l5in.Q w F r v w' := by
 obtain ⟨s0, rfl, kp0, z⟩ := start0 w F
 refine calls_of_TM (args := [(.int .i64 a0), (.int .i64 a1), (.int .i64 a2)]) (R := fun r en w' => ∃ v, en = .returned v ∧ spec_l5in.Q s0.w F r v w') Try.func135 Try.ntmps135 rfl rfl m ?_
 unfold spec_l5in.f
 refine sr ?_
 refine pu rfl rfl rfl rfl rfl ?_
 refine dn ?_
 refine sr ?_
 refine pu rfl rfl rfl rfl rfl ?_
 refine pu rfl rfl rfl rfl rfl ?_
 refine pu rfl rfl rfl rfl rfl ?_
 refine pu rfl rfl rfl rfl rfl ?_
 refine jy [10, 11, 12, 13, 14] [8] 14 (.bool ((decide (a0 ≥ a1)) && (decide (a0 ≤ a2)))) rfl (fun Kg1 => ?_) (fun j1 => ?_)
 ·
  rcases Bool.eq_false_or_eq_true (decide (a0 ≥ a1)) with hb1 | hb1
  ·
   refine sbT hb1 ?_
   refine pu rfl rfl rfl rfl rfl ?_
   refine pu rfl rfl rfl rfl rfl ?_
   refine pu rfl rfl rfl rfl rfl ?_
   refine pu rfl rfl rfl rfl rfl ?_
   exact Kg1 _ (Ag.put ((Ag.put ((Ag.put ((Ag.put (Ag.base rfl) rfl)) rfl)) rfl)) rfl) (by rw [hb1]; rfl)
  ·
   refine sbT hb1 ?_
   refine uw rfl rfl rfl rfl ?_
   refine uw rfl rfl rfl rfl ?_
   refine uw rfl rfl rfl rfl ?_
   refine pu rfl rfl rfl rfl rfl ?_
   exact Kg1 _ (Ag.put ((Ag.put ((Ag.put ((Ag.put (Ag.base rfl) rfl)) rfl)) rfl)) rfl) (by rw [hb1]; rfl)
 refine pu rfl rfl rfl rfl rfl ?_
 refine dn ?_
 exact re rfl Try.func135 rfl (r_t rfl r_nil) rfl ⟨_, rfl, rfl, z.ky kp0⟩
noncomputable def laws_heldByteS.b0 (a0 : (List Int)) (x2 : Int × Int) : Option ((Int × Int) ⊕ Int) :=
 (if (decide (x2.2 < (a0.length : Int))) = true then (if 0 ≤ x2.2 ∧ x2.2 < (a0.length : Int) then (if ((at_ a0 x2.2) != (IntKind.wrap .u8 x2.1)) = true then (some (Sum.inr (-1 : Int))) else (some (Sum.inl ((IntKind.wrap .i64 (x2.1 + (1 : Int))), (IntKind.wrap .i64 (x2.2 + (1 : Int))))))) else none) else ((some x2.1).bind fun o => some (Sum.inr o)))
noncomputable def laws_heldByteS.f (a0 : (List Int)) (a1 : Int) : Option (Int) :=
 (iter (laws_heldByteS.b0 a0) (a1, (0 : Int)))
def laws_heldByteS.Q (w : World) (F : Nat → Prop) (r : Int) (v : Value) (w' : World) : Prop :=
 v = (.int .i64 r) ∧ Ky [] w w'
set_option maxHeartbeats 4000000 in
set_option maxRecDepth 100000 in
theorem laws_heldByteS.calls (a0 : (List Int)) (a1 : Int) (w : World) (F : Nat → Prop) (w0_0 : Value) (h0_0 : (Kd.sl 5 (Kd.int .u8)).rd w [w0_0] a0 F) (r : Int) (m : laws_heldByteS.f a0 a1 = some r) :
  Calls Try.prog 169 #[w0_0, (.int .i64 a1)] w fun en w' => ∃ v, en = .returned v ∧ laws_heldByteS.Q w F r v w' := by
 obtain ⟨s0, rfl, kp0, z⟩ := start0 w F
 have A0_0 := z.rd h0_0
 refine calls_of_TM (args := [w0_0, (.int .i64 a1)]) (R := fun r en w' => ∃ v, en = .returned v ∧ laws_heldByteS.Q s0.w F r v w') Try.func169 Try.ntmps169 rfl rfl m ?_
 unfold laws_heldByteS.f
 refine sr ?_
 refine pu rfl rfl rfl rfl rfl ?_
 refine dn ?_
 refine sq ?_
 refine sr ?_
 refine pu rfl rfl rfl rfl rfl ?_
 refine dn ?_
 refine bl ?_
 refine lpI (fun (x2 : Int × Int) (e : Env) (w : World) => ∃ (s : St) (e0 : Env), w = s.w ∧ e = upd (upd (upd e0 0 w0_0) 1 (.int .i64 x2.1)) 5 (.int .i64 x2.2) ∧ Kp s0 s) ⟨s0, _, rfl, (ue (ue (ue rfl rfl) rfl) rfl), kp0⟩ (fun g2 ih2 => ?_)
 rintro x2 _ _ ⟨s3, _, rfl, rfl, Kx2⟩
 unfold laws_heldByteS.b0
 refine sq ?_
 refine sr ?_
 refine pu rfl rfl rfl rfl rfl ?_
 refine mv w0_0 rfl rfl rfl rfl rfl rfl ?_
 have A4 := (A0_0.kp Kx2)
 refine ln A4 Try.underlying37 rfl rfl rfl rfl rfl rfl ?_
 refine pu rfl rfl rfl rfl rfl ?_
 refine dn ?_
 refine cd rfl (fun h5 => ?_) (fun h5 => ?_)
 ·
  refine sk ?_
  refine sq ?_
  refine bl ?_
  refine sq ?_
  refine sr ?_
  refine mv w0_0 rfl rfl rfl rfl rfl rfl ?_
  refine pu rfl rfl rfl rfl rfl ?_
  refine ix A4 Try.underlying37 z5 rfl rfl rfl rfl rfl rfl rfl rfl (fun ad6 es6 h0_6 h1_6 he6 ce6 ia6 => ?_)
  obtain rfl := he6
  refine lc0 ce6 Try.underlying5 rfl rfl rfl rfl rfl rfl rfl rfl ?_
  refine pu rfl rfl rfl rfl rfl ?_
  refine cv Try.underlying5 Try.underlying3 rfl rfl rfl rfl rfl rfl ?_
  refine pu rfl rfl rfl rfl rfl ?_
  refine dn ?_
  refine cd rfl (fun h8 => ?_) (fun h8 => ?_)
  ·
   refine sr ?_
   refine pu rfl rfl rfl rfl rfl ?_
   refine dn ?_
   refine sgi ?_
   exact re rfl Try.func169 rfl (r_t rfl r_nil) rfl ⟨_, rfl, rfl, z.ky Kx2⟩
  ·
   refine sk ?_
   refine rg ?_
   refine pu rfl rfl rfl rfl rfl ?_
   refine pu rfl rfl rfl rfl rfl ?_
   refine pu rfl rfl rfl rfl rfl ?_
   refine dn ?_
   refine ib ?_
   refine rg ?_
   refine pu rfl rfl rfl rfl rfl ?_
   refine pu rfl rfl rfl rfl rfl ?_
   refine pu rfl rfl rfl rfl rfl ?_
   refine dn ?_
   exact lb ih2 ⟨s3, _, rfl, (ue (ue (ue rfl rfl) rfl) rfl), Kx2⟩
 ·
  refine xt rfl ?_
  refine sgb ?_
  refine sr ?_
  refine pu rfl rfl rfl rfl rfl ?_
  refine pu rfl rfl rfl rfl rfl ?_
  refine dn ?_
  exact re rfl Try.func169 rfl (r_t rfl r_nil) rfl ⟨_, rfl, rfl, z.ky Kx2⟩
end Go.Proofs.Ytcagjdngannneaa
