/- The functions as models, and that the calls come to what the models tell. -/
import Derived.Test.YtcagjdngannneaaXsa
set_option linter.unusedVariables false
set_option linter.unusedSimpArgs false
namespace Go.Proofs.Ytcagjdngannneaa
open Go V
noncomputable def spec_TracksOk.b3 (a0 : (List Track)) (x3 : Int) (x71 : Int) : Option (Int ⊕ (Int ⊕ Bool)) :=
 (if (decide (x71 < x3)) = true then (if 0 ≤ x71 ∧ x71 < (a0.length : Int) then (if ((at_ a0 x71).Xid == (at_ a0 x3).Xid) = true then (some (Sum.inr (Sum.inr false))) else (some (Sum.inl (IntKind.wrap .i64 (x71 + (1 : Int)))))) else none) else ((some (Sum.inl (IntKind.wrap .i64 (x3 + (1 : Int))))).bind fun o => some (Sum.inr o)))
noncomputable def spec_TracksOk.b2 (a0 : (List Track)) (x3 : Int) (x56 : Int) : Option (Int ⊕ (Int ⊕ Bool)) :=
 (if (decide (x56 < (((at_ a0 x3).Writes).length : Int))) = true then (if 0 ≤ x56 ∧ x56 < (((at_ a0 x3).Writes).length : Int) then ((spec_KeyOk.f (at_ ((at_ a0 x3).Writes) x56)).bind fun r63 => (if (!r63) = true then (some (Sum.inr (Sum.inr false))) else (some (Sum.inl (IntKind.wrap .i64 (x56 + (1 : Int))))))) else none) else ((iter (spec_TracksOk.b3 a0 x3) (0 : Int)).bind fun o => some (Sum.inr o)))
noncomputable def spec_TracksOk.b1 (a0 : (List Track)) (x3 : Int) (x36 : Int) : Option (Int ⊕ (Int ⊕ Bool)) :=
 (if (decide (x36 < (((at_ a0 x3).Reads).length : Int))) = true then (if 0 ≤ x36 ∧ x36 < (((at_ a0 x3).Reads).length : Int) then ((spec_SpanOk.f (Span.mk ((at_ ((at_ a0 x3).Reads) x36).From) ((at_ ((at_ a0 x3).Reads) x36).To))).bind fun r48 => (if (!r48) = true then (some (Sum.inr (Sum.inr false))) else (some (Sum.inl (IntKind.wrap .i64 (x36 + (1 : Int))))))) else none) else ((iter (spec_TracksOk.b2 a0 x3) (0 : Int)).bind fun o => some (Sum.inr o)))
noncomputable def spec_TracksOk.b0 (a0 : (List Track)) (x3 : Int) : Option (Int ⊕ Bool) :=
 (if (decide (x3 < (a0.length : Int))) = true then (if 0 ≤ x3 ∧ x3 < (a0.length : Int) then ((spec_l5in.f ((at_ a0 x3).Xid) (1 : Int) (400 : Int)).bind fun r17 => (if ((((((!r17) || (decide ((at_ a0 x3).Begun < (1 : Int)))) || (((at_ a0 x3).Ended != (0 : Int)) && (decide ((at_ a0 x3).Ended ≤ (at_ a0 x3).Begun)))) || (decide ((((at_ a0 x3).Reads).length : Int) > (6 : Int)))) || ((at_ a0 x3).All && (decide ((((at_ a0 x3).Reads).length : Int) > (0 : Int))))) || (decide ((((at_ a0 x3).Writes).length : Int) > (200 : Int)))) = true then (some (Sum.inr false)) else (iter (spec_TracksOk.b1 a0 x3) (0 : Int)))) else none) else ((some true).bind fun o => some (Sum.inr o)))
noncomputable def spec_TracksOk.f (a0 : (List Track)) : Option (Bool) :=
 (if (decide ((a0.length : Int) > (64 : Int))) = true then (some false) else (iter (spec_TracksOk.b0 a0) (0 : Int)))
def spec_TracksOk.Q (w : World) (F : Nat → Prop) (r : Bool) (v : Value) (w' : World) : Prop :=
 v = (.bool r) ∧ Ky [] w w'
set_option maxHeartbeats 4000000 in
set_option maxRecDepth 100000 in
theorem spec_TracksOk.calls (a0 : (List Track)) (w : World) (F : Nat → Prop) (w0_0 : Value) (h0_0 : (Kd.sl 59 kd59).rd w [w0_0] a0 F) (r : Bool) (m : spec_TracksOk.f a0 = some r) :
  Calls Try.prog 96 #[w0_0] w (RT (spec_TracksOk.Q w F) r) := by
 obtain ⟨s0, rfl, kp0, z⟩ := start0 w F
 have A0_0 := z.rd h0_0
 refine calls_of_TM (args := [w0_0]) Try.func96 Try.ntmps96 rfl rfl m ?_
 unfold spec_TracksOk.f
 refine sr (pu' rfl (dn (sq (sr (mv' w0_0 rfl (ln' A0_0 Try.underlying62 rfl (pu' rfl (dn (cd rfl (fun h2 => ?_) (fun h2 => ?_))))))))))
 ·
  exact sr (pu' rfl (dn (re rfl Try.func96 rfl (r_t rfl r_nil) rfl ⟨_, rfl, rfl, z.ky kp0⟩)))
 ·
  refine sk (sq (sr (pu' rfl (dn (bl (lpI (fun (x3 : Int) (e : Env) (w : World) => ∃ (s : St) (e0 : Env), w = s.w ∧ e = upd (upd e0 0 w0_0) 3 (.int .i64 x3) ∧ Kp s0 s) ⟨s0, _, rfl, (ue (ue rfl rfl) rfl), kp0⟩ (fun g3 ih3 => ?_)))))))
  rintro x3 _ _ ⟨s4, _, rfl, rfl, Kx3⟩
  unfold spec_TracksOk.b0
  refine sq (sr (pu' rfl (mv' w0_0 rfl ?_)))
  have A5 := (A0_0.kp Kx3)
  refine ln' A5 Try.underlying62 rfl (pu' rfl (dn (cd rfl (fun h6 => ?_) (fun h6 => ?_))))
  ·
   refine sk (sq (bl (sr (mv' w0_0 rfl (pu' rfl (ix' A5 Try.underlying62 z59 rfl (fun ad7 es7 h0_7 h1_7 he7 ce7 ia7 => ?_)))))))
   obtain ⟨v7_0, v7_1, rfl, A7_0, A7_1⟩ := op59 he7
   refine lca' ce7 Try.underlying59 z59 rfl (al (cs := [(.int .i64 (0 : Int)), (.int .i64 (0 : Int)), (.int .i64 (0 : Int)), (.bool false), (.slice none 0 0), (.slice none 0 0), (.bool false), (.bool false)]) 40 rfl rfl rfl rfl rfl o59 rfl (fun b11 s11 p11 B11 => ?_))
   have A13 := (A7_1.st p11 rfl)
   have A14 := (A7_0.st p11 rfl)
   refine sva (vs := [(.int .i64 ((at_ a0 x3).Xid)), (.int .i64 ((at_ a0 x3).Begun)), (.int .i64 ((at_ a0 x3).Ended)), (.bool ((at_ a0 x3).All)), v7_0, v7_1, (.bool ((at_ a0 x3).In)), (.bool ((at_ a0 x3).Out))]) B11 z59 rfl rfl rfl rfl rfl rfl (on_cons rfl (on_cons rfl (on_cons rfl (on_cons rfl (on_cons A14.one (on_cons A13.one (on_cons rfl (on_cons rfl on_nil)))))))) rfl (fun s15 p15 B15 => ?_)
   refine dn (sq (sr (fa' fa59_0 rfl (ld' B15 Try.underlying3 rfl (cl' rfl Try.func135 rfl (fun r17 m17 => spec_l5in.calls ((at_ a0 x3).Xid) (1 : Int) (400 : Int) s15.w (fun b => memb [] (s15.g b) = true)  r17 m17) ?_)))))
   rintro r17 _ w17 m17 ⟨rfl, ky17⟩
   obtain ⟨s18, rfl, p18, n18⟩ := nwx s15 w17 41 ky17
   refine pu' rfl (pu' rfl (jy [25, 26, 27, 28, 29] [9, 10, 11, 12, 13, 14, 15, 16, 17, 18, 19, 20, 21, 22, 23, 24, 25, 26, 27, 28, 29, 30, 31, 32, 33, 34, 35, 36, 37, 38, 39, 40, 41, 42] 29 (.bool ((!r17) || (decide ((at_ a0 x3).Begun < (1 : Int))))) rfl (fun Kg19 => ?_) (fun j19 => ?_)))
   ·
    rcases Bool.eq_false_or_eq_true (!r17) with hb19 | hb19
    ·
     exact sbT hb19 (uw' rfl (uw' rfl (uw' rfl (pu' rfl (Kg19 _ (Ag.put ((Ag.put ((Ag.put ((Ag.put (Ag.base rfl) rfl)) rfl)) rfl)) rfl) (by rw [hb19]; rfl))))))
    ·
     refine sbT hb19 (fa' fa59_1 rfl ?_)
     have A20 := (BlF.st B15 p18 rfl)
     exact ld' A20 Try.underlying3 rfl (pu' rfl (pu' rfl (Kg19 _ (Ag.put ((Ag.put ((Ag.put ((Ag.put (Ag.base rfl) rfl)) rfl)) rfl)) rfl) (by rw [hb19]; rfl))))
   refine pu' rfl (jy [30, 31, 32, 33, 34, 35, 36, 37, 38, 39, 40, 41] [21, 22, 23, 24, 25, 26, 27, 28, 29, 30, 31, 32, 33, 34, 35, 36, 37, 38, 39, 40, 41, 42] 41 (.bool (((!r17) || (decide ((at_ a0 x3).Begun < (1 : Int)))) || (((at_ a0 x3).Ended != (0 : Int)) && (decide ((at_ a0 x3).Ended ≤ (at_ a0 x3).Begun))))) rfl (fun Kg21 => ?_) (fun j21 => ?_))
   ·
    rcases Bool.eq_false_or_eq_true ((!r17) || (decide ((at_ a0 x3).Begun < (1 : Int)))) with hb21 | hb21
    ·
     exact sbT hb21 (uw' rfl (uw' rfl (uw' rfl (uw' rfl (uw' rfl (uw' rfl (uw' rfl (uw' rfl (uw' rfl (uw' rfl (pu' rfl (Kg21 _ (Ag.put ((Ag.put ((Ag.put ((Ag.put ((Ag.put ((Ag.put ((Ag.put ((Ag.put ((Ag.put ((Ag.put ((Ag.put (Ag.base rfl) rfl)) rfl)) rfl)) rfl)) rfl)) rfl)) rfl)) rfl)) rfl)) rfl)) rfl) (by rw [hb21]; rfl)))))))))))))
    ·
     refine sbT hb21 (fa' fa59_2 rfl ?_)
     have A22 := (BlF.st B15 p18 rfl)
     refine ld' A22 Try.underlying3 rfl (pu' rfl (pu' rfl (jy [34, 35, 36, 37, 38, 39, 40] [20, 21, 22, 23, 24, 25, 26, 27, 28, 29, 30, 31, 32, 33, 34, 35, 36, 37, 38, 39, 40, 41, 42] 40 (.bool (((at_ a0 x3).Ended != (0 : Int)) && (decide ((at_ a0 x3).Ended ≤ (at_ a0 x3).Begun)))) rfl (fun Kg23 => ?_) (fun j23 => ?_))))
     ·
      rcases Bool.eq_false_or_eq_true ((at_ a0 x3).Ended != (0 : Int)) with hb23 | hb23
      ·
       exact sbT hb23 (fa' fa59_2 rfl (ld' A22 Try.underlying3 rfl (fa' fa59_1 rfl (ld' A22 Try.underlying3 rfl (pu' rfl (pu' rfl (Kg23 _ (Ag.put ((Ag.put ((Ag.put ((Ag.put ((Ag.put ((Ag.put (Ag.base rfl) rfl)) rfl)) rfl)) rfl)) rfl)) rfl) (by rw [hb23]; rfl))))))))
      ·
       exact sbT hb23 (uw' rfl (uw' rfl (uw' rfl (uw' rfl (uw' rfl (pu' rfl (Kg23 _ (Ag.put ((Ag.put ((Ag.put ((Ag.put ((Ag.put ((Ag.put (Ag.base rfl) rfl)) rfl)) rfl)) rfl)) rfl)) rfl) (by rw [hb23]; rfl))))))))
     exact pu' rfl (Kg21 _ (Ag.put ((Ag.put ((Ag.ov ((Ag.put ((Ag.put ((Ag.put ((Ag.put (Ag.base rfl) rfl)) rfl)) rfl)) rfl)) rfl)) rfl)) rfl) (by rw [hb21]; rfl))
   refine pu' rfl (jy [42, 43, 44, 45, 46, 47] [27, 28, 29, 30, 31, 32, 33, 34, 35, 36, 37, 38, 39, 40, 41, 42] 47 (.bool ((((!r17) || (decide ((at_ a0 x3).Begun < (1 : Int)))) || (((at_ a0 x3).Ended != (0 : Int)) && (decide ((at_ a0 x3).Ended ≤ (at_ a0 x3).Begun)))) || (decide ((((at_ a0 x3).Reads).length : Int) > (6 : Int))))) rfl (fun Kg24 => ?_) (fun j24 => ?_))
   ·
    rcases Bool.eq_false_or_eq_true (((!r17) || (decide ((at_ a0 x3).Begun < (1 : Int)))) || (((at_ a0 x3).Ended != (0 : Int)) && (decide ((at_ a0 x3).Ended ≤ (at_ a0 x3).Begun)))) with hb24 | hb24
    ·
     exact sbT hb24 (uw' rfl (uw' rfl (uw' rfl (uw' rfl (pu' rfl (Kg24 _ (Ag.put ((Ag.put ((Ag.put ((Ag.put ((Ag.put (Ag.base rfl) rfl)) rfl)) rfl)) rfl)) rfl) (by rw [hb24]; rfl)))))))
    ·
     refine sbT hb24 (fa' fa59_4 rfl ?_)
     have A25 := (BlF.st B15 p18 rfl)
     refine ld' A25 Try.underlying56 rfl ?_
     have A26 := (A14.st (tr2 p15 p18) rfl)
     exact ln' A26 Try.underlying56 rfl (pu' rfl (pu' rfl (Kg24 _ (Ag.put ((Ag.put ((Ag.put ((Ag.put ((Ag.put (Ag.base rfl) rfl)) rfl)) rfl)) rfl)) rfl) (by rw [hb24]; rfl))))
   refine pu' rfl (jy [48, 49, 50, 51, 52, 53, 54, 55, 56, 57] [37, 38, 39, 40, 41, 42] 57 (.bool (((((!r17) || (decide ((at_ a0 x3).Begun < (1 : Int)))) || (((at_ a0 x3).Ended != (0 : Int)) && (decide ((at_ a0 x3).Ended ≤ (at_ a0 x3).Begun)))) || (decide ((((at_ a0 x3).Reads).length : Int) > (6 : Int)))) || ((at_ a0 x3).All && (decide ((((at_ a0 x3).Reads).length : Int) > (0 : Int)))))) rfl (fun Kg27 => ?_) (fun j27 => ?_))
   ·
    rcases Bool.eq_false_or_eq_true ((((!r17) || (decide ((at_ a0 x3).Begun < (1 : Int)))) || (((at_ a0 x3).Ended != (0 : Int)) && (decide ((at_ a0 x3).Ended ≤ (at_ a0 x3).Begun)))) || (decide ((((at_ a0 x3).Reads).length : Int) > (6 : Int)))) with hb27 | hb27
    ·
     exact sbT hb27 (uw' rfl (uw' rfl (uw' rfl (uw' rfl (uw' rfl (uw' rfl (uw' rfl (uw' rfl (pu' rfl (Kg27 _ (Ag.put ((Ag.put ((Ag.put ((Ag.put ((Ag.put ((Ag.put ((Ag.put ((Ag.put ((Ag.put (Ag.base rfl) rfl)) rfl)) rfl)) rfl)) rfl)) rfl)) rfl)) rfl)) rfl) (by rw [hb27]; rfl)))))))))))
    ·
     refine sbT hb27 (fa' fa59_3 rfl ?_)
     have A28 := (BlF.st B15 p18 rfl)
     refine ld' A28 Try.underlying4 rfl (pu' rfl (jy [51, 52, 53, 54, 55, 56] [36, 37, 38, 39, 40, 41, 42] 56 (.bool ((at_ a0 x3).All && (decide ((((at_ a0 x3).Reads).length : Int) > (0 : Int))))) rfl (fun Kg29 => ?_) (fun j29 => ?_)))
     ·
      rcases Bool.eq_false_or_eq_true ((at_ a0 x3).All) with hb29 | hb29
      ·
       refine sbT hb29 (fa' fa59_4 rfl (ld' A28 Try.underlying56 rfl ?_))
       have A30 := (A14.st (tr2 p15 p18) rfl)
       exact ln' A30 Try.underlying56 rfl (pu' rfl (pu' rfl (Kg29 _ (Ag.put ((Ag.put ((Ag.put ((Ag.put ((Ag.put (Ag.base rfl) rfl)) rfl)) rfl)) rfl)) rfl) (by rw [hb29]; rfl))))
      ·
       exact sbT hb29 (uw' rfl (uw' rfl (uw' rfl (uw' rfl (pu' rfl (Kg29 _ (Ag.put ((Ag.put ((Ag.put ((Ag.put ((Ag.put (Ag.base rfl) rfl)) rfl)) rfl)) rfl)) rfl) (by rw [hb29]; rfl)))))))
     exact pu' rfl (Kg27 _ (Ag.put ((Ag.put ((Ag.ov ((Ag.put ((Ag.put ((Ag.put (Ag.base rfl) rfl)) rfl)) rfl)) rfl)) rfl)) rfl) (by rw [hb27]; rfl))
   refine pu' rfl (jy [58, 59, 60, 61, 62, 63] [] 63 (.bool ((((((!r17) || (decide ((at_ a0 x3).Begun < (1 : Int)))) || (((at_ a0 x3).Ended != (0 : Int)) && (decide ((at_ a0 x3).Ended ≤ (at_ a0 x3).Begun)))) || (decide ((((at_ a0 x3).Reads).length : Int) > (6 : Int)))) || ((at_ a0 x3).All && (decide ((((at_ a0 x3).Reads).length : Int) > (0 : Int))))) || (decide ((((at_ a0 x3).Writes).length : Int) > (200 : Int))))) rfl (fun Kg31 => ?_) (fun j31 => ?_))
   ·
    rcases Bool.eq_false_or_eq_true (((((!r17) || (decide ((at_ a0 x3).Begun < (1 : Int)))) || (((at_ a0 x3).Ended != (0 : Int)) && (decide ((at_ a0 x3).Ended ≤ (at_ a0 x3).Begun)))) || (decide ((((at_ a0 x3).Reads).length : Int) > (6 : Int)))) || ((at_ a0 x3).All && (decide ((((at_ a0 x3).Reads).length : Int) > (0 : Int))))) with hb31 | hb31
    ·
     exact sbT hb31 (uw' rfl (uw' rfl (uw' rfl (uw' rfl (pu' rfl (Kg31 _ (Ag.put ((Ag.put ((Ag.put ((Ag.put ((Ag.put (Ag.base rfl) rfl)) rfl)) rfl)) rfl)) rfl) (by rw [hb31]; rfl)))))))
    ·
     refine sbT hb31 (fa' fa59_5 rfl ?_)
     have A32 := (BlF.st B15 p18 rfl)
     refine ld' A32 Try.underlying57 rfl ?_
     have A33 := (A13.st (tr2 p15 p18) rfl)
     exact ln' A33 Try.underlying57 rfl (pu' rfl (pu' rfl (Kg31 _ (Ag.put ((Ag.put ((Ag.put ((Ag.put ((Ag.put (Ag.base rfl) rfl)) rfl)) rfl)) rfl)) rfl) (by rw [hb31]; rfl))))
   refine dn (cd rfl (fun h34 => ?_) (fun h34 => ?_))
   ·
    refine sr (pu' rfl (dn (sgi ?_)))
    have K35 := (Kx3.st (tr3 p11 p15 p18) rfl)
    exact re rfl Try.func96 rfl (r_t rfl r_nil) rfl ⟨_, rfl, rfl, z.ky K35⟩
   ·
    refine sk (sq (sr (pu' rfl (dn (bl ?_)))))
    have A37 := (BlF.st B15 p18 rfl)
    have A38 := (A14.st (tr2 p15 p18) rfl)
    have A39 := (A13.st (tr2 p15 p18) rfl)
    have K40 := (Kx3.st (tr3 p11 p15 p18) rfl)
    refine lpI (fun (x36 : Int) (e : Env) (w : World) => ∃ (s : St) (e0 : Env), w = s.w ∧ e = upd (upd (upd (upd e0 0 w0_0) 3 (.int .i64 x3)) 4 (.pointer (some ⟨b11, 0, none⟩))) 5 (.int .i64 x36) ∧ Kp s0 s ∧ BlF s b11 59 [(.int .i64 ((at_ a0 x3).Xid)), (.int .i64 ((at_ a0 x3).Begun)), (.int .i64 ((at_ a0 x3).Ended)), (.bool ((at_ a0 x3).All)), v7_0, v7_1, (.bool ((at_ a0 x3).In)), (.bool ((at_ a0 x3).Out))] 40 ∧ RdF (Kd.sl 80 kd80) s [v7_0] ((at_ a0 x3).Reads) [0] ∧ RdF (Kd.sl 48 kd48) s [v7_1] ((at_ a0 x3).Writes) [0]) ⟨s18, _, rfl, (ue (ue (ue (ue rfl rfl) rfl) rfl) rfl), K40, A37, A38, A39⟩ (fun g36 ih36 => ?_)
    rintro x36 _ _ ⟨s41, _, rfl, rfl, Kx36, Bx36_b11, Cx36_8, Cx36_9⟩
    unfold spec_TracksOk.b1
    refine sq (sr (pu' rfl (fa' fa59_4 rfl (ld' Bx36_b11 Try.underlying56 rfl (ln' Cx36_8 Try.underlying56 rfl (pu' rfl (dn (cd rfl (fun h43 => ?_) (fun h43 => ?_)))))))))
    ·
     refine sk (sq (bl (sr (fa' fa59_4 rfl (ld' Bx36_b11 Try.underlying56 rfl (pu' rfl (ix' Cx36_8 Try.underlying56 z80 rfl (fun ad44 es44 h0_44 h1_44 he44 ce44 ia44 => ?_))))))))
     obtain ⟨v44_0, v44_1, v44_2, v44_3, rfl, A44_0, A44_1, A44_2, A44_3⟩ := op80 he44
     refine lca' ce44 Try.underlying80 z80 rfl (cl' rfl Try.func107 rfl (fun r48 m48 => spec_SpanOk.calls (Span.mk ((at_ ((at_ a0 x3).Reads) x36).From) ((at_ ((at_ a0 x3).Reads) x36).To)) s41.w (fun b => memb [0] (s41.g b) = true) v44_0 v44_1 v44_2 v44_3 ((fl_rdf (s := s41) A44_0).sub (D := [0]) rfl) A44_1 ((fl_rdf (s := s41) A44_2).sub (D := [0]) rfl) A44_3 r48 m48) ?_)
     rintro r48 _ w48 m48 ⟨rfl, ky48⟩
     obtain ⟨s49, rfl, p49, n49⟩ := nwx s41 w48 42 ky48
     refine pu' rfl (dn (cd rfl (fun h50 => ?_) (fun h50 => ?_)))
     ·
      refine sr (pu' rfl (dn (sgi (sgi ?_))))
      have K51 := (Kx36.st p49 rfl)
      exact re rfl Try.func96 rfl (r_t rfl r_nil) rfl ⟨_, rfl, rfl, z.ky K51⟩
     ·
      refine sk (ib (rg (pu' rfl (pu' rfl (pu' rfl (dn ?_))))))
      have A52 := (BlF.st Bx36_b11 p49 rfl)
      have A53 := (Cx36_8.st p49 rfl)
      have A54 := (Cx36_9.st p49 rfl)
      have K55 := (Kx36.st p49 rfl)
      exact lb ih36 ⟨s49, _, rfl, (ue (ue (ue (ue rfl rfl) rfl) rfl) rfl), K55, A52, A53, A54⟩
    ·
     refine xt rfl (sgb (sq (sr (pu' rfl (dn (bl (lpI (fun (x56 : Int) (e : Env) (w : World) => ∃ (s : St) (e0 : Env), w = s.w ∧ e = upd (upd (upd (upd e0 0 w0_0) 3 (.int .i64 x3)) 4 (.pointer (some ⟨b11, 0, none⟩))) 6 (.int .i64 x56) ∧ Kp s0 s ∧ BlF s b11 59 [(.int .i64 ((at_ a0 x3).Xid)), (.int .i64 ((at_ a0 x3).Begun)), (.int .i64 ((at_ a0 x3).Ended)), (.bool ((at_ a0 x3).All)), v7_0, v7_1, (.bool ((at_ a0 x3).In)), (.bool ((at_ a0 x3).Out))] 40 ∧ RdF (Kd.sl 80 kd80) s [v7_0] ((at_ a0 x3).Reads) [0] ∧ RdF (Kd.sl 48 kd48) s [v7_1] ((at_ a0 x3).Writes) [0]) ⟨s41, _, rfl, (ue (ue (ue (ue rfl rfl) rfl) rfl) rfl), Kx36, Bx36_b11, Cx36_8, Cx36_9⟩ (fun g56 ih56 => ?_))))))))
     rintro x56 _ _ ⟨s57, _, rfl, rfl, Kx56, Bx56_b11, Cx56_8, Cx56_9⟩
     unfold spec_TracksOk.b2
     refine sq (sr (pu' rfl (fa' fa59_5 rfl (ld' Bx56_b11 Try.underlying57 rfl (ln' Cx56_9 Try.underlying57 rfl (pu' rfl (dn (cd rfl (fun h59 => ?_) (fun h59 => ?_)))))))))
     ·
      refine sk (sq (bl (sr (fa' fa59_5 rfl (ld' Bx56_b11 Try.underlying57 rfl (pu' rfl (ix' Cx56_9 Try.underlying57 z48 rfl (fun ad60 es60 h0_60 h1_60 he60 ce60 ia60 => ?_))))))))
      obtain ⟨v60_0, v60_1, rfl, A60_0, A60_1⟩ := op48 he60
      refine lca' ce60 Try.underlying48 z48 rfl (cl' rfl Try.func120 rfl (fun r63 m63 => spec_KeyOk.calls (at_ ((at_ a0 x3).Writes) x56) s57.w (fun b => memb [0] (s57.g b) = true) v60_0 v60_1 ((fl_rdf (s := s57) A60_0).sub (D := [0]) rfl) A60_1 r63 m63) ?_)
      rintro r63 _ w63 m63 ⟨rfl, ky63⟩
      obtain ⟨s64, rfl, p64, n64⟩ := nwx s57 w63 43 ky63
      refine pu' rfl (dn (cd rfl (fun h65 => ?_) (fun h65 => ?_)))
      ·
       refine sr (pu' rfl (dn (sgi (sgi ?_))))
       have K66 := (Kx56.st p64 rfl)
       exact re rfl Try.func96 rfl (r_t rfl r_nil) rfl ⟨_, rfl, rfl, z.ky K66⟩
      ·
       refine sk (ib (rg (pu' rfl (pu' rfl (pu' rfl (dn ?_))))))
       have A67 := (BlF.st Bx56_b11 p64 rfl)
       have A68 := (Cx56_8.st p64 rfl)
       have A69 := (Cx56_9.st p64 rfl)
       have K70 := (Kx56.st p64 rfl)
       exact lb ih56 ⟨s64, _, rfl, (ue (ue (ue (ue rfl rfl) rfl) rfl) rfl), K70, A67, A68, A69⟩
     ·
      refine xt rfl (sgb (sr (pu' rfl (dn (bl (lpI (fun (x71 : Int) (e : Env) (w : World) => ∃ (s : St) (e0 : Env), w = s.w ∧ e = upd (upd (upd (upd e0 0 w0_0) 3 (.int .i64 x3)) 4 (.pointer (some ⟨b11, 0, none⟩))) 7 (.int .i64 x71) ∧ Kp s0 s ∧ BlF s b11 59 [(.int .i64 ((at_ a0 x3).Xid)), (.int .i64 ((at_ a0 x3).Begun)), (.int .i64 ((at_ a0 x3).Ended)), (.bool ((at_ a0 x3).All)), v7_0, v7_1, (.bool ((at_ a0 x3).In)), (.bool ((at_ a0 x3).Out))] 40 ∧ RdF (Kd.sl 80 kd80) s [v7_0] ((at_ a0 x3).Reads) [0] ∧ RdF (Kd.sl 48 kd48) s [v7_1] ((at_ a0 x3).Writes) [0]) ⟨s57, _, rfl, (ue (ue (ue (ue rfl rfl) rfl) rfl) rfl), Kx56, Bx56_b11, Cx56_8, Cx56_9⟩ (fun g71 ih71 => ?_)))))))
      rintro x71 _ _ ⟨s72, _, rfl, rfl, Kx71, Bx71_b11, Cx71_8, Cx71_9⟩
      unfold spec_TracksOk.b3
      refine sq (sr (pu' rfl (pu' rfl (pu' rfl (dn (cd rfl (fun h74 => ?_) (fun h74 => ?_)))))))
      ·
       refine sk (sq (bl (sq (zdraw [[], [], [0, 1], [2], [3], [], [5], [4, 6]] [some 97, some 98, some 99, some 100, some 101, some 102, some 103, some 104] [[0], [7], [97, 98], [99], [100], [4], [102], [101, 103]] [0, 1, 2, 3, 4, 5, 6, 7] ⟨by kernel_rfl, by kernel_rfl, by kernel_rfl⟩ (by kernel_rfl) (fun s75 p75 l75 tb75 zd75 => ?_)))))
       have zd76 := zd75.add 0 97 w0_0 rfl
       have zd77 := zd76.add 1 98 (.int .i64 x71) rfl
       have K78 := (Kx71.st p75 rfl)
       have A79 := (A0_0.kp K78)
       refine mg fun hg80 => ?_
       obtain ⟨ad80, es80, he80, ce80, ia80⟩ := ix_e A79 rfl hg80.1 hg80.2
       have h0_80 := hg80.1
       have h1_80 := hg80.2
       obtain ⟨v80_0, v80_1, rfl, A80_0, A80_1⟩ := op59 he80
       have zd84 := zd77.add 2 99 (.pointer (some ad80)) rfl
       have zd85 := zd84.add 3 100 (.pointer (some ad80)) rfl
       have zd86 := zd85.add 4 101 (.int .i64 ((at_ a0 x71).Xid)) rfl
       have zd87 := zd86.add 5 102 (.pointer (some ⟨b11, 0, none⟩)) rfl
       have A88 := (BlF.st Bx71_b11 p75 rfl)
       have zd89 := zd87.add 6 103 (.int .i64 ((at_ a0 x3).Xid)) rfl
       have A90 := (BlF.st Bx71_b11 p75 rfl)
       refine zfin [7] tb75 zd89 (pq_cons (ld_q' A90 Try.underlying3 rfl) rfl (pq_cons (fa_q' fa59_0 rfl) rfl (pq_cons (lc0_q ce80 Try.underlying3 rfl rfl rfl rfl rfl rfl rfl rfl) rfl (pq_cons (fa_q' fa59_0 rfl) rfl (pq_cons (ix_q A79 Try.underlying62 z59 hg80.1 hg80.2 ia80 rfl rfl rfl rfl rfl rfl rfl) rfl (pq_cons (pu_q' rfl) rfl (pq_cons (mv_q' w0_0 rfl) rfl pq_nil))))))) (by kernel_rfl) (by decide) (pu' rfl (dn (cd rfl (fun h91 => ?_) (fun h91 => ?_))))
       ·
        exact sr (pu' rfl (dn (sgi (sgi (re rfl Try.func96 rfl (r_t rfl r_nil) rfl ⟨_, rfl, rfl, z.ky K78⟩)))))
       ·
        refine sk (ib (rg (pu' rfl (pu' rfl (pu' rfl (dn ?_))))))
        have A92 := (BlF.st Bx71_b11 p75 rfl)
        have A93 := (Cx71_8.st p75 rfl)
        have A94 := (Cx71_9.st p75 rfl)
        exact lb ih71 ⟨s75, _, rfl, (ue (ue (ue (ue rfl rfl) rfl) rfl) rfl), K78, A92, A93, A94⟩
      ·
       exact xt rfl (sgb (ib (rg (pu' rfl (pu' rfl (pu' rfl (dn (lb ih3 ⟨s72, _, rfl, (ue (ue rfl rfl) rfl), Kx71⟩))))))))
  ·
   exact xt rfl (sgb (sr (pu' rfl (dn (re rfl Try.func96 rfl (r_t rfl r_nil) rfl ⟨_, rfl, rfl, z.ky Kx3⟩)))))
noncomputable def spec_l13at.b0 (a0 : (List Track)) (a1 : Int) (x2 : Int) : Option (Int ⊕ Int) :=
 (if (decide (x2 < (a0.length : Int))) = true then (if 0 ≤ x2 ∧ x2 < (a0.length : Int) then ((if ((at_ a0 x2).Xid == a1) = true then (if 0 ≤ x2 ∧ x2 < (a0.length : Int) then (some ((at_ a0 x2).Ended == (0 : Int))) else none) else (some false)).bind fun y10 => (if y10 = true then (some (Sum.inr x2)) else (some (Sum.inl (IntKind.wrap .i64 (x2 + (1 : Int))))))) else none) else ((some (-1 : Int)).bind fun o => some (Sum.inr o)))
noncomputable def spec_l13at.f (a0 : (List Track)) (a1 : Int) : Option (Int) :=
 (iter (spec_l13at.b0 a0 a1) (0 : Int))
def spec_l13at.Q (w : World) (F : Nat → Prop) (r : Int) (v : Value) (w' : World) : Prop :=
 v = (.int .i64 r) ∧ Ky [] w w'
set_option maxHeartbeats 4000000 in
set_option maxRecDepth 100000 in
theorem spec_l13at.calls (a0 : (List Track)) (a1 : Int) (w : World) (F : Nat → Prop) (w0_0 : Value) (h0_0 : (Kd.sl 59 kd59).rd w [w0_0] a0 F) (r : Int) (m : spec_l13at.f a0 a1 = some r) :
  Calls Try.prog 95 #[w0_0, (.int .i64 a1)] w (RT (spec_l13at.Q w F) r) := by
 obtain ⟨s0, rfl, kp0, z⟩ := start0 w F
 have A0_0 := z.rd h0_0
 refine calls_of_TM (args := [w0_0, (.int .i64 a1)]) Try.func95 Try.ntmps95 rfl rfl m ?_
 unfold spec_l13at.f
 refine sr (pu' rfl (dn (sq (sr (pu' rfl (dn (bl (lpI (fun (x2 : Int) (e : Env) (w : World) => ∃ (s : St) (e0 : Env), w = s.w ∧ e = upd (upd (upd e0 0 w0_0) 1 (.int .i64 a1)) 5 (.int .i64 x2) ∧ Kp s0 s) ⟨s0, _, rfl, (ue (ue (ue rfl rfl) rfl) rfl), kp0⟩ (fun g2 ih2 => ?_)))))))))
 rintro x2 _ _ ⟨s3, _, rfl, rfl, Kx2⟩
 unfold spec_l13at.b0
 refine sq (sr (pu' rfl (mv' w0_0 rfl ?_)))
 have A4 := (A0_0.kp Kx2)
 refine ln' A4 Try.underlying62 rfl (pu' rfl (dn (cd rfl (fun h5 => ?_) (fun h5 => ?_))))
 ·
  refine sk (sq (bl (sr (mv' w0_0 rfl (pu' rfl (ix' A4 Try.underlying62 z59 rfl (fun ad6 es6 h0_6 h1_6 he6 ce6 ia6 => ?_)))))))
  obtain ⟨v6_0, v6_1, rfl, A6_0, A6_1⟩ := op59 he6
  refine fa' fa59_0 rfl (lc0 ce6 Try.underlying3 rfl rfl rfl rfl rfl rfl rfl rfl (pu' rfl (pu' rfl (pu' rfl (ji [] (fun (y10 : Bool) (e : Env) (w : World) => ∃ (s : St) (e0 : Env), w = s.w ∧ e = upd (upd (upd (upd e0 0 w0_0) 1 (.int .i64 a1)) 5 (.int .i64 x2)) 26 (.bool y10) ∧ Kp s0 s) (fun Gj10 Kj10 => ?_) ?_)))))
  ·
   rcases Bool.eq_false_or_eq_true ((at_ a0 x2).Xid == a1) with hb10 | hb10
   ·
    refine sbT hb10 ?_
    rw [if_pos hb10]
    refine mv' w0_0 rfl (pu' rfl (ix' A4 Try.underlying62 z59 rfl (fun ad11 es11 h0_11 h1_11 he11 ce11 ia11 => ?_)))
    obtain ⟨v11_0, v11_1, rfl, A11_0, A11_1⟩ := op59 he11
    exact fa' fa59_2 rfl (lc' ce11 Try.underlying3 rfl (pu' rfl (pu' rfl (Kj10 _ _ _ ⟨s3, _, rfl, (ue (ue (ue (ue rfl rfl) rfl) rfl) rfl), Kx2⟩))))
   ·
    refine sbT hb10 ?_
    rw [if_neg (by rw [hb10]; decide)]
    exact uw' rfl (uw' rfl (uw' rfl (uw' rfl (uw' rfl (uw' rfl (pu' rfl (Kj10 _ _ _ ⟨s3, _, rfl, (ue (ue (ue (ue rfl rfl) rfl) rfl) rfl), Kx2⟩)))))))
  rintro y10 _ _ ⟨s15, _, rfl, rfl, Ky10⟩
  refine dn (cd rfl (fun h16 => ?_) (fun h16 => ?_))
  ·
   exact sr (pu' rfl (pu' rfl (dn (sgi (re rfl Try.func95 rfl (r_t rfl r_nil) rfl ⟨_, rfl, rfl, z.ky Ky10⟩)))))
  ·
   exact sk (ib (rg (pu' rfl (pu' rfl (pu' rfl (dn (lb ih2 ⟨s15, _, rfl, (ue (ue (ue rfl rfl) rfl) rfl), Ky10⟩)))))))
 ·
  exact xt rfl (sgb (sr (pu' rfl (dn (re rfl Try.func95 rfl (r_t rfl r_nil) rfl ⟨_, rfl, rfl, z.ky Kx2⟩)))))
noncomputable def spec_Concurrent.f (a0 : Track) (a1 : Track) : Option (Bool) :=
 (some (((a0.Ended == (0 : Int)) || (decide (a0.Ended > a1.Begun))) && ((a1.Ended == (0 : Int)) || (decide (a1.Ended > a0.Begun)))))
def spec_Concurrent.Q (w : World) (F : Nat → Prop) (r : Bool) (v : Value) (w' : World) : Prop :=
 v = (.bool r) ∧ Ky [] w w'
set_option maxHeartbeats 4000000 in
set_option maxRecDepth 100000 in
theorem spec_Concurrent.calls (a0 : Track) (a1 : Track) (w : World) (F : Nat → Prop) (w0_0 : Value) (w0_1 : Value) (w1_0 : Value) (w1_1 : Value) (h0_0 : (Kd.sl 80 kd80).rd w [w0_0] a0.Reads F) (h0_1 : (Kd.sl 48 kd48).rd w [w0_1] a0.Writes F) (h1_0 : (Kd.sl 80 kd80).rd w [w1_0] a1.Reads F) (h1_1 : (Kd.sl 48 kd48).rd w [w1_1] a1.Writes F) (r : Bool) (m : spec_Concurrent.f a0 a1 = some r) :
  Calls Try.prog 110 #[(.agg #[(.int .i64 a0.Xid), (.int .i64 a0.Begun), (.int .i64 a0.Ended), (.bool a0.All), w0_0, w0_1, (.bool a0.In), (.bool a0.Out)]), (.agg #[(.int .i64 a1.Xid), (.int .i64 a1.Begun), (.int .i64 a1.Ended), (.bool a1.All), w1_0, w1_1, (.bool a1.In), (.bool a1.Out)])] w (RT (spec_Concurrent.Q w F) r) := by
 obtain ⟨s0, rfl, kp0, z⟩ := start0 w F
 have A0_0 := z.rd h0_0
 have A0_1 := z.rd h0_1
 have A1_0 := z.rd h1_0
 have A1_1 := z.rd h1_1
 refine calls_of_TM (args := [(.agg #[(.int .i64 a0.Xid), (.int .i64 a0.Begun), (.int .i64 a0.Ended), (.bool a0.All), w0_0, w0_1, (.bool a0.In), (.bool a0.Out)]), (.agg #[(.int .i64 a1.Xid), (.int .i64 a1.Begun), (.int .i64 a1.Ended), (.bool a1.All), w1_0, w1_1, (.bool a1.In), (.bool a1.Out)])]) Try.func110 Try.ntmps110 rfl rfl m ?_
 unfold spec_Concurrent.f
 refine sr (bx' (cs := [(.int .i64 a0.Xid), (.int .i64 a0.Begun), (.int .i64 a0.Ended), (.bool a0.All), w0_0, w0_1, (.bool a0.In), (.bool a0.Out)]) 40 rfl rfl (fun b5 s5 p5 B5 => ?_))
 refine bx' (cs := [(.int .i64 a1.Xid), (.int .i64 a1.Begun), (.int .i64 a1.Ended), (.bool a1.All), w1_0, w1_1, (.bool a1.In), (.bool a1.Out)]) 41 rfl rfl (fun b7 s7 p7 B7 => ?_)
 refine pu' rfl (dn (sr (fa' fa59_2 rfl ?_)))
 have A9 := (BlF.st B5 p7 rfl)
 refine ld' A9 Try.underlying3 rfl (pu' rfl (pu' rfl (jy [8, 9, 10, 11, 12, 13, 14] [10, 11, 12, 13, 14, 15, 16, 17, 18, 19, 20, 21, 22] 14 (.bool ((a0.Ended == (0 : Int)) || (decide (a0.Ended > a1.Begun)))) rfl (fun Kg10 => ?_) (fun j10 => ?_))))
 ·
  rcases Bool.eq_false_or_eq_true (a0.Ended == (0 : Int)) with hb10 | hb10
  ·
   exact sbT hb10 (uw' rfl (uw' rfl (uw' rfl (uw' rfl (uw' rfl (pu' rfl (Kg10 _ (Ag.put ((Ag.put ((Ag.put ((Ag.put ((Ag.put ((Ag.put (Ag.base rfl) rfl)) rfl)) rfl)) rfl)) rfl)) rfl) (by rw [hb10]; rfl))))))))
  ·
   exact sbT hb10 (fa' fa59_2 rfl (ld' A9 Try.underlying3 rfl (fa' fa59_1 rfl (ld' B7 Try.underlying3 rfl (pu' rfl (pu' rfl (Kg10 _ (Ag.put ((Ag.put ((Ag.put ((Ag.put ((Ag.put ((Ag.put (Ag.base rfl) rfl)) rfl)) rfl)) rfl)) rfl)) rfl) (by rw [hb10]; rfl))))))))
 refine pu' rfl (jy [15, 16, 17, 18, 19, 20, 21, 22, 23, 24, 25, 26] [22] 26 (.bool (((a0.Ended == (0 : Int)) || (decide (a0.Ended > a1.Begun))) && ((a1.Ended == (0 : Int)) || (decide (a1.Ended > a0.Begun))))) rfl (fun Kg11 => ?_) (fun j11 => ?_))
 ·
  rcases Bool.eq_false_or_eq_true ((a0.Ended == (0 : Int)) || (decide (a0.Ended > a1.Begun))) with hb11 | hb11
  ·
   refine sbT hb11 (fa' fa59_2 rfl (ld' B7 Try.underlying3 rfl (pu' rfl (pu' rfl (jy [19, 20, 21, 22, 23, 24, 25] [21, 22] 25 (.bool ((a1.Ended == (0 : Int)) || (decide (a1.Ended > a0.Begun)))) rfl (fun Kg12 => ?_) (fun j12 => ?_))))))
   ·
    rcases Bool.eq_false_or_eq_true (a1.Ended == (0 : Int)) with hb12 | hb12
    ·
     exact sbT hb12 (uw' rfl (uw' rfl (uw' rfl (uw' rfl (uw' rfl (pu' rfl (Kg12 _ (Ag.put ((Ag.put ((Ag.put ((Ag.put ((Ag.put ((Ag.put (Ag.base rfl) rfl)) rfl)) rfl)) rfl)) rfl)) rfl) (by rw [hb12]; rfl))))))))
    ·
     exact sbT hb12 (fa' fa59_2 rfl (ld' B7 Try.underlying3 rfl (fa' fa59_1 rfl (ld' A9 Try.underlying3 rfl (pu' rfl (pu' rfl (Kg12 _ (Ag.put ((Ag.put ((Ag.put ((Ag.put ((Ag.put ((Ag.put (Ag.base rfl) rfl)) rfl)) rfl)) rfl)) rfl)) rfl) (by rw [hb12]; rfl))))))))
   exact pu' rfl (Kg11 _ (Ag.put ((Ag.put ((Ag.ov ((Ag.put ((Ag.put ((Ag.put ((Ag.put (Ag.base rfl) rfl)) rfl)) rfl)) rfl)) rfl)) rfl)) rfl) (by rw [hb11]; rfl))
  ·
   exact sbT hb11 (uw' rfl (uw' rfl (uw' rfl (uw' rfl (uw' rfl (uw' rfl (uw' rfl (uw' rfl (uw' rfl (uw' rfl (pu' rfl (Kg11 _ (Ag.put ((Ag.put ((Ag.put ((Ag.put ((Ag.put ((Ag.put ((Ag.put ((Ag.put ((Ag.put ((Ag.put ((Ag.put (Ag.base rfl) rfl)) rfl)) rfl)) rfl)) rfl)) rfl)) rfl)) rfl)) rfl)) rfl)) rfl) (by rw [hb11]; rfl)))))))))))))
 refine pu' rfl (dn ?_)
 have K13 := (kp0.st (tr2 p5 p7) rfl)
 exact re rfl Try.func110 rfl (r_t rfl r_nil) rfl ⟨_, rfl, rfl, z.ky K13⟩
noncomputable def spec_EdgeEnd.b2 (x39 : (List Track) × Int) (x79 : (List Track) × Int) (x87 : Bool × Int) : Option ((Bool × Int) ⊕ ((List Track) × Int ⊕ (List Track) × Int)) :=
 (if (decide (x87.2 < (x39.1.length : Int))) = true then ((if x87.1 = true then (some true) else (if 0 ≤ x87.2 ∧ x87.2 < (x39.1.length : Int) then ((if ((at_ x39.1 x87.2).Ended == (0 : Int)) = true then (if 0 ≤ x79.2 ∧ x79.2 < (x39.1.length : Int) then (if 0 ≤ x87.2 ∧ x87.2 < (x39.1.length : Int) then (some (true, true, (decide ((at_ x39.1 x79.2).Ended > (at_ x39.1 x87.2).Begun)))) else none) else none) else (some (false, false, false))).bind fun y126 => (some y126.2.2)) else none)).bind fun y93 => (some (Sum.inl (y93, (IntKind.wrap .i64 (x87.2 + (1 : Int))))))) else (((if x87.1 = true then (if 0 ≤ x79.2 ∧ x79.2 < (x39.1.length : Int) then (if x79.1.length + ([(at_ x39.1 x79.2)]).length ≤ Lim then (some (x79.1 ++ [(at_ x39.1 x79.2)])) else none) else none) else (some x79.1)).bind fun y161 => (some (Sum.inl (y161, (IntKind.wrap .i64 (x79.2 + (1 : Int))))))).bind fun o => some (Sum.inr o)))
noncomputable def spec_EdgeEnd.b1 (x39 : (List Track) × Int) (x79 : (List Track) × Int) : Option (((List Track) × Int) ⊕ ((List Track) × Int)) :=
 (if (decide (x79.2 < (x39.1.length : Int))) = true then (if 0 ≤ x79.2 ∧ x79.2 < (x39.1.length : Int) then (iter (spec_EdgeEnd.b2 x39 x79) (((at_ x39.1 x79.2).Ended == (0 : Int)), (0 : Int))) else none) else (((spec_l13copy.f x79.1).bind fun r176 => (some (r176, (0 : Int)))).bind fun o => some (Sum.inr o)))
noncomputable def spec_EdgeEnd.b0 (a0 : (List Track)) (a2 : Int) (a3 : Bool) (r2 : Int) (x39 : (List Track) × Int) : Option (((List Track) × Int) ⊕ ((List Track) × Int)) :=
 (if (decide (x39.2 < (a0.length : Int))) = true then ((if 0 ≤ x39.2 ∧ x39.2 < (a0.length : Int) then (if (x39.2 == r2) = true then (if (!a3) = true then (some x39.1) else (if x39.1.length + ([(Track.mk ((at_ a0 x39.2).Xid) ((at_ a0 x39.2).Begun) a2 ((at_ a0 x39.2).All) ((at_ a0 x39.2).Reads) ((at_ a0 x39.2).Writes) ((at_ a0 x39.2).In) ((at_ a0 x39.2).Out))]).length ≤ Lim then (some (x39.1 ++ [(Track.mk ((at_ a0 x39.2).Xid) ((at_ a0 x39.2).Begun) a2 ((at_ a0 x39.2).All) ((at_ a0 x39.2).Reads) ((at_ a0 x39.2).Writes) ((at_ a0 x39.2).In) ((at_ a0 x39.2).Out))])) else none)) else (if x39.1.length + ([(at_ a0 x39.2)]).length ≤ Lim then (some (x39.1 ++ [(at_ a0 x39.2)])) else none)) else none).bind fun y44 => (some (Sum.inl (y44, (IntKind.wrap .i64 (x39.2 + (1 : Int))))))) else ((iter (spec_EdgeEnd.b1 x39) (([] : (List Track)), (0 : Int))).bind fun o => some (Sum.inr o)))
noncomputable def spec_EdgeEnd.f (a0 : (List Track)) (a1 : Int) (a2 : Int) (a3 : Bool) : Option ((List Track) × Int) :=
 ((spec_l13at.f a0 a1).bind fun r2 => ((spec_TracksOk.f a0).bind fun r6 => ((if ((!r6) || (decide (r2 < (0 : Int)))) = true then (some true) else (if 0 ≤ r2 ∧ r2 < (a0.length : Int) then (some (decide (a2 ≤ (at_ a0 r2).Begun))) else none)).bind fun y9 => (if y9 = true then (some (([] : (List Track)), (1 : Int))) else ((if a3 = true then (if 0 ≤ r2 ∧ r2 < (a0.length : Int) then (some ((at_ a0 r2).In)) else none) else (some false)).bind fun y19 => ((if y19 = true then (if 0 ≤ r2 ∧ r2 < (a0.length : Int) then (some ((at_ a0 r2).Out)) else none) else (some false)).bind fun y26 => (if y26 = true then ((spec_l13copy.f a0).bind fun r35 => (some (r35, (2 : Int)))) else (iter (spec_EdgeEnd.b0 a0 a2 a3 r2) (([] : (List Track)), (0 : Int))))))))))
def spec_EdgeEnd.Q (w : World) (F : Nat → Prop) (r : (List Track) × Int) (v : Value) (w' : World) : Prop :=
 ∃ (v0 : Value), v = .tuple #[v0, (.int .i64 r.2)] ∧ FO (Kd.sl 59 kd59) w w' [v0] r.1 ∧ Ky [] w w'
set_option maxHeartbeats 4000000 in
set_option maxRecDepth 100000 in
theorem spec_EdgeEnd.calls (a0 : (List Track)) (a1 : Int) (a2 : Int) (a3 : Bool) (w : World) (F : Nat → Prop) (w0_0 : Value) (h0_0 : (Kd.sl 59 kd59).rd w [w0_0] a0 F) (r : (List Track) × Int) (m : spec_EdgeEnd.f a0 a1 a2 a3 = some r) :
  Calls Try.prog 33 #[w0_0, (.int .i64 a1), (.int .i64 a2), (.bool a3)] w (RT (spec_EdgeEnd.Q w F) r) := by
 obtain ⟨s0, rfl, kp0, z⟩ := start0 w F
 have A0_0 := z.rd h0_0
 refine calls_of_TM (args := [w0_0, (.int .i64 a1), (.int .i64 a2), (.bool a3)]) Try.func33 Try.ntmps33 rfl rfl m ?_
 unfold spec_EdgeEnd.f
 refine sr (pu' rfl (pu' rfl (dn (sr (mv' w0_0 rfl (pu' rfl (cl' rfl Try.func95 rfl (fun r2 m2 => spec_l13at.calls a0 a1 s0.w (fun b => memb [0] (s0.g b) = true) w0_0 A0_0 r2 m2) ?_)))))))
 rintro r2 _ w2 m2 ⟨rfl, ky2⟩
 obtain ⟨s3, rfl, p3, n3⟩ := nwx s0 w2 40 ky2
 refine pu' rfl (dn (sq (sr (mv' w0_0 rfl ?_))))
 have K4 := (kp0.st p3 rfl)
 have A5 := (A0_0.kp K4)
 refine cl' rfl Try.func96 rfl (fun r6 m6 => spec_TracksOk.calls a0 s3.w (fun b => memb [0] (s3.g b) = true) w0_0 A5 r6 m6) ?_
 rintro r6 _ w6 m6 ⟨rfl, ky6⟩
 obtain ⟨s7, rfl, p7, n7⟩ := nwx s3 w6 41 ky6
 refine pu' rfl (pu' rfl (jy [24, 25, 26, 27] [7, 8, 9, 10, 11, 12, 13, 14, 15] 27 (.bool ((!r6) || (decide (r2 < (0 : Int))))) rfl (fun Kg8 => ?_) (fun j8 => ?_)))
 ·
  rcases Bool.eq_false_or_eq_true (!r6) with hb8 | hb8
  ·
   exact sbT hb8 (uw' rfl (uw' rfl (pu' rfl (Kg8 _ (Ag.put ((Ag.put ((Ag.put (Ag.base rfl) rfl)) rfl)) rfl) (by rw [hb8]; rfl)))))
  ·
   exact sbT hb8 (pu' rfl (pu' rfl (pu' rfl (Kg8 _ (Ag.put ((Ag.put ((Ag.put (Ag.base rfl) rfl)) rfl)) rfl) (by rw [hb8]; rfl)))))
 refine pu' rfl (ji [] (fun (y9 : Bool) (e : Env) (w : World) => ∃ (s : St) (e0 : Env), w = s.w ∧ e = upd (upd (upd (upd (upd e0 0 w0_0) 2 (.int .i64 a2)) 3 (.bool a3)) 10 (.int .i64 r2)) 36 (.bool y9) ∧ Kp s0 s) (fun Gj9 Kj9 => ?_) ?_)
 ·
  rcases Bool.eq_false_or_eq_true ((!r6) || (decide (r2 < (0 : Int)))) with hb9 | hb9
  ·
   refine sbT hb9 ?_
   rw [if_pos hb9]
   refine uw' rfl (uw' rfl (uw' rfl (uw' rfl (uw' rfl (uw' rfl (uw' rfl (pu' rfl ?_)))))))
   have K10 := (K4.st p7 rfl)
   exact Kj9 _ _ _ ⟨s7, _, rfl, (ue (ue (ue (ue (ue rfl rfl) rfl) rfl) rfl) rfl), K10⟩
  ·
   refine sbT hb9 ?_
   rw [if_neg (by rw [hb9]; decide)]
   refine pu' rfl (mv' w0_0 rfl (pu' rfl ?_))
   have K11 := (K4.st p7 rfl)
   have A12 := (A0_0.kp K11)
   refine ix' A12 Try.underlying62 z59 rfl (fun ad13 es13 h0_13 h1_13 he13 ce13 ia13 => ?_)
   obtain ⟨v13_0, v13_1, rfl, A13_0, A13_1⟩ := op59 he13
   exact fa' fa59_1 rfl (lc' ce13 Try.underlying3 rfl (pu' rfl (pu' rfl (Kj9 _ _ _ ⟨s7, _, rfl, (ue (ue (ue (ue (ue rfl rfl) rfl) rfl) rfl) rfl), K11⟩))))
 rintro y9 _ _ ⟨s17, _, rfl, rfl, Ky9⟩
 refine dn (cd rfl (fun h18 => ?_) (fun h18 => ?_))
 ·
  exact sr (pu' rfl (pu' rfl (dn (re rfl Try.func33 rfl (r_t rfl (r_t rfl r_nil)) rfl ⟨_, rfl, (.slice none 0 0), rfl, (ow_nil 59 kd59 s17 40).fo Ky9 rfl z.l, z.ky Ky9⟩))))
 ·
  refine sk (sq (sr (pu' rfl (pu' rfl (ji [8, 9, 10, 11, 12, 13, 14] (fun (y19 : Bool) (e : Env) (w : World) => ∃ (s : St) (e0 : Env), w = s.w ∧ e = upd (upd (upd (upd (upd e0 0 w0_0) 2 (.int .i64 a2)) 3 (.bool a3)) 10 (.int .i64 r2)) 44 (.bool y19) ∧ Kp s0 s) (fun Gj19 Kj19 => ?_) ?_)))))
  ·
   rcases Bool.eq_false_or_eq_true a3 with hb19 | hb19
   ·
    refine sbT hb19 ?_
    rw [if_pos hb19]
    refine mv' w0_0 rfl (pu' rfl ?_)
    have A20 := (A0_0.kp Ky9)
    refine ix' A20 Try.underlying62 z59 rfl (fun ad21 es21 h0_21 h1_21 he21 ce21 ia21 => ?_)
    obtain ⟨v21_0, v21_1, rfl, A21_0, A21_1⟩ := op59 he21
    exact fa' fa59_6 rfl (lc' ce21 Try.underlying4 rfl (pu' rfl (Kj19 _ _ _ ⟨s17, _, rfl, (ue (ue (ue (ue (ue rfl rfl) rfl) rfl) rfl) rfl), Ky9⟩)))
   ·
    refine sbT hb19 ?_
    rw [if_neg (by rw [hb19]; decide)]
    exact uw' rfl (uw' rfl (uw' rfl (uw' rfl (uw' rfl (pu' rfl (Kj19 _ _ _ ⟨s17, _, rfl, (ue (ue (ue (ue (ue rfl rfl) rfl) rfl) rfl) rfl), Ky9⟩))))))
  rintro y19 _ _ ⟨s25, _, rfl, rfl, Ky19⟩
  refine pu' rfl (ji [] (fun (y26 : Bool) (e : Env) (w : World) => ∃ (s : St) (e0 : Env), w = s.w ∧ e = upd (upd (upd (upd (upd e0 0 w0_0) 2 (.int .i64 a2)) 3 (.bool a3)) 10 (.int .i64 r2)) 51 (.bool y26) ∧ Kp s0 s) (fun Gj26 Kj26 => ?_) ?_)
  ·
   rcases Bool.eq_false_or_eq_true y19 with hb26 | hb26
   ·
    refine sbT hb26 ?_
    rw [if_pos hb26]
    refine mv' w0_0 rfl (pu' rfl ?_)
    have A27 := (A0_0.kp Ky19)
    refine ix' A27 Try.underlying62 z59 rfl (fun ad28 es28 h0_28 h1_28 he28 ce28 ia28 => ?_)
    obtain ⟨v28_0, v28_1, rfl, A28_0, A28_1⟩ := op59 he28
    exact fa' fa59_7 rfl (lc' ce28 Try.underlying4 rfl (pu' rfl (Kj26 _ _ _ ⟨s25, _, rfl, (ue (ue (ue (ue (ue rfl rfl) rfl) rfl) rfl) rfl), Ky19⟩)))
   ·
    refine sbT hb26 ?_
    rw [if_neg (by rw [hb26]; decide)]
    exact uw' rfl (uw' rfl (uw' rfl (uw' rfl (uw' rfl (pu' rfl (Kj26 _ _ _ ⟨s25, _, rfl, (ue (ue (ue (ue (ue rfl rfl) rfl) rfl) rfl) rfl), Ky19⟩))))))
  rintro y26 _ _ ⟨s32, _, rfl, rfl, Ky26⟩
  refine dn (cd rfl (fun h33 => ?_) (fun h33 => ?_))
  ·
   refine sr (mv' w0_0 rfl ?_)
   have A34 := (A0_0.kp Ky26)
   refine cl' rfl Try.func97 rfl (fun r35 m35 => spec_l13copy.calls a0 s32.w (fun b => memb [0] (s32.g b) = true) w0_0 A34 r35 m35) ?_
   rintro r35 v35_0 w35 m35 ⟨f35_0, ky35⟩
   obtain ⟨s36, rfl, p36, n36⟩ := nwx s32 w35 42 ky35
   have A35_0 := f35_0.c n36
   refine asg' v35_0 rfl (pu' rfl (dn ?_))
   have K38 := (Ky26.st p36 rfl)
   exact re rfl Try.func33 rfl (r_t rfl (r_t rfl r_nil)) rfl ⟨_, rfl, v35_0, rfl, A35_0.fo K38 rfl z.l, z.ky K38⟩
  ·
   refine sk (sr (pu' rfl (dn (sq (sr (pu' rfl (dn (bl (lpI (fun (x39 : (List Track) × Int) (e : Env) (w : World) => ∃ (s : St) (e0 : Env) (vx39_0 : Value), w = s.w ∧ e = upd (upd (upd (upd (upd (upd e0 0 w0_0) 2 (.int .i64 a2)) 3 (.bool a3)) 10 (.int .i64 r2)) 11 vx39_0) 12 (.int .i64 x39.2) ∧ Kp s0 s ∧ RwF 59 kd59 s vx39_0 x39.1 44 [0]) ⟨s32, _, (.slice none 0 0), rfl, (ue (ue (ue (ue (ue (ue rfl rfl) rfl) rfl) rfl) rfl) rfl), Ky26, (rw_nil 59 kd59 _ 44 [0])⟩ (fun g39 ih39 => ?_))))))))))
   rintro x39 _ _ ⟨s40, _, vx39_0, rfl, rfl, Kx39, Ax39_0⟩
   unfold spec_EdgeEnd.b0
   refine sq (sr (pu' rfl (mv' w0_0 rfl ?_)))
   have A42 := (A0_0.kp Kx39)
   refine ln' A42 Try.underlying62 rfl (pu' rfl (dn (cd rfl (fun h43 => ?_) (fun h43 => ?_))))
   ·
    refine sk (sq (jc (fun (y44 : (List Track)) (e : Env) (w : World) => ∃ (s : St) (e0 : Env) (vy44_0 : Value), w = s.w ∧ e = upd (upd (upd (upd (upd (upd e0 0 w0_0) 2 (.int .i64 a2)) 3 (.bool a3)) 10 (.int .i64 r2)) 11 vy44_0) 12 (.int .i64 x39.2) ∧ Kp s0 s ∧ RwF 59 kd59 s vy44_0 y44 44 [0]) (fun Gj44 Kj44 => ?_) ?_))
    ·
     refine bl (sr (mv' w0_0 rfl (pu' rfl (ix' A42 Try.underlying62 z59 rfl (fun ad45 es45 h0_45 h1_45 he45 ce45 ia45 => ?_)))))
     obtain ⟨v45_0, v45_1, rfl, A45_0, A45_1⟩ := op59 he45
     refine lca' ce45 Try.underlying59 z59 rfl (al (cs := [(.int .i64 (0 : Int)), (.int .i64 (0 : Int)), (.int .i64 (0 : Int)), (.bool false), (.slice none 0 0), (.slice none 0 0), (.bool false), (.bool false)]) 45 rfl rfl rfl rfl rfl o59 rfl (fun b49 s49 p49 B49 => ?_))
     have A51 := (A45_1.st p49 rfl)
     have A52 := (A45_0.st p49 rfl)
     refine sva (vs := [(.int .i64 ((at_ a0 x39.2).Xid)), (.int .i64 ((at_ a0 x39.2).Begun)), (.int .i64 ((at_ a0 x39.2).Ended)), (.bool ((at_ a0 x39.2).All)), v45_0, v45_1, (.bool ((at_ a0 x39.2).In)), (.bool ((at_ a0 x39.2).Out))]) B49 z59 rfl rfl rfl rfl rfl rfl (on_cons rfl (on_cons rfl (on_cons rfl (on_cons rfl (on_cons A52.one (on_cons A51.one (on_cons rfl (on_cons rfl on_nil)))))))) rfl (fun s53 p53 B53 => ?_)
     refine dn (sq (sr (pu' rfl (pu' rfl (pu' rfl (dn (cd rfl (fun h55 => ?_) (fun h55 => ?_))))))))
     ·
      refine sq (sr (pu' rfl (pu' rfl (dn (cd rfl (fun h56 => ?_) (fun h56 => ?_))))))
      ·
       refine xt rfl ?_
       have A57 := (Ax39_0.st (tr2 p49 p53) rfl rfl)
       have K58 := (Kx39.st (tr2 p49 p53) rfl)
       exact Kj44 _ _ _ ⟨s53, _, vx39_0, rfl, (ue (ue (ue (ue (ue (ue rfl rfl) rfl) rfl) rfl) rfl) rfl), K58, A57⟩
      ·
       refine sk (rg (pu' rfl (fa' fa59_2 rfl (sv B53 z3 rfl rfl rfl rfl rfl rfl rfl rfl (fun s59 p59 B59 => ?_)))))
       refine dn (rg (mv' vx39_0 rfl (lda' (es := [(.int .i64 ((at_ a0 x39.2).Xid)), (.int .i64 ((at_ a0 x39.2).Begun)), (.int .i64 a2), (.bool ((at_ a0 x39.2).All)), v45_0, v45_1, (.bool ((at_ a0 x39.2).In)), (.bool ((at_ a0 x39.2).Out))]) B59 Try.underlying59 z59 rfl ?_)))
       have A61 := (A52.st (tr2 p53 p59) rfl)
       have A62 := (A51.st (tr2 p53 p59) rfl)
       refine ltR (K := kd59) (cells := [(.int .i64 ((at_ a0 x39.2).Xid)), (.int .i64 ((at_ a0 x39.2).Begun)), (.int .i64 a2), (.bool ((at_ a0 x39.2).All)), v45_0, v45_1, (.bool ((at_ a0 x39.2).In)), (.bool ((at_ a0 x39.2).Out))]) [(Track.mk ((at_ a0 x39.2).Xid) ((at_ a0 x39.2).Begun) a2 ((at_ a0 x39.2).All) ((at_ a0 x39.2).Reads) ((at_ a0 x39.2).Writes) ((at_ a0 x39.2).In) ((at_ a0 x39.2).Out))] 46 [0] rfl Try.underlying62 z59 o59 (el_cons (mk59 (x := (Track.mk ((at_ a0 x39.2).Xid) ((at_ a0 x39.2).Begun) a2 ((at_ a0 x39.2).All) ((at_ a0 x39.2).Reads) ((at_ a0 x39.2).Writes) ((at_ a0 x39.2).In) ((at_ a0 x39.2).Out))) A61 A62) el_nil) rfl rfl rfl rfl rfl rfl rfl rfl rfl rfl (fun v63 s63 p63 A63 => ?_)
       have A65 := (Ax39_0.st (tr4 p49 p53 p59 p63) rfl rfl)
       refine apRR sl62 A65 A63 rfl rfl rfl rfl rfl rfl rfl rfl (fun v66 s66 p66 A66 => ?_)
       have A66_ := A66.sub (D := [0]) rfl
       refine asg' v66 rfl (dn (ib ?_))
       have K68 := (Kx39.st (tr5 p49 p53 p59 p63 p66) rfl)
       exact Kj44 _ _ _ ⟨s66, _, v66, rfl, (ue (ue (ue (ue (ue (ue rfl rfl) rfl) rfl) rfl) rfl) rfl), K68, A66_⟩
     ·
      refine sk (rg (mv' vx39_0 rfl (lda' (es := [(.int .i64 ((at_ a0 x39.2).Xid)), (.int .i64 ((at_ a0 x39.2).Begun)), (.int .i64 ((at_ a0 x39.2).Ended)), (.bool ((at_ a0 x39.2).All)), v45_0, v45_1, (.bool ((at_ a0 x39.2).In)), (.bool ((at_ a0 x39.2).Out))]) B53 Try.underlying59 z59 rfl ?_)))
      have A69 := (A52.st p53 rfl)
      have A70 := (A51.st p53 rfl)
      refine ltR (K := kd59) (cells := [(.int .i64 ((at_ a0 x39.2).Xid)), (.int .i64 ((at_ a0 x39.2).Begun)), (.int .i64 ((at_ a0 x39.2).Ended)), (.bool ((at_ a0 x39.2).All)), v45_0, v45_1, (.bool ((at_ a0 x39.2).In)), (.bool ((at_ a0 x39.2).Out))]) [(at_ a0 x39.2)] 47 [0] rfl Try.underlying62 z59 o59 (el_cons (mk59 (x := (at_ a0 x39.2)) A69 A70) el_nil) rfl rfl rfl rfl rfl rfl rfl rfl rfl rfl (fun v71 s71 p71 A71 => ?_)
      have A73 := (Ax39_0.st (tr3 p49 p53 p71) rfl rfl)
      refine apRR sl62 A73 A71 rfl rfl rfl rfl rfl rfl rfl rfl (fun v74 s74 p74 A74 => ?_)
      have A74_ := A74.sub (D := [0]) rfl
      refine asg' v74 rfl (dn (ib ?_))
      have K76 := (Kx39.st (tr4 p49 p53 p71 p74) rfl)
      exact Kj44 _ _ _ ⟨s74, _, v74, rfl, (ue (ue (ue (ue (ue (ue rfl rfl) rfl) rfl) rfl) rfl) rfl), K76, A74_⟩
    rintro y44 _ _ ⟨s77, _, vy44_0, rfl, rfl, Ky44, Ay44_0⟩
    exact rg (pu' rfl (pu' rfl (pu' rfl (dn (lb ih39 ⟨s77, _, vy44_0, rfl, (ue (ue (ue (ue (ue (ue rfl rfl) rfl) rfl) rfl) rfl) rfl), Ky44, Ay44_0⟩)))))
   ·
    refine xt rfl (sgb (sr (pu' rfl (dn (sq (sr (pu' rfl (dn (bl (lpI (fun (x79 : (List Track) × Int) (e : Env) (w : World) => ∃ (s : St) (e0 : Env) (vx79_0 : Value), w = s.w ∧ e = upd (upd (upd e0 11 vx39_0) 14 vx79_0) 15 (.int .i64 x79.2) ∧ Kp s0 s ∧ RwF 59 kd59 s vx79_0 x79.1 49 [0] ∧ RwF 59 kd59 s vx39_0 x39.1 44 [0]) ⟨s40, _, (.slice none 0 0), rfl, (ue (ue (ue rfl rfl) rfl) rfl), Kx39, (rw_nil 59 kd59 _ 49 [0]), Ax39_0⟩ (fun g79 ih79 => ?_)))))))))))
    rintro x79 _ _ ⟨s80, _, vx79_0, rfl, rfl, Kx79, Ax79_0, Cx79_41⟩
    unfold spec_EdgeEnd.b1
    refine sq (sr (pu' rfl (mv' vx39_0 rfl (ln' Cx79_41.rd Try.underlying62 rfl (pu' rfl (dn (cd rfl (fun h82 => ?_) (fun h82 => ?_))))))))
    ·
     refine sk (sq (bl (sr (mv' vx39_0 rfl (pu' rfl (ix' Cx79_41.rd Try.underlying62 z59 rfl (fun ad83 es83 h0_83 h1_83 he83 ce83 ia83 => ?_)))))))
     replace he83 := rw_sharp Cx79_41 h0_83 h1_83 ia83 ce83 he83
     obtain ⟨v83_0, v83_1, rfl, A83_0, A83_1⟩ := op59 he83
     refine fa' fa59_2 rfl (lc' ce83 Try.underlying3 rfl (pu' rfl (pu' rfl (dn (sq (sr (pu' rfl (dn (bl (lpI (fun (x87 : Bool × Int) (e : Env) (w : World) => ∃ (s : St) (e0 : Env), w = s.w ∧ e = upd (upd (upd (upd (upd e0 11 vx39_0) 14 vx79_0) 15 (.int .i64 x79.2)) 16 (.bool x87.1)) 17 (.int .i64 x87.2) ∧ Kp s0 s ∧ RwF 59 kd59 s vx39_0 x39.1 44 [0] ∧ RwF 59 kd59 s vx79_0 x79.1 49 [0]) ⟨s80, _, rfl, (ue (ue (ue (ue (ue rfl rfl) rfl) rfl) rfl) rfl), Kx79, Cx79_41, Ax79_0⟩ (fun g87 ih87 => ?_)))))))))))
     rintro x87 _ _ ⟨s88, _, rfl, rfl, Kx87, Cx87_41, Cx87_81⟩
     unfold spec_EdgeEnd.b2
     refine sq (sr (pu' rfl (mv' vx39_0 rfl (ln' Cx87_41.rd Try.underlying62 rfl (pu' rfl (dn (cd rfl (fun h89 => ?_) (fun h89 => ?_))))))))
     ·
      refine sk (sq (bl (zdraw [[], [0], [1], [1], [2, 3, 1], [4, 1], [5, 1], [6, 1], [7, 1, 1], [8], [8], [9, 10, 8], [11, 8], [12, 8], [8], [8], [14, 15, 8], [16, 8], [17, 8], [13, 18, 8], [8, 19, 1], [1, 20], [21, 8, 0, 1, 2, 3, 4, 5, 6, 7, 8, 9, 10, 11, 12, 13, 14, 15, 16, 17, 18, 19, 20, 21]] [some 93, some 94, some 95, some 96, some 97, some 98, some 99, some 100, some 101, some 102, some 103, some 104, some 105, some 106, some 107, some 108, some 109, some 110, some 111, some 112, some 113, some 114, some 16] [[16], [93], [11, 94], [17, 94], [95, 96, 94], [97, 94], [98, 94], [99, 94], [100, 94], [11, 101], [15, 101], [102, 103, 101], [104, 101], [105, 101], [11, 101], [17, 101], [107, 108, 101], [109, 101], [110, 101], [106, 111, 101], [101, 112, 94], [94, 113], [114]] [0, 1, 2, 3, 4, 5, 6, 7, 8, 9, 10, 11, 12, 13, 14, 15, 16, 17, 18, 19, 20, 21, 22] ⟨by kernel_rfl, by kernel_rfl, by kernel_rfl⟩ (by kernel_rfl) (fun s90 p90 l90 tb90 zd90 => ?_))))
      have zd91 := zd90.add 0 93 (.bool x87.1) rfl
      have zd92 := zd91.add 1 94 (.bool x87.1) rfl
      refine ji [22] (fun (y93 : Bool) (e : Env) (w : World) => ∃ (s : St) (e0 : Env), w = s.w ∧ e = upd (upd (upd (upd (upd e0 11 vx39_0) 14 vx79_0) 15 (.int .i64 x79.2)) 17 (.int .i64 x87.2)) 114 (.bool y93) ∧ Kp s0 s ∧ RwF 59 kd59 s vx39_0 x39.1 44 [0] ∧ RwF 59 kd59 s vx79_0 x79.1 49 [0]) (fun Gj93 Kj93 => ?_) ?_
      ·
       rcases Bool.eq_false_or_eq_true x87.1 with hb93 | hb93
       ·
        rw [if_pos hb93]
        rw [hb93] at zd92
        try rw [hb93]
        have zd94 := zd92.add 2 95 undef rfl
        have zd95 := zd94.add 3 96 undef rfl
        have zd96 := zd95.add 4 97 undef rfl
        have zd97 := zd96.add 5 98 undef rfl
        have zd98 := zd97.add 6 99 undef rfl
        have zd99 := zd98.add 7 100 undef rfl
        have zd100 := zd99.add 8 101 undef rfl
        have zd101 := zd100.add 9 102 undef rfl
        have zd102 := zd101.add 10 103 undef rfl
        have zd103 := zd102.add 11 104 undef rfl
        have zd104 := zd103.add 12 105 undef rfl
        have zd105 := zd104.add 13 106 undef rfl
        have zd106 := zd105.add 14 107 undef rfl
        have zd107 := zd106.add 15 108 undef rfl
        have zd108 := zd107.add 16 109 undef rfl
        have zd109 := zd108.add 17 110 undef rfl
        have zd110 := zd109.add 18 111 undef rfl
        refine zfin [19, 20, 21, 22] tb90 zd110 (pq_cons (uw_q rfl rfl rfl rfl rfl) rfl (pq_cons (uw_q rfl rfl rfl rfl rfl) rfl (pq_cons (uw_q rfl rfl rfl rfl rfl) rfl (pq_cons (uw_q rfl rfl rfl rfl rfl) rfl (pq_cons (uw_q rfl rfl rfl rfl rfl) rfl (pq_cons (uw_q rfl rfl rfl rfl rfl) rfl (pq_cons (uw_q rfl rfl rfl rfl rfl) rfl (pq_cons (uw_q rfl rfl rfl rfl rfl) rfl (pq_cons (uw_q rfl rfl rfl rfl rfl) rfl (pq_cons (uw_q rfl rfl rfl rfl rfl) rfl (pq_cons (uw_q rfl rfl rfl rfl rfl) rfl (pq_cons (uw_q rfl rfl rfl rfl rfl) rfl (pq_cons (uw_q rfl rfl rfl rfl rfl) rfl (pq_cons (uw_q rfl rfl rfl rfl rfl) rfl (pq_cons (uw_q rfl rfl rfl rfl rfl) rfl (pq_cons (uw_q rfl rfl rfl rfl rfl) rfl (pq_cons (uw_q rfl rfl rfl rfl rfl) rfl (pq_cons (pu_q' rfl) rfl (pq_cons (pu_q' rfl) rfl pq_nil))))))))))))))))))) (by kernel_rfl) (by decide) (uw' rfl (uw' rfl (pu' rfl ?_)))
        have A111 := (Cx87_41.st p90 rfl rfl)
        have A112 := (Cx87_81.st p90 rfl rfl)
        have K113 := (Kx87.st p90 rfl)
        exact Kj93 _ _ _ ⟨s90, _, rfl, (ue (ue (ue (ue (ue rfl rfl) rfl) rfl) rfl) rfl), K113, A111, A112⟩
       ·
        rw [if_neg (by rw [hb93]; decide)]
        rw [hb93] at zd92
        try rw [hb93]
        have zd114 := zd92.add 2 95 vx39_0 rfl
        have zd115 := zd114.add 3 96 (.int .i64 x87.2) rfl
        have A116 := (Cx87_41.st p90 rfl rfl)
        refine mg fun hg117 => ?_
        obtain ⟨ad117, es117, he117, ce117, ia117⟩ := ix_e A116.rd rfl hg117.1 hg117.2
        have h0_117 := hg117.1
        have h1_117 := hg117.2
        replace he117 := rw_sharp A116 h0_117 h1_117 ia117 ce117 he117
        obtain ⟨v117_0, v117_1, rfl, A117_0, A117_1⟩ := op59 he117
        have zd121 := zd115.add 4 97 (.pointer (some ad117)) rfl
        have zd122 := zd121.add 5 98 (.pointer (some (ad117.add 2))) rfl
        have zd123 := zd122.add 6 99 (.int .i64 ((at_ x39.1 x87.2).Ended)) rfl
        have zd124 := zd123.add 7 100 (.bool ((at_ x39.1 x87.2).Ended == (0 : Int))) rfl
        have zd125 := zd124.add 8 101 (.bool ((at_ x39.1 x87.2).Ended == (0 : Int))) rfl
        refine ji [21, 22] (fun (y126 : Bool × Bool × Bool) (e : Env) (w : World) => ∃ (s : St) (e0 : Env), w = s.w ∧ e = upd (upd (upd (upd (upd (upd (upd (upd (upd (upd (upd (upd (upd e0 11 vx39_0) 14 vx79_0) 15 (.int .i64 x79.2)) 17 (.int .i64 x87.2)) 94 (.bool false)) 95 vx39_0) 96 (.int .i64 x87.2)) 97 (.pointer (some ad117))) 98 (.pointer (some (ad117.add 2)))) 99 (.int .i64 ((at_ x39.1 x87.2).Ended))) 100 (.bool y126.1)) 101 (.bool y126.2.1)) 113 (.bool y126.2.2) ∧ Kp s0 s ∧ RwF 59 kd59 s vx39_0 x39.1 44 [0] ∧ RwF 59 kd59 s vx79_0 x79.1 49 [0]) (fun Gj126 Kj126 => ?_) ?_
        ·
         rcases Bool.eq_false_or_eq_true ((at_ x39.1 x87.2).Ended == (0 : Int)) with hb126 | hb126
         ·
          rw [if_pos hb126]
          rw [hb126] at zd125
          try rw [hb126]
          have zd127 := zd125.add 9 102 vx39_0 rfl
          have zd128 := zd127.add 10 103 (.int .i64 x79.2) rfl
          refine mg fun hg129 => ?_
          obtain ⟨ad129, es129, he129, ce129, ia129⟩ := ix_e A116.rd rfl hg129.1 hg129.2
          have h0_129 := hg129.1
          have h1_129 := hg129.2
          replace he129 := rw_sharp A116 h0_129 h1_129 ia129 ce129 he129
          obtain ⟨v129_0, v129_1, rfl, A129_0, A129_1⟩ := op59 he129
          have zd133 := zd128.add 11 104 (.pointer (some ad129)) rfl
          have zd134 := zd133.add 12 105 (.pointer (some (ad129.add 2))) rfl
          have zd135 := zd134.add 13 106 (.int .i64 ((at_ x39.1 x79.2).Ended)) rfl
          have zd136 := zd135.add 14 107 vx39_0 rfl
          have zd137 := zd136.add 15 108 (.int .i64 x87.2) rfl
          refine mg fun hg138 => ?_
          obtain ⟨ad138, es138, he138, ce138, ia138⟩ := ix_e A116.rd rfl hg138.1 hg138.2
          have h0_138 := hg138.1
          have h1_138 := hg138.2
          replace he138 := rw_sharp A116 h0_138 h1_138 ia138 ce138 he138
          obtain ⟨v138_0, v138_1, rfl, A138_0, A138_1⟩ := op59 he138
          have zd142 := zd137.add 16 109 (.pointer (some ad138)) rfl
          have zd143 := zd142.add 17 110 (.pointer (some (ad138.add 1))) rfl
          have zd144 := zd143.add 18 111 (.int .i64 ((at_ x39.1 x87.2).Begun)) rfl
          refine zfin [19, 20, 21, 22] tb90 zd144 (pq_cons (lc_q ce138 Try.underlying3 rfl rfl rfl rfl rfl rfl rfl rfl) rfl (pq_cons (fa_q' fa59_1 rfl) rfl (pq_cons (ix_q A116.rd Try.underlying62 z59 hg138.1 hg138.2 ia138 rfl rfl rfl rfl rfl rfl rfl) rfl (pq_cons (pu_q' rfl) rfl (pq_cons (mv_q' vx39_0 rfl) rfl (pq_cons (lc_q ce129 Try.underlying3 rfl rfl rfl rfl rfl rfl rfl rfl) rfl (pq_cons (fa_q' fa59_2 rfl) rfl (pq_cons (ix_q A116.rd Try.underlying62 z59 hg129.1 hg129.2 ia129 rfl rfl rfl rfl rfl rfl rfl) rfl (pq_cons (pu_q' rfl) rfl (pq_cons (mv_q' vx39_0 rfl) rfl (pq_cons (pu_q' rfl) rfl (pq_cons (qv_b (pu_q' rfl) hb126) rfl (pq_cons (lc_q ce117 Try.underlying3 rfl rfl rfl rfl rfl rfl rfl rfl) rfl (pq_cons (fa_q' fa59_2 rfl) rfl (pq_cons (ix_q A116.rd Try.underlying62 z59 hg117.1 hg117.2 ia117 rfl rfl rfl rfl rfl rfl rfl) rfl (pq_cons (pu_q' rfl) rfl (pq_cons (mv_q' vx39_0 rfl) rfl (pq_cons (pu_q' rfl) rfl (pq_cons (pu_q' rfl) rfl pq_nil))))))))))))))))))) (by kernel_rfl) (by decide) (pu' rfl ?_)
          refine pu' rfl ?_
          have A145 := (Cx87_81.st p90 rfl rfl)
          have K146 := (Kx87.st p90 rfl)
          exact Kj126 _ _ _ ⟨s90, _, rfl, (ue (ue (ue (ue (ue (ue (ue (ue (ue (ue (ue (ue (ue rfl rfl) rfl) rfl) rfl) rfl) rfl) rfl) rfl) rfl) rfl) rfl) rfl) rfl), K146, A116, A145⟩
         ·
          rw [if_neg (by rw [hb126]; decide)]
          rw [hb126] at zd125
          try rw [hb126]
          have zd147 := zd125.add 9 102 undef rfl
          have zd148 := zd147.add 10 103 undef rfl
          have zd149 := zd148.add 11 104 undef rfl
          have zd150 := zd149.add 12 105 undef rfl
          have zd151 := zd150.add 13 106 undef rfl
          have zd152 := zd151.add 14 107 undef rfl
          have zd153 := zd152.add 15 108 undef rfl
          have zd154 := zd153.add 16 109 undef rfl
          have zd155 := zd154.add 17 110 undef rfl
          have zd156 := zd155.add 18 111 undef rfl
          refine zfin [19, 20, 21, 22] tb90 zd156 (pq_cons (uw_q rfl rfl rfl rfl rfl) rfl (pq_cons (uw_q rfl rfl rfl rfl rfl) rfl (pq_cons (uw_q rfl rfl rfl rfl rfl) rfl (pq_cons (uw_q rfl rfl rfl rfl rfl) rfl (pq_cons (uw_q rfl rfl rfl rfl rfl) rfl (pq_cons (uw_q rfl rfl rfl rfl rfl) rfl (pq_cons (uw_q rfl rfl rfl rfl rfl) rfl (pq_cons (uw_q rfl rfl rfl rfl rfl) rfl (pq_cons (uw_q rfl rfl rfl rfl rfl) rfl (pq_cons (uw_q rfl rfl rfl rfl rfl) rfl (pq_cons (pu_q' rfl) rfl (pq_cons (qv_b (pu_q' rfl) hb126) rfl (pq_cons (lc_q ce117 Try.underlying3 rfl rfl rfl rfl rfl rfl rfl rfl) rfl (pq_cons (fa_q' fa59_2 rfl) rfl (pq_cons (ix_q A116.rd Try.underlying62 z59 hg117.1 hg117.2 ia117 rfl rfl rfl rfl rfl rfl rfl) rfl (pq_cons (pu_q' rfl) rfl (pq_cons (mv_q' vx39_0 rfl) rfl (pq_cons (pu_q' rfl) rfl (pq_cons (pu_q' rfl) rfl pq_nil))))))))))))))))))) (by kernel_rfl) (by decide) (uw' rfl (pu' rfl ?_))
          have A157 := (Cx87_81.st p90 rfl rfl)
          have K158 := (Kx87.st p90 rfl)
          exact Kj126 _ _ _ ⟨s90, _, rfl, (ue (ue (ue (ue (ue (ue (ue (ue (ue (ue (ue (ue (ue rfl rfl) rfl) rfl) rfl) rfl) rfl) rfl) rfl) rfl) rfl) rfl) rfl) rfl), K158, A116, A157⟩
        rintro y126 _ _ ⟨s159, _, rfl, rfl, Ky126, Cy126_41, Cy126_81⟩
        exact pu' rfl (Kj93 _ _ _ ⟨s159, _, rfl, (ue (ue (ue (ue (ue rfl rfl) rfl) rfl) rfl) rfl), Ky126, Cy126_41, Cy126_81⟩)
      rintro y93 _ _ ⟨s160, _, rfl, rfl, Ky93, Cy93_41, Cy93_81⟩
      exact pu' rfl (dn (ib (rg (pu' rfl (pu' rfl (pu' rfl (dn (lb ih87 ⟨s160, _, rfl, (ue (ue (ue (ue (ue rfl rfl) rfl) rfl) rfl) rfl), Ky93, Cy93_41, Cy93_81⟩))))))))
     ·
      refine xt rfl (sgb (sr (pu' rfl (dn (jc (fun (y161 : (List Track)) (e : Env) (w : World) => ∃ (s : St) (e0 : Env) (vy161_0 : Value), w = s.w ∧ e = upd (upd (upd e0 11 vx39_0) 14 vy161_0) 15 (.int .i64 x79.2) ∧ Kp s0 s ∧ RwF 59 kd59 s vy161_0 y161 49 [0] ∧ RwF 59 kd59 s vx39_0 x39.1 44 [0]) (fun Gj161 Kj161 => ?_) ?_)))))
      ·
       refine cd rfl (fun h162 => ?_) (fun h162 => ?_)
       ·
        refine rg (mv' vx79_0 rfl (mv' vx39_0 rfl (pu' rfl (ix' Cx87_41.rd Try.underlying62 z59 rfl (fun ad163 es163 h0_163 h1_163 he163 ce163 ia163 => ?_)))))
        replace he163 := rw_sharp Cx87_41 h0_163 h1_163 ia163 ce163 he163
        obtain ⟨v163_0, v163_1, rfl, A163_0, A163_1⟩ := op59 he163
        refine lca' ce163 Try.underlying59 z59 rfl (ltR (K := kd59) (cells := [(.int .i64 ((at_ x39.1 x79.2).Xid)), (.int .i64 ((at_ x39.1 x79.2).Begun)), (.int .i64 ((at_ x39.1 x79.2).Ended)), (.bool ((at_ x39.1 x79.2).All)), v163_0, v163_1, (.bool ((at_ x39.1 x79.2).In)), (.bool ((at_ x39.1 x79.2).Out))]) [(at_ x39.1 x79.2)] 50 [0] rfl Try.underlying62 z59 o59 (el_cons (mk59 (x := (at_ x39.1 x79.2)) A163_0 A163_1) el_nil) rfl rfl rfl rfl rfl rfl rfl rfl rfl rfl (fun v167 s167 p167 A167 => ?_))
        have A169 := (Cx87_81.st p167 rfl rfl)
        refine apRR sl62 A169 A167 rfl rfl rfl rfl rfl rfl rfl rfl (fun v170 s170 p170 A170 => ?_)
        have A170_ := A170.sub (D := [0]) rfl
        refine asg' v170 rfl (dn ?_)
        have A172 := (Cx87_41.st (tr2 p167 p170) rfl rfl)
        have K173 := (Kx87.st (tr2 p167 p170) rfl)
        exact Kj161 _ _ _ ⟨s170, _, v170, rfl, (ue (ue (ue rfl rfl) rfl) rfl), K173, A170_, A172⟩
       ·
        exact sk (Kj161 _ _ _ ⟨s88, _, vx79_0, rfl, (ue (ue (ue rfl rfl) rfl) rfl), Kx87, Cx87_81, Cx87_41⟩)
      rintro y161 _ _ ⟨s174, _, vy161_0, rfl, rfl, Ky161, Ay161_0, Cy161_41⟩
      exact ib (rg (pu' rfl (pu' rfl (pu' rfl (dn (lb ih79 ⟨s174, _, vy161_0, rfl, (ue (ue (ue rfl rfl) rfl) rfl), Ky161, Ay161_0, Cy161_41⟩))))))
    ·
     refine xt rfl (sgb (sr (mv' vx79_0 rfl (cl' rfl Try.func97 rfl (fun r176 m176 => spec_l13copy.calls x79.1 s80.w (fun b => memb [49, 0] (s80.g b) = true) vx79_0 Ax79_0.rd r176 m176) ?_))))
     rintro r176 v176_0 w176 m176 ⟨f176_0, ky176⟩
     obtain ⟨s177, rfl, p177, n177⟩ := nwx s80 w176 51 ky176
     have A176_0 := f176_0.c n177
     refine asg' v176_0 rfl (pu' rfl (dn ?_))
     have K179 := (Kx79.st p177 rfl)
     exact re rfl Try.func33 rfl (r_t rfl (r_t rfl r_nil)) rfl ⟨_, rfl, v176_0, rfl, A176_0.fo K179 rfl z.l, z.ky K179⟩
noncomputable def impl_Track_isActive.f (a0 : Track) : Option (Bool) :=
 (some (a0.Ended == (0 : Int)))
def impl_Track_isActive.Q (w : World) (F : Nat → Prop) (r : Bool) (v : Value) (w' : World) : Prop :=
 v = (.bool r) ∧ Ky [] w w'
set_option maxHeartbeats 4000000 in
set_option maxRecDepth 100000 in
theorem impl_Track_isActive.calls (a0 : Track) (w : World) (F : Nat → Prop) (w0_0 : Value) (w0_1 : Value) (h0_0 : (Kd.sl 80 kd80).rd w [w0_0] a0.Reads F) (h0_1 : (Kd.sl 48 kd48).rd w [w0_1] a0.Writes F) (r : Bool) (m : impl_Track_isActive.f a0 = some r) :
  Calls Try.prog 90 #[(.agg #[(.int .i64 a0.Xid), (.int .i64 a0.Begun), (.int .i64 a0.Ended), (.bool a0.All), w0_0, w0_1, (.bool a0.In), (.bool a0.Out)])] w (RT (impl_Track_isActive.Q w F) r) := by
 obtain ⟨s0, rfl, kp0, z⟩ := start0 w F
 have A0_0 := z.rd h0_0
 have A0_1 := z.rd h0_1
 refine calls_of_TM (args := [(.agg #[(.int .i64 a0.Xid), (.int .i64 a0.Begun), (.int .i64 a0.Ended), (.bool a0.All), w0_0, w0_1, (.bool a0.In), (.bool a0.Out)])]) Try.func90 Try.ntmps90 rfl rfl m ?_
 unfold impl_Track_isActive.f
 refine sr (bx' (cs := [(.int .i64 a0.Xid), (.int .i64 a0.Begun), (.int .i64 a0.Ended), (.bool a0.All), w0_0, w0_1, (.bool a0.In), (.bool a0.Out)]) 40 rfl rfl (fun b3 s3 p3 B3 => ?_))
 refine pu' rfl (dn (sr (fa' fa59_2 rfl (ld' B3 Try.underlying3 rfl (pu' rfl (pu' rfl (dn ?_)))))))
 have K5 := (kp0.st p3 rfl)
 exact re rfl Try.func90 rfl (r_t rfl r_nil) rfl ⟨_, rfl, rfl, z.ky K5⟩
noncomputable def impl_Concurrent.f (a0 : Track) (a1 : Track) : Option (Bool) :=
 ((impl_Track_isActive.f a0).bind fun r13 => ((if (r13 || (decide (a0.Ended > a1.Begun))) = true then ((impl_Track_isActive.f a1).bind fun r23 => (some (r23 || (decide (a1.Ended > a0.Begun))))) else (some false)).bind fun y18 => (some y18)))
def impl_Concurrent.Q (w : World) (F : Nat → Prop) (r : Bool) (v : Value) (w' : World) : Prop :=
 v = (.bool r) ∧ Ky [] w w'
set_option maxHeartbeats 4000000 in
set_option maxRecDepth 100000 in
theorem impl_Concurrent.calls (a0 : Track) (a1 : Track) (w : World) (F : Nat → Prop) (w0_0 : Value) (w0_1 : Value) (w1_0 : Value) (w1_1 : Value) (h0_0 : (Kd.sl 80 kd80).rd w [w0_0] a0.Reads F) (h0_1 : (Kd.sl 48 kd48).rd w [w0_1] a0.Writes F) (h1_0 : (Kd.sl 80 kd80).rd w [w1_0] a1.Reads F) (h1_1 : (Kd.sl 48 kd48).rd w [w1_1] a1.Writes F) (r : Bool) (m : impl_Concurrent.f a0 a1 = some r) :
  Calls Try.prog 31 #[(.agg #[(.int .i64 a0.Xid), (.int .i64 a0.Begun), (.int .i64 a0.Ended), (.bool a0.All), w0_0, w0_1, (.bool a0.In), (.bool a0.Out)]), (.agg #[(.int .i64 a1.Xid), (.int .i64 a1.Begun), (.int .i64 a1.Ended), (.bool a1.All), w1_0, w1_1, (.bool a1.In), (.bool a1.Out)])] w (RT (impl_Concurrent.Q w F) r) := by
 obtain ⟨s0, rfl, kp0, z⟩ := start0 w F
 have A0_0 := z.rd h0_0
 have A0_1 := z.rd h0_1
 have A1_0 := z.rd h1_0
 have A1_1 := z.rd h1_1
 refine calls_of_TM (args := [(.agg #[(.int .i64 a0.Xid), (.int .i64 a0.Begun), (.int .i64 a0.Ended), (.bool a0.All), w0_0, w0_1, (.bool a0.In), (.bool a0.Out)]), (.agg #[(.int .i64 a1.Xid), (.int .i64 a1.Begun), (.int .i64 a1.Ended), (.bool a1.All), w1_0, w1_1, (.bool a1.In), (.bool a1.Out)])]) Try.func31 Try.ntmps31 rfl rfl m ?_
 unfold impl_Concurrent.f
 refine sr (bx' (cs := [(.int .i64 a0.Xid), (.int .i64 a0.Begun), (.int .i64 a0.Ended), (.bool a0.All), w0_0, w0_1, (.bool a0.In), (.bool a0.Out)]) 40 rfl rfl (fun b5 s5 p5 B5 => ?_))
 refine bx' (cs := [(.int .i64 a1.Xid), (.int .i64 a1.Begun), (.int .i64 a1.Ended), (.bool a1.All), w1_0, w1_1, (.bool a1.In), (.bool a1.Out)]) 41 rfl rfl (fun b7 s7 p7 B7 => ?_)
 refine pu' rfl (dn (sr ?_))
 have A9 := (BlF.st B5 p7 rfl)
 refine lda' (es := [(.int .i64 a0.Xid), (.int .i64 a0.Begun), (.int .i64 a0.Ended), (.bool a0.All), w0_0, w0_1, (.bool a0.In), (.bool a0.Out)]) A9 Try.underlying59 z59 rfl ?_
 have K10 := (kp0.st (tr2 p5 p7) rfl)
 have A11 := (A0_0.kp K10)
 have A12 := (A0_1.kp K10)
 refine cl' rfl Try.func90 rfl (fun r13 m13 => impl_Track_isActive.calls a0 s7.w (fun b => memb [0] (s7.g b) = true) w0_0 w0_1 A11 A12 r13 m13) ?_
 rintro r13 _ w13 m13 ⟨rfl, ky13⟩
 obtain ⟨s14, rfl, p14, n14⟩ := nwx s7 w13 42 ky13
 refine pu' rfl (jy [7, 8, 9, 10, 11, 12, 13] [9, 10, 11, 12, 13, 14, 15, 16, 17, 18, 19, 20] 13 (.bool (r13 || (decide (a0.Ended > a1.Begun)))) rfl (fun Kg15 => ?_) (fun j15 => ?_))
 ·
  rcases Bool.eq_false_or_eq_true r13 with hb15 | hb15
  ·
   exact sbT hb15 (uw' rfl (uw' rfl (uw' rfl (uw' rfl (uw' rfl (pu' rfl (Kg15 _ (Ag.put ((Ag.put ((Ag.put ((Ag.put ((Ag.put ((Ag.put (Ag.base rfl) rfl)) rfl)) rfl)) rfl)) rfl)) rfl) (by rw [hb15]; rfl))))))))
  ·
   refine sbT hb15 (fa' fa59_2 rfl ?_)
   have A16 := (BlF.st A9 p14 rfl)
   refine ld' A16 Try.underlying3 rfl (fa' fa59_1 rfl ?_)
   have A17 := (BlF.st B7 p14 rfl)
   exact ld' A17 Try.underlying3 rfl (pu' rfl (pu' rfl (Kg15 _ (Ag.put ((Ag.put ((Ag.put ((Ag.put ((Ag.put ((Ag.put (Ag.base rfl) rfl)) rfl)) rfl)) rfl)) rfl)) rfl) (by rw [hb15]; rfl))))
 refine pu' rfl (ji [20] (fun (y18 : Bool) (e : Env) (w : World) => ∃ (s : St) (e0 : Env), w = s.w ∧ e = upd e0 24 (.bool y18) ∧ Kp s0 s) (fun Gj18 Kj18 => ?_) ?_)
 ·
  rcases Bool.eq_false_or_eq_true (r13 || (decide (a0.Ended > a1.Begun))) with hb18 | hb18
  ·
   refine sbT hb18 ?_
   rw [if_pos hb18]
   have A19 := (BlF.st B7 p14 rfl)
   refine lda' (es := [(.int .i64 a1.Xid), (.int .i64 a1.Begun), (.int .i64 a1.Ended), (.bool a1.All), w1_0, w1_1, (.bool a1.In), (.bool a1.Out)]) A19 Try.underlying59 z59 rfl ?_
   have K20 := (K10.st p14 rfl)
   have A21 := (A1_0.kp K20)
   have A22 := (A1_1.kp K20)
   refine cl' rfl Try.func90 rfl (fun r23 m23 => impl_Track_isActive.calls a1 s14.w (fun b => memb [0] (s14.g b) = true) w1_0 w1_1 A21 A22 r23 m23) ?_
   rintro r23 _ w23 m23 ⟨rfl, ky23⟩
   obtain ⟨s24, rfl, p24, n24⟩ := nwx s14 w23 43 ky23
   refine pu' rfl (jy [17, 18, 19, 20, 21, 22, 23] [19, 20] 23 (.bool (r23 || (decide (a1.Ended > a0.Begun)))) rfl (fun Kg25 => ?_) (fun j25 => ?_))
   ·
    rcases Bool.eq_false_or_eq_true r23 with hb25 | hb25
    ·
     exact sbT hb25 (uw' rfl (uw' rfl (uw' rfl (uw' rfl (uw' rfl (pu' rfl (Kg25 _ (Ag.put ((Ag.put ((Ag.put ((Ag.put ((Ag.put ((Ag.put (Ag.base rfl) rfl)) rfl)) rfl)) rfl)) rfl)) rfl) (by rw [hb25]; rfl))))))))
    ·
     refine sbT hb25 (fa' fa59_2 rfl ?_)
     have A26 := (BlF.st A19 p24 rfl)
     refine ld' A26 Try.underlying3 rfl (fa' fa59_1 rfl ?_)
     have A27 := (BlF.st A9 (tr2 p14 p24) rfl)
     exact ld' A27 Try.underlying3 rfl (pu' rfl (pu' rfl (Kg25 _ (Ag.put ((Ag.put ((Ag.put ((Ag.put ((Ag.put ((Ag.put (Ag.base rfl) rfl)) rfl)) rfl)) rfl)) rfl)) rfl) (by rw [hb25]; rfl))))
   refine pu' rfl ?_
   have K28 := (K20.st p24 rfl)
   exact Kj18 _ _ _ ⟨s24, _, rfl, (ue rfl rfl), K28⟩
  ·
   refine sbT hb18 ?_
   rw [if_neg (by rw [hb18]; decide)]
   refine uw' rfl (uw' rfl (uw' rfl (uw' rfl (uw' rfl (uw' rfl (uw' rfl (uw' rfl (uw' rfl (pu' rfl ?_)))))))))
   have K29 := (K10.st p14 rfl)
   exact Kj18 _ _ _ ⟨s14, _, rfl, (ue rfl rfl), K29⟩
 rintro y18 _ _ ⟨s30, _, rfl, rfl, Ky18⟩
 exact pu' rfl (dn (re rfl Try.func31 rfl (r_t rfl r_nil) rfl ⟨_, rfl, rfl, z.ky Ky18⟩))
noncomputable def impl_active_1.f (a0 : Track) (a1 : Int) : Option (Bool) :=
 ((if (a0.Xid == a1) = true then ((impl_Track_isActive.f a0).bind fun r11 => (some r11)) else (some false)).bind fun y7 => (some y7))
def impl_active_1.Q (w : World) (F : Nat → Prop) (r : Bool) (v : Value) (w' : World) : Prop :=
 v = (.bool r) ∧ Ky [] w w'
set_option maxHeartbeats 4000000 in
set_option maxRecDepth 100000 in
theorem impl_active_1.calls (a0 : Track) (a1 : Int) (w : World) (F : Nat → Prop) (w0_0 : Value) (w0_1 : Value) (c1 : Nat) (h0_0 : (Kd.sl 80 kd80).rd w [w0_0] a0.Reads F) (h0_1 : (Kd.sl 48 kd48).rd w [w0_1] a0.Writes F) (hb1 : BlW w c1 3 [(.int .i64 a1)]) (hp1 : F c1) (r : Bool) (m : impl_active_1.f a0 a1 = some r) :
  Calls Try.prog 156 #[(.agg #[(.int .i64 a0.Xid), (.int .i64 a0.Begun), (.int .i64 a0.Ended), (.bool a0.All), w0_0, w0_1, (.bool a0.In), (.bool a0.Out)]), (.pointer (some ⟨c1, 0, none⟩))] w (RT (impl_active_1.Q w F) r) := by
 obtain ⟨s0, rfl, kp0, z⟩ := start0 w F
 have A0_0 := z.rd h0_0
 have A0_1 := z.rd h0_1
 have B1 := z.b0 hb1 hp1
 refine calls_of_TM (args := [(.agg #[(.int .i64 a0.Xid), (.int .i64 a0.Begun), (.int .i64 a0.Ended), (.bool a0.All), w0_0, w0_1, (.bool a0.In), (.bool a0.Out)]), (.pointer (some ⟨c1, 0, none⟩))]) Try.func156 Try.ntmps156 rfl rfl m ?_
 unfold impl_active_1.f
 refine sr (bx' (cs := [(.int .i64 a0.Xid), (.int .i64 a0.Begun), (.int .i64 a0.Ended), (.bool a0.All), w0_0, w0_1, (.bool a0.In), (.bool a0.Out)]) 40 rfl rfl (fun b4 s4 p4 B4 => ?_))
 refine pu' rfl (dn (sr (fa' fa59_0 rfl (ld' B4 Try.underlying3 rfl ?_))))
 have A6 := (BlF.st B1 p4 rfl)
 refine ld' A6 Try.underlying3 rfl (pu' rfl (pu' rfl (ji [8] (fun (y7 : Bool) (e : Env) (w : World) => ∃ (s : St) (e0 : Env), w = s.w ∧ e = upd e0 11 (.bool y7) ∧ Kp s0 s) (fun Gj7 Kj7 => ?_) ?_)))
 ·
  rcases Bool.eq_false_or_eq_true (a0.Xid == a1) with hb7 | hb7
  ·
   refine sbT hb7 ?_
   rw [if_pos hb7]
   refine lda' (es := [(.int .i64 a0.Xid), (.int .i64 a0.Begun), (.int .i64 a0.Ended), (.bool a0.All), w0_0, w0_1, (.bool a0.In), (.bool a0.Out)]) B4 Try.underlying59 z59 rfl ?_
   have K8 := (kp0.st p4 rfl)
   have A9 := (A0_0.kp K8)
   have A10 := (A0_1.kp K8)
   refine cl' rfl Try.func90 rfl (fun r11 m11 => impl_Track_isActive.calls a0 s4.w (fun b => memb [0] (s4.g b) = true) w0_0 w0_1 A9 A10 r11 m11) ?_
   rintro r11 _ w11 m11 ⟨rfl, ky11⟩
   obtain ⟨s12, rfl, p12, n12⟩ := nwx s4 w11 41 ky11
   refine pu' rfl ?_
   have K13 := (K8.st p12 rfl)
   exact Kj7 _ _ _ ⟨s12, _, rfl, (ue rfl rfl), K13⟩
  ·
   refine sbT hb7 ?_
   rw [if_neg (by rw [hb7]; decide)]
   refine uw' rfl (uw' rfl (pu' rfl ?_))
   have K14 := (kp0.st p4 rfl)
   exact Kj7 _ _ _ ⟨s4, _, rfl, (ue rfl rfl), K14⟩
 rintro y7 _ _ ⟨s15, _, rfl, rfl, Ky7⟩
 exact pu' rfl (dn (re rfl Try.func156 rfl (r_t rfl r_nil) rfl ⟨_, rfl, rfl, z.ky Ky7⟩))
noncomputable def slices_IndexFunc_impl_Track_impl_Track.b0 (a0 : (List Track)) (a1 : (Track → Option Bool)) (x2 : Int) : Option (Int ⊕ Int) :=
 (if (decide (x2 < (a0.length : Int))) = true then (if 0 ≤ x2 ∧ x2 < (a0.length : Int) then ((a1 (at_ a0 x2)).bind fun r10 => (if r10 = true then (some (Sum.inr x2)) else (some (Sum.inl (IntKind.wrap .i64 (x2 + (1 : Int))))))) else none) else ((some (-1 : Int)).bind fun o => some (Sum.inr o)))
noncomputable def slices_IndexFunc_impl_Track_impl_Track.f (a0 : (List Track)) (a1 : (Track → Option Bool)) : Option (Int) :=
 (iter (slices_IndexFunc_impl_Track_impl_Track.b0 a0 a1) (0 : Int))
def slices_IndexFunc_impl_Track_impl_Track.Q (w : World) (F : Nat → Prop) (r : Int) (v : Value) (w' : World) : Prop :=
 v = (.int .i64 r) ∧ Ky [] w w'
set_option maxHeartbeats 4000000 in
set_option maxRecDepth 100000 in
theorem slices_IndexFunc_impl_Track_impl_Track.calls (a0 : (List Track)) (a1 : (Track → Option Bool)) (w : World) (F : Nat → Prop) (w0_0 : Value) (f1 : Value) (h0_0 : (Kd.sl 59 kd59).rd w [w0_0] a0 F) (hf1 : ∀ (x0 : Track) (u0_0 u0_1 : Value) (w' : World), Ky [] w w' → (Kd.sl 80 kd80).rd w' [u0_0] x0.Reads (fun _ => True) → (Kd.sl 48 kd48).rd w' [u0_1] x0.Writes (fun _ => True) → ∀ r, a1 x0 = some r → CallV Try.prog f1 [(.agg #[(.int .i64 x0.Xid), (.int .i64 x0.Begun), (.int .i64 x0.Ended), (.bool x0.All), u0_0, u0_1, (.bool x0.In), (.bool x0.Out)])] w' fun en w'' => ∃ v, en = .returned v ∧ v = (.bool r) ∧ Ky [] w' w'') (ho1 : f1.cells = #[f1]) (r : Int) (m : slices_IndexFunc_impl_Track_impl_Track.f a0 a1 = some r) :
  Calls Try.prog 155 #[w0_0, f1] w (RT (slices_IndexFunc_impl_Track_impl_Track.Q w F) r) := by
 obtain ⟨s0, rfl, kp0, z⟩ := start0 w F
 have A0_0 := z.rd h0_0
 refine calls_of_TM (args := [w0_0, f1]) Try.func155 Try.ntmps155 rfl rfl m ?_
 unfold slices_IndexFunc_impl_Track_impl_Track.f
 refine sr (pu' rfl (dn (sq (sr (mv' w0_0 rfl (ln' A0_0 Try.underlying62 rfl (pu' rfl (dn (bl (lpI (fun (x2 : Int) (e : Env) (w : World) => ∃ (s : St) (e0 : Env), w = s.w ∧ e = upd (upd (upd (upd e0 0 w0_0) 1 f1) 7 (.int .i64 (a0.length : Int))) 8 (.int .i64 x2) ∧ Kp s0 s) ⟨s0, _, rfl, (ue (ue (ue (ue rfl rfl) rfl) rfl) rfl), kp0⟩ (fun g2 ih2 => ?_)))))))))))
 rintro x2 _ _ ⟨s3, _, rfl, rfl, Kx2⟩
 unfold slices_IndexFunc_impl_Track_impl_Track.b0
 refine sr (pu' rfl (dn (sq (cd rfl (fun h4 => ?_) (fun h4 => ?_)))))
 ·
  refine sk (sq (bl (sr (pu' rfl (pu' rfl (dn (sr (mv' f1 rfl (mv' w0_0 rfl (pu' rfl ?_))))))))))
  have A5 := (A0_0.kp Kx2)
  refine ix' A5 Try.underlying62 z59 rfl (fun ad6 es6 h0_6 h1_6 he6 ce6 ia6 => ?_)
  obtain ⟨v6_0, v6_1, rfl, A6_0, A6_1⟩ := op59 he6
  refine lca' ce6 Try.underlying59 z59 rfl (clv rfl rfl rfl rfl rfl rfl rfl (fun r10 m10 => hf1 (at_ a0 x2) v6_0 v6_1 s3.w (z.ky Kx2) (RdF.top A6_0) (RdF.top A6_1) r10 m10) ?_)
  rintro r10 _ w10 m10 ⟨rfl, ky10⟩
  obtain ⟨s11, rfl, p11, n11⟩ := nwx s3 w10 40 ky10
  refine dn (cd rfl (fun h12 => ?_) (fun h12 => ?_))
  ·
   refine sr (pu' rfl (pu' rfl (dn (sgi ?_))))
   have K13 := (Kx2.st p11 rfl)
   exact re rfl Try.func155 rfl (r_t rfl r_nil) rfl ⟨_, rfl, rfl, z.ky K13⟩
  ·
   refine sk (ib (rg (pu' rfl (pu' rfl (dn ?_)))))
   have K14 := (Kx2.st p11 rfl)
   exact lb ih2 ⟨s11, _, rfl, (ue (ue (ue (ue rfl rfl) rfl) rfl) rfl), K14⟩
 ·
  exact xt rfl (sgb (sr (pu' rfl (dn (re rfl Try.func155 rfl (r_t rfl r_nil) rfl ⟨_, rfl, rfl, z.ky Kx2⟩)))))
noncomputable def impl_active.f (a0 : (List Track)) (a1 : Int) : Option (Int) :=
 ((slices_IndexFunc_impl_Track_impl_Track.f a0 (fun x0 => impl_active_1.f x0 a1)).bind fun r6 => (some r6))
def impl_active.Q (w : World) (F : Nat → Prop) (r : Int) (v : Value) (w' : World) : Prop :=
 v = (.int .i64 r) ∧ Ky [] w w'
set_option maxHeartbeats 4000000 in
set_option maxRecDepth 100000 in
theorem impl_active.calls (a0 : (List Track)) (a1 : Int) (w : World) (F : Nat → Prop) (w0_0 : Value) (h0_0 : (Kd.sl 59 kd59).rd w [w0_0] a0 F) (r : Int) (m : impl_active.f a0 a1 = some r) :
  Calls Try.prog 91 #[w0_0, (.int .i64 a1)] w (RT (impl_active.Q w F) r) := by
 obtain ⟨s0, rfl, kp0, z⟩ := start0 w F
 have A0_0 := z.rd h0_0
 refine calls_of_TM (args := [w0_0, (.int .i64 a1)]) Try.func91 Try.ntmps91 rfl rfl m ?_
 unfold impl_active.f
 refine sr (bx' (cs := [(.int .i64 a1)]) 40 rfl rfl (fun b2 s2 p2 B2 => ?_))
 refine pu' rfl (dn (sr (mv' w0_0 rfl (mkf (fs := []) (cs := [(.pointer (some ⟨b2, 0, none⟩))]) rfl rfl rfl rfl rfl rfl rfl ?_))))
 have K4 := (kp0.st p2 rfl)
 have A5 := (A0_0.kp K4)
 refine cl' rfl Try.func155 rfl (fun r6 m6 => slices_IndexFunc_impl_Track_impl_Track.calls a0 (fun x0 => impl_active_1.f x0 a1) s2.w (fun b => memb [0] (s2.g b) = true) w0_0 (.func (.func 156) (List.toArray []) (List.toArray [(.pointer (some ⟨b2, 0, none⟩))])) A5 (fun x0 u0_0 u0_1 w' k h0 h1 r m =>  ⟨156, _, _, [], [(.pointer (some ⟨b2, 0, none⟩))], rfl, Try.func156, rfl, rfl, (impl_active_1.calls x0 a1 w' (fun _ => True) u0_0 u0_1 b2 h0 h1 (BlF.ky B2 k) trivial r m).mono fun en w2 hq => by obtain ⟨v, e, q⟩ := hq; exact ⟨v, e, q⟩⟩) rfl r6 m6) ?_
 rintro r6 _ w6 m6 ⟨rfl, ky6⟩
 obtain ⟨s7, rfl, p7, n7⟩ := nwx s2 w6 41 ky6
 refine pu' rfl (dn ?_)
 have K8 := (K4.st p7 rfl)
 exact re rfl Try.func91 rfl (r_t rfl r_nil) rfl ⟨_, rfl, rfl, z.ky K8⟩
noncomputable def impl_areAll_impl_Track_1.f (a0 : Track) (a1 : (Track → Option Bool)) : Option (Bool) :=
 ((a1 a0).bind fun r10 => (some (!r10)))
def impl_areAll_impl_Track_1.Q (w : World) (F : Nat → Prop) (r : Bool) (v : Value) (w' : World) : Prop :=
 v = (.bool r) ∧ Ky [] w w'
set_option maxHeartbeats 4000000 in
set_option maxRecDepth 100000 in
theorem impl_areAll_impl_Track_1.calls (a0 : Track) (a1 : (Track → Option Bool)) (w : World) (F : Nat → Prop) (w0_0 : Value) (w0_1 : Value) (c1 : Nat) (f1 : Value) (h0_0 : (Kd.sl 80 kd80).rd w [w0_0] a0.Reads F) (h0_1 : (Kd.sl 48 kd48).rd w [w0_1] a0.Writes F) (hf1 : ∀ (x0 : Track) (u0_0 u0_1 : Value) (w' : World), Ky [] w w' → (Kd.sl 80 kd80).rd w' [u0_0] x0.Reads (fun _ => True) → (Kd.sl 48 kd48).rd w' [u0_1] x0.Writes (fun _ => True) → ∀ r, a1 x0 = some r → CallV Try.prog f1 [(.agg #[(.int .i64 x0.Xid), (.int .i64 x0.Begun), (.int .i64 x0.Ended), (.bool x0.All), u0_0, u0_1, (.bool x0.In), (.bool x0.Out)])] w' fun en w'' => ∃ v, en = .returned v ∧ v = (.bool r) ∧ Ky [] w' w'') (ho1 : f1.cells = #[f1]) (hb1 : BlW w c1 144 [f1]) (hp1 : F c1) (r : Bool) (m : impl_areAll_impl_Track_1.f a0 a1 = some r) :
  Calls Try.prog 165 #[(.agg #[(.int .i64 a0.Xid), (.int .i64 a0.Begun), (.int .i64 a0.Ended), (.bool a0.All), w0_0, w0_1, (.bool a0.In), (.bool a0.Out)]), (.pointer (some ⟨c1, 0, none⟩))] w (RT (impl_areAll_impl_Track_1.Q w F) r) := by
 obtain ⟨s0, rfl, kp0, z⟩ := start0 w F
 have A0_0 := z.rd h0_0
 have A0_1 := z.rd h0_1
 have B1 := z.b0 hb1 hp1
 refine calls_of_TM (args := [(.agg #[(.int .i64 a0.Xid), (.int .i64 a0.Begun), (.int .i64 a0.Ended), (.bool a0.All), w0_0, w0_1, (.bool a0.In), (.bool a0.Out)]), (.pointer (some ⟨c1, 0, none⟩))]) Try.func165 Try.ntmps165 rfl rfl m ?_
 unfold impl_areAll_impl_Track_1.f
 refine sr (bx' (cs := [(.int .i64 a0.Xid), (.int .i64 a0.Begun), (.int .i64 a0.Ended), (.bool a0.All), w0_0, w0_1, (.bool a0.In), (.bool a0.Out)]) 40 rfl rfl (fun b4 s4 p4 B4 => ?_))
 refine pu' rfl (dn (sr ?_))
 have A6 := (BlF.st B1 p4 rfl)
 refine ld' A6 Try.underlying144 rfl (lda' (es := [(.int .i64 a0.Xid), (.int .i64 a0.Begun), (.int .i64 a0.Ended), (.bool a0.All), w0_0, w0_1, (.bool a0.In), (.bool a0.Out)]) B4 Try.underlying59 z59 rfl ?_)
 have K7 := (kp0.st p4 rfl)
 have A8 := (A0_0.kp K7)
 have A9 := (A0_1.kp K7)
 refine clv rfl rfl rfl rfl rfl rfl rfl (fun r10 m10 => hf1 a0 w0_0 w0_1 s4.w (z.ky K7) (RdF.top A8) (RdF.top A9) r10 m10) ?_
 rintro r10 _ w10 m10 ⟨rfl, ky10⟩
 obtain ⟨s11, rfl, p11, n11⟩ := nwx s4 w10 41 ky10
 refine pu' rfl (pu' rfl (dn ?_))
 have K12 := (K7.st p11 rfl)
 exact re rfl Try.func165 rfl (r_t rfl r_nil) rfl ⟨_, rfl, rfl, z.ky K12⟩
noncomputable def slices_ContainsFunc_impl_Track_impl_Track.f (a0 : (List Track)) (a1 : (Track → Option Bool)) : Option (Bool) :=
 ((slices_IndexFunc_impl_Track_impl_Track.f a0 a1).bind fun r2 => (some (decide (r2 ≥ (0 : Int)))))
def slices_ContainsFunc_impl_Track_impl_Track.Q (w : World) (F : Nat → Prop) (r : Bool) (v : Value) (w' : World) : Prop :=
 v = (.bool r) ∧ Ky [] w w'
set_option maxHeartbeats 4000000 in
set_option maxRecDepth 100000 in
theorem slices_ContainsFunc_impl_Track_impl_Track.calls (a0 : (List Track)) (a1 : (Track → Option Bool)) (w : World) (F : Nat → Prop) (w0_0 : Value) (f1 : Value) (h0_0 : (Kd.sl 59 kd59).rd w [w0_0] a0 F) (hf1 : ∀ (x0 : Track) (u0_0 u0_1 : Value) (w' : World), Ky [] w w' → (Kd.sl 80 kd80).rd w' [u0_0] x0.Reads (fun _ => True) → (Kd.sl 48 kd48).rd w' [u0_1] x0.Writes (fun _ => True) → ∀ r, a1 x0 = some r → CallV Try.prog f1 [(.agg #[(.int .i64 x0.Xid), (.int .i64 x0.Begun), (.int .i64 x0.Ended), (.bool x0.All), u0_0, u0_1, (.bool x0.In), (.bool x0.Out)])] w' fun en w'' => ∃ v, en = .returned v ∧ v = (.bool r) ∧ Ky [] w' w'') (ho1 : f1.cells = #[f1]) (r : Bool) (m : slices_ContainsFunc_impl_Track_impl_Track.f a0 a1 = some r) :
  Calls Try.prog 164 #[w0_0, f1] w (RT (slices_ContainsFunc_impl_Track_impl_Track.Q w F) r) := by
 obtain ⟨s0, rfl, kp0, z⟩ := start0 w F
 have A0_0 := z.rd h0_0
 refine calls_of_TM (args := [w0_0, f1]) Try.func164 Try.ntmps164 rfl rfl m ?_
 unfold slices_ContainsFunc_impl_Track_impl_Track.f
 refine sr (pu' rfl (dn (sr (mv' w0_0 rfl (mv' f1 rfl (cl' rfl Try.func155 rfl (fun r2 m2 => slices_IndexFunc_impl_Track_impl_Track.calls a0 a1 s0.w (fun b => memb [0] (s0.g b) = true) w0_0 f1 A0_0 (fun x0 u0_0 u0_1 w' k h0 h1 r m =>  hf1 x0 u0_0 u0_1 w' (Ky.trans (z.ky kp0) k) h0 h1 r m) ho1 r2 m2) ?_))))))
 rintro r2 _ w2 m2 ⟨rfl, ky2⟩
 obtain ⟨s3, rfl, p3, n3⟩ := nwx s0 w2 40 ky2
 refine pu' rfl (pu' rfl (dn ?_))
 have K4 := (kp0.st p3 rfl)
 exact re rfl Try.func164 rfl (r_t rfl r_nil) rfl ⟨_, rfl, rfl, z.ky K4⟩
noncomputable def impl_areAll_impl_Track.f (a0 : (List Track)) (a1 : (Track → Option Bool)) : Option (Bool) :=
 ((slices_ContainsFunc_impl_Track_impl_Track.f a0 (fun x0 => impl_areAll_impl_Track_1.f x0 a1)).bind fun r6 => (some (!r6)))
def impl_areAll_impl_Track.Q (w : World) (F : Nat → Prop) (r : Bool) (v : Value) (w' : World) : Prop :=
 v = (.bool r) ∧ Ky [] w w'
set_option maxHeartbeats 4000000 in
set_option maxRecDepth 100000 in
theorem impl_areAll_impl_Track.calls (a0 : (List Track)) (a1 : (Track → Option Bool)) (w : World) (F : Nat → Prop) (w0_0 : Value) (f1 : Value) (h0_0 : (Kd.sl 59 kd59).rd w [w0_0] a0 F) (hf1 : ∀ (x0 : Track) (u0_0 u0_1 : Value) (w' : World), Ky [] w w' → (Kd.sl 80 kd80).rd w' [u0_0] x0.Reads (fun _ => True) → (Kd.sl 48 kd48).rd w' [u0_1] x0.Writes (fun _ => True) → ∀ r, a1 x0 = some r → CallV Try.prog f1 [(.agg #[(.int .i64 x0.Xid), (.int .i64 x0.Begun), (.int .i64 x0.Ended), (.bool x0.All), u0_0, u0_1, (.bool x0.In), (.bool x0.Out)])] w' fun en w'' => ∃ v, en = .returned v ∧ v = (.bool r) ∧ Ky [] w' w'') (ho1 : f1.cells = #[f1]) (r : Bool) (m : impl_areAll_impl_Track.f a0 a1 = some r) :
  Calls Try.prog 98 #[w0_0, f1] w (RT (impl_areAll_impl_Track.Q w F) r) := by
 obtain ⟨s0, rfl, kp0, z⟩ := start0 w F
 have A0_0 := z.rd h0_0
 refine calls_of_TM (args := [w0_0, f1]) Try.func98 Try.ntmps98 rfl rfl m ?_
 unfold impl_areAll_impl_Track.f
 refine sr (bx' (cs := [f1]) 40 rfl ho1 (fun b2 s2 p2 B2 => ?_))
 refine pu' rfl (dn (sr (mv' w0_0 rfl (mkf (fs := []) (cs := [(.pointer (some ⟨b2, 0, none⟩))]) rfl rfl rfl rfl rfl rfl rfl ?_))))
 have K4 := (kp0.st p2 rfl)
 have A5 := (A0_0.kp K4)
 refine cl' rfl Try.func164 rfl (fun r6 m6 => slices_ContainsFunc_impl_Track_impl_Track.calls a0 (fun x0 => impl_areAll_impl_Track_1.f x0 a1) s2.w (fun b => memb [0] (s2.g b) = true) w0_0 (.func (.func 165) (List.toArray []) (List.toArray [(.pointer (some ⟨b2, 0, none⟩))])) A5 (fun x0 u0_0 u0_1 w' k h0 h1 r m =>  ⟨165, _, _, [], [(.pointer (some ⟨b2, 0, none⟩))], rfl, Try.func165, rfl, rfl, (impl_areAll_impl_Track_1.calls x0 a1 w' (fun _ => True) u0_0 u0_1 b2 f1 h0 h1 (fun x0c u0_0c u0_1c w'c kc h0c h1c r m =>  hf1 x0c u0_0c u0_1c w'c (Ky.trans (z.ky K4) (Ky.trans k kc)) h0c h1c r m) ho1 (BlF.ky B2 k) trivial r m).mono fun en w2 hq => by obtain ⟨v, e, q⟩ := hq; exact ⟨v, e, q⟩⟩) rfl r6 m6) ?_
 rintro r6 _ w6 m6 ⟨rfl, ky6⟩
 obtain ⟨s7, rfl, p7, n7⟩ := nwx s2 w6 41 ky6
 refine pu' rfl (pu' rfl (dn ?_))
 have K8 := (K4.st p7 rfl)
 exact re rfl Try.func98 rfl (r_t rfl r_nil) rfl ⟨_, rfl, rfl, z.ky K8⟩
noncomputable def impl_isXid.f (a0 : Int) : Option (Bool) :=
 ((impl_within.f a0 (1 : Int) (400 : Int)).bind fun r1 => (some r1))
def impl_isXid.Q (w : World) (F : Nat → Prop) (r : Bool) (v : Value) (w' : World) : Prop :=
 v = (.bool r) ∧ Ky [] w w'
set_option maxHeartbeats 4000000 in
set_option maxRecDepth 100000 in
theorem impl_isXid.calls (a0 : Int) (w : World) (F : Nat → Prop)   (r : Bool) (m : impl_isXid.f a0 = some r) :
  Calls Try.prog 166 #[(.int .i64 a0)] w (RT (impl_isXid.Q w F) r) := by
 obtain ⟨s0, rfl, kp0, z⟩ := start0 w F
 refine calls_of_TM (args := [(.int .i64 a0)]) Try.func166 Try.ntmps166 rfl rfl m ?_
 unfold impl_isXid.f
 refine sr (pu' rfl (dn (sr (pu' rfl (cl' rfl Try.func139 rfl (fun r1 m1 => impl_within.calls a0 (1 : Int) (400 : Int) s0.w (fun b => memb [] (s0.g b) = true)  r1 m1) ?_)))))
 rintro r1 _ w1 m1 ⟨rfl, ky1⟩
 obtain ⟨s2, rfl, p2, n2⟩ := nwx s0 w1 40 ky1
 refine pu' rfl (dn ?_)
 have K3 := (kp0.st p2 rfl)
 exact re rfl Try.func166 rfl (r_t rfl r_nil) rfl ⟨_, rfl, rfl, z.ky K3⟩
noncomputable def impl_isTrack.f (a0 : Track) : Option (Bool) :=
 ((impl_isXid.f a0.Xid).bind fun r5 => ((if (((r5 && (decide (a0.Begun ≥ (1 : Int)))) && ((a0.Ended == (0 : Int)) || (decide (a0.Ended > a0.Begun)))) && (decide ((a0.Reads.length : Int) ≤ (6 : Int)))) = true then ((impl_areAll_impl_Span.f a0.Reads impl_SpanOk.f).bind fun r20 => (some r20)) else (some false)).bind fun y16 => ((if ((y16 && (((a0.Reads.length : Int) == (0 : Int)) || (!a0.All))) && (decide ((a0.Writes.length : Int) ≤ (200 : Int)))) = true then ((impl_areAll_impl_Item.f a0.Writes impl_KeyOk.f).bind fun r35 => (some r35)) else (some false)).bind fun y33 => (some y33))))
def impl_isTrack.Q (w : World) (F : Nat → Prop) (r : Bool) (v : Value) (w' : World) : Prop :=
 v = (.bool r) ∧ Ky [] w w'
set_option maxHeartbeats 4000000 in
set_option maxRecDepth 100000 in
theorem impl_isTrack.calls (a0 : Track) (w : World) (F : Nat → Prop) (w0_0 : Value) (w0_1 : Value) (h0_0 : (Kd.sl 80 kd80).rd w [w0_0] a0.Reads F) (h0_1 : (Kd.sl 48 kd48).rd w [w0_1] a0.Writes F) (r : Bool) (m : impl_isTrack.f a0 = some r) :
  Calls Try.prog 99 #[(.agg #[(.int .i64 a0.Xid), (.int .i64 a0.Begun), (.int .i64 a0.Ended), (.bool a0.All), w0_0, w0_1, (.bool a0.In), (.bool a0.Out)])] w (RT (impl_isTrack.Q w F) r) := by
 obtain ⟨s0, rfl, kp0, z⟩ := start0 w F
 have A0_0 := z.rd h0_0
 have A0_1 := z.rd h0_1
 refine calls_of_TM (args := [(.agg #[(.int .i64 a0.Xid), (.int .i64 a0.Begun), (.int .i64 a0.Ended), (.bool a0.All), w0_0, w0_1, (.bool a0.In), (.bool a0.Out)])]) Try.func99 Try.ntmps99 rfl rfl m ?_
 unfold impl_isTrack.f
 refine sr (bx' (cs := [(.int .i64 a0.Xid), (.int .i64 a0.Begun), (.int .i64 a0.Ended), (.bool a0.All), w0_0, w0_1, (.bool a0.In), (.bool a0.Out)]) 40 rfl rfl (fun b3 s3 p3 B3 => ?_))
 refine pu' rfl (dn (sr (fa' fa59_0 rfl (ld' B3 Try.underlying3 rfl (cl' rfl Try.func166 rfl (fun r5 m5 => impl_isXid.calls a0.Xid s3.w (fun b => memb [] (s3.g b) = true)  r5 m5) ?_)))))
 rintro r5 _ w5 m5 ⟨rfl, ky5⟩
 obtain ⟨s6, rfl, p6, n6⟩ := nwx s3 w5 41 ky5
 refine pu' rfl (jy [6, 7, 8, 9, 10] [8, 9, 10, 11, 12, 13, 14, 15, 16, 17, 18, 19, 20, 21, 22, 23, 24, 25, 26, 27, 28, 29, 30, 31, 32, 33, 34, 35, 36, 37, 38, 39, 40, 41, 42, 43, 44, 45, 46, 47, 48, 49, 50, 51, 52, 53] 10 (.bool (r5 && (decide (a0.Begun ≥ (1 : Int))))) rfl (fun Kg7 => ?_) (fun j7 => ?_))
 ·
  rcases Bool.eq_false_or_eq_true r5 with hb7 | hb7
  ·
   refine sbT hb7 (fa' fa59_1 rfl ?_)
   have A8 := (BlF.st B3 p6 rfl)
   exact ld' A8 Try.underlying3 rfl (pu' rfl (pu' rfl (Kg7 _ (Ag.put ((Ag.put ((Ag.put ((Ag.put (Ag.base rfl) rfl)) rfl)) rfl)) rfl) (by rw [hb7]; rfl))))
  ·
   exact sbT hb7 (uw' rfl (uw' rfl (uw' rfl (pu' rfl (Kg7 _ (Ag.put ((Ag.put ((Ag.put ((Ag.put (Ag.base rfl) rfl)) rfl)) rfl)) rfl) (by rw [hb7]; rfl))))))
 refine pu' rfl (jy [11, 12, 13, 14, 15, 16, 17, 18, 19, 20, 21, 22] [20, 21, 22, 23, 24, 25, 26, 27, 28, 29, 30, 31, 32, 33, 34, 35, 36, 37, 38, 39, 40, 41, 42, 43, 44, 45, 46, 47, 48, 49, 50, 51, 52, 53] 22 (.bool ((r5 && (decide (a0.Begun ≥ (1 : Int)))) && ((a0.Ended == (0 : Int)) || (decide (a0.Ended > a0.Begun))))) rfl (fun Kg9 => ?_) (fun j9 => ?_))
 ·
  rcases Bool.eq_false_or_eq_true (r5 && (decide (a0.Begun ≥ (1 : Int)))) with hb9 | hb9
  ·
   refine sbT hb9 (fa' fa59_2 rfl ?_)
   have A10 := (BlF.st B3 p6 rfl)
   refine ld' A10 Try.underlying3 rfl (pu' rfl (pu' rfl (jy [15, 16, 17, 18, 19, 20, 21] [19, 20, 21, 22, 23, 24, 25, 26, 27, 28, 29, 30, 31, 32, 33, 34, 35, 36, 37, 38, 39, 40, 41, 42, 43, 44, 45, 46, 47, 48, 49, 50, 51, 52, 53] 21 (.bool ((a0.Ended == (0 : Int)) || (decide (a0.Ended > a0.Begun)))) rfl (fun Kg11 => ?_) (fun j11 => ?_))))
   ·
    rcases Bool.eq_false_or_eq_true (a0.Ended == (0 : Int)) with hb11 | hb11
    ·
     exact sbT hb11 (uw' rfl (uw' rfl (uw' rfl (uw' rfl (uw' rfl (pu' rfl (Kg11 _ (Ag.put ((Ag.put ((Ag.put ((Ag.put ((Ag.put ((Ag.put (Ag.base rfl) rfl)) rfl)) rfl)) rfl)) rfl)) rfl) (by rw [hb11]; rfl))))))))
    ·
     exact sbT hb11 (fa' fa59_2 rfl (ld' A10 Try.underlying3 rfl (fa' fa59_1 rfl (ld' A10 Try.underlying3 rfl (pu' rfl (pu' rfl (Kg11 _ (Ag.put ((Ag.put ((Ag.put ((Ag.put ((Ag.put ((Ag.put (Ag.base rfl) rfl)) rfl)) rfl)) rfl)) rfl)) rfl) (by rw [hb11]; rfl))))))))
   exact pu' rfl (Kg9 _ (Ag.put ((Ag.put ((Ag.ov ((Ag.put ((Ag.put ((Ag.put ((Ag.put (Ag.base rfl) rfl)) rfl)) rfl)) rfl)) rfl)) rfl)) rfl) (by rw [hb9]; rfl))
  ·
   exact sbT hb9 (uw' rfl (uw' rfl (uw' rfl (uw' rfl (uw' rfl (uw' rfl (uw' rfl (uw' rfl (uw' rfl (uw' rfl (pu' rfl (Kg9 _ (Ag.put ((Ag.put ((Ag.put ((Ag.put ((Ag.put ((Ag.put ((Ag.put ((Ag.put ((Ag.put ((Ag.put ((Ag.put (Ag.base rfl) rfl)) rfl)) rfl)) rfl)) rfl)) rfl)) rfl)) rfl)) rfl)) rfl)) rfl) (by rw [hb9]; rfl)))))))))))))
 refine pu' rfl (jy [23, 24, 25, 26, 27, 28] [26, 27, 28, 29, 30, 31, 32, 33, 34, 35, 36, 37, 38, 39, 40, 41, 42, 43, 44, 45, 46, 47, 48, 49, 50, 51, 52, 53] 28 (.bool (((r5 && (decide (a0.Begun ≥ (1 : Int)))) && ((a0.Ended == (0 : Int)) || (decide (a0.Ended > a0.Begun)))) && (decide ((a0.Reads.length : Int) ≤ (6 : Int))))) rfl (fun Kg12 => ?_) (fun j12 => ?_))
 ·
  rcases Bool.eq_false_or_eq_true ((r5 && (decide (a0.Begun ≥ (1 : Int)))) && ((a0.Ended == (0 : Int)) || (decide (a0.Ended > a0.Begun)))) with hb12 | hb12
  ·
   refine sbT hb12 (fa' fa59_4 rfl ?_)
   have A13 := (BlF.st B3 p6 rfl)
   refine ld' A13 Try.underlying56 rfl ?_
   have K14 := (kp0.st (tr2 p3 p6) rfl)
   have A15 := (A0_0.kp K14)
   exact ln' A15 Try.underlying56 rfl (pu' rfl (pu' rfl (Kg12 _ (Ag.put ((Ag.put ((Ag.put ((Ag.put ((Ag.put (Ag.base rfl) rfl)) rfl)) rfl)) rfl)) rfl) (by rw [hb12]; rfl))))
  ·
   exact sbT hb12 (uw' rfl (uw' rfl (uw' rfl (uw' rfl (pu' rfl (Kg12 _ (Ag.put ((Ag.put ((Ag.put ((Ag.put ((Ag.put (Ag.base rfl) rfl)) rfl)) rfl)) rfl)) rfl) (by rw [hb12]; rfl)))))))
 refine pu' rfl (ji [31, 32, 33, 34, 35, 36, 37, 38, 39, 40, 41, 42, 43, 44, 45, 46, 47, 48, 49, 50, 51, 52, 53] (fun (y16 : Bool) (e : Env) (w : World) => ∃ (s : St) (e0 : Env), w = s.w ∧ e = upd (upd e0 1 (.pointer (some ⟨b3, 0, none⟩))) 33 (.bool y16) ∧ Kp s0 s ∧ BlF s b3 59 [(.int .i64 a0.Xid), (.int .i64 a0.Begun), (.int .i64 a0.Ended), (.bool a0.All), w0_0, w0_1, (.bool a0.In), (.bool a0.Out)] 40) (fun Gj16 Kj16 => ?_) ?_)
 ·
  rcases Bool.eq_false_or_eq_true (((r5 && (decide (a0.Begun ≥ (1 : Int)))) && ((a0.Ended == (0 : Int)) || (decide (a0.Ended > a0.Begun)))) && (decide ((a0.Reads.length : Int) ≤ (6 : Int)))) with hb16 | hb16
  ·
   refine sbT hb16 ?_
   rw [if_pos hb16]
   refine fa' fa59_4 rfl ?_
   have A17 := (BlF.st B3 p6 rfl)
   refine ld' A17 Try.underlying56 rfl ?_
   have K18 := (kp0.st (tr2 p3 p6) rfl)
   have A19 := (A0_0.kp K18)
   refine cl' rfl Try.func167 rfl (fun r20 m20 => impl_areAll_impl_Span.calls a0.Reads impl_SpanOk.f s6.w (fun b => memb [0] (s6.g b) = true) w0_0 (.func (.func 111) #[] #[]) A19 (fun x0 u0_0 u0_1 u0_2 u0_3 w' k h0 h1 h2 h3 r m =>  ⟨111, _, _, [], [], rfl, Try.func111, rfl, rfl, (impl_SpanOk.calls x0 w' (fun _ => True) u0_0 u0_1 u0_2 u0_3 h0 h1 h2 h3 r m).mono fun en w2 hq => by obtain ⟨v, e, q⟩ := hq; exact ⟨v, e, q⟩⟩) rfl r20 m20) ?_
   rintro r20 _ w20 m20 ⟨rfl, ky20⟩
   obtain ⟨s21, rfl, p21, n21⟩ := nwx s6 w20 42 ky20
   refine pu' rfl ?_
   have A22 := (BlF.st A17 p21 rfl)
   have K23 := (K18.st p21 rfl)
   exact Kj16 _ _ _ ⟨s21, _, rfl, (ue (ue rfl rfl) rfl), K23, A22⟩
  ·
   refine sbT hb16 ?_
   rw [if_neg (by rw [hb16]; decide)]
   refine uw' rfl (uw' rfl (uw' rfl (pu' rfl ?_)))
   have A24 := (BlF.st B3 p6 rfl)
   have K25 := (kp0.st (tr2 p3 p6) rfl)
   exact Kj16 _ _ _ ⟨s6, _, rfl, (ue (ue rfl rfl) rfl), K25, A24⟩
 rintro y16 _ _ ⟨s26, _, rfl, rfl, Ky16, By16_b3⟩
 refine pu' rfl (jy [34, 35, 36, 37, 38, 39, 40, 41, 42, 43, 44] [42, 43, 44, 45, 46, 47, 48, 49, 50, 51, 52, 53] 44 (.bool (y16 && (((a0.Reads.length : Int) == (0 : Int)) || (!a0.All)))) rfl (fun Kg28 => ?_) (fun j28 => ?_))
 ·
  rcases Bool.eq_false_or_eq_true y16 with hb28 | hb28
  ·
   refine sbT hb28 (fa' fa59_4 rfl (ld' By16_b3 Try.underlying56 rfl ?_))
   have A29 := (A0_0.kp Ky16)
   refine ln' A29 Try.underlying56 rfl (pu' rfl (pu' rfl (jy [39, 40, 41, 42, 43] [41, 42, 43, 44, 45, 46, 47, 48, 49, 50, 51, 52, 53] 43 (.bool (((a0.Reads.length : Int) == (0 : Int)) || (!a0.All))) rfl (fun Kg30 => ?_) (fun j30 => ?_))))
   ·
    rcases Bool.eq_false_or_eq_true ((a0.Reads.length : Int) == (0 : Int)) with hb30 | hb30
    ·
     exact sbT hb30 (uw' rfl (uw' rfl (uw' rfl (pu' rfl (Kg30 _ (Ag.put ((Ag.put ((Ag.put ((Ag.put (Ag.base rfl) rfl)) rfl)) rfl)) rfl) (by rw [hb30]; rfl))))))
    ·
     exact sbT hb30 (fa' fa59_3 rfl (ld' By16_b3 Try.underlying4 rfl (pu' rfl (pu' rfl (Kg30 _ (Ag.put ((Ag.put ((Ag.put ((Ag.put (Ag.base rfl) rfl)) rfl)) rfl)) rfl) (by rw [hb30]; rfl))))))
   exact pu' rfl (Kg28 _ (Ag.put ((Ag.put ((Ag.ov ((Ag.put ((Ag.put ((Ag.put ((Ag.put ((Ag.put (Ag.base rfl) rfl)) rfl)) rfl)) rfl)) rfl)) rfl)) rfl)) rfl) (by rw [hb28]; rfl))
  ·
   exact sbT hb28 (uw' rfl (uw' rfl (uw' rfl (uw' rfl (uw' rfl (uw' rfl (uw' rfl (uw' rfl (uw' rfl (pu' rfl (Kg28 _ (Ag.put ((Ag.put ((Ag.put ((Ag.put ((Ag.put ((Ag.put ((Ag.put ((Ag.put ((Ag.put ((Ag.put (Ag.base rfl) rfl)) rfl)) rfl)) rfl)) rfl)) rfl)) rfl)) rfl)) rfl)) rfl) (by rw [hb28]; rfl))))))))))))
 refine pu' rfl (jy [45, 46, 47, 48, 49, 50] [48, 49, 50, 51, 52, 53] 50 (.bool ((y16 && (((a0.Reads.length : Int) == (0 : Int)) || (!a0.All))) && (decide ((a0.Writes.length : Int) ≤ (200 : Int))))) rfl (fun Kg31 => ?_) (fun j31 => ?_))
 ·
  rcases Bool.eq_false_or_eq_true (y16 && (((a0.Reads.length : Int) == (0 : Int)) || (!a0.All))) with hb31 | hb31
  ·
   refine sbT hb31 (fa' fa59_5 rfl (ld' By16_b3 Try.underlying57 rfl ?_))
   have A32 := (A0_1.kp Ky16)
   exact ln' A32 Try.underlying57 rfl (pu' rfl (pu' rfl (Kg31 _ (Ag.put ((Ag.put ((Ag.put ((Ag.put ((Ag.put (Ag.base rfl) rfl)) rfl)) rfl)) rfl)) rfl) (by rw [hb31]; rfl))))
  ·
   exact sbT hb31 (uw' rfl (uw' rfl (uw' rfl (uw' rfl (pu' rfl (Kg31 _ (Ag.put ((Ag.put ((Ag.put ((Ag.put ((Ag.put (Ag.base rfl) rfl)) rfl)) rfl)) rfl)) rfl) (by rw [hb31]; rfl)))))))
 refine pu' rfl (ji [53] (fun (y33 : Bool) (e : Env) (w : World) => ∃ (s : St) (e0 : Env), w = s.w ∧ e = upd e0 55 (.bool y33) ∧ Kp s0 s) (fun Gj33 Kj33 => ?_) ?_)
 ·
  rcases Bool.eq_false_or_eq_true ((y16 && (((a0.Reads.length : Int) == (0 : Int)) || (!a0.All))) && (decide ((a0.Writes.length : Int) ≤ (200 : Int)))) with hb33 | hb33
  ·
   refine sbT hb33 ?_
   rw [if_pos hb33]
   refine fa' fa59_5 rfl (ld' By16_b3 Try.underlying57 rfl ?_)
   have A34 := (A0_1.kp Ky16)
   refine cl' rfl Try.func168 rfl (fun r35 m35 => impl_areAll_impl_Item.calls a0.Writes impl_KeyOk.f s26.w (fun b => memb [0] (s26.g b) = true) w0_1 (.func (.func 141) #[] #[]) A34 (fun x0 u0_0 u0_1 w' k h0 h1 r m =>  ⟨141, _, _, [], [], rfl, Try.func141, rfl, rfl, (impl_KeyOk.calls x0 w' (fun _ => True) u0_0 u0_1 h0 h1 r m).mono fun en w2 hq => by obtain ⟨v, e, q⟩ := hq; exact ⟨v, e, q⟩⟩) rfl r35 m35) ?_
   rintro r35 _ w35 m35 ⟨rfl, ky35⟩
   obtain ⟨s36, rfl, p36, n36⟩ := nwx s26 w35 43 ky35
   refine pu' rfl ?_
   have K37 := (Ky16.st p36 rfl)
   exact Kj33 _ _ _ ⟨s36, _, rfl, (ue rfl rfl), K37⟩
  ·
   refine sbT hb33 ?_
   rw [if_neg (by rw [hb33]; decide)]
   exact uw' rfl (uw' rfl (uw' rfl (pu' rfl (Kj33 _ _ _ ⟨s26, _, rfl, (ue rfl rfl), Ky16⟩))))
 rintro y33 _ _ ⟨s38, _, rfl, rfl, Ky33⟩
 exact pu' rfl (dn (re rfl Try.func99 rfl (r_t rfl r_nil) rfl ⟨_, rfl, rfl, z.ky Ky33⟩))
noncomputable def impl_areDifferent_impl_Track.b0 (a0 : (List Track)) (a1 : (Track → Option Int)) (x6 : Int × MD) : Option ((Int × MD) ⊕ Bool) :=
 (if (decide (x6.1 < (a0.length : Int))) = true then (if 0 ≤ x6.1 ∧ x6.1 < (a0.length : Int) then ((a1 (at_ a0 x6.1)).bind fun r24 => (if (mget x6.2 r24) = true then (some (Sum.inr false)) else ((a1 (at_ a0 x6.1)).bind fun r33 => (some (Sum.inl ((IntKind.wrap .i64 (x6.1 + (1 : Int))), (mset x6.2 r33 true))))))) else none) else ((some true).bind fun o => some (Sum.inr o)))
noncomputable def impl_areDifferent_impl_Track.f (a0 : (List Track)) (a1 : (Track → Option Int)) : Option (Bool) :=
 (iter (impl_areDifferent_impl_Track.b0 a0 a1) ((0 : Int), ([] : MD)))
def impl_areDifferent_impl_Track.Q (w : World) (F : Nat → Prop) (r : Bool) (v : Value) (w' : World) : Prop :=
 v = (.bool r) ∧ Ky [] w w'
set_option maxHeartbeats 4000000 in
set_option maxRecDepth 100000 in
theorem impl_areDifferent_impl_Track.calls (a0 : (List Track)) (a1 : (Track → Option Int)) (w : World) (F : Nat → Prop) (w0_0 : Value) (f1 : Value) (h0_0 : (Kd.sl 59 kd59).rd w [w0_0] a0 F) (hf1 : ∀ (x0 : Track) (u0_0 u0_1 : Value) (w' : World), Ky [] w w' → (Kd.sl 80 kd80).rd w' [u0_0] x0.Reads (fun _ => True) → (Kd.sl 48 kd48).rd w' [u0_1] x0.Writes (fun _ => True) → ∀ r, a1 x0 = some r → CallV Try.prog f1 [(.agg #[(.int .i64 x0.Xid), (.int .i64 x0.Begun), (.int .i64 x0.Ended), (.bool x0.All), u0_0, u0_1, (.bool x0.In), (.bool x0.Out)])] w' fun en w'' => ∃ v, en = .returned v ∧ v = (.int .i64 r) ∧ Ky [] w' w'') (ho1 : f1.cells = #[f1]) (r : Bool) (m : impl_areDifferent_impl_Track.f a0 a1 = some r) :
  Calls Try.prog 100 #[w0_0, f1] w (RT (impl_areDifferent_impl_Track.Q w F) r) := by
 obtain ⟨s0, rfl, kp0, z⟩ := start0 w F
 have A0_0 := z.rd h0_0
 refine calls_of_TM (args := [w0_0, f1]) Try.func100 Try.ntmps100 rfl rfl m ?_
 unfold impl_areDifferent_impl_Track.f
 refine sr (pu' rfl (dn (sr (mkm 40 rfl rfl rfl rfl rfl (fun b2 s2 p2 B2 => ?_)))))
 refine pu' rfl (dn (sq (sr (mv' w0_0 rfl ?_))))
 have K4 := (kp0.st p2 rfl)
 have A5 := (A0_0.kp K4)
 refine ln' A5 Try.underlying62 rfl (pu' rfl (dn (bl (lpI (fun (x6 : Int × MD) (e : Env) (w : World) => ∃ (s : St) (e0 : Env), w = s.w ∧ e = upd (upd (upd (upd (upd e0 1 f1) 5 (.map (some b2))) 9 w0_0) 10 (.int .i64 (a0.length : Int))) 11 (.int .i64 x6.1) ∧ Kp s0 s ∧ MpF s b2 x6.2 40) ⟨s2, _, rfl, (ue (ue (ue (ue (ue rfl rfl) rfl) rfl) rfl) rfl), K4, B2⟩ (fun g6 ih6 => ?_)))))
 rintro x6 _ _ ⟨s7, _, rfl, rfl, Kx6, Bx6_b2⟩
 unfold impl_areDifferent_impl_Track.b0
 refine sr (pu' rfl (dn (sq (cd rfl (fun h9 => ?_) (fun h9 => ?_)))))
 ·
  refine sk (sq (bl (sr ?_)))
  have A10 := (A0_0.kp Kx6)
  refine ix' A10 Try.underlying62 z59 rfl (fun ad11 es11 h0_11 h1_11 he11 ce11 ia11 => ?_)
  obtain ⟨v11_0, v11_1, rfl, A11_0, A11_1⟩ := op59 he11
  refine lca' ce11 Try.underlying59 z59 rfl (al (cs := [(.int .i64 (0 : Int)), (.int .i64 (0 : Int)), (.int .i64 (0 : Int)), (.bool false), (.slice none 0 0), (.slice none 0 0), (.bool false), (.bool false)]) 41 rfl rfl rfl rfl rfl o59 rfl (fun b15 s15 p15 B15 => ?_))
  have A17 := (A11_1.st p15 rfl)
  have A18 := (A11_0.st p15 rfl)
  refine sva (vs := [(.int .i64 ((at_ a0 x6.1).Xid)), (.int .i64 ((at_ a0 x6.1).Begun)), (.int .i64 ((at_ a0 x6.1).Ended)), (.bool ((at_ a0 x6.1).All)), v11_0, v11_1, (.bool ((at_ a0 x6.1).In)), (.bool ((at_ a0 x6.1).Out))]) B15 z59 rfl rfl rfl rfl rfl rfl (on_cons rfl (on_cons rfl (on_cons rfl (on_cons rfl (on_cons A18.one (on_cons A17.one (on_cons rfl (on_cons rfl on_nil)))))))) rfl (fun s19 p19 B19 => ?_)
  refine dn (sq (sr (pu' rfl (mv' f1 rfl (lda' (es := [(.int .i64 ((at_ a0 x6.1).Xid)), (.int .i64 ((at_ a0 x6.1).Begun)), (.int .i64 ((at_ a0 x6.1).Ended)), (.bool ((at_ a0 x6.1).All)), v11_0, v11_1, (.bool ((at_ a0 x6.1).In)), (.bool ((at_ a0 x6.1).Out))]) B19 Try.underlying59 z59 rfl ?_)))))
  have A21 := (A18.st p19 rfl)
  have A22 := (A17.st p19 rfl)
  have K23 := (Kx6.st (tr2 p15 p19) rfl)
  refine clv rfl rfl rfl rfl rfl rfl rfl (fun r24 m24 => hf1 (at_ a0 x6.1) v11_0 v11_1 s19.w (z.ky K23) (RdF.top A21) (RdF.top A22) r24 m24) ?_
  rintro r24 _ w24 m24 ⟨rfl, ky24⟩
  obtain ⟨s25, rfl, p25, n25⟩ := nwx s19 w24 42 ky24
  have A26 := (MpF.st Bx6_b2 (tr3 p15 p19 p25) rfl)
  refine lkm A26 Try.underlying187 Try.underlying3 o4 rfl rfl rfl rfl rfl rfl rfl (dn (cd rfl (fun h27 => ?_) (fun h27 => ?_)))
  ·
   refine sr (pu' rfl (dn (sgi ?_)))
   have K28 := (K23.st p25 rfl)
   exact re rfl Try.func100 rfl (r_t rfl r_nil) rfl ⟨_, rfl, rfl, z.ky K28⟩
  ·
   refine sk (rg (pu' rfl (mv' f1 rfl ?_)))
   have A29 := (BlF.st B19 p25 rfl)
   refine lda' (es := [(.int .i64 ((at_ a0 x6.1).Xid)), (.int .i64 ((at_ a0 x6.1).Begun)), (.int .i64 ((at_ a0 x6.1).Ended)), (.bool ((at_ a0 x6.1).All)), v11_0, v11_1, (.bool ((at_ a0 x6.1).In)), (.bool ((at_ a0 x6.1).Out))]) A29 Try.underlying59 z59 rfl ?_
   have A30 := (A21.st p25 rfl)
   have A31 := (A22.st p25 rfl)
   have K32 := (K23.st p25 rfl)
   refine clv rfl rfl rfl rfl rfl rfl rfl (fun r33 m33 => hf1 (at_ a0 x6.1) v11_0 v11_1 s25.w (z.ky K32) (RdF.top A30) (RdF.top A31) r33 m33) ?_
   rintro r33 _ w33 m33 ⟨rfl, ky33⟩
   obtain ⟨s34, rfl, p34, n34⟩ := nwx s25 w33 43 ky33
   have A35 := (MpF.st A26 p34 rfl)
   refine upm A35 Try.underlying187 Try.underlying3 rfl rfl rfl rfl rfl rfl rfl (fun s36 p36 B36 => ?_)
   refine dn (ib (rg (pu' rfl (pu' rfl (dn ?_)))))
   have K38 := (K32.st (tr2 p34 p36) rfl)
   exact lb ih6 ⟨s36, _, rfl, (ue (ue (ue (ue (ue rfl rfl) rfl) rfl) rfl) rfl), K38, B36⟩
 ·
  exact xt rfl (sgb (sr (pu' rfl (dn (re rfl Try.func100 rfl (r_t rfl r_nil) rfl ⟨_, rfl, rfl, z.ky Kx6⟩)))))
noncomputable def impl_TracksOk_1.f (a0 : Track) : Option (Int) :=
 (some a0.Xid)
def impl_TracksOk_1.Q (w : World) (F : Nat → Prop) (r : Int) (v : Value) (w' : World) : Prop :=
 v = (.int .i64 r) ∧ Ky [] w w'
set_option maxHeartbeats 4000000 in
set_option maxRecDepth 100000 in
theorem impl_TracksOk_1.calls (a0 : Track) (w : World) (F : Nat → Prop) (w0_0 : Value) (w0_1 : Value) (h0_0 : (Kd.sl 80 kd80).rd w [w0_0] a0.Reads F) (h0_1 : (Kd.sl 48 kd48).rd w [w0_1] a0.Writes F) (r : Int) (m : impl_TracksOk_1.f a0 = some r) :
  Calls Try.prog 101 #[(.agg #[(.int .i64 a0.Xid), (.int .i64 a0.Begun), (.int .i64 a0.Ended), (.bool a0.All), w0_0, w0_1, (.bool a0.In), (.bool a0.Out)])] w (RT (impl_TracksOk_1.Q w F) r) := by
 obtain ⟨s0, rfl, kp0, z⟩ := start0 w F
 have A0_0 := z.rd h0_0
 have A0_1 := z.rd h0_1
 refine calls_of_TM (args := [(.agg #[(.int .i64 a0.Xid), (.int .i64 a0.Begun), (.int .i64 a0.Ended), (.bool a0.All), w0_0, w0_1, (.bool a0.In), (.bool a0.Out)])]) Try.func101 Try.ntmps101 rfl rfl m ?_
 unfold impl_TracksOk_1.f
 refine sr (bx' (cs := [(.int .i64 a0.Xid), (.int .i64 a0.Begun), (.int .i64 a0.Ended), (.bool a0.All), w0_0, w0_1, (.bool a0.In), (.bool a0.Out)]) 40 rfl rfl (fun b3 s3 p3 B3 => ?_))
 refine pu' rfl (dn (sr (fa' fa59_0 rfl (ld' B3 Try.underlying3 rfl (pu' rfl (dn ?_))))))
 have K5 := (kp0.st p3 rfl)
 exact re rfl Try.func101 rfl (r_t rfl r_nil) rfl ⟨_, rfl, rfl, z.ky K5⟩
noncomputable def impl_TracksOk.f (a0 : (List Track)) : Option (Bool) :=
 ((if (decide ((a0.length : Int) ≤ (64 : Int))) = true then ((impl_areAll_impl_Track.f a0 impl_isTrack.f).bind fun r3 => (some r3)) else (some false)).bind fun y2 => ((if y2 = true then ((impl_areDifferent_impl_Track.f a0 impl_TracksOk_1.f).bind fun r9 => (some r9)) else (some false)).bind fun y7 => (some y7)))
def impl_TracksOk.Q (w : World) (F : Nat → Prop) (r : Bool) (v : Value) (w' : World) : Prop :=
 v = (.bool r) ∧ Ky [] w w'
set_option maxHeartbeats 4000000 in
set_option maxRecDepth 100000 in
theorem impl_TracksOk.calls (a0 : (List Track)) (w : World) (F : Nat → Prop) (w0_0 : Value) (h0_0 : (Kd.sl 59 kd59).rd w [w0_0] a0 F) (r : Bool) (m : impl_TracksOk.f a0 = some r) :
  Calls Try.prog 34 #[w0_0] w (RT (impl_TracksOk.Q w F) r) := by
 obtain ⟨s0, rfl, kp0, z⟩ := start0 w F
 have A0_0 := z.rd h0_0
 refine calls_of_TM (args := [w0_0]) Try.func34 Try.ntmps34 rfl rfl m ?_
 unfold impl_TracksOk.f
 refine sr (pu' rfl (dn (sr (mv' w0_0 rfl (ln' A0_0 Try.underlying62 rfl (pu' rfl (pu' rfl (ji [7, 8, 9, 10, 11] (fun (y2 : Bool) (e : Env) (w : World) => ∃ (s : St) (e0 : Env), w = s.w ∧ e = upd (upd e0 0 w0_0) 9 (.bool y2) ∧ Kp s0 s) (fun Gj2 Kj2 => ?_) ?_))))))))
 ·
  rcases Bool.eq_false_or_eq_true (decide ((a0.length : Int) ≤ (64 : Int))) with hb2 | hb2
  ·
   refine sbT hb2 ?_
   rw [if_pos hb2]
   refine mv' w0_0 rfl (cl' rfl Try.func98 rfl (fun r3 m3 => impl_areAll_impl_Track.calls a0 impl_isTrack.f s0.w (fun b => memb [0] (s0.g b) = true) w0_0 (.func (.func 99) #[] #[]) A0_0 (fun x0 u0_0 u0_1 w' k h0 h1 r m =>  ⟨99, _, _, [], [], rfl, Try.func99, rfl, rfl, (impl_isTrack.calls x0 w' (fun _ => True) u0_0 u0_1 h0 h1 r m).mono fun en w2 hq => by obtain ⟨v, e, q⟩ := hq; exact ⟨v, e, q⟩⟩) rfl r3 m3) ?_)
   rintro r3 _ w3 m3 ⟨rfl, ky3⟩
   obtain ⟨s4, rfl, p4, n4⟩ := nwx s0 w3 40 ky3
   refine pu' rfl ?_
   have K5 := (kp0.st p4 rfl)
   exact Kj2 _ _ _ ⟨s4, _, rfl, (ue (ue rfl rfl) rfl), K5⟩
  ·
   refine sbT hb2 ?_
   rw [if_neg (by rw [hb2]; decide)]
   exact uw' rfl (uw' rfl (pu' rfl (Kj2 _ _ _ ⟨s0, _, rfl, (ue (ue rfl rfl) rfl), kp0⟩)))
 rintro y2 _ _ ⟨s6, _, rfl, rfl, Ky2⟩
 refine pu' rfl (ji [11] (fun (y7 : Bool) (e : Env) (w : World) => ∃ (s : St) (e0 : Env), w = s.w ∧ e = upd e0 13 (.bool y7) ∧ Kp s0 s) (fun Gj7 Kj7 => ?_) ?_)
 ·
  rcases Bool.eq_false_or_eq_true y2 with hb7 | hb7
  ·
   refine sbT hb7 ?_
   rw [if_pos hb7]
   refine mv' w0_0 rfl ?_
   have A8 := (A0_0.kp Ky2)
   refine cl' rfl Try.func100 rfl (fun r9 m9 => impl_areDifferent_impl_Track.calls a0 impl_TracksOk_1.f s6.w (fun b => memb [0] (s6.g b) = true) w0_0 (.func (.func 101) #[] #[]) A8 (fun x0 u0_0 u0_1 w' k h0 h1 r m =>  ⟨101, _, _, [], [], rfl, Try.func101, rfl, rfl, (impl_TracksOk_1.calls x0 w' (fun _ => True) u0_0 u0_1 h0 h1 r m).mono fun en w2 hq => by obtain ⟨v, e, q⟩ := hq; exact ⟨v, e, q⟩⟩) rfl r9 m9) ?_
   rintro r9 _ w9 m9 ⟨rfl, ky9⟩
   obtain ⟨s10, rfl, p10, n10⟩ := nwx s6 w9 41 ky9
   refine pu' rfl ?_
   have K11 := (Ky2.st p10 rfl)
   exact Kj7 _ _ _ ⟨s10, _, rfl, (ue rfl rfl), K11⟩
  ·
   refine sbT hb7 ?_
   rw [if_neg (by rw [hb7]; decide)]
   exact uw' rfl (uw' rfl (pu' rfl (Kj7 _ _ _ ⟨s6, _, rfl, (ue rfl rfl), Ky2⟩)))
 rintro y7 _ _ ⟨s12, _, rfl, rfl, Ky7⟩
 exact pu' rfl (dn (re rfl Try.func34 rfl (r_t rfl r_nil) rfl ⟨_, rfl, rfl, z.ky Ky7⟩))
noncomputable def impl_ownSpans.b0 (a0 : (List Span)) (x2 : (List Span) × Int) : Option (((List Span) × Int) ⊕ (List Span)) :=
 (if (decide (x2.2 < (a0.length : Int))) = true then (if 0 ≤ x2.2 ∧ x2.2 < (a0.length : Int) then ((impl_Item_own.f ((at_ a0 x2.2).From)).bind fun r29 => ((impl_Item_own.f ((at_ a0 x2.2).To)).bind fun r36 => (if x2.1.length + ([(Span.mk r29 r36)]).length ≤ Lim then (some (Sum.inl ((x2.1 ++ [(Span.mk r29 r36)]), (IntKind.wrap .i64 (x2.2 + (1 : Int)))))) else none))) else none) else ((some x2.1).bind fun o => some (Sum.inr o)))
noncomputable def impl_ownSpans.f (a0 : (List Span)) : Option ((List Span)) :=
 (iter (impl_ownSpans.b0 a0) (([] : (List Span)), (0 : Int)))
def impl_ownSpans.Q (w : World) (F : Nat → Prop) (r : (List Span)) (v : Value) (w' : World) : Prop :=
 FO (Kd.sl 80 kd80) w w' [v] r ∧ Ky [] w w'
set_option maxHeartbeats 4000000 in
set_option maxRecDepth 100000 in
theorem impl_ownSpans.calls (a0 : (List Span)) (w : World) (F : Nat → Prop) (w0_0 : Value) (h0_0 : (Kd.sl 80 kd80).rd w [w0_0] a0 F) (r : (List Span)) (m : impl_ownSpans.f a0 = some r) :
  Calls Try.prog 157 #[w0_0] w (RT (impl_ownSpans.Q w F) r) := by
 obtain ⟨s0, rfl, kp0, z⟩ := start0 w F
 have A0_0 := z.rd h0_0
 refine calls_of_TM (args := [w0_0]) Try.func157 Try.ntmps157 rfl rfl m ?_
 unfold impl_ownSpans.f
 refine sr (pu' rfl (dn (sr (pu' rfl (dn (sq (sr (mv' w0_0 rfl (ln' A0_0 Try.underlying56 rfl (pu' rfl (dn (bl (lpI (fun (x2 : (List Span) × Int) (e : Env) (w : World) => ∃ (s : St) (e0 : Env) (vx2_0 : Value), w = s.w ∧ e = upd (upd (upd (upd e0 3 vx2_0) 6 w0_0) 7 (.int .i64 (a0.length : Int))) 8 (.int .i64 x2.2) ∧ Kp s0 s ∧ OwF (Kd.sl 80 kd80) s [vx2_0] x2.1 41) ⟨s0, _, (.slice none 0 0), rfl, (ue (ue (ue (ue rfl rfl) rfl) rfl) rfl), kp0, (ow_nil 80 kd80 _ 41)⟩ (fun g2 ih2 => ?_))))))))))))))
 rintro x2 _ _ ⟨s3, _, vx2_0, rfl, rfl, Kx2, Ax2_0⟩
 unfold impl_ownSpans.b0
 refine sr (pu' rfl (dn (sq (cd rfl (fun h5 => ?_) (fun h5 => ?_)))))
 ·
  refine sk (sq (bl (sr ?_)))
  have A6 := (A0_0.kp Kx2)
  refine ix' A6 Try.underlying56 z80 rfl (fun ad7 es7 h0_7 h1_7 he7 ce7 ia7 => ?_)
  obtain ⟨v7_0, v7_1, v7_2, v7_3, rfl, A7_0, A7_1, A7_2, A7_3⟩ := op80 he7
  refine lca' ce7 Try.underlying80 z80 rfl (al (cs := [(.int .i64 (0 : Int)), (.int .i64 (0 : Int)), (.float .f64 0), (.slice none 0 0), (.int .i64 (0 : Int)), (.int .i64 (0 : Int)), (.float .f64 0), (.slice none 0 0)]) 42 rfl rfl rfl rfl rfl o80 rfl (fun b11 s11 p11 B11 => ?_))
  have A13 := (A7_3.st p11 rfl)
  have A14 := (A7_1.st p11 rfl)
  refine sva (vs := [(.int .i64 (((at_ a0 x2.2).From).Kind)), (.int .i64 (((at_ a0 x2.2).From).N)), v7_0, v7_1, (.int .i64 (((at_ a0 x2.2).To).Kind)), (.int .i64 (((at_ a0 x2.2).To).N)), v7_2, v7_3]) B11 z80 rfl rfl rfl rfl rfl rfl (on_cons rfl (on_cons rfl (on_cons (FL.one A7_0) (on_cons A14.one (on_cons rfl (on_cons rfl (on_cons (FL.one A7_2) (on_cons A13.one on_nil)))))))) rfl (fun s15 p15 B15 => ?_)
  refine dn (zdraw [[], [], [1], [2], [], [4], [5, 3], [3, 6], [7], [0, 8, 6], [9, 9, 0, 1, 2, 3, 4, 5, 6, 7, 8, 9]] [some 12, some 13, some 14, some 15, some 16, some 17, some 18, some 19, some 20, some 21, some 3] [[3], [5], [13], [14], [5], [16], [17], [15, 18], [19], [12, 20], [21]] [0, 1, 2, 3, 4, 5, 6, 7, 8, 9, 10] ⟨by kernel_rfl, by kernel_rfl, by kernel_rfl⟩ (by kernel_rfl) (fun s17 p17 l17 tb17 zd17 => ?_))
  have zd18 := zd17.add 0 12 vx2_0 rfl
  have zd19 := zd18.add 1 13 (.pointer (some ⟨b11, 0, none⟩)) rfl
  have A20 := (BlF.st B15 p17 rfl)
  have zd21 := zd19.add 2 14 (.agg #[(.int .i64 (((at_ a0 x2.2).From).Kind)), (.int .i64 (((at_ a0 x2.2).From).N)), v7_0, v7_1]) rfl
  have zd22 := zd21.add 4 16 (.pointer (some ⟨b11, 4, none⟩)) rfl
  have A23 := (BlF.st B15 p17 rfl)
  have zd24 := zd22.add 5 17 (.agg #[(.int .i64 (((at_ a0 x2.2).To).Kind)), (.int .i64 (((at_ a0 x2.2).To).N)), v7_2, v7_3]) rfl
  have A26 := (BlF.st B15 p17 rfl)
  have A27 := (BlF.st B15 p17 rfl)
  refine zstep 3 [some 17, some 16, some 12] tb17 zd24 (pq_cons (lda_q (es := [(.int .i64 (((at_ a0 x2.2).To).Kind)), (.int .i64 (((at_ a0 x2.2).To).N)), v7_2, v7_3]) A27 Try.underlying48 z48 rfl rfl rfl rfl rfl rfl rfl rfl) rfl (pq_cons (fa_q' fa80_1 rfl) rfl (pq_cons (lda_q (es := [(.int .i64 (((at_ a0 x2.2).From).Kind)), (.int .i64 (((at_ a0 x2.2).From).N)), v7_0, v7_1]) A26 Try.underlying48 z48 rfl rfl rfl rfl rfl rfl rfl rfl) rfl (pq_cons (fa_q' fa80_0 rfl) rfl (pq_cons (mv_q' vx2_0 rfl) rfl pq_nil))))) (by kernel_rfl) rfl (fun l25 e25 zd25 => ?_)
  have A28 := (A14.st (tr2 p15 p17) rfl)
  refine cl' rfl Try.func171 rfl (fun r29 m29 => impl_Item_own.calls ((at_ a0 x2.2).From) s17.w (fun b => memb [0] (s17.g b) = true) v7_0 v7_1 ((fl_rdf (s := s17) A7_0).sub (D := [0]) rfl) A28 r29 m29) ?_
  rintro r29 _ w29 m29 ⟨v29_0, v29_1, rfl, f29_0, ky29⟩
  obtain ⟨s30, rfl, p30, n30⟩ := nwx s17 w29 43 ky29
  have A29_0 := f29_0.c n30
  obtain ⟨os29_0, ho29_0, hn29_0, hc29_0⟩ := A29_0
  obtain ⟨u29_0_0, u29_0_1, qu29_0_1, e29_0, eo29_0, hu29_0_0, hu29_0_1⟩ := po48 ho29_0
  have yu29_0_0 : v29_0 = u29_0_0 := congrArg (fun l => (List.drop 2 l).headD undef) e29_0
  have yu29_0_1 : v29_1 = u29_0_1 := congrArg (fun l => (List.drop 3 l).headD undef) e29_0
  subst yu29_0_0
  subst yu29_0_1
  subst eo29_0
  have Au29_0_1 : OwF (Kd.sl 5 (Kd.int .u8)) s30 [v29_1] r29.T 43 := sp1 hu29_0_1 hn29_0 hc29_0
  refine zdone (L' := [5, 4, 0]) (D' := [1, 2, 3]) zd25 rfl rfl rfl (fun zd32 => ?_)
  have A34 := (BlF.st B15 (tr2 p17 p30) rfl)
  refine zstep 6 [some 12] tb17 zd32 (pq_cons (lda_q (es := [(.int .i64 (((at_ a0 x2.2).To).Kind)), (.int .i64 (((at_ a0 x2.2).To).N)), v7_2, v7_3]) A34 Try.underlying48 z48 rfl rfl rfl rfl rfl rfl rfl rfl) rfl (pq_cons (fa_q' fa80_1 rfl) rfl (pq_cons (mv_q' vx2_0 rfl) rfl pq_nil))) (by kernel_rfl) rfl (fun l33 e33 zd33 => ?_)
  have A35 := (A13.st (tr3 p15 p17 p30) rfl)
  refine cl' rfl Try.func171 rfl (fun r36 m36 => impl_Item_own.calls ((at_ a0 x2.2).To) s30.w (fun b => memb [0] (s30.g b) = true) v7_2 v7_3 ((fl_rdf (s := s30) A7_2).sub (D := [0]) rfl) A35 r36 m36) ?_
  rintro r36 _ w36 m36 ⟨v36_0, v36_1, rfl, f36_0, ky36⟩
  obtain ⟨s37, rfl, p37, n37⟩ := nwx s30 w36 44 ky36
  have A36_0 := f36_0.c n37
  obtain ⟨os36_0, ho36_0, hn36_0, hc36_0⟩ := A36_0
  obtain ⟨u36_0_0, u36_0_1, qu36_0_1, e36_0, eo36_0, hu36_0_0, hu36_0_1⟩ := po48 ho36_0
  have yu36_0_0 : v36_0 = u36_0_0 := congrArg (fun l => (List.drop 2 l).headD undef) e36_0
  have yu36_0_1 : v36_1 = u36_0_1 := congrArg (fun l => (List.drop 3 l).headD undef) e36_0
  subst yu36_0_0
  subst yu36_0_1
  subst eo36_0
  have Au36_0_1 : OwF (Kd.sl 5 (Kd.int .u8)) s37 [v36_1] r36.T 44 := sp1 hu36_0_1 hn36_0 hc36_0
  refine zdone (L' := [0]) (D' := [4, 5, 6, 1, 2, 3]) zd33 rfl rfl rfl (fun zd39 => ?_)
  have zd40 := zd39.add 7 19 (.agg #[(.int .i64 r29.Kind), (.int .i64 r29.N), v29_0, v29_1, (.int .i64 r36.Kind), (.int .i64 r36.N), v36_0, v36_1]) rfl
  refine zstep 8 [some 12] tb17 zd40 (pq_cons (bd_q (cells := [(.int .i64 r29.Kind), (.int .i64 r29.N), v29_0, v29_1, (.int .i64 r36.Kind), (.int .i64 r36.N), v36_0, v36_1]) pl80 o80 rfl rfl rfl rfl rfl rfl) rfl (pq_cons (mv_q' vx2_0 rfl) rfl pq_nil)) (by kernel_rfl) rfl (fun l41 e41 zd41 => ?_)
  have A42 := (Au29_0_1.st p37 rfl)
  obtain ⟨s43, hw43, p43, A43⟩ := ow_2 (ow_isoz (fun x : Item => (x.Kind, x.N, x.F, x.T)) r29 (ow_l (fz_int .i64 r29.Kind) (ow_l (fz_int .i64 r29.N) (ow_l (fz_flt hu29_0_0) A42)))) (ow_isoz (fun x : Item => (x.Kind, x.N, x.F, x.T)) r36 (ow_l (fz_int .i64 r36.Kind) (ow_l (fz_int .i64 r36.N) (ow_l (fz_flt hu36_0_0) Au36_0_1)))) rfl rfl
  rw [hw43]
  have A45 : OwF kd80 s43 [(.int .i64 r29.Kind), (.int .i64 r29.N), v29_0, v29_1, (.int .i64 r36.Kind), (.int .i64 r36.N), v36_0, v36_1] (Span.mk r29 r36) 43 := (ow_isoz (fun x : Span => (x.From, x.To)) (Span.mk r29 r36) A43)
  have L47 := lo_one A45
  refine ltO (K := kd80) (cells := [(.int .i64 r29.Kind), (.int .i64 r29.N), v29_0, v29_1, (.int .i64 r36.Kind), (.int .i64 r36.N), v36_0, v36_1]) [(Span.mk r29 r36)] 43 Try.underlying56 z80 o80 L47 rfl rfl rfl rfl rfl rfl rfl rfl rfl rfl (fun v48 s48 p48 A48 => ?_)
  refine zdone (L' := [0]) (D' := [7, 8, 4, 5, 6, 1, 2, 3]) zd41 rfl rfl rfl (fun zd50 => ?_)
  refine zfin [9, 10] tb17 zd50 (pq_cons (mv_q' vx2_0 rfl) rfl pq_nil) (by kernel_rfl) (by decide) ?_
  have A51 := (Ax2_0.st (tr7 p11 p15 p17 p30 p37 p43 p48) rfl)
  refine apO sl56 A51 A48 rfl rfl rfl rfl rfl rfl rfl rfl rfl (fun v52 s52 p52 A52 => ?_)
  refine asg' v52 rfl (dn (ib (rg (pu' rfl (pu' rfl (dn ?_))))))
  have K54 := (Kx2.st (tr8 p11 p15 p17 p30 p37 p43 p48 p52) rfl)
  exact lb ih2 ⟨s52, _, v52, rfl, (ue (ue (ue (ue rfl rfl) rfl) rfl) rfl), K54, A52⟩
 ·
  exact xt rfl (sgb (sr (mv' vx2_0 rfl (asg' vx2_0 rfl (dn (re rfl Try.func157 rfl (r_t rfl r_nil) rfl ⟨_, rfl, Ax2_0.fo Kx2 rfl z.l, z.ky Kx2⟩))))))
noncomputable def impl_ownItems.b0 (a0 : (List Item)) (x2 : (List Item) × Int) : Option (((List Item) × Int) ⊕ (List Item)) :=
 (if (decide (x2.2 < (a0.length : Int))) = true then (if 0 ≤ x2.2 ∧ x2.2 < (a0.length : Int) then ((impl_Item_own.f (at_ a0 x2.2)).bind fun r16 => (if x2.1.length + ([r16]).length ≤ Lim then (some (Sum.inl ((x2.1 ++ [r16]), (IntKind.wrap .i64 (x2.2 + (1 : Int)))))) else none)) else none) else ((some x2.1).bind fun o => some (Sum.inr o)))
noncomputable def impl_ownItems.f (a0 : (List Item)) : Option ((List Item)) :=
 (iter (impl_ownItems.b0 a0) (([] : (List Item)), (0 : Int)))
def impl_ownItems.Q (w : World) (F : Nat → Prop) (r : (List Item)) (v : Value) (w' : World) : Prop :=
 FO (Kd.sl 48 kd48) w w' [v] r ∧ Ky [] w w'
set_option maxHeartbeats 4000000 in
set_option maxRecDepth 100000 in
theorem impl_ownItems.calls (a0 : (List Item)) (w : World) (F : Nat → Prop) (w0_0 : Value) (h0_0 : (Kd.sl 48 kd48).rd w [w0_0] a0 F) (r : (List Item)) (m : impl_ownItems.f a0 = some r) :
  Calls Try.prog 158 #[w0_0] w (RT (impl_ownItems.Q w F) r) := by
 obtain ⟨s0, rfl, kp0, z⟩ := start0 w F
 have A0_0 := z.rd h0_0
 refine calls_of_TM (args := [w0_0]) Try.func158 Try.ntmps158 rfl rfl m ?_
 unfold impl_ownItems.f
 refine sr (pu' rfl (dn (sr (pu' rfl (dn (sq (sr (mv' w0_0 rfl (ln' A0_0 Try.underlying57 rfl (pu' rfl (dn (bl (lpI (fun (x2 : (List Item) × Int) (e : Env) (w : World) => ∃ (s : St) (e0 : Env) (vx2_0 : Value), w = s.w ∧ e = upd (upd (upd (upd e0 3 vx2_0) 6 w0_0) 7 (.int .i64 (a0.length : Int))) 8 (.int .i64 x2.2) ∧ Kp s0 s ∧ OwF (Kd.sl 48 kd48) s [vx2_0] x2.1 41) ⟨s0, _, (.slice none 0 0), rfl, (ue (ue (ue (ue rfl rfl) rfl) rfl) rfl), kp0, (ow_nil 48 kd48 _ 41)⟩ (fun g2 ih2 => ?_))))))))))))))
 rintro x2 _ _ ⟨s3, _, vx2_0, rfl, rfl, Kx2, Ax2_0⟩
 unfold impl_ownItems.b0
 refine sr (pu' rfl (dn (sq (cd rfl (fun h5 => ?_) (fun h5 => ?_)))))
 ·
  refine sk (sq (bl (sr ?_)))
  have A6 := (A0_0.kp Kx2)
  refine ix' A6 Try.underlying57 z48 rfl (fun ad7 es7 h0_7 h1_7 he7 ce7 ia7 => ?_)
  obtain ⟨v7_0, v7_1, rfl, A7_0, A7_1⟩ := op48 he7
  refine lca' ce7 Try.underlying48 z48 rfl (al (cs := [(.int .i64 (0 : Int)), (.int .i64 (0 : Int)), (.float .f64 0), (.slice none 0 0)]) 42 rfl rfl rfl rfl rfl o48 rfl (fun b10 s10 p10 B10 => ?_))
  have A12 := (A7_1.st p10 rfl)
  refine sva (vs := [(.int .i64 ((at_ a0 x2.2).Kind)), (.int .i64 ((at_ a0 x2.2).N)), v7_0, v7_1]) B10 z48 rfl rfl rfl rfl rfl rfl (on_cons rfl (on_cons rfl (on_cons (FL.one A7_0) (on_cons A12.one on_nil)))) rfl (fun s13 p13 B13 => ?_)
  refine dn (rg (mv' vx2_0 rfl (lda' (es := [(.int .i64 ((at_ a0 x2.2).Kind)), (.int .i64 ((at_ a0 x2.2).N)), v7_0, v7_1]) B13 Try.underlying48 z48 rfl ?_)))
  have A15 := (A12.st p13 rfl)
  refine cl' rfl Try.func171 rfl (fun r16 m16 => impl_Item_own.calls (at_ a0 x2.2) s13.w (fun b => memb [0] (s13.g b) = true) v7_0 v7_1 ((fl_rdf (s := s13) A7_0).sub (D := [0]) rfl) A15 r16 m16) ?_
  rintro r16 _ w16 m16 ⟨v16_0, v16_1, rfl, f16_0, ky16⟩
  obtain ⟨s17, rfl, p17, n17⟩ := nwx s13 w16 43 ky16
  have A16_0 := f16_0.c n17
  obtain ⟨os16_0, ho16_0, hn16_0, hc16_0⟩ := A16_0
  obtain ⟨u16_0_0, u16_0_1, qu16_0_1, e16_0, eo16_0, hu16_0_0, hu16_0_1⟩ := po48 ho16_0
  have yu16_0_0 : v16_0 = u16_0_0 := congrArg (fun l => (List.drop 2 l).headD undef) e16_0
  have yu16_0_1 : v16_1 = u16_0_1 := congrArg (fun l => (List.drop 3 l).headD undef) e16_0
  subst yu16_0_0
  subst yu16_0_1
  subst eo16_0
  have Au16_0_1 : OwF (Kd.sl 5 (Kd.int .u8)) s17 [v16_1] r16.T 43 := sp1 hu16_0_1 hn16_0 hc16_0
  have A19 : OwF kd48 s17 [(.int .i64 r16.Kind), (.int .i64 r16.N), v16_0, v16_1] r16 43 := (ow_isoz (fun x : Item => (x.Kind, x.N, x.F, x.T)) r16 (ow_l (fz_int .i64 r16.Kind) (ow_l (fz_int .i64 r16.N) (ow_l (fz_flt hu16_0_0) Au16_0_1))))
  have L21 := lo_one A19
  refine ltO (K := kd48) (cells := [(.int .i64 r16.Kind), (.int .i64 r16.N), v16_0, v16_1]) [r16] 43 Try.underlying57 z48 o48 L21 rfl rfl rfl rfl rfl rfl rfl rfl rfl rfl (fun v22 s22 p22 A22 => ?_)
  have A24 := (Ax2_0.st (tr4 p10 p13 p17 p22) rfl)
  refine apO sl57 A24 A22 rfl rfl rfl rfl rfl rfl rfl rfl rfl (fun v25 s25 p25 A25 => ?_)
  refine asg' v25 rfl (dn (ib (rg (pu' rfl (pu' rfl (dn ?_))))))
  have K27 := (Kx2.st (tr5 p10 p13 p17 p22 p25) rfl)
  exact lb ih2 ⟨s25, _, v25, rfl, (ue (ue (ue (ue rfl rfl) rfl) rfl) rfl), K27, A25⟩
 ·
  exact xt rfl (sgb (sr (mv' vx2_0 rfl (asg' vx2_0 rfl (dn (re rfl Try.func158 rfl (r_t rfl r_nil) rfl ⟨_, rfl, Ax2_0.fo Kx2 rfl z.l, z.ky Kx2⟩))))))
noncomputable def impl_ownTracks.b0 (a0 : (List Track)) (x2 : (List Track) × Int) : Option (((List Track) × Int) ⊕ (List Track)) :=
 (if (decide (x2.2 < (a0.length : Int))) = true then (if 0 ≤ x2.2 ∧ x2.2 < (a0.length : Int) then ((impl_ownSpans.f ((at_ a0 x2.2).Reads)).bind fun r28 => ((impl_ownItems.f ((at_ a0 x2.2).Writes)).bind fun r36 => (if x2.1.length + ([(Track.mk ((at_ a0 x2.2).Xid) ((at_ a0 x2.2).Begun) ((at_ a0 x2.2).Ended) ((at_ a0 x2.2).All) r28 r36 ((at_ a0 x2.2).In) ((at_ a0 x2.2).Out))]).length ≤ Lim then (some (Sum.inl ((x2.1 ++ [(Track.mk ((at_ a0 x2.2).Xid) ((at_ a0 x2.2).Begun) ((at_ a0 x2.2).Ended) ((at_ a0 x2.2).All) r28 r36 ((at_ a0 x2.2).In) ((at_ a0 x2.2).Out))]), (IntKind.wrap .i64 (x2.2 + (1 : Int)))))) else none))) else none) else ((some x2.1).bind fun o => some (Sum.inr o)))
noncomputable def impl_ownTracks.f (a0 : (List Track)) : Option ((List Track)) :=
 (iter (impl_ownTracks.b0 a0) (([] : (List Track)), (0 : Int)))
def impl_ownTracks.Q (w : World) (F : Nat → Prop) (r : (List Track)) (v : Value) (w' : World) : Prop :=
 FO (Kd.sl 59 kd59) w w' [v] r ∧ Ky [] w w'
set_option maxHeartbeats 4000000 in
set_option maxRecDepth 100000 in
theorem impl_ownTracks.calls (a0 : (List Track)) (w : World) (F : Nat → Prop) (w0_0 : Value) (h0_0 : (Kd.sl 59 kd59).rd w [w0_0] a0 F) (r : (List Track)) (m : impl_ownTracks.f a0 = some r) :
  Calls Try.prog 92 #[w0_0] w (RT (impl_ownTracks.Q w F) r) := by
 obtain ⟨s0, rfl, kp0, z⟩ := start0 w F
 have A0_0 := z.rd h0_0
 refine calls_of_TM (args := [w0_0]) Try.func92 Try.ntmps92 rfl rfl m ?_
 unfold impl_ownTracks.f
 refine sr (pu' rfl (dn (sr (pu' rfl (dn (sq (sr (mv' w0_0 rfl (ln' A0_0 Try.underlying62 rfl (pu' rfl (dn (bl (lpI (fun (x2 : (List Track) × Int) (e : Env) (w : World) => ∃ (s : St) (e0 : Env) (vx2_0 : Value), w = s.w ∧ e = upd (upd (upd (upd e0 3 vx2_0) 6 w0_0) 7 (.int .i64 (a0.length : Int))) 8 (.int .i64 x2.2) ∧ Kp s0 s ∧ OwF (Kd.sl 59 kd59) s [vx2_0] x2.1 41) ⟨s0, _, (.slice none 0 0), rfl, (ue (ue (ue (ue rfl rfl) rfl) rfl) rfl), kp0, (ow_nil 59 kd59 _ 41)⟩ (fun g2 ih2 => ?_))))))))))))))
 rintro x2 _ _ ⟨s3, _, vx2_0, rfl, rfl, Kx2, Ax2_0⟩
 unfold impl_ownTracks.b0
 refine sr (pu' rfl (dn (sq (cd rfl (fun h5 => ?_) (fun h5 => ?_)))))
 ·
  refine sk (sq (bl (sr ?_)))
  have A6 := (A0_0.kp Kx2)
  refine ix' A6 Try.underlying62 z59 rfl (fun ad7 es7 h0_7 h1_7 he7 ce7 ia7 => ?_)
  obtain ⟨v7_0, v7_1, rfl, A7_0, A7_1⟩ := op59 he7
  refine lca' ce7 Try.underlying59 z59 rfl (al (cs := [(.int .i64 (0 : Int)), (.int .i64 (0 : Int)), (.int .i64 (0 : Int)), (.bool false), (.slice none 0 0), (.slice none 0 0), (.bool false), (.bool false)]) 42 rfl rfl rfl rfl rfl o59 rfl (fun b11 s11 p11 B11 => ?_))
  have A13 := (A7_1.st p11 rfl)
  have A14 := (A7_0.st p11 rfl)
  refine sva (vs := [(.int .i64 ((at_ a0 x2.2).Xid)), (.int .i64 ((at_ a0 x2.2).Begun)), (.int .i64 ((at_ a0 x2.2).Ended)), (.bool ((at_ a0 x2.2).All)), v7_0, v7_1, (.bool ((at_ a0 x2.2).In)), (.bool ((at_ a0 x2.2).Out))]) B11 z59 rfl rfl rfl rfl rfl rfl (on_cons rfl (on_cons rfl (on_cons rfl (on_cons rfl (on_cons A14.one (on_cons A13.one (on_cons rfl (on_cons rfl on_nil)))))))) rfl (fun s15 p15 B15 => ?_)
  refine dn (sq (zdraw [[], [0], [1], [], [3], [4, 2], [0, 1, 2, 3, 4], [6, 2, 5, 0, 1, 2, 3, 4], [0, 1, 2, 3, 4, 5, 6, 7], [8, 5, 7, 0, 1, 2, 3, 4, 5, 6, 7]] [some 12, some 13, some 14, some 15, some 16, some 17, some 18, none, some 19, none] [[5], [12], [13], [5], [15], [16], [5], [18, 14], [5], [19, 17]] [0, 1, 2, 3, 4, 5, 6, 7, 8, 9] ⟨by kernel_rfl, by kernel_rfl, by kernel_rfl⟩ (by kernel_rfl) (fun s17 p17 l17 tb17 zd17 => ?_)))
  have zd18 := zd17.add 0 12 (.pointer (some ⟨b11, 4, none⟩)) rfl
  have A19 := (BlF.st B15 p17 rfl)
  have zd20 := zd18.add 1 13 v7_0 rfl
  have zd21 := zd20.add 3 15 (.pointer (some ⟨b11, 5, none⟩)) rfl
  have A22 := (BlF.st B15 p17 rfl)
  have zd23 := zd21.add 4 16 v7_1 rfl
  have A25 := (BlF.st B15 p17 rfl)
  have A26 := (BlF.st B15 p17 rfl)
  refine zstep 2 [some 16, some 15] tb17 zd23 (pq_cons (ld_q' A26 Try.underlying57 rfl) rfl (pq_cons (fa_q' fa59_5 rfl) rfl (pq_cons (ld_q' A25 Try.underlying56 rfl) rfl (pq_cons (fa_q' fa59_4 rfl) rfl pq_nil)))) (by kernel_rfl) rfl (fun l24 e24 zd24 => ?_)
  have A27 := (A14.st (tr2 p15 p17) rfl)
  refine cl' rfl Try.func157 rfl (fun r28 m28 => impl_ownSpans.calls ((at_ a0 x2.2).Reads) s17.w (fun b => memb [0] (s17.g b) = true) v7_0 A27 r28 m28) ?_
  rintro r28 v28_0 w28 m28 ⟨f28_0, ky28⟩
  obtain ⟨s29, rfl, p29, n29⟩ := nwx s17 w28 43 ky28
  have A28_0 := f28_0.c n29
  refine zdone (L' := [4, 3]) (D' := [0, 1, 2]) zd24 rfl rfl rfl (fun zd31 => ?_)
  have zd32 := zd31.add 6 18 (.pointer (some ⟨b11, 4, none⟩)) rfl
  have A34 := (BlF.st B15 (tr2 p17 p29) rfl)
  refine zstep 5 [some 18] tb17 zd32 (pq_cons (fa_q' fa59_4 rfl) rfl (pq_cons (ld_q' A34 Try.underlying57 rfl) rfl (pq_cons (fa_q' fa59_5 rfl) rfl pq_nil))) (by kernel_rfl) rfl (fun l33 e33 zd33 => ?_)
  have A35 := (A13.st (tr3 p15 p17 p29) rfl)
  refine cl' rfl Try.func158 rfl (fun r36 m36 => impl_ownItems.calls ((at_ a0 x2.2).Writes) s29.w (fun b => memb [0] (s29.g b) = true) v7_1 A35 r36 m36) ?_
  rintro r36 v36_0 w36 m36 ⟨f36_0, ky36⟩
  obtain ⟨s37, rfl, p37, n37⟩ := nwx s29 w36 44 ky36
  have A36_0 := f36_0.c n37
  refine zdone (L' := [6]) (D' := [3, 4, 5, 0, 1, 2]) zd33 rfl rfl rfl (fun zd39 => ?_)
  refine zfin [7, 8, 9] tb17 zd39 (pq_cons (fa_q' fa59_4 rfl) rfl pq_nil) (by kernel_rfl) (by decide) ?_
  have A40 := (BlF.st B15 (tr3 p17 p29 p37) rfl)
  have A41 := (A28_0.st p37 rfl)
  refine sv A40 z56 rfl rfl rfl rfl rfl rfl A41.rd.one rfl (fun s42 p42 B42 => ?_)
  refine fa' fa59_5 rfl ?_
  have A44 := (A36_0.st p42 rfl)
  refine sv B42 z57 rfl rfl rfl rfl rfl rfl A44.rd.one rfl (fun s45 p45 B45 => ?_)
  refine dn (rg (mv' vx2_0 rfl (lda' (es := [(.int .i64 ((at_ a0 x2.2).Xid)), (.int .i64 ((at_ a0 x2.2).Begun)), (.int .i64 ((at_ a0 x2.2).Ended)), (.bool ((at_ a0 x2.2).All)), v28_0, v36_0, (.bool ((at_ a0 x2.2).In)), (.bool ((at_ a0 x2.2).Out))]) B45 Try.underlying59 z59 rfl ?_)))
  have A47 := (A41.st (tr2 p42 p45) rfl)
  have A48 := (A44.st p45 rfl)
  obtain ⟨s49, hw49, p49, A49⟩ := ow_2 A47 (ow_r A48 (fz_pair (fz_bool ((at_ a0 x2.2).In)) (fz_bool ((at_ a0 x2.2).Out)))) rfl rfl
  rw [hw49]
  have A51 : OwF kd59 s49 [(.int .i64 ((at_ a0 x2.2).Xid)), (.int .i64 ((at_ a0 x2.2).Begun)), (.int .i64 ((at_ a0 x2.2).Ended)), (.bool ((at_ a0 x2.2).All)), v28_0, v36_0, (.bool ((at_ a0 x2.2).In)), (.bool ((at_ a0 x2.2).Out))] (Track.mk ((at_ a0 x2.2).Xid) ((at_ a0 x2.2).Begun) ((at_ a0 x2.2).Ended) ((at_ a0 x2.2).All) r28 r36 ((at_ a0 x2.2).In) ((at_ a0 x2.2).Out)) 43 := (ow_isoz (fun x : Track => (x.Xid, x.Begun, x.Ended, x.All, x.Reads, x.Writes, x.In, x.Out)) (Track.mk ((at_ a0 x2.2).Xid) ((at_ a0 x2.2).Begun) ((at_ a0 x2.2).Ended) ((at_ a0 x2.2).All) r28 r36 ((at_ a0 x2.2).In) ((at_ a0 x2.2).Out)) (ow_l (fz_int .i64 ((at_ a0 x2.2).Xid)) (ow_l (fz_int .i64 ((at_ a0 x2.2).Begun)) (ow_l (fz_int .i64 ((at_ a0 x2.2).Ended)) (ow_l (fz_bool ((at_ a0 x2.2).All)) A49)))))
  have L53 := lo_one A51
  refine ltO (K := kd59) (cells := [(.int .i64 ((at_ a0 x2.2).Xid)), (.int .i64 ((at_ a0 x2.2).Begun)), (.int .i64 ((at_ a0 x2.2).Ended)), (.bool ((at_ a0 x2.2).All)), v28_0, v36_0, (.bool ((at_ a0 x2.2).In)), (.bool ((at_ a0 x2.2).Out))]) [(Track.mk ((at_ a0 x2.2).Xid) ((at_ a0 x2.2).Begun) ((at_ a0 x2.2).Ended) ((at_ a0 x2.2).All) r28 r36 ((at_ a0 x2.2).In) ((at_ a0 x2.2).Out))] 43 Try.underlying62 z59 o59 L53 rfl rfl rfl rfl rfl rfl rfl rfl rfl rfl (fun v54 s54 p54 A54 => ?_)
  have A56 := (Ax2_0.st (tr9 p11 p15 p17 p29 p37 p42 p45 p49 p54) rfl)
  refine apO sl62 A56 A54 rfl rfl rfl rfl rfl rfl rfl rfl rfl (fun v57 s57 p57 A57 => ?_)
  refine asg' v57 rfl (dn (ib (rg (pu' rfl (pu' rfl (dn ?_))))))
  have K59 := (Kx2.st (tr10 p11 p15 p17 p29 p37 p42 p45 p49 p54 p57) rfl)
  exact lb ih2 ⟨s57, _, v57, rfl, (ue (ue (ue (ue rfl rfl) rfl) rfl) rfl), K59, A57⟩
 ·
  exact xt rfl (sgb (sr (mv' vx2_0 rfl (asg' vx2_0 rfl (dn (re rfl Try.func92 rfl (r_t rfl r_nil) rfl ⟨_, rfl, Ax2_0.fo Kx2 rfl z.l, z.ky Kx2⟩))))))
set_option linter.unusedSectionVars false
section
variable {β : Type} [Inhabited β]
noncomputable def slices_Delete_impl_Track_impl_Track_pk.f (a0 : (List (Pk β))) (a1 : Int) (a2 : Int) : Option ((List (Pk β))) :=
 (if 0 ≤ a1 ∧ a1 ≤ a2 ∧ a2 ≤ (a0.length : Int) ∧ (a0.length : Int) ≤ (a0.length : Int) then (if (a1 == a2) = true then (some a0) else (if 0 ≤ a1 ∧ a1 ≤ (a0.length : Int) then (if 0 ≤ a2 ∧ a2 ≤ (a0.length : Int) then (if (a0.take (a1).toNat).length + (a0.drop (a2).toNat).length ≤ a0.length ∧ (a0.take (a1).toNat).length + (a0.drop (a2).toNat).length ≤ Lim then (if 0 ≤ (((a0.take (a1).toNat) ++ (a0.drop (a2).toNat)).length : Int) ∧ (((a0.take (a1).toNat) ++ (a0.drop (a2).toNat)).length : Int) = (((a0.take (a1).toNat) ++ (a0.drop (a2).toNat)).length : Int) ∧ (((a0.take (a1).toNat) ++ (a0.drop (a2).toNat)).length : Int) ≤ (a0.length : Int) ∧ (a0.length : Int) ≤ (a0.length : Int) then (some (((a0.take (a1).toNat) ++ (a0.drop (a2).toNat)).take ((((a0.take (a1).toNat) ++ (a0.drop (a2).toNat)).length : Int)).toNat ++ List.replicate (((a0.take (a1).toNat) ++ (a0.drop (a2).toNat)).length - ((((a0.take (a1).toNat) ++ (a0.drop (a2).toNat)).length : Int)).toNat) (Pk.mk [(.int .i64 0), (.int .i64 0), (.int .i64 0), (.bool false), (.slice none 0 0), (.slice none 0 0), (.bool false), (.bool false)] default))) else none) else none) else none) else none)) else none)
def slices_Delete_impl_Track_impl_Track_pk.Q (w : World) (F : Nat → Prop) (os : List Nat) (r : (List (Pk β))) (v : Value) (w' : World) : Prop :=
 FW (Kd.sl 59 (Kd.pk β 8)) os w w' [v] r ∧ Ky os w w'
set_option maxHeartbeats 4000000 in
set_option maxRecDepth 100000 in
theorem slices_Delete_impl_Track_impl_Track_pk.calls (a0 : (List (Pk β))) (a1 : Int) (a2 : Int) (w : World) (F : Nat → Prop) (w0_0 : Value) (os : List Nat) (h0 : (Kd.sl 59 (Kd.pk β 8)).ow w [w0_0] a0 os) (hn : os.Nodup) (hF : ∀ b, F b → b ∉ os) (r : (List (Pk β))) (m : slices_Delete_impl_Track_impl_Track_pk.f a0 a1 a2 = some r) :
  Calls Try.prog 93 #[w0_0, (.int .i64 a1), (.int .i64 a2)] w (RT (slices_Delete_impl_Track_impl_Track_pk.Q w F os) r) := by
 obtain ⟨s0, rfl, kp0, z⟩ := startN w F [(os, 40)] (by simpa [fl_] using hn) (fun b hb => by simpa [fl_] using hF b hb) rfl
 have ez : fl_ [(os, 40)] = os := by simp [fl_]
 have A0_0 := z.ow (c := 40) (by simp) hn h0
 refine calls_of_TM (args := [w0_0, (.int .i64 a1), (.int .i64 a2)]) Try.func93 Try.ntmps93 rfl rfl m ?_
 unfold slices_Delete_impl_Track_impl_Track_pk.f
 refine sr (pu' rfl (dn (sr (mv' w0_0 rfl (pu' rfl (pu' rfl (mv' w0_0 rfl (ln' A0_0.rd Try.underlying62 rfl (sl3_ A0_0 Try.underlying62 z59 rfl rfl rfl rfl rfl rfl rfl rfl rfl (fun v2 => ?_))))))))))
 refine dn (sq (sr (pu' rfl (pu' rfl (pu' rfl (dn (cd rfl (fun h3 => ?_) (fun h3 => ?_))))))))
 ·
  exact sr (mv' w0_0 rfl (asg' w0_0 rfl (dn (re rfl Try.func93 rfl (r_t rfl r_nil) rfl ⟨_, rfl, z.fw' ez kp0 (oc_ow A0_0) rfl, z.ky' ez kp0⟩))))
 ·
  refine sk (sr (mv' w0_0 rfl (ln' A0_0.rd Try.underlying62 rfl (pu' rfl (dn (sq (zdraw [[], [], [0, 1], [], [], [3, 4], [2, 5], [6, 6, 0, 1, 2, 3, 4, 5, 6]] [some 20, some 21, some 22, some 23, some 24, some 25, some 26, some 0] [[0], [1], [20, 21], [0], [2], [23, 24], [22, 25], [26]] [0, 1, 2, 3, 4, 5, 6, 7] ⟨by kernel_rfl, by kernel_rfl, by kernel_rfl⟩ (by kernel_rfl) (fun s4 p4 l4 tb4 zd4 => ?_))))))))
  have zd5 := zd4.add 0 20 w0_0 rfl
  have zd6 := zd5.add 1 21 (.int .i64 a1) rfl
  have A8 := (A0_0.st p4 rfl)
  refine mg fun hg7 => ?_
  obtain ⟨v7, C7⟩ := cut_e (a := 0) (b := (a1).toNat) A8 (Nat.zero_le _) (by omega)
  obtain ⟨A7, Q7⟩ := cut_ow fl_pk A8 (by omega) C7
  have zd10 := zd6.add 2 22 v7 rfl
  have zd11 := zd10.add 3 23 w0_0 rfl
  have zd12 := zd11.add 4 24 (.int .i64 a2) rfl
  refine mg fun hg13 => ?_
  obtain ⟨v13, C13⟩ := cut_e (a := (a2).toNat) (b := a0.length) A8 (by omega) (Nat.le_refl _)
  have A13 := cut_rdf A8 C13
  have zd15 := zd12.add 5 25 v13 rfl
  refine zfin [6, 7] tb4 zd15 (pq_cons (slA_q hg13.1 C13 Try.underlying62 z59 rfl rfl rfl rfl rfl rfl rfl) rfl (pq_cons (pu_q' rfl) rfl (pq_cons (mv_q' w0_0 rfl) rfl (pq_cons (slH_q hg7.1 C7 Try.underlying62 z59 rfl rfl rfl rfl rfl rfl rfl) rfl (pq_cons (pu_q' rfl) rfl (pq_cons (mv_q' w0_0 rfl) rfl pq_nil)))))) (by kernel_rfl) (by decide) (apIn fl_pk sl62 A7 Q7 A13 rfl rfl rfl rfl rfl rfl rfl (fun v16 s16 p16 A16 Q16 => ?_))
  refine asg' v16 rfl (dn (sr (mv' v16 rfl (mv' v16 rfl (ln' A16.rd Try.underlying62 rfl (pu' rfl (mg fun hg18 => ?_)))))))
  obtain ⟨v18, C18⟩ := cut_m (a := ((((a0.take (a1).toNat) ++ (a0.drop (a2).toNat)).length : Int)).toNat) (b := ((a0.length : Int)).toNat) A16 Q16 (by omega) (by omega)
  refine slB_ hg18.1 (by omega) C18 Try.underlying62 z59 rfl rfl rfl rfl rfl rfl rfl rfl (clr_ (x0 := (Pk.mk [(.int .i64 0), (.int .i64 0), (.int .i64 0), (.bool false), (.slice none 0 0), (.slice none 0 0), (.bool false), (.bool false)] default)) fl_pk A16 C18 (by omega) (by omega) Try.underlying62 o59 rfl rfl (fun _ => ⟨⟨rfl, rfl, fun v hv => List.all_eq_true.1 (show ([(.int .i64 0), (.int .i64 0), (.int .i64 0), (.bool false), (.slice none 0 0), (.slice none 0 0), (.bool false), (.bool false)] : List Value).all (·.oneCell') = true from rfl) v hv⟩, rfl⟩) rfl rfl rfl rfl rfl (fun s19 p19 A19 => ?_))
  refine dn (sr (mv' v16 rfl (asg' v16 rfl (dn ?_))))
  have K21 := (kp0.st (tr3 p4 p16 p19) rfl)
  exact re rfl Try.func93 rfl (r_t rfl r_nil) rfl ⟨_, rfl, z.fw' ez K21 (oc_ow A19) rfl, z.ky' ez K21⟩
end
noncomputable def slices_Delete_impl_Track_impl_Track.f (a0 : (List Track)) (a1 : Int) (a2 : Int) : Option ((List Track)) := dlF a0 a1 a2
def slices_Delete_impl_Track_impl_Track.Q (w : World) (F : Nat → Prop) (os : List Nat) (r : (List Track)) (v : Value) (w' : World) : Prop := FW (Kd.sl 59 kd59) os w w' [v] r ∧ Ky os w w'
theorem slices_Delete_impl_Track_impl_Track.calls (a0 : (List Track)) (a1 : Int) (a2 : Int) (w : World) (F : Nat → Prop) (w0_0 : Value) (os : List Nat) (h0 : (Kd.sl 59 kd59).ow w [w0_0] a0 os) (hn : os.Nodup) (hF : ∀ b, F b → b ∉ os) (r : (List Track)) (m : slices_Delete_impl_Track_impl_Track.f a0 a1 a2 = some r) :
  Calls Try.prog 93 #[w0_0, (.int .i64 a1), (.int .i64 a2)] w (RT (slices_Delete_impl_Track_impl_Track.Q w F os) r) :=
 dlW (te := 59) (K := kd59) slices_Delete_impl_Track_impl_Track_pk.calls (fun a0 i j h0 h1 h2 hl => dlM_eq _ a0 i j h0 h1 h2 hl) a0 a1 a2 w w0_0 os h0 hn r m

noncomputable def impl_tidy_1_1.f (a0 : Track) (a1 : Track) : Option (Bool) :=
 ((impl_Track_isActive.f a0).bind fun r11 => (some ((!r11) || (decide (a1.Ended ≤ a0.Begun)))))
def impl_tidy_1_1.Q (w : World) (F : Nat → Prop) (r : Bool) (v : Value) (w' : World) : Prop :=
 v = (.bool r) ∧ Ky [] w w'
set_option maxHeartbeats 4000000 in
set_option maxRecDepth 100000 in
theorem impl_tidy_1_1.calls (a0 : Track) (a1 : Track) (w : World) (F : Nat → Prop) (w0_0 : Value) (w0_1 : Value) (c1 : Nat) (w1_0 : Value) (w1_1 : Value) (h0_0 : (Kd.sl 80 kd80).rd w [w0_0] a0.Reads F) (h0_1 : (Kd.sl 48 kd48).rd w [w0_1] a0.Writes F) (h1_0 : (Kd.sl 80 kd80).rd w [w1_0] a1.Reads F) (h1_1 : (Kd.sl 48 kd48).rd w [w1_1] a1.Writes F) (hb1 : BlW w c1 59 [(.int .i64 a1.Xid), (.int .i64 a1.Begun), (.int .i64 a1.Ended), (.bool a1.All), w1_0, w1_1, (.bool a1.In), (.bool a1.Out)]) (hp1 : F c1) (r : Bool) (m : impl_tidy_1_1.f a0 a1 = some r) :
  Calls Try.prog 162 #[(.agg #[(.int .i64 a0.Xid), (.int .i64 a0.Begun), (.int .i64 a0.Ended), (.bool a0.All), w0_0, w0_1, (.bool a0.In), (.bool a0.Out)]), (.pointer (some ⟨c1, 0, none⟩))] w (RT (impl_tidy_1_1.Q w F) r) := by
 obtain ⟨s0, rfl, kp0, z⟩ := start0 w F
 have A0_0 := z.rd h0_0
 have A0_1 := z.rd h0_1
 have B1 := z.b0 hb1 hp1
 have A1_0 := z.rd h1_0
 have A1_1 := z.rd h1_1
 refine calls_of_TM (args := [(.agg #[(.int .i64 a0.Xid), (.int .i64 a0.Begun), (.int .i64 a0.Ended), (.bool a0.All), w0_0, w0_1, (.bool a0.In), (.bool a0.Out)]), (.pointer (some ⟨c1, 0, none⟩))]) Try.func162 Try.ntmps162 rfl rfl m ?_
 unfold impl_tidy_1_1.f
 refine sr (bx' (cs := [(.int .i64 a0.Xid), (.int .i64 a0.Begun), (.int .i64 a0.Ended), (.bool a0.All), w0_0, w0_1, (.bool a0.In), (.bool a0.Out)]) 40 rfl rfl (fun b6 s6 p6 B6 => ?_))
 refine pu' rfl (dn (sr (lda' (es := [(.int .i64 a0.Xid), (.int .i64 a0.Begun), (.int .i64 a0.Ended), (.bool a0.All), w0_0, w0_1, (.bool a0.In), (.bool a0.Out)]) B6 Try.underlying59 z59 rfl ?_)))
 have K8 := (kp0.st p6 rfl)
 have A9 := (A0_0.kp K8)
 have A10 := (A0_1.kp K8)
 refine cl' rfl Try.func90 rfl (fun r11 m11 => impl_Track_isActive.calls a0 s6.w (fun b => memb [0] (s6.g b) = true) w0_0 w0_1 A9 A10 r11 m11) ?_
 rintro r11 _ w11 m11 ⟨rfl, ky11⟩
 obtain ⟨s12, rfl, p12, n12⟩ := nwx s6 w11 41 ky11
 refine pu' rfl (pu' rfl (jy [7, 8, 9, 10, 11, 12, 13] [10] 13 (.bool ((!r11) || (decide (a1.Ended ≤ a0.Begun)))) rfl (fun Kg13 => ?_) (fun j13 => ?_)))
 ·
  rcases Bool.eq_false_or_eq_true (!r11) with hb13 | hb13
  ·
   exact sbT hb13 (uw' rfl (uw' rfl (uw' rfl (uw' rfl (uw' rfl (pu' rfl (Kg13 _ (Ag.put ((Ag.put ((Ag.put ((Ag.put ((Ag.put ((Ag.put (Ag.base rfl) rfl)) rfl)) rfl)) rfl)) rfl)) rfl) (by rw [hb13]; rfl))))))))
  ·
   refine sbT hb13 (fa' fa59_2 rfl ?_)
   have A14 := (BlF.st B1 (tr2 p6 p12) rfl)
   refine ld' A14 Try.underlying3 rfl (fa' fa59_1 rfl ?_)
   have A15 := (BlF.st B6 p12 rfl)
   exact ld' A15 Try.underlying3 rfl (pu' rfl (pu' rfl (Kg13 _ (Ag.put ((Ag.put ((Ag.put ((Ag.put ((Ag.put ((Ag.put (Ag.base rfl) rfl)) rfl)) rfl)) rfl)) rfl)) rfl) (by rw [hb13]; rfl))))
 refine pu' rfl (dn ?_)
 have K16 := (K8.st p12 rfl)
 exact re rfl Try.func162 rfl (r_t rfl r_nil) rfl ⟨_, rfl, rfl, z.ky K16⟩
noncomputable def impl_tidy_1.f (a0 : Track) (a1 : (List Track)) : Option (Bool) :=
 ((impl_Track_isActive.f a0).bind fun r10 => ((if (!r10) = true then ((impl_areAll_impl_Track.f a1 (fun x0 => impl_tidy_1_1.f x0 a0)).bind fun r19 => (some r19)) else (some false)).bind fun y12 => (some y12)))
def impl_tidy_1.Q (w : World) (F : Nat → Prop) (r : Bool) (v : Value) (w' : World) : Prop :=
 v = (.bool r) ∧ Ky [] w w'
set_option maxHeartbeats 4000000 in
set_option maxRecDepth 100000 in
theorem impl_tidy_1.calls (a0 : Track) (a1 : (List Track)) (w : World) (F : Nat → Prop) (w0_0 : Value) (w0_1 : Value) (c1 : Nat) (w1_0 : Value) (h0_0 : (Kd.sl 80 kd80).rd w [w0_0] a0.Reads F) (h0_1 : (Kd.sl 48 kd48).rd w [w0_1] a0.Writes F) (h1_0 : (Kd.sl 59 kd59).rd w [w1_0] a1 F) (hb1 : BlW w c1 62 [w1_0]) (hp1 : F c1) (r : Bool) (m : impl_tidy_1.f a0 a1 = some r) :
  Calls Try.prog 161 #[(.agg #[(.int .i64 a0.Xid), (.int .i64 a0.Begun), (.int .i64 a0.Ended), (.bool a0.All), w0_0, w0_1, (.bool a0.In), (.bool a0.Out)]), (.pointer (some ⟨c1, 0, none⟩))] w (RT (impl_tidy_1.Q w F) r) := by
 obtain ⟨s0, rfl, kp0, z⟩ := start0 w F
 have A0_0 := z.rd h0_0
 have A0_1 := z.rd h0_1
 have B1 := z.b0 hb1 hp1
 have A1_0 := z.rd h1_0
 refine calls_of_TM (args := [(.agg #[(.int .i64 a0.Xid), (.int .i64 a0.Begun), (.int .i64 a0.Ended), (.bool a0.All), w0_0, w0_1, (.bool a0.In), (.bool a0.Out)]), (.pointer (some ⟨c1, 0, none⟩))]) Try.func161 Try.ntmps161 rfl rfl m ?_
 unfold impl_tidy_1.f
 refine sr (bx' (cs := [(.int .i64 a0.Xid), (.int .i64 a0.Begun), (.int .i64 a0.Ended), (.bool a0.All), w0_0, w0_1, (.bool a0.In), (.bool a0.Out)]) 40 rfl rfl (fun b5 s5 p5 B5 => ?_))
 refine pu' rfl (dn (sr (lda' (es := [(.int .i64 a0.Xid), (.int .i64 a0.Begun), (.int .i64 a0.Ended), (.bool a0.All), w0_0, w0_1, (.bool a0.In), (.bool a0.Out)]) B5 Try.underlying59 z59 rfl ?_)))
 have K7 := (kp0.st p5 rfl)
 have A8 := (A0_0.kp K7)
 have A9 := (A0_1.kp K7)
 refine cl' rfl Try.func90 rfl (fun r10 m10 => impl_Track_isActive.calls a0 s5.w (fun b => memb [0] (s5.g b) = true) w0_0 w0_1 A8 A9 r10 m10) ?_
 rintro r10 _ w10 m10 ⟨rfl, ky10⟩
 obtain ⟨s11, rfl, p11, n11⟩ := nwx s5 w10 41 ky10
 refine pu' rfl (pu' rfl (ji [8] (fun (y12 : Bool) (e : Env) (w : World) => ∃ (s : St) (e0 : Env), w = s.w ∧ e = upd e0 11 (.bool y12) ∧ Kp s0 s) (fun Gj12 Kj12 => ?_) ?_))
 ·
  rcases Bool.eq_false_or_eq_true (!r10) with hb12 | hb12
  ·
   refine sbT hb12 ?_
   rw [if_pos hb12]
   have A13 := (BlF.st B1 (tr2 p5 p11) rfl)
   refine ld' A13 Try.underlying62 rfl (mkf (fs := []) (cs := [(.pointer (some ⟨b5, 0, none⟩))]) rfl rfl rfl rfl rfl rfl rfl ?_)
   have K14 := (K7.st p11 rfl)
   have A15 := (A1_0.kp K14)
   have A16 := (A0_0.kp K14)
   have A17 := (A0_1.kp K14)
   have A18 := (BlF.st B5 p11 rfl)
   refine cl' rfl Try.func98 rfl (fun r19 m19 => impl_areAll_impl_Track.calls a1 (fun x0 => impl_tidy_1_1.f x0 a0) s11.w (fun b => memb [0] (s11.g b) = true) w1_0 (.func (.func 162) (List.toArray []) (List.toArray [(.pointer (some ⟨b5, 0, none⟩))])) A15 (fun x0 u0_0 u0_1 w' k h0 h1 r m =>  ⟨162, _, _, [], [(.pointer (some ⟨b5, 0, none⟩))], rfl, Try.func162, rfl, rfl, (impl_tidy_1_1.calls x0 a0 w' (fun _ => True) u0_0 u0_1 b5 w0_0 w0_1 h0 h1 (RdF.ky A16 k) (RdF.ky A17 k) (BlF.ky A18 k) trivial r m).mono fun en w2 hq => by obtain ⟨v, e, q⟩ := hq; exact ⟨v, e, q⟩⟩) rfl r19 m19) ?_
   rintro r19 _ w19 m19 ⟨rfl, ky19⟩
   obtain ⟨s20, rfl, p20, n20⟩ := nwx s11 w19 42 ky19
   refine pu' rfl ?_
   have K21 := (K14.st p20 rfl)
   exact Kj12 _ _ _ ⟨s20, _, rfl, (ue rfl rfl), K21⟩
  ·
   refine sbT hb12 ?_
   rw [if_neg (by rw [hb12]; decide)]
   refine uw' rfl (uw' rfl (uw' rfl (pu' rfl ?_)))
   have K22 := (K7.st p11 rfl)
   exact Kj12 _ _ _ ⟨s11, _, rfl, (ue rfl rfl), K22⟩
 rintro y12 _ _ ⟨s23, _, rfl, rfl, Ky12⟩
 exact pu' rfl (dn (re rfl Try.func161 rfl (r_t rfl r_nil) rfl ⟨_, rfl, rfl, z.ky Ky12⟩))
set_option linter.unusedSectionVars false
section
variable {β : Type} [Inhabited β]
noncomputable def slices_IndexFunc_impl_Track_impl_Track_pk.b0 (a0 : (List (Pk β))) (a1 : ((Pk β) → Option Bool)) (x2 : Int) : Option (Int ⊕ Int) :=
 (if (decide (x2 < (a0.length : Int))) = true then (if 0 ≤ x2 ∧ x2 < (a0.length : Int) then ((a1 (at_ a0 x2)).bind fun r8 => (if r8 = true then (some (Sum.inr x2)) else (some (Sum.inl (IntKind.wrap .i64 (x2 + (1 : Int))))))) else none) else ((some (-1 : Int)).bind fun o => some (Sum.inr o)))
noncomputable def slices_IndexFunc_impl_Track_impl_Track_pk.f (a0 : (List (Pk β))) (a1 : ((Pk β) → Option Bool)) : Option (Int) :=
 (iter (slices_IndexFunc_impl_Track_impl_Track_pk.b0 a0 a1) (0 : Int))
def slices_IndexFunc_impl_Track_impl_Track_pk.Q (w : World) (F : Nat → Prop) (r : Int) (v : Value) (w' : World) : Prop :=
 v = (.int .i64 r) ∧ Ky [] w w'
set_option maxHeartbeats 4000000 in
set_option maxRecDepth 100000 in
theorem slices_IndexFunc_impl_Track_impl_Track_pk.calls (a0 : (List (Pk β))) (a1 : ((Pk β) → Option Bool)) (w : World) (F : Nat → Prop) (w0_0 : Value) (f1 : Value) (h0_0 : (Kd.sl 59 (Kd.pk β 8)).rd w [w0_0] a0 F) (hf1 : ∀ (x0 : (Pk β)) (w' : World), Ky [] w w' → ∀ r, a1 x0 = some r → CallV Try.prog f1 [(.agg (List.toArray x0.cs))] w' fun en w'' => ∃ v, en = .returned v ∧ v = (.bool r) ∧ Ky [] w' w'') (ho1 : f1.cells = #[f1]) (r : Int) (m : slices_IndexFunc_impl_Track_impl_Track_pk.f a0 a1 = some r) :
  Calls Try.prog 155 #[w0_0, f1] w (RT (slices_IndexFunc_impl_Track_impl_Track_pk.Q w F) r) := by
 obtain ⟨s0, rfl, kp0, z⟩ := start0 w F
 have A0_0 := z.rd h0_0
 refine calls_of_TM (args := [w0_0, f1]) Try.func155 Try.ntmps155 rfl rfl m ?_
 unfold slices_IndexFunc_impl_Track_impl_Track_pk.f
 refine sr (pu' rfl (dn (sq (sr (mv' w0_0 rfl (ln' A0_0 Try.underlying62 rfl (pu' rfl (dn (bl (lpI (fun (x2 : Int) (e : Env) (w : World) => ∃ (s : St) (e0 : Env), w = s.w ∧ e = upd (upd (upd (upd e0 0 w0_0) 1 f1) 7 (.int .i64 (a0.length : Int))) 8 (.int .i64 x2) ∧ Kp s0 s) ⟨s0, _, rfl, (ue (ue (ue (ue rfl rfl) rfl) rfl) rfl), kp0⟩ (fun g2 ih2 => ?_)))))))))))
 rintro x2 _ _ ⟨s3, _, rfl, rfl, Kx2⟩
 unfold slices_IndexFunc_impl_Track_impl_Track_pk.b0
 refine sr (pu' rfl (dn (sq (cd rfl (fun h4 => ?_) (fun h4 => ?_)))))
 ·
  refine sk (sq (bl (sr (pu' rfl (pu' rfl (dn (sr (mv' f1 rfl (mv' w0_0 rfl (pu' rfl ?_))))))))))
  have A5 := (A0_0.kp Kx2)
  refine ix' A5 Try.underlying62 z59 rfl (fun ad6 es6 h0_6 h1_6 he6 ce6 ia6 => ?_)
  obtain ⟨rfl, hl6, hv6⟩ := he6
  refine lca' ce6 Try.underlying59 (by rw [hl6]; exact z59) rfl (clv rfl rfl rfl rfl rfl rfl rfl (fun r8 m8 => hf1 (at_ a0 x2) s3.w (z.ky Kx2)  r8 m8) ?_)
  rintro r8 _ w8 m8 ⟨rfl, ky8⟩
  obtain ⟨s9, rfl, p9, n9⟩ := nwx s3 w8 40 ky8
  refine dn (cd rfl (fun h10 => ?_) (fun h10 => ?_))
  ·
   refine sr (pu' rfl (pu' rfl (dn (sgi ?_))))
   have K11 := (Kx2.st p9 rfl)
   exact re rfl Try.func155 rfl (r_t rfl r_nil) rfl ⟨_, rfl, rfl, z.ky K11⟩
  ·
   refine sk (ib (rg (pu' rfl (pu' rfl (dn ?_)))))
   have K12 := (Kx2.st p9 rfl)
   exact lb ih2 ⟨s9, _, rfl, (ue (ue (ue (ue rfl rfl) rfl) rfl) rfl), K12⟩
 ·
  exact xt rfl (sgb (sr (pu' rfl (dn (re rfl Try.func155 rfl (r_t rfl r_nil) rfl ⟨_, rfl, rfl, z.ky Kx2⟩)))))
end
set_option linter.unusedSectionVars false
section
variable {β : Type} [Inhabited β]
noncomputable def slices_DeleteFunc_impl_Track_impl_Track_pk.b0 (a1 : ((Pk β) → Option Bool)) (x7 : (List (Pk β)) × Int × Int) : Option (((List (Pk β)) × Int × Int) ⊕ (List (Pk β))) :=
 (if (decide (x7.2.2 < (x7.1.length : Int))) = true then (if 0 ≤ x7.2.2 ∧ x7.2.2 < (x7.1.length : Int) then ((a1 (at_ x7.1 x7.2.2)).bind fun r20 => ((if (!r20) = true then (if 0 ≤ x7.2.1 ∧ x7.2.1 < (x7.1.length : Int) then (some ((x7.1.set (x7.2.1).toNat (at_ x7.1 x7.2.2)), (IntKind.wrap .i64 (x7.2.1 + (1 : Int))))) else none) else (some (x7.1, x7.2.1))).bind fun y22 => (some (Sum.inl (y22.1, y22.2, (IntKind.wrap .i64 (x7.2.2 + (1 : Int)))))))) else none) else ((if 0 ≤ x7.2.1 ∧ x7.2.1 ≤ (x7.1.length : Int) then (if 0 ≤ x7.2.1 ∧ x7.2.1 ≤ ((x7.1.take (x7.2.1).toNat ++ List.replicate (x7.1.length - (x7.2.1).toNat) (Pk.mk [(.int .i64 0), (.int .i64 0), (.int .i64 0), (.bool false), (.slice none 0 0), (.slice none 0 0), (.bool false), (.bool false)] default)).length : Int) then (some ((x7.1.take (x7.2.1).toNat ++ List.replicate (x7.1.length - (x7.2.1).toNat) (Pk.mk [(.int .i64 0), (.int .i64 0), (.int .i64 0), (.bool false), (.slice none 0 0), (.slice none 0 0), (.bool false), (.bool false)] default)).take (x7.2.1).toNat)) else none) else none).bind fun o => some (Sum.inr o)))
noncomputable def slices_DeleteFunc_impl_Track_impl_Track_pk.f (a0 : (List (Pk β))) (a1 : ((Pk β) → Option Bool)) : Option ((List (Pk β))) :=
 ((slices_IndexFunc_impl_Track_impl_Track_pk.f a0 a1).bind fun r2 => (if (r2 == (-1 : Int)) = true then (some a0) else (iter (slices_DeleteFunc_impl_Track_impl_Track_pk.b0 a1) (a0, r2, (IntKind.wrap .i64 (r2 + (1 : Int)))))))
def slices_DeleteFunc_impl_Track_impl_Track_pk.Q (w : World) (F : Nat → Prop) (os : List Nat) (r : (List (Pk β))) (v : Value) (w' : World) : Prop :=
 FW (Kd.sl 59 (Kd.pk β 8)) os w w' [v] r ∧ Ky os w w'
set_option maxHeartbeats 4000000 in
set_option maxRecDepth 100000 in
theorem slices_DeleteFunc_impl_Track_impl_Track_pk.calls (a0 : (List (Pk β))) (a1 : ((Pk β) → Option Bool)) (w : World) (F : Nat → Prop) (w0_0 : Value) (f1 : Value) (os : List Nat) (h0 : (Kd.sl 59 (Kd.pk β 8)).ow w [w0_0] a0 os) (hn : os.Nodup) (hF : ∀ b, F b → b ∉ os) (hf1 : ∀ (x0 : (Pk β)) (w' : World), Ky os w w' → ∀ r, a1 x0 = some r → CallV Try.prog f1 [(.agg (List.toArray x0.cs))] w' fun en w'' => ∃ v, en = .returned v ∧ v = (.bool r) ∧ Ky [] w' w'') (ho1 : f1.cells = #[f1]) (r : (List (Pk β))) (m : slices_DeleteFunc_impl_Track_impl_Track_pk.f a0 a1 = some r) :
  Calls Try.prog 159 #[w0_0, f1] w (RT (slices_DeleteFunc_impl_Track_impl_Track_pk.Q w F os) r) := by
 obtain ⟨s0, rfl, kp0, z⟩ := startN w F [(os, 40)] (by simpa [fl_] using hn) (fun b hb => by simpa [fl_] using hF b hb) rfl
 have ez : fl_ [(os, 40)] = os := by simp [fl_]
 have A0_0 := z.ow (c := 40) (by simp) hn h0
 refine calls_of_TM (args := [w0_0, f1]) Try.func159 Try.ntmps159 rfl rfl m ?_
 unfold slices_DeleteFunc_impl_Track_impl_Track_pk.f
 refine sr (pu' rfl (dn (sr (mv' w0_0 rfl (mv' f1 rfl (cl' rfl Try.func155 rfl (fun r2 m2 => slices_IndexFunc_impl_Track_impl_Track_pk.calls a0 a1 s0.w (fun b => memb [40] (s0.g b) = true) w0_0 f1 A0_0.rd (fun x0 w' k  r m =>  hf1 x0 w' (Ky.tr (z.ky' ez kp0) k)  r m) ho1 r2 m2) ?_))))))
 rintro r2 _ w2 m2 ⟨rfl, ky2⟩
 obtain ⟨s3, rfl, p3, n3⟩ := nwx s0 w2 41 ky2
 refine pu' rfl (dn (sq (sr (pu' rfl (pu' rfl (dn (cd rfl (fun h4 => ?_) (fun h4 => ?_))))))))
 ·
  refine sr (mv' w0_0 rfl (asg' w0_0 rfl (dn ?_)))
  have A5 := (A0_0.st p3 rfl)
  have K6 := (kp0.st p3 rfl)
  exact re rfl Try.func159 rfl (r_t rfl r_nil) rfl ⟨_, rfl, z.fw' ez K6 (oc_ow A5) rfl, z.ky' ez K6⟩
 ·
  refine sk (sq (sr (pu' rfl (pu' rfl (pu' rfl (dn (bl ?_)))))))
  have A8 := (A0_0.st p3 rfl)
  have K9 := (kp0.st p3 rfl)
  refine lpI (fun (x7 : (List (Pk β)) × Int × Int) (e : Env) (w : World) => ∃ (s : St) (e0 : Env), w = s.w ∧ e = upd (upd (upd (upd e0 0 w0_0) 1 f1) 5 (.int .i64 x7.2.1)) 6 (.int .i64 x7.2.2) ∧ Kp s0 s ∧ OwF (Kd.sl 59 (Kd.pk β 8)) s [w0_0] x7.1 40) ⟨s3, _, rfl, (ue (ue (ue (ue rfl rfl) rfl) rfl) rfl), K9, A8⟩ (fun g7 ih7 => ?_)
  rintro x7 _ _ ⟨s10, _, rfl, rfl, Kx7, Ax7_0⟩
  unfold slices_DeleteFunc_impl_Track_impl_Track_pk.b0
  refine sq (sr (pu' rfl (mv' w0_0 rfl (ln' Ax7_0.rd Try.underlying62 rfl (pu' rfl (dn (cd rfl (fun h12 => ?_) (fun h12 => ?_))))))))
  ·
   refine sk (sq (bl (sr (mv' w0_0 rfl (pu' rfl (ix' Ax7_0.rd Try.underlying62 z59 rfl (fun ad13 es13 h0_13 h1_13 he13 ce13 ia13 => ?_)))))))
   obtain ⟨rfl, hl13, hv13⟩ := he13
   refine lca' ce13 Try.underlying59 (by rw [hl13]; exact z59) rfl (al (cs := [(.int .i64 0), (.int .i64 0), (.int .i64 0), (.bool false), (.slice none 0 0), (.slice none 0 0), (.bool false), (.bool false)]) 42 rfl rfl rfl rfl rfl o59 rfl (fun b15 s15 p15 B15 => ?_))
   refine svp B15 (by rw [hl13]; exact z59) hv13 (by rw [hl13]; rfl) rfl rfl rfl rfl rfl rfl (fun s17 p17 B17 => ?_)
   refine dn (sr (mv' f1 rfl (ldp B17 Try.underlying59 (by rw [hl13]; exact z59) rfl rfl rfl rfl rfl rfl rfl ?_)))
   have K19 := (Kx7.st (tr2 p15 p17) rfl)
   refine clv rfl rfl rfl rfl rfl rfl rfl (fun r20 m20 => hf1 (at_ x7.1 x7.2.2) s17.w (z.ky' ez K19)  r20 m20) ?_
   rintro r20 _ w20 m20 ⟨rfl, ky20⟩
   obtain ⟨s21, rfl, p21, n21⟩ := nwx s17 w20 43 ky20
   refine pu' rfl (dn (jc (fun (y22 : (List (Pk β)) × Int) (e : Env) (w : World) => ∃ (s : St) (e0 : Env), w = s.w ∧ e = upd (upd (upd (upd e0 0 w0_0) 1 f1) 5 (.int .i64 y22.2)) 6 (.int .i64 x7.2.2) ∧ Kp s0 s ∧ OwF (Kd.sl 59 (Kd.pk β 8)) s [w0_0] y22.1 40) (fun Gj22 Kj22 => ?_) ?_))
   ·
    refine cd rfl (fun h23 => ?_) (fun h23 => ?_)
    ·
     refine sr (mv' w0_0 rfl (pu' rfl ?_))
     have A24 := (BlF.st B17 p21 rfl)
     refine ldp A24 Try.underlying59 (by rw [hl13]; exact z59) rfl rfl rfl rfl rfl rfl rfl ?_
     have A25 := (Ax7_0.st (tr3 p15 p17 p21) rfl)
     refine ix' A25.rd Try.underlying62 z59 rfl (fun ad26 es26 h0_26 h1_26 he26 ce26 ia26 => ?_)
     obtain ⟨rfl, hl26, hv26⟩ := he26
     have A28 : OwF (Kd.pk β 8) s21 (at_ x7.1 x7.2.2).cs (at_ x7.1 x7.2.2) 44 := ow_z _ _ (fun _ => ⟨⟨rfl, hl13, hv13⟩, rfl⟩)
     refine som (x' := (at_ x7.1 x7.2.2)) A25 ia26 h0_26 h1_26 A28 rfl rfl z59 rfl rfl rfl rfl rfl rfl (fun s30 p30 A30 => ?_)
     refine dn (rg (pu' rfl (pu' rfl (pu' rfl (dn ?_)))))
     have K32 := (K19.st (tr2 p21 p30) rfl)
     exact Kj22 _ _ _ ⟨s30, _, rfl, (ue (ue (ue (ue rfl rfl) rfl) rfl) rfl), K32, A30⟩
    ·
     refine sk ?_
     have A33 := (Ax7_0.st (tr3 p15 p17 p21) rfl)
     have K34 := (K19.st p21 rfl)
     exact Kj22 _ _ _ ⟨s21, _, rfl, (ue (ue (ue (ue rfl rfl) rfl) rfl) rfl), K34, A33⟩
   rintro y22 _ _ ⟨s35, _, rfl, rfl, Ky22, Ay22_0⟩
   exact ib (rg (pu' rfl (pu' rfl (pu' rfl (dn (lb ih7 ⟨s35, _, rfl, (ue (ue (ue (ue rfl rfl) rfl) rfl) rfl), Ky22, Ay22_0⟩))))))
  ·
   refine xt rfl (sgb (sr (mv' w0_0 rfl (pu' rfl (mg fun hg37 => ?_)))))
   obtain ⟨v37, C37⟩ := cut_e (a := (x7.2.1).toNat) (b := x7.1.length) Ax7_0 (by omega) (Nat.le_refl _)
   have A37 := cut_rdf Ax7_0 C37
   refine slA_ hg37.1 C37 Try.underlying62 z59 rfl rfl rfl rfl rfl rfl rfl (clr_ (x0 := (Pk.mk [(.int .i64 0), (.int .i64 0), (.int .i64 0), (.bool false), (.slice none 0 0), (.slice none 0 0), (.bool false), (.bool false)] default)) fl_pk Ax7_0 C37 (by omega) (by omega) Try.underlying62 o59 rfl rfl (fun _ => ⟨⟨rfl, rfl, fun v hv => List.all_eq_true.1 (show ([(.int .i64 0), (.int .i64 0), (.int .i64 0), (.bool false), (.slice none 0 0), (.slice none 0 0), (.bool false), (.bool false)] : List Value).all (·.oneCell') = true from rfl) v hv⟩, rfl⟩) rfl rfl rfl rfl rfl (fun s39 p39 A39 => ?_))
   refine dn (sr (mv' w0_0 rfl (pu' rfl (mg fun hg41 => ?_))))
   obtain ⟨v41, C41⟩ := cut_e (a := 0) (b := (x7.2.1).toNat) A39 (Nat.zero_le _) (by omega)
   obtain ⟨A41, Q41⟩ := cut_ow fl_pk A39 (by omega) C41
   refine slH_ hg41.1 C41 Try.underlying62 z59 rfl rfl rfl rfl rfl rfl rfl (asg' v41 rfl (dn ?_))
   have K43 := (Kx7.st p39 rfl)
   exact re rfl Try.func159 rfl (r_t rfl r_nil) rfl ⟨_, rfl, z.fw' ez K43 (oc_ow A41) rfl, z.ky' ez K43⟩
end
set_option linter.unusedSectionVars false
section
variable {β : Type} [Inhabited β]
noncomputable def slices_Clone_impl_Track_impl_Track_pk.f (a0 : (List (Pk β))) : Option ((List (Pk β))) :=
 (if ([] : (List (Pk β))).length + a0.length ≤ Lim then (some (([] : (List (Pk β))) ++ a0)) else none)
def slices_Clone_impl_Track_impl_Track_pk.Q (w : World) (F : Nat → Prop) (r : (List (Pk β))) (v : Value) (w' : World) : Prop :=
 FO (Kd.sl 59 (Kd.pk β 8)) w w' [v] r ∧ Ky [] w w'
set_option maxHeartbeats 4000000 in
set_option maxRecDepth 100000 in
theorem slices_Clone_impl_Track_impl_Track_pk.calls (a0 : (List (Pk β))) (w : World) (F : Nat → Prop) (w0_0 : Value) (h0_0 : (Kd.sl 59 (Kd.pk β 8)).rd w [w0_0] a0 F) (r : (List (Pk β))) (m : slices_Clone_impl_Track_impl_Track_pk.f a0 = some r) :
  Calls Try.prog 160 #[w0_0] w (RT (slices_Clone_impl_Track_impl_Track_pk.Q w F) r) := by
 obtain ⟨s0, rfl, kp0, z⟩ := start0 w F
 have A0_0 := z.rd h0_0
 refine calls_of_TM (args := [w0_0]) Try.func160 Try.ntmps160 rfl rfl m ?_
 unfold slices_Clone_impl_Track_impl_Track_pk.f
 refine sr (pu' rfl (dn (sq (sr (mv' w0_0 rfl (nq A0_0 Try.underlying62 rfl rfl rfl rfl rfl rfl rfl (fun nb2 hn2 => ?_)))))))
 refine dn (cdb rfl (fun h3 => ?_) (fun h3 => ?_))
 ·
  obtain rfl := hn2 h3
  exact mg fun _ => (sr (pu' rfl (dn (re rfl Try.func160 rfl (r_t rfl r_nil) rfl ⟨_, rfl, (ow_nil 59 (Kd.pk β 8) s0 40).fo kp0 rfl z.l, z.ky kp0⟩))))
 ·
  refine sk (sr (lt0 (K := (Kd.pk β 8)) 40 Try.underlying62 z59 rfl rfl rfl rfl rfl (fun v4 s4 p4 A4 => ?_)))
  refine mv' w0_0 rfl ?_
  have K6 := (kp0.st p4 rfl)
  have A7 := (A0_0.kp K6)
  refine apF fl_pk sl62 A4 A7 rfl rfl rfl rfl rfl rfl rfl (fun v8 s8 p8 A8 => ?_)
  refine asg' v8 rfl (dn ?_)
  have K10 := (K6.st p8 rfl)
  exact re rfl Try.func160 rfl (r_t rfl r_nil) rfl ⟨_, rfl, A8.fo K10 rfl z.l, z.ky K10⟩
end
noncomputable def impl_tidy.f (a0 : (List Track)) : Option ((List Track)) := (if a0.length ≤ Lim then some () else none).bind fun _ => (delF a0 (fun x => impl_tidy_1.f x a0)).bind fun r => some r
def impl_tidy.Q (w : World) (F : Nat → Prop) (os : List Nat) (r : (List Track)) (v : Value) (w' : World) : Prop := FW (Kd.sl 59 kd59) os w w' [v] r ∧ Ky os w w'
set_option maxRecDepth 100000 in
theorem impl_tidy.calls (a0 : (List Track)) (w : World) (F : Nat → Prop) (w0_0 : Value) (os : List Nat) (h0 : (Kd.sl 59 kd59).ow w [w0_0] a0 os) (hn : os.Nodup) (hF : ∀ b, F b → b ∉ os) (r : (List Track)) (m : impl_tidy.f a0 = some r) :
  Calls Try.prog 94 #[w0_0] w (RT (impl_tidy.Q w F os) r) := by
 obtain ⟨s0, rfl, kp0, z⟩ := startN w F [(os, 40)] (by simpa [fl_] using hn) (fun b hb => by simpa [fl_] using hF b hb) rfl
 have ez : fl_ [(os, 40)] = os := by simp [fl_]
 have A0 := z.ow (c := 40) (by simp) hn h0
 refine calls_of_TM (args := [w0_0]) Try.func94 Try.ntmps94 rfl rfl m ?_
 unfold impl_tidy.f
 refine sr (bx' (cs := [w0_0]) 42 rfl (oc A0.rd.one) (fun b2 s2 p2 B2 => ?_))
 refine pu' rfl (dn ?_)
 have A2 := (A0.st p2 rfl)
 obtain ⟨s3, ps, hw3, p3, hx, R3, P3, D3⟩ := pk_split 41 A2 rfl
 rw [hw3]
 obtain ⟨X, hX⟩ : ∃ X : List (Pk Track), X = ps.map (fun p => p.1) := ⟨_, rfl⟩
 have P3 : OwF (Kd.sl 59 (Kd.pk Track 8)) s3 [w0_0] X 40 := by rw [hX]; exact P3
 have B3 := (BlF.st B2 p3 rfl)
 have hl3 : X.length = a0.length := by rw [hX, ← hx]; simp
 refine sr (ld' B3 Try.underlying62 rfl ?_)
 refine cl' rfl Try.func160 rfl (fun r4 m4 => slices_Clone_impl_Track_impl_Track_pk.calls (β := Track) X s3.w (fun b => memb [40] (s3.g b) = true) w0_0 P3.rd X (by
  unfold slices_Clone_impl_Track_impl_Track_pk.f
  have hlim : a0.length ≤ Lim := by
   split at m4
   ·
    assumption
   ·
    cases m4
  rw [if_pos (by simpa [hl3] using hlim)]; rfl)) ?_
 rintro r4 v4 w4 m4 ⟨f4, ky4⟩
 have hlim : a0.length ≤ Lim := by
  split at m4
  ·
   assumption
  ·
   cases m4
 obtain ⟨s5, rfl, p5, n5⟩ := nwx s3 w4 43 ky4
 have C5 := f4.c n5
 have B5 := (BlF.st B3 p5 rfl)
 have R5 := (R3.st p5 rfl rfl)
 have D5 := (D3.st p5 rfl)
 refine mkf (fs := []) (cs := [(.pointer (some ⟨b2, 0, none⟩))]) rfl rfl rfl rfl rfl rfl rfl ?_
 obtain ⟨os5, ho5, hn5, hc5⟩ := C5
 let d : Pk Track → Option Bool := fun q => open Classical in if q ∈ X then impl_tidy_1.f q.x a0 else none
 refine cl' rfl Try.func159 rfl (fun r6 m6 => slices_DeleteFunc_impl_Track_impl_Track_pk.calls (β := Track) X d s5.w (fun b => memb [40, 41] (s5.g b) = true) v4 (.func (.func 161) (List.toArray []) (List.toArray [(.pointer (some ⟨b2, 0, none⟩))])) os5 ho5 hn5 (apart_of hc5 rfl) (fun x0 w' k r hr => by
   by_cases hq : x0 ∈ X
   ·
    simp only [d, if_pos hq] at hr
    have hq' := hq
    rw [hX] at hq'
    obtain ⟨p, hp, rfl⟩ := List.mem_map.1 hq'
    have hrd : RdF kd59 s5 p.1.cs p.1.x [41] := Kd.rd_mono _ (Kd.ow_rd _ (D5.1 p hp)) fun b hb _ => by rw [D5.2.2 b (mem_fl hp hb)]; rfl
    obtain ⟨q0, q1, e, hq0, hq1⟩ := op59 hrd
    rw [e]
    exact ⟨161, _, _, [], [(.pointer (some ⟨b2, 0, none⟩))], rfl, Try.func161, rfl, rfl, (impl_tidy_1.calls p.1.x a0 w' (fun _ => True) q0 q1 b2 w0_0 (RdF.kyo hq0 hc5 k rfl) (RdF.kyo hq1 hc5 k rfl) (RdF.kyo R5.rd hc5 k rfl) (BlF.kyo B5 hc5 k rfl) trivial r hr).mono fun en w2 hq => by obtain ⟨v, e, q⟩ := hq; exact ⟨v, e, q⟩⟩
   ·
    simp only [d, if_neg hq] at hr; cases hr) rfl (X.filter fun q => !((impl_tidy_1.f q.x a0).getD false)) (dfM_eq _ X d (fun q => (impl_tidy_1.f q.x a0).getD false) (by rw [hl3]; unfold Lim at hlim; simp only [maxLen]; omega) (fun q hq => by
    have hq' := hq
    rw [hX] at hq'
    obtain ⟨p, hp, rfl⟩ := List.mem_map.1 hq'
    obtain ⟨b, hb⟩ := (delF_out m6).1 p.1.x (by rw [← hx]; exact List.mem_map.2 ⟨p, hp, rfl⟩)
    simp only [d, if_pos hq, hb, Option.getD_some]))) ?_
 rintro r6 v6 w6 m6 ⟨f6, ky6⟩
 obtain ⟨s7, rfl, p7, C7⟩ := nwo 44 hc5 ky6 f6
 have D7 := (D5.st p7 rfl)
 have hfil : X.filter (fun q => !((impl_tidy_1.f q.x a0).getD false)) = (ps.filter fun p => !((impl_tidy_1.f p.1.x a0).getD false)).map (fun p => p.1) := by rw [hX, List.filter_map]; rfl
 rw [hfil] at C7
 obtain ⟨s8, hw8, p8, E8⟩ := pk_join (K := kd59) C7 D7 List.filter_sublist rfl rfl
 have hr6 : (ps.filter fun p => !((impl_tidy_1.f p.1.x a0).getD false)).map (fun p => p.1.x) = r6 := by rw [(delF_out m6).2, ← hx, List.filter_map]; rfl
 rw [hr6] at E8
 rw [hw8]
 refine asg' v6 rfl (dn ?_)
 have K8 := ((kp0.st (tr5 p2 p3 p5 p7 p8) rfl))
 exact re rfl Try.func94 rfl (r_t rfl r_nil) rfl ⟨_, rfl, z.fw' ez K8 (oc_ow E8) rfl, z.ky' ez K8⟩

noncomputable def impl_EdgeEnd.f (a0 : (List Track)) (a1 : Int) (a2 : Int) (a3 : Bool) : Option ((List Track) × Int) :=
 ((impl_active.f a0 a1).bind fun r2 => ((impl_TracksOk.f a0).bind fun r6 => ((if ((!r6) || (decide (r2 < (0 : Int)))) = true then (some true) else (if 0 ≤ r2 ∧ r2 < (a0.length : Int) then (some (decide (a2 ≤ (at_ a0 r2).Begun))) else none)).bind fun y9 => (if y9 = true then (some (([] : (List Track)), (1 : Int))) else ((impl_ownTracks.f a0).bind fun r20 => ((if a3 = true then (if 0 ≤ r2 ∧ r2 < (r20.length : Int) then (some ((at_ r20 r2).In)) else none) else (some false)).bind fun y23 => ((if y23 = true then (if 0 ≤ r2 ∧ r2 < (r20.length : Int) then (some ((at_ r20 r2).Out)) else none) else (some false)).bind fun y31 => (if y31 = true then (some (r20, (2 : Int))) else ((if a3 = true then (if 0 ≤ r2 ∧ r2 < (r20.length : Int) then ((some (r20.set (r2).toNat (Track.mk (at_ r20 r2).Xid (at_ r20 r2).Begun a2 (at_ r20 r2).All (at_ r20 r2).Reads (at_ r20 r2).Writes (at_ r20 r2).In (at_ r20 r2).Out))).bind fun y46 => (some y46)) else none) else ((slices_Delete_impl_Track_impl_Track.f r20 r2 (IntKind.wrap .i64 (r2 + (1 : Int)))).bind fun r49 => (some r49))).bind fun y38 => ((impl_tidy.f y38).bind fun r56 => (some (r56, (0 : Int)))))))))))))
def impl_EdgeEnd.Q (w : World) (F : Nat → Prop) (r : (List Track) × Int) (v : Value) (w' : World) : Prop :=
 ∃ (v0 : Value), v = .tuple #[v0, (.int .i64 r.2)] ∧ FO (Kd.sl 59 kd59) w w' [v0] r.1 ∧ Ky [] w w'
set_option maxHeartbeats 4000000 in
set_option maxRecDepth 100000 in
theorem impl_EdgeEnd.calls (a0 : (List Track)) (a1 : Int) (a2 : Int) (a3 : Bool) (w : World) (F : Nat → Prop) (w0_0 : Value) (h0_0 : (Kd.sl 59 kd59).rd w [w0_0] a0 F) (r : (List Track) × Int) (m : impl_EdgeEnd.f a0 a1 a2 a3 = some r) :
  Calls Try.prog 32 #[w0_0, (.int .i64 a1), (.int .i64 a2), (.bool a3)] w (RT (impl_EdgeEnd.Q w F) r) := by
 obtain ⟨s0, rfl, kp0, z⟩ := start0 w F
 have A0_0 := z.rd h0_0
 refine calls_of_TM (args := [w0_0, (.int .i64 a1), (.int .i64 a2), (.bool a3)]) Try.func32 Try.ntmps32 rfl rfl m ?_
 unfold impl_EdgeEnd.f
 refine sr (pu' rfl (pu' rfl (dn (sr (mv' w0_0 rfl (pu' rfl (cl' rfl Try.func91 rfl (fun r2 m2 => impl_active.calls a0 a1 s0.w (fun b => memb [0] (s0.g b) = true) w0_0 A0_0 r2 m2) ?_)))))))
 rintro r2 _ w2 m2 ⟨rfl, ky2⟩
 obtain ⟨s3, rfl, p3, n3⟩ := nwx s0 w2 40 ky2
 refine pu' rfl (dn (sq (sr (mv' w0_0 rfl ?_))))
 have K4 := (kp0.st p3 rfl)
 have A5 := (A0_0.kp K4)
 refine cl' rfl Try.func34 rfl (fun r6 m6 => impl_TracksOk.calls a0 s3.w (fun b => memb [0] (s3.g b) = true) w0_0 A5 r6 m6) ?_
 rintro r6 _ w6 m6 ⟨rfl, ky6⟩
 obtain ⟨s7, rfl, p7, n7⟩ := nwx s3 w6 41 ky6
 refine pu' rfl (pu' rfl (jy [18, 19, 20, 21] [7, 8, 9, 10, 11, 12, 13, 14, 15] 21 (.bool ((!r6) || (decide (r2 < (0 : Int))))) rfl (fun Kg8 => ?_) (fun j8 => ?_)))
 ·
  rcases Bool.eq_false_or_eq_true (!r6) with hb8 | hb8
  ·
   exact sbT hb8 (uw' rfl (uw' rfl (pu' rfl (Kg8 _ (Ag.put ((Ag.put ((Ag.put (Ag.base rfl) rfl)) rfl)) rfl) (by rw [hb8]; rfl)))))
  ·
   exact sbT hb8 (pu' rfl (pu' rfl (pu' rfl (Kg8 _ (Ag.put ((Ag.put ((Ag.put (Ag.base rfl) rfl)) rfl)) rfl) (by rw [hb8]; rfl)))))
 refine pu' rfl (ji [] (fun (y9 : Bool) (e : Env) (w : World) => ∃ (s : St) (e0 : Env), w = s.w ∧ e = upd (upd (upd (upd (upd e0 0 w0_0) 2 (.int .i64 a2)) 3 (.bool a3)) 10 (.int .i64 r2)) 30 (.bool y9) ∧ Kp s0 s) (fun Gj9 Kj9 => ?_) ?_)
 ·
  rcases Bool.eq_false_or_eq_true ((!r6) || (decide (r2 < (0 : Int)))) with hb9 | hb9
  ·
   refine sbT hb9 ?_
   rw [if_pos hb9]
   refine uw' rfl (uw' rfl (uw' rfl (uw' rfl (uw' rfl (uw' rfl (uw' rfl (pu' rfl ?_)))))))
   have K10 := (K4.st p7 rfl)
   exact Kj9 _ _ _ ⟨s7, _, rfl, (ue (ue (ue (ue (ue rfl rfl) rfl) rfl) rfl) rfl), K10⟩
  ·
   refine sbT hb9 ?_
   rw [if_neg (by rw [hb9]; decide)]
   refine pu' rfl (mv' w0_0 rfl (pu' rfl ?_))
   have K11 := (K4.st p7 rfl)
   have A12 := (A0_0.kp K11)
   refine ix' A12 Try.underlying62 z59 rfl (fun ad13 es13 h0_13 h1_13 he13 ce13 ia13 => ?_)
   obtain ⟨v13_0, v13_1, rfl, A13_0, A13_1⟩ := op59 he13
   exact fa' fa59_1 rfl (lc' ce13 Try.underlying3 rfl (pu' rfl (pu' rfl (Kj9 _ _ _ ⟨s7, _, rfl, (ue (ue (ue (ue (ue rfl rfl) rfl) rfl) rfl) rfl), K11⟩))))
 rintro y9 _ _ ⟨s17, _, rfl, rfl, Ky9⟩
 refine dn (cd rfl (fun h18 => ?_) (fun h18 => ?_))
 ·
  exact sr (pu' rfl (pu' rfl (dn (re rfl Try.func32 rfl (r_t rfl (r_t rfl r_nil)) rfl ⟨_, rfl, (.slice none 0 0), rfl, (ow_nil 59 kd59 s17 40).fo Ky9 rfl z.l, z.ky Ky9⟩))))
 ·
  refine sk (sr (mv' w0_0 rfl ?_))
  have A19 := (A0_0.kp Ky9)
  refine cl' rfl Try.func92 rfl (fun r20 m20 => impl_ownTracks.calls a0 s17.w (fun b => memb [0] (s17.g b) = true) w0_0 A19 r20 m20) ?_
  rintro r20 v20_0 w20 m20 ⟨f20_0, ky20⟩
  obtain ⟨s21, rfl, p21, n21⟩ := nwx s17 w20 42 ky20
  have A20_0 := f20_0.c n21
  refine asg' v20_0 rfl (dn (sq (bl (sr (pu' rfl (pu' rfl (ji [8, 9, 10, 11, 12, 13, 14, 15] (fun (y23 : Bool) (e : Env) (w : World) => ∃ (s : St) (e0 : Env), w = s.w ∧ e = upd (upd (upd (upd (upd e0 2 (.int .i64 a2)) 3 (.bool a3)) 10 (.int .i64 r2)) 11 v20_0) 46 (.bool y23) ∧ Kp s0 s ∧ OwF (Kd.sl 59 kd59) s [v20_0] r20 42) (fun Gj23 Kj23 => ?_) ?_)))))))
  ·
   rcases Bool.eq_false_or_eq_true a3 with hb23 | hb23
   ·
    refine sbT hb23 ?_
    rw [if_pos hb23]
    refine mv' v20_0 rfl (pu' rfl (ix' A20_0.rd Try.underlying62 z59 rfl (fun ad24 es24 h0_24 h1_24 he24 ce24 ia24 => ?_)))
    obtain ⟨v24_0, v24_1, rfl, A24_0, A24_1⟩ := op59 he24
    refine fa' fa59_6 rfl (lc' ce24 Try.underlying4 rfl (pu' rfl ?_))
    have K28 := (Ky9.st p21 rfl)
    exact Kj23 _ _ _ ⟨s21, _, rfl, (ue (ue (ue (ue (ue rfl rfl) rfl) rfl) rfl) rfl), K28, A20_0⟩
   ·
    refine sbT hb23 ?_
    rw [if_neg (by rw [hb23]; decide)]
    refine uw' rfl (uw' rfl (uw' rfl (uw' rfl (uw' rfl (pu' rfl ?_)))))
    have K29 := (Ky9.st p21 rfl)
    exact Kj23 _ _ _ ⟨s21, _, rfl, (ue (ue (ue (ue (ue rfl rfl) rfl) rfl) rfl) rfl), K29, A20_0⟩
  rintro y23 _ _ ⟨s30, _, rfl, rfl, Ky23, Cy23_22⟩
  refine pu' rfl (ji [15] (fun (y31 : Bool) (e : Env) (w : World) => ∃ (s : St) (e0 : Env), w = s.w ∧ e = upd (upd (upd (upd (upd e0 2 (.int .i64 a2)) 3 (.bool a3)) 10 (.int .i64 r2)) 11 v20_0) 53 (.bool y31) ∧ Kp s0 s ∧ OwF (Kd.sl 59 kd59) s [v20_0] r20 42) (fun Gj31 Kj31 => ?_) ?_)
  ·
   rcases Bool.eq_false_or_eq_true y23 with hb31 | hb31
   ·
    refine sbT hb31 ?_
    rw [if_pos hb31]
    refine mv' v20_0 rfl (pu' rfl (ix' Cy23_22.rd Try.underlying62 z59 rfl (fun ad32 es32 h0_32 h1_32 he32 ce32 ia32 => ?_)))
    obtain ⟨v32_0, v32_1, rfl, A32_0, A32_1⟩ := op59 he32
    exact fa' fa59_7 rfl (lc' ce32 Try.underlying4 rfl (pu' rfl (Kj31 _ _ _ ⟨s30, _, rfl, (ue (ue (ue (ue (ue rfl rfl) rfl) rfl) rfl) rfl), Ky23, Cy23_22⟩)))
   ·
    refine sbT hb31 ?_
    rw [if_neg (by rw [hb31]; decide)]
    exact uw' rfl (uw' rfl (uw' rfl (uw' rfl (uw' rfl (pu' rfl (Kj31 _ _ _ ⟨s30, _, rfl, (ue (ue (ue (ue (ue rfl rfl) rfl) rfl) rfl) rfl), Ky23, Cy23_22⟩))))))
  rintro y31 _ _ ⟨s36, _, rfl, rfl, Ky31, Cy31_22⟩
  refine pu' rfl (dn (cd rfl (fun h37 => ?_) (fun h37 => ?_)))
  ·
   exact sr (mv' v20_0 rfl (asg' v20_0 rfl (pu' rfl (dn (re rfl Try.func32 rfl (r_t rfl (r_t rfl r_nil)) rfl ⟨_, rfl, v20_0, rfl, Cy31_22.fo Ky31 rfl z.l, z.ky Ky31⟩)))))
  ·
   refine sr (pu' rfl (pu' rfl (dn (jc (fun (y38 : (List Track)) (e : Env) (w : World) => ∃ (s : St) (e0 : Env) (vy38_0 : Value), w = s.w ∧ e = upd e0 11 vy38_0 ∧ Kp s0 s ∧ OwF (Kd.sl 59 kd59) s [vy38_0] y38 43) (fun Gj38 Kj38 => ?_) ?_))))
   ·
    refine cd rfl (fun h39 => ?_) (fun h39 => ?_)
    ·
     refine rg (mv' v20_0 rfl (pu' rfl (pu' rfl (ix' Cy31_22.rd Try.underlying62 z59 rfl (fun ad40 es40 h0_40 h1_40 he40 ce40 ia40 => ?_)))))
     obtain ⟨v40_0, v40_1, rfl, A40_0, A40_1⟩ := op59 he40
     refine fa' fa59_2 rfl (so (x' := (Track.mk (at_ r20 r2).Xid (at_ r20 r2).Begun a2 (at_ r20 r2).All (at_ r20 r2).Reads (at_ r20 r2).Writes (at_ r20 r2).In (at_ r20 r2).Out)) Cy31_22 ia40 h0_40 h1_40 (cs_iso (cs_right (cs_right (cs_left cs_flat)))) z3 rfl rfl rfl rfl rfl rfl (fun s44 p44 A44 => ?_))
     refine nb (fun y46 h46 => ?_)
     have A46 : OwF (Kd.sl 59 kd59) s44 [v20_0] y46 42 := by rw [h46]; exact A44
     refine dn ?_
     obtain ⟨s47, hw47, p47, A47⟩ := A46.rc 43 rfl
     rw [hw47]
     have K48 := (Ky31.st (tr2 p44 p47) rfl)
     exact Kj38 _ _ _ ⟨s47, _, v20_0, rfl, (ue rfl rfl), K48, A47⟩
    ·
     refine rg (mv' v20_0 rfl (pu' rfl (pu' rfl (pu' rfl ?_))))
     obtain ⟨os49, ho49, hn49, hc49⟩ := Cy31_22
     refine cl' rfl Try.func93 rfl (fun r49 m49 => slices_Delete_impl_Track_impl_Track.calls r20 r2 (IntKind.wrap .i64 (r2 + (1 : Int))) s36.w (fun b => memb [] (s36.g b) = true) v20_0 os49 ho49 hn49 (apart_of hc49 rfl) r49 m49) ?_
     rintro r49 v49_0 w49 m49 ⟨f49_0, ky49⟩
     obtain ⟨s50, rfl, p50, n50⟩ := nwm 44 hc49 ky49 rfl
     have A49_0 := f49_0.m n50
     refine asg' v49_0 rfl (dn ?_)
     obtain ⟨s52, hw52, p52, A52⟩ := A49_0.rc 43 rfl
     rw [hw52]
     have K53 := (Ky31.st (tr2 p50 p52) rfl)
     exact Kj38 _ _ _ ⟨s52, _, v49_0, rfl, (ue rfl rfl), K53, A52⟩
   rintro y38 _ _ ⟨s54, _, vy38_0, rfl, rfl, Ky38, Ay38_0⟩
   refine ib (sr (mv' vy38_0 rfl ?_))
   obtain ⟨os56, ho56, hn56, hc56⟩ := Ay38_0
   refine cl' rfl Try.func94 rfl (fun r56 m56 => impl_tidy.calls y38 s54.w (fun b => memb [] (s54.g b) = true) vy38_0 os56 ho56 hn56 (apart_of hc56 rfl) r56 m56) ?_
   rintro r56 v56_0 w56 m56 ⟨f56_0, ky56⟩
   obtain ⟨s57, rfl, p57, n57⟩ := nwm 45 hc56 ky56 rfl
   have A56_0 := f56_0.m n57
   refine asg' v56_0 rfl (pu' rfl (dn ?_))
   have K59 := (Ky38.st p57 rfl)
   exact re rfl Try.func32 rfl (r_t rfl (r_t rfl r_nil)) rfl ⟨_, rfl, v56_0, rfl, A56_0.fo K59 rfl z.l, z.ky K59⟩
noncomputable def laws_szTrack.f (a0 : Track) (a1 : Int) : Option (Int) :=
 ((laws_szSpanS.f a0.Reads a1).bind fun r7 => (if (decide (r7 < (0 : Int))) = true then (some (-1 : Int)) else ((laws_szItemS.f a0.Writes r7).bind fun r14 => (if (decide (r14 < (0 : Int))) = true then (some (-1 : Int)) else (some r14)))))
def laws_szTrack.Q (w : World) (F : Nat → Prop) (r : Int) (v : Value) (w' : World) : Prop :=
 v = (.int .i64 r) ∧ Ky [] w w'
set_option maxHeartbeats 4000000 in
set_option maxRecDepth 100000 in
theorem laws_szTrack.calls (a0 : Track) (a1 : Int) (w : World) (F : Nat → Prop) (w0_0 : Value) (w0_1 : Value) (h0_0 : (Kd.sl 76 kd76).rd w [w0_0] a0.Reads F) (h0_1 : (Kd.sl 39 kd39).rd w [w0_1] a0.Writes F) (r : Int) (m : laws_szTrack.f a0 a1 = some r) :
  Calls Try.prog 102 #[(.agg #[(.int .i64 a0.Xid), (.int .i64 a0.Begun), (.int .i64 a0.Ended), (.bool a0.All), w0_0, w0_1, (.bool a0.In), (.bool a0.Out)]), (.int .i64 a1)] w (RT (laws_szTrack.Q w F) r) := by
 obtain ⟨s0, rfl, kp0, z⟩ := start0 w F
 have A0_0 := z.rd h0_0
 have A0_1 := z.rd h0_1
 refine calls_of_TM (args := [(.agg #[(.int .i64 a0.Xid), (.int .i64 a0.Begun), (.int .i64 a0.Ended), (.bool a0.All), w0_0, w0_1, (.bool a0.In), (.bool a0.Out)]), (.int .i64 a1)]) Try.func102 Try.ntmps102 rfl rfl m ?_
 unfold laws_szTrack.f
 refine sr (bx' (cs := [(.int .i64 a0.Xid), (.int .i64 a0.Begun), (.int .i64 a0.Ended), (.bool a0.All), w0_0, w0_1, (.bool a0.In), (.bool a0.Out)]) 40 rfl rfl (fun b3 s3 p3 B3 => ?_))
 refine pu' rfl (dn (sr (fa' fa149_4 rfl (ld' B3 Try.underlying86 rfl (pu' rfl ?_)))))
 have K5 := (kp0.st p3 rfl)
 have A6 := (A0_0.kp K5)
 refine cl' rfl Try.func118 rfl (fun r7 m7 => laws_szSpanS.calls a0.Reads a1 s3.w (fun b => memb [0] (s3.g b) = true) w0_0 A6 r7 m7) ?_
 rintro r7 _ w7 m7 ⟨rfl, ky7⟩
 obtain ⟨s8, rfl, p8, n8⟩ := nwx s3 w7 41 ky7
 refine pu' rfl (dn (sq (sr (pu' rfl (pu' rfl (dn (cd rfl (fun h9 => ?_) (fun h9 => ?_))))))))
 ·
  refine sr (pu' rfl (dn ?_))
  have K10 := (K5.st p8 rfl)
  exact re rfl Try.func102 rfl (r_t rfl r_nil) rfl ⟨_, rfl, rfl, z.ky K10⟩
 ·
  refine sk (sr (fa' fa149_5 rfl ?_))
  have A11 := (BlF.st B3 p8 rfl)
  refine ld' A11 Try.underlying87 rfl (pu' rfl ?_)
  have K12 := (K5.st p8 rfl)
  have A13 := (A0_1.kp K12)
  refine cl' rfl Try.func119 rfl (fun r14 m14 => laws_szItemS.calls a0.Writes r7 s8.w (fun b => memb [0] (s8.g b) = true) w0_1 A13 r14 m14) ?_
  rintro r14 _ w14 m14 ⟨rfl, ky14⟩
  obtain ⟨s15, rfl, p15, n15⟩ := nwx s8 w14 42 ky14
  refine pu' rfl (dn (sq (sr (pu' rfl (pu' rfl (dn (cd rfl (fun h16 => ?_) (fun h16 => ?_))))))))
  ·
   refine sr (pu' rfl (dn ?_))
   have K17 := (K12.st p15 rfl)
   exact re rfl Try.func102 rfl (r_t rfl r_nil) rfl ⟨_, rfl, rfl, z.ky K17⟩
  ·
   refine sk (sr (pu' rfl (pu' rfl (dn ?_))))
   have K18 := (K12.st p15 rfl)
   exact re rfl Try.func102 rfl (r_t rfl r_nil) rfl ⟨_, rfl, rfl, z.ky K18⟩
noncomputable def laws_szTrackS.b0 (a0 : (List Track)) (x3 : Int × Int) : Option ((Int × Int) ⊕ Int) :=
 (if (decide (x3.2 < (a0.length : Int))) = true then (if 0 ≤ x3.2 ∧ x3.2 < (a0.length : Int) then ((laws_szTrack.f (at_ a0 x3.2) x3.1).bind fun r11 => (if (decide (r11 < (0 : Int))) = true then (some (Sum.inr (-1 : Int))) else (some (Sum.inl (r11, (IntKind.wrap .i64 (x3.2 + (1 : Int)))))))) else none) else ((some x3.1).bind fun o => some (Sum.inr o)))
noncomputable def laws_szTrackS.f (a0 : (List Track)) (a1 : Int) : Option (Int) :=
 (if (decide ((IntKind.wrap .i64 (a1 - (a0.length : Int))) < (0 : Int))) = true then (some (-1 : Int)) else (iter (laws_szTrackS.b0 a0) ((IntKind.wrap .i64 (a1 - (a0.length : Int))), (0 : Int))))
def laws_szTrackS.Q (w : World) (F : Nat → Prop) (r : Int) (v : Value) (w' : World) : Prop :=
 v = (.int .i64 r) ∧ Ky [] w w'
set_option maxHeartbeats 4000000 in
set_option maxRecDepth 100000 in
theorem laws_szTrackS.calls (a0 : (List Track)) (a1 : Int) (w : World) (F : Nat → Prop) (w0_0 : Value) (h0_0 : (Kd.sl 149 kd149).rd w [w0_0] a0 F) (r : Int) (m : laws_szTrackS.f a0 a1 = some r) :
  Calls Try.prog 35 #[w0_0, (.int .i64 a1)] w (RT (laws_szTrackS.Q w F) r) := by
 obtain ⟨s0, rfl, kp0, z⟩ := start0 w F
 have A0_0 := z.rd h0_0
 refine calls_of_TM (args := [w0_0, (.int .i64 a1)]) Try.func35 Try.ntmps35 rfl rfl m ?_
 unfold laws_szTrackS.f
 refine sr (pu' rfl (dn (sr (pu' rfl (mv' w0_0 rfl (ln' A0_0 Try.underlying69 rfl (pu' rfl (pu' rfl (dn (sq (sr (pu' rfl (pu' rfl (dn ?_))))))))))))))
 refine cd rfl (fun h2 => ?_) (fun h2 => ?_)
 ·
  exact sr (pu' rfl (dn (re rfl Try.func35 rfl (r_t rfl r_nil) rfl ⟨_, rfl, rfl, z.ky kp0⟩)))
 ·
  refine sk (sq (sr (pu' rfl (dn (bl (lpI (fun (x3 : Int × Int) (e : Env) (w : World) => ∃ (s : St) (e0 : Env), w = s.w ∧ e = upd (upd (upd e0 0 w0_0) 1 (.int .i64 x3.1)) 5 (.int .i64 x3.2) ∧ Kp s0 s) ⟨s0, _, rfl, (ue (ue (ue rfl rfl) rfl) rfl), kp0⟩ (fun g3 ih3 => ?_)))))))
  rintro x3 _ _ ⟨s4, _, rfl, rfl, Kx3⟩
  unfold laws_szTrackS.b0
  refine sq (sr (pu' rfl (mv' w0_0 rfl ?_)))
  have A5 := (A0_0.kp Kx3)
  refine ln' A5 Try.underlying69 rfl (pu' rfl (dn (cd rfl (fun h6 => ?_) (fun h6 => ?_))))
  ·
   refine sk (sq (bl (sr (mv' w0_0 rfl (pu' rfl (ix' A5 Try.underlying69 z149 rfl (fun ad7 es7 h0_7 h1_7 he7 ce7 ia7 => ?_)))))))
   obtain ⟨v7_0, v7_1, rfl, A7_0, A7_1⟩ := op149 he7
   refine lca' ce7 Try.underlying149 z149 rfl (pu' rfl (cl' rfl Try.func102 rfl (fun r11 m11 => laws_szTrack.calls (at_ a0 x3.2) x3.1 s4.w (fun b => memb [0] (s4.g b) = true) v7_0 v7_1 A7_0 A7_1 r11 m11) ?_))
   rintro r11 _ w11 m11 ⟨rfl, ky11⟩
   obtain ⟨s12, rfl, p12, n12⟩ := nwx s4 w11 40 ky11
   refine pu' rfl (dn (sr (pu' rfl (pu' rfl (dn (cd rfl (fun h13 => ?_) (fun h13 => ?_)))))))
   ·
    refine sr (pu' rfl (dn (sgi ?_)))
    have K14 := (Kx3.st p12 rfl)
    exact re rfl Try.func35 rfl (r_t rfl r_nil) rfl ⟨_, rfl, rfl, z.ky K14⟩
   ·
    refine sk (ib (rg (pu' rfl (pu' rfl (pu' rfl (dn ?_))))))
    have K15 := (Kx3.st p12 rfl)
    exact lb ih3 ⟨s12, _, rfl, (ue (ue (ue rfl rfl) rfl) rfl), K15⟩
  ·
   exact xt rfl (sgb (sr (pu' rfl (pu' rfl (dn (re rfl Try.func35 rfl (r_t rfl r_nil) rfl ⟨_, rfl, rfl, z.ky Kx3⟩))))))
noncomputable def laws_toTrack.f (a0 : Track) : Option (Track) :=
 ((laws_toSpanS.f a0.Reads).bind fun r24 => ((laws_toItemS.f a0.Writes).bind fun r33 => (some (Track.mk a0.Xid a0.Begun a0.Ended a0.All r24 r33 a0.In a0.Out))))
def laws_toTrack.Q (w : World) (F : Nat → Prop) (r : Track) (v : Value) (w' : World) : Prop :=
 ∃ (v0 : Value) (v1 : Value), v = (.agg #[(.int .i64 r.Xid), (.int .i64 r.Begun), (.int .i64 r.Ended), (.bool r.All), v0, v1, (.bool r.In), (.bool r.Out)]) ∧ FO kd59 w w' [(.int .i64 r.Xid), (.int .i64 r.Begun), (.int .i64 r.Ended), (.bool r.All), v0, v1, (.bool r.In), (.bool r.Out)] r ∧ Ky [] w w'
set_option maxHeartbeats 4000000 in
set_option maxRecDepth 100000 in
theorem laws_toTrack.calls (a0 : Track) (w : World) (F : Nat → Prop) (w0_0 : Value) (w0_1 : Value) (h0_0 : (Kd.sl 76 kd76).rd w [w0_0] a0.Reads F) (h0_1 : (Kd.sl 39 kd39).rd w [w0_1] a0.Writes F) (r : Track) (m : laws_toTrack.f a0 = some r) :
  Calls Try.prog 103 #[(.agg #[(.int .i64 a0.Xid), (.int .i64 a0.Begun), (.int .i64 a0.Ended), (.bool a0.All), w0_0, w0_1, (.bool a0.In), (.bool a0.Out)])] w (RT (laws_toTrack.Q w F) r) := by
 obtain ⟨s0, rfl, kp0, z⟩ := start0 w F
 have A0_0 := z.rd h0_0
 have A0_1 := z.rd h0_1
 refine calls_of_TM (args := [(.agg #[(.int .i64 a0.Xid), (.int .i64 a0.Begun), (.int .i64 a0.Ended), (.bool a0.All), w0_0, w0_1, (.bool a0.In), (.bool a0.Out)])]) Try.func103 Try.ntmps103 rfl rfl m ?_
 unfold laws_toTrack.f
 refine sr (bx' (cs := [(.int .i64 a0.Xid), (.int .i64 a0.Begun), (.int .i64 a0.Ended), (.bool a0.All), w0_0, w0_1, (.bool a0.In), (.bool a0.Out)]) 40 rfl rfl (fun b3 s3 p3 B3 => ?_))
 refine al (cs := [(.int .i64 (0 : Int)), (.int .i64 (0 : Int)), (.int .i64 (0 : Int)), (.bool false), (.slice none 0 0), (.slice none 0 0), (.bool false), (.bool false)]) 41 rfl rfl rfl rfl rfl o59 rfl (fun b5 s5 p5 B5 => ?_)
 refine dn (sr (al (cs := [(.int .i64 (0 : Int)), (.int .i64 (0 : Int)), (.int .i64 (0 : Int)), (.bool false), (.slice none 0 0), (.slice none 0 0), (.bool false), (.bool false)]) 42 rfl rfl rfl rfl rfl o59 rfl (fun b7 s7 p7 B7 => ?_)))
 refine dn (sr (fa' fa149_0 rfl ?_))
 have A9 := (BlF.st B3 (tr2 p5 p7) rfl)
 refine ld' A9 Try.underlying3 rfl (fa' fa59_0 rfl (sv B7 z3 rfl rfl rfl rfl rfl rfl rfl rfl (fun s10 p10 B10 => ?_)))
 refine dn (sr (fa' fa149_1 rfl ?_))
 have A12 := (BlF.st A9 p10 rfl)
 refine ld' A12 Try.underlying3 rfl (fa' fa59_1 rfl (sv B10 z3 rfl rfl rfl rfl rfl rfl rfl rfl (fun s13 p13 B13 => ?_)))
 refine dn (sr (fa' fa149_2 rfl ?_))
 have A15 := (BlF.st A12 p13 rfl)
 refine ld' A15 Try.underlying3 rfl (fa' fa59_2 rfl (sv B13 z3 rfl rfl rfl rfl rfl rfl rfl rfl (fun s16 p16 B16 => ?_)))
 refine dn (sr (fa' fa149_3 rfl ?_))
 have A18 := (BlF.st A15 p16 rfl)
 refine ld' A18 Try.underlying4 rfl (fa' fa59_3 rfl (sv B16 z4 rfl rfl rfl rfl rfl rfl rfl rfl (fun s19 p19 B19 => ?_)))
 refine dn (sr (fa' fa149_4 rfl ?_))
 have A21 := (BlF.st A18 p19 rfl)
 refine ld' A21 Try.underlying86 rfl ?_
 have K22 := (kp0.st (tr7 p3 p5 p7 p10 p13 p16 p19) rfl)
 have A23 := (A0_0.kp K22)
 refine cl' rfl Try.func122 rfl (fun r24 m24 => laws_toSpanS.calls a0.Reads s19.w (fun b => memb [0] (s19.g b) = true) w0_0 A23 r24 m24) ?_
 rintro r24 v24_0 w24 m24 ⟨f24_0, ky24⟩
 obtain ⟨s25, rfl, p25, n25⟩ := nwx s19 w24 43 ky24
 have A24_0 := f24_0.c n25
 refine fa' fa59_4 rfl ?_
 have A27 := (BlF.st B19 p25 rfl)
 refine sv A27 z56 rfl rfl rfl rfl rfl rfl A24_0.rd.one rfl (fun s28 p28 B28 => ?_)
 refine dn (sr (fa' fa149_5 rfl ?_))
 have A30 := (BlF.st A21 (tr2 p25 p28) rfl)
 refine ld' A30 Try.underlying87 rfl ?_
 have K31 := (K22.st (tr2 p25 p28) rfl)
 have A32 := (A0_1.kp K31)
 refine cl' rfl Try.func123 rfl (fun r33 m33 => laws_toItemS.calls a0.Writes s28.w (fun b => memb [0] (s28.g b) = true) w0_1 A32 r33 m33) ?_
 rintro r33 v33_0 w33 m33 ⟨f33_0, ky33⟩
 obtain ⟨s34, rfl, p34, n34⟩ := nwx s28 w33 44 ky33
 have A33_0 := f33_0.c n34
 refine fa' fa59_5 rfl ?_
 have A36 := (BlF.st B28 p34 rfl)
 refine sv A36 z57 rfl rfl rfl rfl rfl rfl A33_0.rd.one rfl (fun s37 p37 B37 => ?_)
 refine dn (sr (fa' fa149_6 rfl ?_))
 have A39 := (BlF.st A30 (tr2 p34 p37) rfl)
 refine ld' A39 Try.underlying4 rfl (fa' fa59_6 rfl (sv B37 z4 rfl rfl rfl rfl rfl rfl rfl rfl (fun s40 p40 B40 => ?_)))
 refine dn (sr (fa' fa149_7 rfl ?_))
 have A42 := (BlF.st A39 p40 rfl)
 refine ld' A42 Try.underlying4 rfl (fa' fa59_7 rfl (sv B40 z4 rfl rfl rfl rfl rfl rfl rfl rfl (fun s43 p43 B43 => ?_)))
 refine dn (sr (lda' (es := [(.int .i64 a0.Xid), (.int .i64 a0.Begun), (.int .i64 a0.Ended), (.bool a0.All), v24_0, v33_0, (.bool a0.In), (.bool a0.Out)]) B43 Try.underlying59 z59 rfl ?_))
 have A45 := (BlF.st B5 (tr11 p7 p10 p13 p16 p19 p25 p28 p34 p37 p40 p43) rfl)
 have A46 := (A33_0.st (tr3 p37 p40 p43) rfl)
 have A47 := (A24_0.st (tr5 p28 p34 p37 p40 p43) rfl)
 refine sva (vs := [(.int .i64 a0.Xid), (.int .i64 a0.Begun), (.int .i64 a0.Ended), (.bool a0.All), v24_0, v33_0, (.bool a0.In), (.bool a0.Out)]) A45 z59 rfl rfl rfl rfl rfl rfl (on_cons rfl (on_cons rfl (on_cons rfl (on_cons rfl (on_cons A47.rd.one (on_cons A46.rd.one (on_cons rfl (on_cons rfl on_nil)))))))) rfl (fun s48 p48 B48 => ?_)
 refine dn ?_
 have A50 := (A47.st p48 rfl)
 have A51 := (A46.st p48 rfl)
 obtain ⟨s52, hw52, p52, A52⟩ := ow_2 A50 (ow_r A51 (fz_pair (fz_bool a0.In) (fz_bool a0.Out))) rfl rfl
 rw [hw52]
 have A54 : OwF kd59 s52 [(.int .i64 a0.Xid), (.int .i64 a0.Begun), (.int .i64 a0.Ended), (.bool a0.All), v24_0, v33_0, (.bool a0.In), (.bool a0.Out)] (Track.mk a0.Xid a0.Begun a0.Ended a0.All r24 r33 a0.In a0.Out) 43 := (ow_isoz (fun x : Track => (x.Xid, x.Begun, x.Ended, x.All, x.Reads, x.Writes, x.In, x.Out)) (Track.mk a0.Xid a0.Begun a0.Ended a0.All r24 r33 a0.In a0.Out) (ow_l (fz_int .i64 a0.Xid) (ow_l (fz_int .i64 a0.Begun) (ow_l (fz_int .i64 a0.Ended) (ow_l (fz_bool a0.All) A52)))))
 have A56 := (BlF.st B48 p52 rfl)
 have K57 := (K31.st (tr6 p34 p37 p40 p43 p48 p52) rfl)
 exact re rfl Try.func103 rfl (r_b A56 Try.underlying59 rfl z59 rfl r_nil) rfl ⟨_, rfl, v24_0, v33_0, rfl, A54.fo K57 rfl z.l, z.ky K57⟩
noncomputable def laws_toTrackS.b0 (a0 : (List Track)) (x4 : (List Track) × Int) : Option (((List Track) × Int) ⊕ (List Track)) :=
 (if (decide (x4.2 < (a0.length : Int))) = true then (if 0 ≤ x4.2 ∧ x4.2 < (a0.length : Int) then ((laws_toTrack.f (at_ a0 x4.2)).bind fun r14 => (if 0 ≤ x4.2 ∧ x4.2 < (x4.1.length : Int) then (some (Sum.inl ((x4.1.set (x4.2).toNat r14), (IntKind.wrap .i64 (x4.2 + (1 : Int)))))) else none)) else none) else ((some x4.1).bind fun o => some (Sum.inr o)))
noncomputable def laws_toTrackS.f (a0 : (List Track)) : Option ((List Track)) :=
 (if 0 ≤ (a0.length : Int) ∧ (a0.length : Int) ≤ (Lim : Int) then (iter (laws_toTrackS.b0 a0) ((List.replicate ((a0.length : Int)).toNat (Track.mk (0 : Int) (0 : Int) (0 : Int) false ([] : (List Span)) ([] : (List Item)) false false)), (0 : Int))) else none)
def laws_toTrackS.Q (w : World) (F : Nat → Prop) (r : (List Track)) (v : Value) (w' : World) : Prop :=
 FO (Kd.sl 59 kd59) w w' [v] r ∧ Ky [] w w'
set_option maxHeartbeats 4000000 in
set_option maxRecDepth 100000 in
theorem laws_toTrackS.calls (a0 : (List Track)) (w : World) (F : Nat → Prop) (w0_0 : Value) (h0_0 : (Kd.sl 149 kd149).rd w [w0_0] a0 F) (r : (List Track)) (m : laws_toTrackS.f a0 = some r) :
  Calls Try.prog 36 #[w0_0] w (RT (laws_toTrackS.Q w F) r) := by
 obtain ⟨s0, rfl, kp0, z⟩ := start0 w F
 have A0_0 := z.rd h0_0
 refine calls_of_TM (args := [w0_0]) Try.func36 Try.ntmps36 rfl rfl m ?_
 unfold laws_toTrackS.f
 refine sr (pu' rfl (dn (sr (mv' w0_0 rfl (ln' A0_0 Try.underlying69 rfl (mk (x0 := (Track.mk (0 : Int) (0 : Int) (0 : Int) false ([] : (List Span)) ([] : (List Item)) false false)) (K := kd59) 40 sl62 o59 (fun _ => ⟨_, _, [], [], rfl, rfl, ⟨rfl, rfl⟩, ⟨_, _, [], [], rfl, rfl, ⟨rfl, rfl⟩, ⟨_, _, [], [], rfl, rfl, ⟨rfl, rfl⟩, ⟨_, _, [], [], rfl, rfl, ⟨rfl, rfl⟩, ⟨_, _, [], [], rfl, rfl, ⟨_, rfl, [], [], [], rfl, ⟨by simp, .inl ⟨rfl, rfl, rfl⟩⟩, ⟨rfl, rfl⟩⟩, ⟨_, _, [], [], rfl, rfl, ⟨_, rfl, [], [], [], rfl, ⟨by simp, .inl ⟨rfl, rfl, rfl⟩⟩, ⟨rfl, rfl⟩⟩, ⟨_, _, [], [], rfl, rfl, ⟨rfl, rfl⟩, ⟨rfl, rfl⟩⟩⟩⟩⟩⟩⟩⟩) rfl rfl rfl rfl rfl rfl rfl (fun v2 s2 p2 A2 => ?_)))))))
 refine asg' v2 rfl (dn (sq (sr (pu' rfl (dn (bl ?_))))))
 have K5 := (kp0.st p2 rfl)
 refine lpI (fun (x4 : (List Track) × Int) (e : Env) (w : World) => ∃ (s : St) (e0 : Env), w = s.w ∧ e = upd (upd (upd e0 0 w0_0) 3 v2) 4 (.int .i64 x4.2) ∧ Kp s0 s ∧ OwF (Kd.sl 59 kd59) s [v2] x4.1 40) ⟨s2, _, rfl, (ue (ue (ue rfl rfl) rfl) rfl), K5, A2⟩ (fun g4 ih4 => ?_)
 rintro x4 _ _ ⟨s6, _, rfl, rfl, Kx4, Ax4_0⟩
 unfold laws_toTrackS.b0
 refine sq (sr (pu' rfl (mv' w0_0 rfl ?_)))
 have A8 := (A0_0.kp Kx4)
 refine ln' A8 Try.underlying69 rfl (pu' rfl (dn (cd rfl (fun h9 => ?_) (fun h9 => ?_))))
 ·
  refine sk (sq (bl (rg (mv' v2 rfl (pu' rfl (mv' w0_0 rfl (pu' rfl (ix' A8 Try.underlying69 z149 rfl (fun ad10 es10 h0_10 h1_10 he10 ce10 ia10 => ?_)))))))))
  obtain ⟨v10_0, v10_1, rfl, A10_0, A10_1⟩ := op149 he10
  refine lca' ce10 Try.underlying149 z149 rfl (cl' rfl Try.func103 rfl (fun r14 m14 => laws_toTrack.calls (at_ a0 x4.2) s6.w (fun b => memb [0] (s6.g b) = true) v10_0 v10_1 A10_0 A10_1 r14 m14) ?_)
  rintro r14 _ w14 m14 ⟨v14_0, v14_1, rfl, f14_0, ky14⟩
  obtain ⟨s15, rfl, p15, n15⟩ := nwx s6 w14 41 ky14
  have A14_0 := f14_0.c n15
  obtain ⟨os14_0, ho14_0, hn14_0, hc14_0⟩ := A14_0
  obtain ⟨u14_0_0, u14_0_1, qu14_0_0, qu14_0_1, e14_0, eo14_0, hu14_0_0, hu14_0_1⟩ := po59 ho14_0
  have yu14_0_0 : v14_0 = u14_0_0 := congrArg (fun l => (List.drop 4 l).headD undef) e14_0
  have yu14_0_1 : v14_1 = u14_0_1 := congrArg (fun l => (List.drop 5 l).headD undef) e14_0
  subst yu14_0_0
  subst yu14_0_1
  subst eo14_0
  obtain ⟨s16, hw16, p16, Au14_0_0, hn16, hc16⟩ := sp2 42 hu14_0_0 hn14_0 hc14_0 rfl
  rw [hw16]
  have Au14_0_1 : OwF (Kd.sl 48 kd48) s16 [v14_1] r14.Writes 42 := sp1 (hw16 ▸ hu14_0_1) hn16 hc16
  have A19 := (Ax4_0.st (tr2 p15 p16) rfl)
  refine ix' A19.rd Try.underlying62 z59 rfl (fun ad20 es20 h0_20 h1_20 he20 ce20 ia20 => ?_)
  obtain ⟨v20_0, v20_1, rfl, A20_0, A20_1⟩ := op59 he20
  obtain ⟨s24, hw24, p24, A24⟩ := ow_2 Au14_0_0 (ow_r Au14_0_1 (fz_pair (fz_bool r14.In) (fz_bool r14.Out))) rfl rfl
  rw [hw24]
  have A26 : OwF kd59 s24 [(.int .i64 r14.Xid), (.int .i64 r14.Begun), (.int .i64 r14.Ended), (.bool r14.All), v14_0, v14_1, (.bool r14.In), (.bool r14.Out)] r14 41 := (ow_isoz (fun x : Track => (x.Xid, x.Begun, x.Ended, x.All, x.Reads, x.Writes, x.In, x.Out)) r14 (ow_l (fz_int .i64 r14.Xid) (ow_l (fz_int .i64 r14.Begun) (ow_l (fz_int .i64 r14.Ended) (ow_l (fz_bool r14.All) A24)))))
  have A28 := (A19.st p24 rfl)
  refine som (x' := r14) A28 ia20 h0_20 h1_20 A26 rfl rfl z59 rfl rfl rfl rfl rfl rfl (fun s29 p29 A29 => ?_)
  refine dn (ib (rg (pu' rfl (pu' rfl (pu' rfl (dn ?_))))))
  have K31 := (Kx4.st (tr4 p15 p16 p24 p29) rfl)
  exact lb ih4 ⟨s29, _, rfl, (ue (ue (ue rfl rfl) rfl) rfl), K31, A29⟩
 ·
  exact xt rfl (sgb (sr (mv' v2 rfl (asg' v2 rfl (dn (re rfl Try.func36 rfl (r_t rfl r_nil) rfl ⟨_, rfl, Ax4_0.fo Kx4 rfl z.l, z.ky Kx4⟩))))))
noncomputable def laws_eqTrack.f (a0 : Track) (a1 : Track) : Option (Bool) :=
 (if (a0.Xid != a1.Xid) = true then (some false) else (if (a0.Begun != a1.Begun) = true then (some false) else (if (a0.Ended != a1.Ended) = true then (some false) else (if (!(a0.All == a1.All)) = true then (some false) else ((laws_eqSpanS.f a0.Reads a1.Reads).bind fun r21 => (if (!r21) = true then (some false) else ((laws_eqItemS.f a0.Writes a1.Writes).bind fun r30 => (if (!r30) = true then (some false) else (if (!(a0.In == a1.In)) = true then (some false) else (if (!(a0.Out == a1.Out)) = true then (some false) else (some true)))))))))))
def laws_eqTrack.Q (w : World) (F : Nat → Prop) (r : Bool) (v : Value) (w' : World) : Prop :=
 v = (.bool r) ∧ Ky [] w w'
set_option maxHeartbeats 4000000 in
set_option maxRecDepth 100000 in
theorem laws_eqTrack.calls (a0 : Track) (a1 : Track) (w : World) (F : Nat → Prop) (w0_0 : Value) (w0_1 : Value) (w1_0 : Value) (w1_1 : Value) (h0_0 : (Kd.sl 80 kd80).rd w [w0_0] a0.Reads F) (h0_1 : (Kd.sl 48 kd48).rd w [w0_1] a0.Writes F) (h1_0 : (Kd.sl 80 kd80).rd w [w1_0] a1.Reads F) (h1_1 : (Kd.sl 48 kd48).rd w [w1_1] a1.Writes F) (r : Bool) (m : laws_eqTrack.f a0 a1 = some r) :
  Calls Try.prog 104 #[(.agg #[(.int .i64 a0.Xid), (.int .i64 a0.Begun), (.int .i64 a0.Ended), (.bool a0.All), w0_0, w0_1, (.bool a0.In), (.bool a0.Out)]), (.agg #[(.int .i64 a1.Xid), (.int .i64 a1.Begun), (.int .i64 a1.Ended), (.bool a1.All), w1_0, w1_1, (.bool a1.In), (.bool a1.Out)])] w (RT (laws_eqTrack.Q w F) r) := by
 obtain ⟨s0, rfl, kp0, z⟩ := start0 w F
 have A0_0 := z.rd h0_0
 have A0_1 := z.rd h0_1
 have A1_0 := z.rd h1_0
 have A1_1 := z.rd h1_1
 refine calls_of_TM (args := [(.agg #[(.int .i64 a0.Xid), (.int .i64 a0.Begun), (.int .i64 a0.Ended), (.bool a0.All), w0_0, w0_1, (.bool a0.In), (.bool a0.Out)]), (.agg #[(.int .i64 a1.Xid), (.int .i64 a1.Begun), (.int .i64 a1.Ended), (.bool a1.All), w1_0, w1_1, (.bool a1.In), (.bool a1.Out)])]) Try.func104 Try.ntmps104 rfl rfl m ?_
 unfold laws_eqTrack.f
 refine sr (bx' (cs := [(.int .i64 a0.Xid), (.int .i64 a0.Begun), (.int .i64 a0.Ended), (.bool a0.All), w0_0, w0_1, (.bool a0.In), (.bool a0.Out)]) 40 rfl rfl (fun b5 s5 p5 B5 => ?_))
 refine bx' (cs := [(.int .i64 a1.Xid), (.int .i64 a1.Begun), (.int .i64 a1.Ended), (.bool a1.All), w1_0, w1_1, (.bool a1.In), (.bool a1.Out)]) 41 rfl rfl (fun b7 s7 p7 B7 => ?_)
 refine pu' rfl (dn (sq (sr (fa' fa59_0 rfl ?_))))
 have A9 := (BlF.st B5 p7 rfl)
 refine ld' A9 Try.underlying3 rfl (fa' fa59_0 rfl (ld' B7 Try.underlying3 rfl (pu' rfl (dn (cd rfl (fun h10 => ?_) (fun h10 => ?_))))))
 ·
  refine sr (pu' rfl (dn ?_))
  have K11 := (kp0.st (tr2 p5 p7) rfl)
  exact re rfl Try.func104 rfl (r_t rfl r_nil) rfl ⟨_, rfl, rfl, z.ky K11⟩
 ·
  refine sk (sq (sr (fa' fa59_1 rfl (ld' A9 Try.underlying3 rfl (fa' fa59_1 rfl (ld' B7 Try.underlying3 rfl (pu' rfl (dn (cd rfl (fun h12 => ?_) (fun h12 => ?_))))))))))
  ·
   refine sr (pu' rfl (dn ?_))
   have K13 := (kp0.st (tr2 p5 p7) rfl)
   exact re rfl Try.func104 rfl (r_t rfl r_nil) rfl ⟨_, rfl, rfl, z.ky K13⟩
  ·
   refine sk (sq (sr (fa' fa59_2 rfl (ld' A9 Try.underlying3 rfl (fa' fa59_2 rfl (ld' B7 Try.underlying3 rfl (pu' rfl (dn (cd rfl (fun h14 => ?_) (fun h14 => ?_))))))))))
   ·
    refine sr (pu' rfl (dn ?_))
    have K15 := (kp0.st (tr2 p5 p7) rfl)
    exact re rfl Try.func104 rfl (r_t rfl r_nil) rfl ⟨_, rfl, rfl, z.ky K15⟩
   ·
    refine sk (sq (sr (fa' fa59_3 rfl (ld' A9 Try.underlying4 rfl (fa' fa59_3 rfl (ld' B7 Try.underlying4 rfl (bne_ Try.underlying4 rfl rfl rfl rfl rfl rfl rfl (dn (cd rfl (fun h16 => ?_) (fun h16 => ?_))))))))))
    ·
     refine sr (pu' rfl (dn ?_))
     have K17 := (kp0.st (tr2 p5 p7) rfl)
     exact re rfl Try.func104 rfl (r_t rfl r_nil) rfl ⟨_, rfl, rfl, z.ky K17⟩
    ·
     refine sk (sq (sr (fa' fa59_4 rfl (ld' A9 Try.underlying56 rfl (fa' fa59_4 rfl (ld' B7 Try.underlying56 rfl ?_))))))
     have K18 := (kp0.st (tr2 p5 p7) rfl)
     have A19 := (A0_0.kp K18)
     have A20 := (A1_0.kp K18)
     refine cl' rfl Try.func131 rfl (fun r21 m21 => laws_eqSpanS.calls a0.Reads a1.Reads s7.w (fun b => memb [0] (s7.g b) = true) w0_0 w1_0 A19 A20 r21 m21) ?_
     rintro r21 _ w21 m21 ⟨rfl, ky21⟩
     obtain ⟨s22, rfl, p22, n22⟩ := nwx s7 w21 42 ky21
     refine pu' rfl (dn (cd rfl (fun h23 => ?_) (fun h23 => ?_)))
     ·
      refine sr (pu' rfl (dn ?_))
      have K24 := (K18.st p22 rfl)
      exact re rfl Try.func104 rfl (r_t rfl r_nil) rfl ⟨_, rfl, rfl, z.ky K24⟩
     ·
      refine sk (sq (sr (fa' fa59_5 rfl ?_)))
      have A25 := (BlF.st A9 p22 rfl)
      refine ld' A25 Try.underlying57 rfl (fa' fa59_5 rfl ?_)
      have A26 := (BlF.st B7 p22 rfl)
      refine ld' A26 Try.underlying57 rfl ?_
      have K27 := (K18.st p22 rfl)
      have A28 := (A0_1.kp K27)
      have A29 := (A1_1.kp K27)
      refine cl' rfl Try.func132 rfl (fun r30 m30 => laws_eqItemS.calls a0.Writes a1.Writes s22.w (fun b => memb [0] (s22.g b) = true) w0_1 w1_1 A28 A29 r30 m30) ?_
      rintro r30 _ w30 m30 ⟨rfl, ky30⟩
      obtain ⟨s31, rfl, p31, n31⟩ := nwx s22 w30 43 ky30
      refine pu' rfl (dn (cd rfl (fun h32 => ?_) (fun h32 => ?_)))
      ·
       refine sr (pu' rfl (dn ?_))
       have K33 := (K27.st p31 rfl)
       exact re rfl Try.func104 rfl (r_t rfl r_nil) rfl ⟨_, rfl, rfl, z.ky K33⟩
      ·
       refine sk (sq (sr (fa' fa59_6 rfl ?_)))
       have A34 := (BlF.st A25 p31 rfl)
       refine ld' A34 Try.underlying4 rfl (fa' fa59_6 rfl ?_)
       have A35 := (BlF.st A26 p31 rfl)
       refine ld' A35 Try.underlying4 rfl (bne_ Try.underlying4 rfl rfl rfl rfl rfl rfl rfl (dn (cd rfl (fun h36 => ?_) (fun h36 => ?_))))
       ·
        refine sr (pu' rfl (dn ?_))
        have K37 := (K27.st p31 rfl)
        exact re rfl Try.func104 rfl (r_t rfl r_nil) rfl ⟨_, rfl, rfl, z.ky K37⟩
       ·
        refine sk (sq (sr (fa' fa59_7 rfl (ld' A34 Try.underlying4 rfl (fa' fa59_7 rfl (ld' A35 Try.underlying4 rfl (bne_ Try.underlying4 rfl rfl rfl rfl rfl rfl rfl (dn (cd rfl (fun h38 => ?_) (fun h38 => ?_))))))))))
        ·
         refine sr (pu' rfl (dn ?_))
         have K39 := (K27.st p31 rfl)
         exact re rfl Try.func104 rfl (r_t rfl r_nil) rfl ⟨_, rfl, rfl, z.ky K39⟩
        ·
         refine sk (sr (pu' rfl (dn ?_)))
         have K40 := (K27.st p31 rfl)
         exact re rfl Try.func104 rfl (r_t rfl r_nil) rfl ⟨_, rfl, rfl, z.ky K40⟩
noncomputable def laws_eqTrackS.b0 (a0 : (List Track)) (a1 : (List Track)) (x4 : Int) : Option (Int ⊕ Bool) :=
 (if (decide (x4 < (a0.length : Int))) = true then (if 0 ≤ x4 ∧ x4 < (a0.length : Int) then (if 0 ≤ x4 ∧ x4 < (a1.length : Int) then ((laws_eqTrack.f (at_ a0 x4) (at_ a1 x4)).bind fun r28 => (if (!r28) = true then (some (Sum.inr false)) else (some (Sum.inl (IntKind.wrap .i64 (x4 + (1 : Int))))))) else none) else none) else ((some true).bind fun o => some (Sum.inr o)))
noncomputable def laws_eqTrackS.f (a0 : (List Track)) (a1 : (List Track)) : Option (Bool) :=
 (if ((a0.length : Int) != (a1.length : Int)) = true then (some false) else (iter (laws_eqTrackS.b0 a0 a1) (0 : Int)))
def laws_eqTrackS.Q (w : World) (F : Nat → Prop) (r : Bool) (v : Value) (w' : World) : Prop :=
 v = (.bool r) ∧ Ky [] w w'
set_option maxHeartbeats 4000000 in
set_option maxRecDepth 100000 in
theorem laws_eqTrackS.calls (a0 : (List Track)) (a1 : (List Track)) (w : World) (F : Nat → Prop) (w0_0 : Value) (w1_0 : Value) (h0_0 : (Kd.sl 59 kd59).rd w [w0_0] a0 F) (h1_0 : (Kd.sl 59 kd59).rd w [w1_0] a1 F) (r : Bool) (m : laws_eqTrackS.f a0 a1 = some r) :
  Calls Try.prog 37 #[w0_0, w1_0] w (RT (laws_eqTrackS.Q w F) r) := by
 obtain ⟨s0, rfl, kp0, z⟩ := start0 w F
 have A0_0 := z.rd h0_0
 have A1_0 := z.rd h1_0
 refine calls_of_TM (args := [w0_0, w1_0]) Try.func37 Try.ntmps37 rfl rfl m ?_
 unfold laws_eqTrackS.f
 refine sr (pu' rfl (dn (sq (sr (mv' w0_0 rfl (ln' A0_0 Try.underlying62 rfl (mv' w1_0 rfl (ln' A1_0 Try.underlying62 rfl (pu' rfl (dn (cd rfl (fun h3 => ?_) (fun h3 => ?_))))))))))))
 ·
  exact sr (pu' rfl (dn (re rfl Try.func37 rfl (r_t rfl r_nil) rfl ⟨_, rfl, rfl, z.ky kp0⟩)))
 ·
  refine sk (sq (sr (pu' rfl (dn (bl (lpI (fun (x4 : Int) (e : Env) (w : World) => ∃ (s : St) (e0 : Env), w = s.w ∧ e = upd (upd (upd e0 0 w0_0) 1 w1_0) 5 (.int .i64 x4) ∧ Kp s0 s) ⟨s0, _, rfl, (ue (ue (ue rfl rfl) rfl) rfl), kp0⟩ (fun g4 ih4 => ?_)))))))
  rintro x4 _ _ ⟨s5, _, rfl, rfl, Kx4⟩
  unfold laws_eqTrackS.b0
  refine sq (sr (pu' rfl (mv' w0_0 rfl ?_)))
  have A6 := (A0_0.kp Kx4)
  refine ln' A6 Try.underlying62 rfl (pu' rfl (dn (cd rfl (fun h7 => ?_) (fun h7 => ?_))))
  ·
   refine sk (sq (bl (sq (zdraw [[], [], [0, 1], [2], [], [], [4, 5], [6], [3, 7], [8]] [some 17, some 18, some 19, some 20, some 21, some 22, some 23, some 24, some 25, some 26] [[0], [5], [17, 18], [19], [1], [5], [21, 22], [23], [20, 24], [25]] [0, 1, 2, 3, 4, 5, 6, 7, 8, 9] ⟨by kernel_rfl, by kernel_rfl, by kernel_rfl⟩ (by kernel_rfl) (fun s8 p8 l8 tb8 zd8 => ?_)))))
   have zd9 := zd8.add 0 17 w0_0 rfl
   have zd10 := zd9.add 1 18 (.int .i64 x4) rfl
   have K11 := (Kx4.st p8 rfl)
   have A12 := (A0_0.kp K11)
   refine mg fun hg13 => ?_
   obtain ⟨ad13, es13, he13, ce13, ia13⟩ := ix_e A12 rfl hg13.1 hg13.2
   have h0_13 := hg13.1
   have h1_13 := hg13.2
   obtain ⟨v13_0, v13_1, rfl, A13_0, A13_1⟩ := op59 he13
   have zd17 := zd10.add 2 19 (.pointer (some ad13)) rfl
   have zd18 := zd17.add 3 20 (.agg #[(.int .i64 ((at_ a0 x4).Xid)), (.int .i64 ((at_ a0 x4).Begun)), (.int .i64 ((at_ a0 x4).Ended)), (.bool ((at_ a0 x4).All)), v13_0, v13_1, (.bool ((at_ a0 x4).In)), (.bool ((at_ a0 x4).Out))]) rfl
   have zd19 := zd18.add 4 21 w1_0 rfl
   have zd20 := zd19.add 5 22 (.int .i64 x4) rfl
   have A21 := (A1_0.kp K11)
   refine mg fun hg22 => ?_
   obtain ⟨ad22, es22, he22, ce22, ia22⟩ := ix_e A21 rfl hg22.1 hg22.2
   have h0_22 := hg22.1
   have h1_22 := hg22.2
   obtain ⟨v22_0, v22_1, rfl, A22_0, A22_1⟩ := op59 he22
   have zd26 := zd20.add 6 23 (.pointer (some ad22)) rfl
   have zd27 := zd26.add 7 24 (.agg #[(.int .i64 ((at_ a1 x4).Xid)), (.int .i64 ((at_ a1 x4).Begun)), (.int .i64 ((at_ a1 x4).Ended)), (.bool ((at_ a1 x4).All)), v22_0, v22_1, (.bool ((at_ a1 x4).In)), (.bool ((at_ a1 x4).Out))]) rfl
   refine zfin [8, 9] tb8 zd27 (pq_cons (lca_q ce22 Try.underlying59 z59 rfl rfl rfl rfl rfl rfl rfl) rfl (pq_cons (ix_q A21 Try.underlying62 z59 hg22.1 hg22.2 ia22 rfl rfl rfl rfl rfl rfl rfl) rfl (pq_cons (pu_q' rfl) rfl (pq_cons (mv_q' w1_0 rfl) rfl (pq_cons (lca_q ce13 Try.underlying59 z59 rfl rfl rfl rfl rfl rfl rfl) rfl (pq_cons (ix_q A12 Try.underlying62 z59 hg13.1 hg13.2 ia13 rfl rfl rfl rfl rfl rfl rfl) rfl (pq_cons (pu_q' rfl) rfl (pq_cons (mv_q' w0_0 rfl) rfl pq_nil)))))))) (by kernel_rfl) (by decide) (cl' rfl Try.func104 rfl (fun r28 m28 => laws_eqTrack.calls (at_ a0 x4) (at_ a1 x4) s8.w (fun b => memb [0] (s8.g b) = true) v13_0 v13_1 v22_0 v22_1 A13_0 A13_1 A22_0 A22_1 r28 m28) ?_)
   rintro r28 _ w28 m28 ⟨rfl, ky28⟩
   obtain ⟨s29, rfl, p29, n29⟩ := nwx s8 w28 40 ky28
   refine pu' rfl (dn (cd rfl (fun h30 => ?_) (fun h30 => ?_)))
   ·
    refine sr (pu' rfl (dn (sgi ?_)))
    have K31 := (K11.st p29 rfl)
    exact re rfl Try.func37 rfl (r_t rfl r_nil) rfl ⟨_, rfl, rfl, z.ky K31⟩
   ·
    refine sk (ib (rg (pu' rfl (pu' rfl (pu' rfl (dn ?_))))))
    have K32 := (K11.st p29 rfl)
    exact lb ih4 ⟨s29, _, rfl, (ue (ue (ue rfl rfl) rfl) rfl), K32⟩
  ·
   exact xt rfl (sgb (sr (pu' rfl (dn (re rfl Try.func37 rfl (r_t rfl r_nil) rfl ⟨_, rfl, rfl, z.ky Kx4⟩)))))
noncomputable def laws_markTrackS.b0  (x2 : (List Track) × Int × Int) : Option (((List Track) × Int × Int) ⊕ (Int × (List Track))) :=
 (if (decide (x2.2.2 < (x2.1.length : Int))) = true then (if 0 ≤ x2.2.2 ∧ x2.2.2 < (x2.1.length : Int) then ((some (x2.1.set (x2.2.2).toNat (Track.mk x2.2.1 (at_ x2.1 x2.2.2).Begun (at_ x2.1 x2.2.2).Ended (at_ x2.1 x2.2.2).All (at_ x2.1 x2.2.2).Reads (at_ x2.1 x2.2.2).Writes (at_ x2.1 x2.2.2).In (at_ x2.1 x2.2.2).Out))).bind fun y12 => (if 0 ≤ x2.2.2 ∧ x2.2.2 < (y12.length : Int) then ((some (y12.set (x2.2.2).toNat (Track.mk (at_ y12 x2.2.2).Xid (IntKind.wrap .i64 (x2.2.1 + (1 : Int))) (at_ y12 x2.2.2).Ended (at_ y12 x2.2.2).All (at_ y12 x2.2.2).Reads (at_ y12 x2.2.2).Writes (at_ y12 x2.2.2).In (at_ y12 x2.2.2).Out))).bind fun y19 => (if 0 ≤ x2.2.2 ∧ x2.2.2 < (y19.length : Int) then ((some (y19.set (x2.2.2).toNat (Track.mk (at_ y19 x2.2.2).Xid (at_ y19 x2.2.2).Begun (IntKind.wrap .i64 ((IntKind.wrap .i64 (x2.2.1 + (1 : Int))) + (1 : Int))) (at_ y19 x2.2.2).All (at_ y19 x2.2.2).Reads (at_ y19 x2.2.2).Writes (at_ y19 x2.2.2).In (at_ y19 x2.2.2).Out))).bind fun y26 => (if 0 ≤ x2.2.2 ∧ x2.2.2 < (y26.length : Int) then ((some (y26.set (x2.2.2).toNat (Track.mk (at_ y26 x2.2.2).Xid (at_ y26 x2.2.2).Begun (at_ y26 x2.2.2).Ended (((IntKind.wrap .i64 ((IntKind.wrap .i64 ((IntKind.wrap .i64 (x2.2.1 + (1 : Int))) + (1 : Int))) + (1 : Int))).tmod (3 : Int)) == (0 : Int)) (at_ y26 x2.2.2).Reads (at_ y26 x2.2.2).Writes (at_ y26 x2.2.2).In (at_ y26 x2.2.2).Out))).bind fun y33 => (if 0 ≤ x2.2.2 ∧ x2.2.2 < (y33.length : Int) then ((laws_markSpanS.f ((at_ y33 x2.2.2).Reads) (IntKind.wrap .i64 ((IntKind.wrap .i64 ((IntKind.wrap .i64 ((IntKind.wrap .i64 (x2.2.1 + (1 : Int))) + (1 : Int))) + (1 : Int))) + (1 : Int)))).bind fun r38 => ((some (y33.set (x2.2.2).toNat (Track.mk (at_ y33 x2.2.2).Xid (at_ y33 x2.2.2).Begun (at_ y33 x2.2.2).Ended (at_ y33 x2.2.2).All r38.2 (at_ y33 x2.2.2).Writes (at_ y33 x2.2.2).In (at_ y33 x2.2.2).Out))).bind fun y41 => (if 0 ≤ x2.2.2 ∧ x2.2.2 < (y41.length : Int) then ((laws_markItemS.f ((at_ y41 x2.2.2).Writes) r38.1).bind fun r46 => ((some (y41.set (x2.2.2).toNat (Track.mk (at_ y41 x2.2.2).Xid (at_ y41 x2.2.2).Begun (at_ y41 x2.2.2).Ended (at_ y41 x2.2.2).All (at_ y41 x2.2.2).Reads r46.2 (at_ y41 x2.2.2).In (at_ y41 x2.2.2).Out))).bind fun y49 => (if 0 ≤ x2.2.2 ∧ x2.2.2 < (y49.length : Int) then ((some (y49.set (x2.2.2).toNat (Track.mk (at_ y49 x2.2.2).Xid (at_ y49 x2.2.2).Begun (at_ y49 x2.2.2).Ended (at_ y49 x2.2.2).All (at_ y49 x2.2.2).Reads (at_ y49 x2.2.2).Writes ((r46.1.tmod (3 : Int)) == (0 : Int)) (at_ y49 x2.2.2).Out))).bind fun y56 => (if 0 ≤ x2.2.2 ∧ x2.2.2 < (y56.length : Int) then ((some (y56.set (x2.2.2).toNat (Track.mk (at_ y56 x2.2.2).Xid (at_ y56 x2.2.2).Begun (at_ y56 x2.2.2).Ended (at_ y56 x2.2.2).All (at_ y56 x2.2.2).Reads (at_ y56 x2.2.2).Writes (at_ y56 x2.2.2).In (((IntKind.wrap .i64 (r46.1 + (1 : Int))).tmod (3 : Int)) == (0 : Int))))).bind fun y63 => (some (Sum.inl (y63, (IntKind.wrap .i64 ((IntKind.wrap .i64 (r46.1 + (1 : Int))) + (1 : Int))), (IntKind.wrap .i64 (x2.2.2 + (1 : Int))))))) else none)) else none))) else none))) else none)) else none)) else none)) else none)) else none) else ((some (x2.2.1, x2.1)).bind fun o => some (Sum.inr o)))
noncomputable def laws_markTrackS.f (a0 : (List Track)) (a1 : Int) : Option (Int × (List Track)) :=
 (iter laws_markTrackS.b0 (a0, a1, (0 : Int)))
def laws_markTrackS.Q (w : World) (F : Nat → Prop) (os : List Nat) (w0_0 : Value) (r : Int × (List Track)) (v : Value) (w' : World) : Prop :=
 v = (.int .i64 r.1) ∧ FW (Kd.sl 59 kd59) os w w' [w0_0] r.2 ∧ Ky os w w'
set_option maxHeartbeats 4000000 in
set_option maxRecDepth 100000 in
theorem laws_markTrackS.calls (a0 : (List Track)) (a1 : Int) (w : World) (F : Nat → Prop) (w0_0 : Value) (os : List Nat) (h0_0 : (Kd.sl 59 kd59).ow w [w0_0] a0 os) (hn : os.Nodup) (hF : ∀ b, F b → b ∉ os) (r : Int × (List Track)) (m : laws_markTrackS.f a0 a1 = some r) :
  Calls Try.prog 38 #[w0_0, (.int .i64 a1)] w (RT (laws_markTrackS.Q w F os w0_0) r) := by
 obtain ⟨s0, rfl, kp0, z⟩ := start1 w F os hF
 have A0_0 := z.ow h0_0 hn
 refine calls_of_TM (args := [w0_0, (.int .i64 a1)]) Try.func38 Try.ntmps38 rfl rfl m ?_
 unfold laws_markTrackS.f
 refine sr (pu' rfl (dn (sq (sr (pu' rfl (dn (bl (lpI (fun (x2 : (List Track) × Int × Int) (e : Env) (w : World) => ∃ (s : St) (e0 : Env), w = s.w ∧ e = upd (upd (upd e0 0 w0_0) 1 (.int .i64 x2.2.1)) 5 (.int .i64 x2.2.2) ∧ Kp s0 s ∧ OwF (Kd.sl 59 kd59) s [w0_0] x2.1 2) ⟨s0, _, rfl, (ue (ue (ue rfl rfl) rfl) rfl), kp0, A0_0⟩ (fun g2 ih2 => ?_)))))))))
 rintro x2 _ _ ⟨s3, _, rfl, rfl, Kx2, Ax2_0⟩
 unfold laws_markTrackS.b0
 refine sq (sr (pu' rfl (mv' w0_0 rfl (ln' Ax2_0.rd Try.underlying62 rfl (pu' rfl (dn (cd rfl (fun h5 => ?_) (fun h5 => ?_))))))))
 ·
  refine sk (sq (bl (sr (mv' w0_0 rfl (pu' rfl (pu' rfl (ix' Ax2_0.rd Try.underlying62 z59 rfl (fun ad6 es6 h0_6 h1_6 he6 ce6 ia6 => ?_))))))))
  obtain ⟨v6_0, v6_1, rfl, A6_0, A6_1⟩ := op59 he6
  refine fa' fa59_0 rfl (so (x' := (Track.mk x2.2.1 (at_ x2.1 x2.2.2).Begun (at_ x2.1 x2.2.2).Ended (at_ x2.1 x2.2.2).All (at_ x2.1 x2.2.2).Reads (at_ x2.1 x2.2.2).Writes (at_ x2.1 x2.2.2).In (at_ x2.1 x2.2.2).Out)) Ax2_0 ia6 h0_6 h1_6 (cs_iso (cs_left cs_flat)) z3 rfl rfl rfl rfl rfl rfl (fun s10 p10 A10 => ?_))
  refine nb (fun y12 h12 => ?_)
  have A12 : OwF (Kd.sl 59 kd59) s10 [w0_0] y12 2 := by rw [h12]; exact A10
  refine dn (sr (pu' rfl (pu' rfl (pu' rfl (dn (sr (mv' w0_0 rfl (pu' rfl (pu' rfl (ix' A12.rd Try.underlying62 z59 rfl (fun ad13 es13 h0_13 h1_13 he13 ce13 ia13 => ?_)))))))))))
  obtain ⟨v13_0, v13_1, rfl, A13_0, A13_1⟩ := op59 he13
  refine fa' fa59_1 rfl (so (x' := (Track.mk (at_ y12 x2.2.2).Xid (IntKind.wrap .i64 (x2.2.1 + (1 : Int))) (at_ y12 x2.2.2).Ended (at_ y12 x2.2.2).All (at_ y12 x2.2.2).Reads (at_ y12 x2.2.2).Writes (at_ y12 x2.2.2).In (at_ y12 x2.2.2).Out)) A12 ia13 h0_13 h1_13 (cs_iso (cs_right (cs_left cs_flat))) z3 rfl rfl rfl rfl rfl rfl (fun s17 p17 A17 => ?_))
  refine nb (fun y19 h19 => ?_)
  have A19 : OwF (Kd.sl 59 kd59) s17 [w0_0] y19 2 := by rw [h19]; exact A17
  refine dn (sr (pu' rfl (pu' rfl (pu' rfl (dn (sr (mv' w0_0 rfl (pu' rfl (pu' rfl (ix' A19.rd Try.underlying62 z59 rfl (fun ad20 es20 h0_20 h1_20 he20 ce20 ia20 => ?_)))))))))))
  obtain ⟨v20_0, v20_1, rfl, A20_0, A20_1⟩ := op59 he20
  refine fa' fa59_2 rfl (so (x' := (Track.mk (at_ y19 x2.2.2).Xid (at_ y19 x2.2.2).Begun (IntKind.wrap .i64 ((IntKind.wrap .i64 (x2.2.1 + (1 : Int))) + (1 : Int))) (at_ y19 x2.2.2).All (at_ y19 x2.2.2).Reads (at_ y19 x2.2.2).Writes (at_ y19 x2.2.2).In (at_ y19 x2.2.2).Out)) A19 ia20 h0_20 h1_20 (cs_iso (cs_right (cs_right (cs_left cs_flat)))) z3 rfl rfl rfl rfl rfl rfl (fun s24 p24 A24 => ?_))
  refine nb (fun y26 h26 => ?_)
  have A26 : OwF (Kd.sl 59 kd59) s24 [w0_0] y26 2 := by rw [h26]; exact A24
  refine dn (sr (pu' rfl (pu' rfl (pu' rfl (dn (sr (mv' w0_0 rfl (pu' rfl (pu' rfl (remK rfl rfl rfl rfl rfl rfl rfl rfl (pu' rfl (ix' A26.rd Try.underlying62 z59 rfl (fun ad27 es27 h0_27 h1_27 he27 ce27 ia27 => ?_)))))))))))))
  obtain ⟨v27_0, v27_1, rfl, A27_0, A27_1⟩ := op59 he27
  refine fa' fa59_3 rfl (so (x' := (Track.mk (at_ y26 x2.2.2).Xid (at_ y26 x2.2.2).Begun (at_ y26 x2.2.2).Ended (((IntKind.wrap .i64 ((IntKind.wrap .i64 ((IntKind.wrap .i64 (x2.2.1 + (1 : Int))) + (1 : Int))) + (1 : Int))).tmod (3 : Int)) == (0 : Int)) (at_ y26 x2.2.2).Reads (at_ y26 x2.2.2).Writes (at_ y26 x2.2.2).In (at_ y26 x2.2.2).Out)) A26 ia27 h0_27 h1_27 (cs_iso (cs_right (cs_right (cs_right (cs_left cs_flat))))) z4 rfl rfl rfl rfl rfl rfl (fun s31 p31 A31 => ?_))
  refine nb (fun y33 h33 => ?_)
  have A33 : OwF (Kd.sl 59 kd59) s31 [w0_0] y33 2 := by rw [h33]; exact A31
  refine dn (sr (pu' rfl (pu' rfl (pu' rfl (dn (sr (mv' w0_0 rfl (pu' rfl (ix' A33.rd Try.underlying62 z59 rfl (fun ad34 es34 h0_34 h1_34 he34 ce34 ia34 => ?_))))))))))
  obtain ⟨v34_0, v34_1, rfl, A34_0, A34_1⟩ := op59 he34
  refine fa' fa59_4 rfl (lc' ce34 Try.underlying56 rfl (pu' rfl ?_))
  obtain ⟨os38, ho38, hn38, hc38, put38⟩ := focus (ln_iso (fun x : Track => (x.Xid, x.Begun, x.Ended, x.All, x.Reads, x.Writes, x.In, x.Out)) (fun x => x.Reads) (fun x y => (Track.mk x.Xid x.Begun x.Ended x.All y x.Writes x.In x.Out)) (ln_right (ln_right (ln_right (ln_right (ln_left ln_sl))))) (fun _ => rfl) (fun _ _ => rfl)) A33 h0_34 h1_34 ia34 ce34 rfl rfl
  refine cl' rfl Try.func59 rfl (fun r38 m38 => laws_markSpanS.calls ((at_ y33 x2.2.2).Reads) (IntKind.wrap .i64 ((IntKind.wrap .i64 ((IntKind.wrap .i64 ((IntKind.wrap .i64 (x2.2.1 + (1 : Int))) + (1 : Int))) + (1 : Int))) + (1 : Int))) s31.w (fun b => memb [] (s31.g b) = true) v34_0 os38 ho38 hn38 (apart_of hc38 rfl) r38 m38) ?_
  rintro r38 _ w38 m38 ⟨rfl, w38_, ky38⟩
  obtain ⟨s39, rfl, p39, A39⟩ := put38 w38 _ 40 ky38 w38_
  refine nb (fun y41 h41 => ?_)
  have A41 : OwF (Kd.sl 59 kd59) s39 [w0_0] y41 2 := by rw [h41]; exact A39
  refine pu' rfl (dn (sr (mv' w0_0 rfl (pu' rfl (ix' A41.rd Try.underlying62 z59 rfl (fun ad42 es42 h0_42 h1_42 he42 ce42 ia42 => ?_))))))
  obtain ⟨v42_0, v42_1, rfl, A42_0, A42_1⟩ := op59 he42
  refine fa' fa59_5 rfl (lc' ce42 Try.underlying57 rfl (pu' rfl ?_))
  obtain ⟨os46, ho46, hn46, hc46, put46⟩ := focus (ln_iso (fun x : Track => (x.Xid, x.Begun, x.Ended, x.All, x.Reads, x.Writes, x.In, x.Out)) (fun x => x.Writes) (fun x y => (Track.mk x.Xid x.Begun x.Ended x.All x.Reads y x.In x.Out)) (ln_right (ln_right (ln_right (ln_right (ln_right (ln_left ln_sl)))))) (fun _ => rfl) (fun _ _ => rfl)) A41 h0_42 h1_42 ia42 ce42 rfl rfl
  refine cl' rfl Try.func60 rfl (fun r46 m46 => laws_markItemS.calls ((at_ y41 x2.2.2).Writes) r38.1 s39.w (fun b => memb [] (s39.g b) = true) v42_1 os46 ho46 hn46 (apart_of hc46 rfl) r46 m46) ?_
  rintro r46 _ w46 m46 ⟨rfl, w46_, ky46⟩
  obtain ⟨s47, rfl, p47, A47⟩ := put46 w46 _ 41 ky46 w46_
  refine nb (fun y49 h49 => ?_)
  have A49 : OwF (Kd.sl 59 kd59) s47 [w0_0] y49 2 := by rw [h49]; exact A47
  refine pu' rfl (dn (sr (mv' w0_0 rfl (pu' rfl (pu' rfl (remK rfl rfl rfl rfl rfl rfl rfl rfl (pu' rfl (ix' A49.rd Try.underlying62 z59 rfl (fun ad50 es50 h0_50 h1_50 he50 ce50 ia50 => ?_)))))))))
  obtain ⟨v50_0, v50_1, rfl, A50_0, A50_1⟩ := op59 he50
  refine fa' fa59_6 rfl (so (x' := (Track.mk (at_ y49 x2.2.2).Xid (at_ y49 x2.2.2).Begun (at_ y49 x2.2.2).Ended (at_ y49 x2.2.2).All (at_ y49 x2.2.2).Reads (at_ y49 x2.2.2).Writes ((r46.1.tmod (3 : Int)) == (0 : Int)) (at_ y49 x2.2.2).Out)) A49 ia50 h0_50 h1_50 (cs_iso (cs_right (cs_right (cs_right (cs_right (cs_right (cs_right (cs_left cs_flat)))))))) z4 rfl rfl rfl rfl rfl rfl (fun s54 p54 A54 => ?_))
  refine nb (fun y56 h56 => ?_)
  have A56 : OwF (Kd.sl 59 kd59) s54 [w0_0] y56 2 := by rw [h56]; exact A54
  refine dn (sr (pu' rfl (pu' rfl (pu' rfl (dn (sr (mv' w0_0 rfl (pu' rfl (pu' rfl (remK rfl rfl rfl rfl rfl rfl rfl rfl (pu' rfl (ix' A56.rd Try.underlying62 z59 rfl (fun ad57 es57 h0_57 h1_57 he57 ce57 ia57 => ?_)))))))))))))
  obtain ⟨v57_0, v57_1, rfl, A57_0, A57_1⟩ := op59 he57
  refine fa' fa59_7 rfl (so (x' := (Track.mk (at_ y56 x2.2.2).Xid (at_ y56 x2.2.2).Begun (at_ y56 x2.2.2).Ended (at_ y56 x2.2.2).All (at_ y56 x2.2.2).Reads (at_ y56 x2.2.2).Writes (at_ y56 x2.2.2).In (((IntKind.wrap .i64 (r46.1 + (1 : Int))).tmod (3 : Int)) == (0 : Int)))) A56 ia57 h0_57 h1_57 (cs_iso (cs_right (cs_right (cs_right (cs_right (cs_right (cs_right (cs_right cs_flat)))))))) z4 rfl rfl rfl rfl rfl rfl (fun s61 p61 A61 => ?_))
  refine nb (fun y63 h63 => ?_)
  have A63 : OwF (Kd.sl 59 kd59) s61 [w0_0] y63 2 := by rw [h63]; exact A61
  refine dn (rg (pu' rfl (pu' rfl (pu' rfl (dn (ib (rg (pu' rfl (pu' rfl (pu' rfl (dn ?_)))))))))))
  have K64 := (Kx2.st (tr8 p10 p17 p24 p31 p39 p47 p54 p61) rfl)
  exact lb ih2 ⟨s61, _, rfl, (ue (ue (ue rfl rfl) rfl) rfl), K64, A63⟩
 ·
  exact xt rfl (sgb (sr (pu' rfl (pu' rfl (dn (re rfl Try.func38 rfl (r_t rfl r_nil) rfl ⟨_, rfl, rfl, z.fw Kx2 Ax2_0, z.ky Kx2⟩))))))
noncomputable def laws_heldSpanS.b0 (a0 : (List Span)) (x2 : Int × Int) : Option ((Int × Int) ⊕ Int) :=
 (if (decide (x2.2 < (a0.length : Int))) = true then (if 0 ≤ x2.2 ∧ x2.2 < (a0.length : Int) then (if (((at_ a0 x2.2).From).Kind != x2.1) = true then (some (Sum.inr (-1 : Int))) else (if 0 ≤ x2.2 ∧ x2.2 < (a0.length : Int) then (if (((at_ a0 x2.2).From).N != (IntKind.wrap .i64 (x2.1 + (1 : Int)))) = true then (some (Sum.inr (-1 : Int))) else (if 0 ≤ x2.2 ∧ x2.2 < (a0.length : Int) then (if (fcmp .f64 (((at_ a0 x2.2).From).F) (FloatKind.f64.nearest (IntKind.wrap .i64 ((IntKind.wrap .i64 (x2.1 + (1 : Int))) + (1 : Int)))) != some .eq) = true then (some (Sum.inr (-1 : Int))) else (if 0 ≤ x2.2 ∧ x2.2 < (a0.length : Int) then ((laws_heldByteS.f (((at_ a0 x2.2).From).T) (IntKind.wrap .i64 ((IntKind.wrap .i64 ((IntKind.wrap .i64 (x2.1 + (1 : Int))) + (1 : Int))) + (1 : Int)))).bind fun r26 => (if (decide (r26 < (0 : Int))) = true then (some (Sum.inr (-1 : Int))) else (if 0 ≤ x2.2 ∧ x2.2 < (a0.length : Int) then (if (((at_ a0 x2.2).To).Kind != r26) = true then (some (Sum.inr (-1 : Int))) else (if 0 ≤ x2.2 ∧ x2.2 < (a0.length : Int) then (if (((at_ a0 x2.2).To).N != (IntKind.wrap .i64 (r26 + (1 : Int)))) = true then (some (Sum.inr (-1 : Int))) else (if 0 ≤ x2.2 ∧ x2.2 < (a0.length : Int) then (if (fcmp .f64 (((at_ a0 x2.2).To).F) (FloatKind.f64.nearest (IntKind.wrap .i64 ((IntKind.wrap .i64 (r26 + (1 : Int))) + (1 : Int)))) != some .eq) = true then (some (Sum.inr (-1 : Int))) else (if 0 ≤ x2.2 ∧ x2.2 < (a0.length : Int) then ((laws_heldByteS.f (((at_ a0 x2.2).To).T) (IntKind.wrap .i64 ((IntKind.wrap .i64 ((IntKind.wrap .i64 (r26 + (1 : Int))) + (1 : Int))) + (1 : Int)))).bind fun r52 => (if (decide (r52 < (0 : Int))) = true then (some (Sum.inr (-1 : Int))) else (some (Sum.inl (r52, (IntKind.wrap .i64 (x2.2 + (1 : Int)))))))) else none)) else none)) else none)) else none))) else none)) else none)) else none)) else none) else ((some x2.1).bind fun o => some (Sum.inr o)))
noncomputable def laws_heldSpanS.f (a0 : (List Span)) (a1 : Int) : Option (Int) :=
 (iter (laws_heldSpanS.b0 a0) (a1, (0 : Int)))
def laws_heldSpanS.Q (w : World) (F : Nat → Prop) (r : Int) (v : Value) (w' : World) : Prop :=
 v = (.int .i64 r) ∧ Ky [] w w'
set_option maxHeartbeats 4000000 in
set_option maxRecDepth 100000 in
theorem laws_heldSpanS.calls (a0 : (List Span)) (a1 : Int) (w : World) (F : Nat → Prop) (w0_0 : Value) (h0_0 : (Kd.sl 80 kd80).rd w [w0_0] a0 F) (r : Int) (m : laws_heldSpanS.f a0 a1 = some r) :
  Calls Try.prog 105 #[w0_0, (.int .i64 a1)] w (RT (laws_heldSpanS.Q w F) r) := by
 obtain ⟨s0, rfl, kp0, z⟩ := start0 w F
 have A0_0 := z.rd h0_0
 refine calls_of_TM (args := [w0_0, (.int .i64 a1)]) Try.func105 Try.ntmps105 rfl rfl m ?_
 unfold laws_heldSpanS.f
 refine sr (pu' rfl (dn (sq (sr (pu' rfl (dn (bl (lpI (fun (x2 : Int × Int) (e : Env) (w : World) => ∃ (s : St) (e0 : Env), w = s.w ∧ e = upd (upd (upd e0 0 w0_0) 1 (.int .i64 x2.1)) 5 (.int .i64 x2.2) ∧ Kp s0 s) ⟨s0, _, rfl, (ue (ue (ue rfl rfl) rfl) rfl), kp0⟩ (fun g2 ih2 => ?_)))))))))
 rintro x2 _ _ ⟨s3, _, rfl, rfl, Kx2⟩
 unfold laws_heldSpanS.b0
 refine sq (sr (pu' rfl (mv' w0_0 rfl ?_)))
 have A4 := (A0_0.kp Kx2)
 refine ln' A4 Try.underlying56 rfl (pu' rfl (dn (cd rfl (fun h5 => ?_) (fun h5 => ?_))))
 ·
  refine sk (sq (bl (sq (sr (mv' w0_0 rfl (pu' rfl (ix' A4 Try.underlying56 z80 rfl (fun ad6 es6 h0_6 h1_6 he6 ce6 ia6 => ?_))))))))
  obtain ⟨v6_0, v6_1, v6_2, v6_3, rfl, A6_0, A6_1, A6_2, A6_3⟩ := op80 he6
  refine fa' fa80_0 rfl (fa' fa48_0 rfl (lc0 ce6 Try.underlying3 rfl rfl rfl rfl rfl rfl rfl rfl (pu' rfl (pu' rfl (dn (cd rfl (fun h10 => ?_) (fun h10 => ?_)))))))
  ·
   exact sr (pu' rfl (dn (sgi (re rfl Try.func105 rfl (r_t rfl r_nil) rfl ⟨_, rfl, rfl, z.ky Kx2⟩))))
  ·
   refine sk (sr (pu' rfl (pu' rfl (pu' rfl (dn (sq (sr (mv' w0_0 rfl (pu' rfl (ix' A4 Try.underlying56 z80 rfl (fun ad11 es11 h0_11 h1_11 he11 ce11 ia11 => ?_)))))))))))
   obtain ⟨v11_0, v11_1, v11_2, v11_3, rfl, A11_0, A11_1, A11_2, A11_3⟩ := op80 he11
   refine fa' fa80_0 rfl (fa' fa48_1 rfl (lc' ce11 Try.underlying3 rfl (pu' rfl (pu' rfl (dn (cd rfl (fun h15 => ?_) (fun h15 => ?_)))))))
   ·
    exact sr (pu' rfl (dn (sgi (re rfl Try.func105 rfl (r_t rfl r_nil) rfl ⟨_, rfl, rfl, z.ky Kx2⟩))))
   ·
    refine sk (sr (pu' rfl (pu' rfl (pu' rfl (dn (sq (sr (mv' w0_0 rfl (pu' rfl (ix' A4 Try.underlying56 z80 rfl (fun ad16 es16 h0_16 h1_16 he16 ce16 ia16 => ?_)))))))))))
    obtain ⟨v16_0, v16_1, v16_2, v16_3, rfl, A16_0, A16_1, A16_2, A16_3⟩ := op80 he16
    refine fa' fa80_0 rfl (fa' fa48_2 rfl (lc' ce16 Try.underlying36 rfl (pu' rfl (i2f Try.underlying36 Try.underlying3 rfl rfl rfl rfl rfl rfl (fun v20 A20 => ?_)))))
    refine fq_' A16_0 A20 rfl (dn (cd rfl (fun h21 => ?_) (fun h21 => ?_)))
    ·
     exact sr (pu' rfl (dn (sgi (re rfl Try.func105 rfl (r_t rfl r_nil) rfl ⟨_, rfl, rfl, z.ky Kx2⟩))))
    ·
     refine sk (sr (pu' rfl (pu' rfl (pu' rfl (dn (sr (mv' w0_0 rfl (pu' rfl (ix' A4 Try.underlying56 z80 rfl (fun ad22 es22 h0_22 h1_22 he22 ce22 ia22 => ?_))))))))))
     obtain ⟨v22_0, v22_1, v22_2, v22_3, rfl, A22_0, A22_1, A22_2, A22_3⟩ := op80 he22
     refine fa' fa80_0 rfl (fa' fa48_3 rfl (lc' ce22 Try.underlying37 rfl (pu' rfl (cl' rfl Try.func169 rfl (fun r26 m26 => laws_heldByteS.calls (((at_ a0 x2.2).From).T) (IntKind.wrap .i64 ((IntKind.wrap .i64 ((IntKind.wrap .i64 (x2.1 + (1 : Int))) + (1 : Int))) + (1 : Int))) s3.w (fun b => memb [0] (s3.g b) = true) v22_1 A22_1 r26 m26) ?_))))
     rintro r26 _ w26 m26 ⟨rfl, ky26⟩
     obtain ⟨s27, rfl, p27, n27⟩ := nwx s3 w26 40 ky26
     refine pu' rfl (dn (sq (sr (pu' rfl (pu' rfl (dn (cd rfl (fun h28 => ?_) (fun h28 => ?_))))))))
     ·
      refine sr (pu' rfl (dn (sgi ?_)))
      have K29 := (Kx2.st p27 rfl)
      exact re rfl Try.func105 rfl (r_t rfl r_nil) rfl ⟨_, rfl, rfl, z.ky K29⟩
     ·
      refine sk (sq (sr (mv' w0_0 rfl (pu' rfl ?_))))
      have K30 := (Kx2.st p27 rfl)
      have A31 := (A0_0.kp K30)
      refine ix' A31 Try.underlying56 z80 rfl (fun ad32 es32 h0_32 h1_32 he32 ce32 ia32 => ?_)
      obtain ⟨v32_0, v32_1, v32_2, v32_3, rfl, A32_0, A32_1, A32_2, A32_3⟩ := op80 he32
      refine fa' fa80_1 rfl (faq (q := 4) (q' := 0) (n := 4) fa48_0 rfl rfl rfl rfl rfl rfl rfl (lc' ce32 Try.underlying3 rfl (pu' rfl (pu' rfl (dn (cd rfl (fun h36 => ?_) (fun h36 => ?_)))))))
      ·
       exact sr (pu' rfl (dn (sgi (re rfl Try.func105 rfl (r_t rfl r_nil) rfl ⟨_, rfl, rfl, z.ky K30⟩))))
      ·
       refine sk (sr (pu' rfl (pu' rfl (pu' rfl (dn (sq (sr (mv' w0_0 rfl (pu' rfl (ix' A31 Try.underlying56 z80 rfl (fun ad37 es37 h0_37 h1_37 he37 ce37 ia37 => ?_)))))))))))
       obtain ⟨v37_0, v37_1, v37_2, v37_3, rfl, A37_0, A37_1, A37_2, A37_3⟩ := op80 he37
       refine fa' fa80_1 rfl (faq (q := 4) (q' := 1) (n := 5) fa48_1 rfl rfl rfl rfl rfl rfl rfl (lc' ce37 Try.underlying3 rfl (pu' rfl (pu' rfl (dn (cd rfl (fun h41 => ?_) (fun h41 => ?_)))))))
       ·
        exact sr (pu' rfl (dn (sgi (re rfl Try.func105 rfl (r_t rfl r_nil) rfl ⟨_, rfl, rfl, z.ky K30⟩))))
       ·
        refine sk (sr (pu' rfl (pu' rfl (pu' rfl (dn (sq (sr (mv' w0_0 rfl (pu' rfl (ix' A31 Try.underlying56 z80 rfl (fun ad42 es42 h0_42 h1_42 he42 ce42 ia42 => ?_)))))))))))
        obtain ⟨v42_0, v42_1, v42_2, v42_3, rfl, A42_0, A42_1, A42_2, A42_3⟩ := op80 he42
        refine fa' fa80_1 rfl (faq (q := 4) (q' := 2) (n := 6) fa48_2 rfl rfl rfl rfl rfl rfl rfl (lc' ce42 Try.underlying36 rfl (pu' rfl (i2f Try.underlying36 Try.underlying3 rfl rfl rfl rfl rfl rfl (fun v46 A46 => ?_)))))
        refine fq_' A42_2 A46 rfl (dn (cd rfl (fun h47 => ?_) (fun h47 => ?_)))
        ·
         exact sr (pu' rfl (dn (sgi (re rfl Try.func105 rfl (r_t rfl r_nil) rfl ⟨_, rfl, rfl, z.ky K30⟩))))
        ·
         refine sk (sr (pu' rfl (pu' rfl (pu' rfl (dn (sr (mv' w0_0 rfl (pu' rfl (ix' A31 Try.underlying56 z80 rfl (fun ad48 es48 h0_48 h1_48 he48 ce48 ia48 => ?_))))))))))
         obtain ⟨v48_0, v48_1, v48_2, v48_3, rfl, A48_0, A48_1, A48_2, A48_3⟩ := op80 he48
         refine fa' fa80_1 rfl (faq (q := 4) (q' := 3) (n := 7) fa48_3 rfl rfl rfl rfl rfl rfl rfl (lc' ce48 Try.underlying37 rfl (pu' rfl (cl' rfl Try.func169 rfl (fun r52 m52 => laws_heldByteS.calls (((at_ a0 x2.2).To).T) (IntKind.wrap .i64 ((IntKind.wrap .i64 ((IntKind.wrap .i64 (r26 + (1 : Int))) + (1 : Int))) + (1 : Int))) s27.w (fun b => memb [0] (s27.g b) = true) v48_3 A48_3 r52 m52) ?_))))
         rintro r52 _ w52 m52 ⟨rfl, ky52⟩
         obtain ⟨s53, rfl, p53, n53⟩ := nwx s27 w52 41 ky52
         refine pu' rfl (dn (sr (pu' rfl (pu' rfl (dn (cd rfl (fun h54 => ?_) (fun h54 => ?_)))))))
         ·
          refine sr (pu' rfl (dn (sgi ?_)))
          have K55 := (K30.st p53 rfl)
          exact re rfl Try.func105 rfl (r_t rfl r_nil) rfl ⟨_, rfl, rfl, z.ky K55⟩
         ·
          refine sk (ib (rg (pu' rfl (pu' rfl (pu' rfl (dn ?_))))))
          have K56 := (K30.st p53 rfl)
          exact lb ih2 ⟨s53, _, rfl, (ue (ue (ue rfl rfl) rfl) rfl), K56⟩
 ·
  exact xt rfl (sgb (sr (pu' rfl (pu' rfl (dn (re rfl Try.func105 rfl (r_t rfl r_nil) rfl ⟨_, rfl, rfl, z.ky Kx2⟩))))))
noncomputable def laws_heldItemS.b0 (a0 : (List Item)) (x2 : Int × Int) : Option ((Int × Int) ⊕ Int) :=
 (if (decide (x2.2 < (a0.length : Int))) = true then (if 0 ≤ x2.2 ∧ x2.2 < (a0.length : Int) then (if ((at_ a0 x2.2).Kind != x2.1) = true then (some (Sum.inr (-1 : Int))) else (if 0 ≤ x2.2 ∧ x2.2 < (a0.length : Int) then (if ((at_ a0 x2.2).N != (IntKind.wrap .i64 (x2.1 + (1 : Int)))) = true then (some (Sum.inr (-1 : Int))) else (if 0 ≤ x2.2 ∧ x2.2 < (a0.length : Int) then (if (fcmp .f64 ((at_ a0 x2.2).F) (FloatKind.f64.nearest (IntKind.wrap .i64 ((IntKind.wrap .i64 (x2.1 + (1 : Int))) + (1 : Int)))) != some .eq) = true then (some (Sum.inr (-1 : Int))) else (if 0 ≤ x2.2 ∧ x2.2 < (a0.length : Int) then ((laws_heldByteS.f ((at_ a0 x2.2).T) (IntKind.wrap .i64 ((IntKind.wrap .i64 ((IntKind.wrap .i64 (x2.1 + (1 : Int))) + (1 : Int))) + (1 : Int)))).bind fun r22 => (if (decide (r22 < (0 : Int))) = true then (some (Sum.inr (-1 : Int))) else (some (Sum.inl (r22, (IntKind.wrap .i64 (x2.2 + (1 : Int)))))))) else none)) else none)) else none)) else none) else ((some x2.1).bind fun o => some (Sum.inr o)))
noncomputable def laws_heldItemS.f (a0 : (List Item)) (a1 : Int) : Option (Int) :=
 (iter (laws_heldItemS.b0 a0) (a1, (0 : Int)))
def laws_heldItemS.Q (w : World) (F : Nat → Prop) (r : Int) (v : Value) (w' : World) : Prop :=
 v = (.int .i64 r) ∧ Ky [] w w'
set_option maxHeartbeats 4000000 in
set_option maxRecDepth 100000 in
theorem laws_heldItemS.calls (a0 : (List Item)) (a1 : Int) (w : World) (F : Nat → Prop) (w0_0 : Value) (h0_0 : (Kd.sl 48 kd48).rd w [w0_0] a0 F) (r : Int) (m : laws_heldItemS.f a0 a1 = some r) :
  Calls Try.prog 106 #[w0_0, (.int .i64 a1)] w (RT (laws_heldItemS.Q w F) r) := by
 obtain ⟨s0, rfl, kp0, z⟩ := start0 w F
 have A0_0 := z.rd h0_0
 refine calls_of_TM (args := [w0_0, (.int .i64 a1)]) Try.func106 Try.ntmps106 rfl rfl m ?_
 unfold laws_heldItemS.f
 refine sr (pu' rfl (dn (sq (sr (pu' rfl (dn (bl (lpI (fun (x2 : Int × Int) (e : Env) (w : World) => ∃ (s : St) (e0 : Env), w = s.w ∧ e = upd (upd (upd e0 0 w0_0) 1 (.int .i64 x2.1)) 5 (.int .i64 x2.2) ∧ Kp s0 s) ⟨s0, _, rfl, (ue (ue (ue rfl rfl) rfl) rfl), kp0⟩ (fun g2 ih2 => ?_)))))))))
 rintro x2 _ _ ⟨s3, _, rfl, rfl, Kx2⟩
 unfold laws_heldItemS.b0
 refine sq (sr (pu' rfl (mv' w0_0 rfl ?_)))
 have A4 := (A0_0.kp Kx2)
 refine ln' A4 Try.underlying57 rfl (pu' rfl (dn (cd rfl (fun h5 => ?_) (fun h5 => ?_))))
 ·
  refine sk (sq (bl (sq (sr (mv' w0_0 rfl (pu' rfl (ix' A4 Try.underlying57 z48 rfl (fun ad6 es6 h0_6 h1_6 he6 ce6 ia6 => ?_))))))))
  obtain ⟨v6_0, v6_1, rfl, A6_0, A6_1⟩ := op48 he6
  refine fa' fa48_0 rfl (lc0 ce6 Try.underlying3 rfl rfl rfl rfl rfl rfl rfl rfl (pu' rfl (pu' rfl (dn (cd rfl (fun h9 => ?_) (fun h9 => ?_))))))
  ·
   exact sr (pu' rfl (dn (sgi (re rfl Try.func106 rfl (r_t rfl r_nil) rfl ⟨_, rfl, rfl, z.ky Kx2⟩))))
  ·
   refine sk (sr (pu' rfl (pu' rfl (pu' rfl (dn (sq (sr (mv' w0_0 rfl (pu' rfl (ix' A4 Try.underlying57 z48 rfl (fun ad10 es10 h0_10 h1_10 he10 ce10 ia10 => ?_)))))))))))
   obtain ⟨v10_0, v10_1, rfl, A10_0, A10_1⟩ := op48 he10
   refine fa' fa48_1 rfl (lc' ce10 Try.underlying3 rfl (pu' rfl (pu' rfl (dn (cd rfl (fun h13 => ?_) (fun h13 => ?_))))))
   ·
    exact sr (pu' rfl (dn (sgi (re rfl Try.func106 rfl (r_t rfl r_nil) rfl ⟨_, rfl, rfl, z.ky Kx2⟩))))
   ·
    refine sk (sr (pu' rfl (pu' rfl (pu' rfl (dn (sq (sr (mv' w0_0 rfl (pu' rfl (ix' A4 Try.underlying57 z48 rfl (fun ad14 es14 h0_14 h1_14 he14 ce14 ia14 => ?_)))))))))))
    obtain ⟨v14_0, v14_1, rfl, A14_0, A14_1⟩ := op48 he14
    refine fa' fa48_2 rfl (lc' ce14 Try.underlying36 rfl (pu' rfl (i2f Try.underlying36 Try.underlying3 rfl rfl rfl rfl rfl rfl (fun v17 A17 => ?_))))
    refine fq_' A14_0 A17 rfl (dn (cd rfl (fun h18 => ?_) (fun h18 => ?_)))
    ·
     exact sr (pu' rfl (dn (sgi (re rfl Try.func106 rfl (r_t rfl r_nil) rfl ⟨_, rfl, rfl, z.ky Kx2⟩))))
    ·
     refine sk (sr (pu' rfl (pu' rfl (pu' rfl (dn (sr (mv' w0_0 rfl (pu' rfl (ix' A4 Try.underlying57 z48 rfl (fun ad19 es19 h0_19 h1_19 he19 ce19 ia19 => ?_))))))))))
     obtain ⟨v19_0, v19_1, rfl, A19_0, A19_1⟩ := op48 he19
     refine fa' fa48_3 rfl (lc' ce19 Try.underlying37 rfl (pu' rfl (cl' rfl Try.func169 rfl (fun r22 m22 => laws_heldByteS.calls ((at_ a0 x2.2).T) (IntKind.wrap .i64 ((IntKind.wrap .i64 ((IntKind.wrap .i64 (x2.1 + (1 : Int))) + (1 : Int))) + (1 : Int))) s3.w (fun b => memb [0] (s3.g b) = true) v19_1 A19_1 r22 m22) ?_)))
     rintro r22 _ w22 m22 ⟨rfl, ky22⟩
     obtain ⟨s23, rfl, p23, n23⟩ := nwx s3 w22 40 ky22
     refine pu' rfl (dn (sr (pu' rfl (pu' rfl (dn (cd rfl (fun h24 => ?_) (fun h24 => ?_)))))))
     ·
      refine sr (pu' rfl (dn (sgi ?_)))
      have K25 := (Kx2.st p23 rfl)
      exact re rfl Try.func106 rfl (r_t rfl r_nil) rfl ⟨_, rfl, rfl, z.ky K25⟩
     ·
      refine sk (ib (rg (pu' rfl (pu' rfl (pu' rfl (dn ?_))))))
      have K26 := (Kx2.st p23 rfl)
      exact lb ih2 ⟨s23, _, rfl, (ue (ue (ue rfl rfl) rfl) rfl), K26⟩
 ·
  exact xt rfl (sgb (sr (pu' rfl (pu' rfl (dn (re rfl Try.func106 rfl (r_t rfl r_nil) rfl ⟨_, rfl, rfl, z.ky Kx2⟩))))))
noncomputable def laws_heldTrackS.b0 (a0 : (List Track)) (x2 : Int × Int) : Option ((Int × Int) ⊕ Int) :=
 (if (decide (x2.2 < (a0.length : Int))) = true then (if 0 ≤ x2.2 ∧ x2.2 < (a0.length : Int) then (if ((at_ a0 x2.2).Xid != x2.1) = true then (some (Sum.inr (-1 : Int))) else (if 0 ≤ x2.2 ∧ x2.2 < (a0.length : Int) then (if ((at_ a0 x2.2).Begun != (IntKind.wrap .i64 (x2.1 + (1 : Int)))) = true then (some (Sum.inr (-1 : Int))) else (if 0 ≤ x2.2 ∧ x2.2 < (a0.length : Int) then (if ((at_ a0 x2.2).Ended != (IntKind.wrap .i64 ((IntKind.wrap .i64 (x2.1 + (1 : Int))) + (1 : Int)))) = true then (some (Sum.inr (-1 : Int))) else (if 0 ≤ x2.2 ∧ x2.2 < (a0.length : Int) then (if (!(((at_ a0 x2.2).All) == (((IntKind.wrap .i64 ((IntKind.wrap .i64 ((IntKind.wrap .i64 (x2.1 + (1 : Int))) + (1 : Int))) + (1 : Int))).tmod (3 : Int)) == (0 : Int)))) = true then (some (Sum.inr (-1 : Int))) else (if 0 ≤ x2.2 ∧ x2.2 < (a0.length : Int) then ((laws_heldSpanS.f ((at_ a0 x2.2).Reads) (IntKind.wrap .i64 ((IntKind.wrap .i64 ((IntKind.wrap .i64 ((IntKind.wrap .i64 (x2.1 + (1 : Int))) + (1 : Int))) + (1 : Int))) + (1 : Int)))).bind fun r30 => (if (decide (r30 < (0 : Int))) = true then (some (Sum.inr (-1 : Int))) else (if 0 ≤ x2.2 ∧ x2.2 < (a0.length : Int) then ((laws_heldItemS.f ((at_ a0 x2.2).Writes) r30).bind fun r40 => (if (decide (r40 < (0 : Int))) = true then (some (Sum.inr (-1 : Int))) else (if 0 ≤ x2.2 ∧ x2.2 < (a0.length : Int) then (if (!(((at_ a0 x2.2).In) == ((r40.tmod (3 : Int)) == (0 : Int)))) = true then (some (Sum.inr (-1 : Int))) else (if 0 ≤ x2.2 ∧ x2.2 < (a0.length : Int) then (if (!(((at_ a0 x2.2).Out) == (((IntKind.wrap .i64 (r40 + (1 : Int))).tmod (3 : Int)) == (0 : Int)))) = true then (some (Sum.inr (-1 : Int))) else (some (Sum.inl ((IntKind.wrap .i64 ((IntKind.wrap .i64 (r40 + (1 : Int))) + (1 : Int))), (IntKind.wrap .i64 (x2.2 + (1 : Int))))))) else none)) else none))) else none))) else none)) else none)) else none)) else none)) else none) else ((some x2.1).bind fun o => some (Sum.inr o)))
noncomputable def laws_heldTrackS.f (a0 : (List Track)) (a1 : Int) : Option (Int) :=
 (iter (laws_heldTrackS.b0 a0) (a1, (0 : Int)))
def laws_heldTrackS.Q (w : World) (F : Nat → Prop) (r : Int) (v : Value) (w' : World) : Prop :=
 v = (.int .i64 r) ∧ Ky [] w w'
set_option maxHeartbeats 4000000 in
set_option maxRecDepth 100000 in
theorem laws_heldTrackS.calls (a0 : (List Track)) (a1 : Int) (w : World) (F : Nat → Prop) (w0_0 : Value) (h0_0 : (Kd.sl 59 kd59).rd w [w0_0] a0 F) (r : Int) (m : laws_heldTrackS.f a0 a1 = some r) :
  Calls Try.prog 39 #[w0_0, (.int .i64 a1)] w (RT (laws_heldTrackS.Q w F) r) := by
 obtain ⟨s0, rfl, kp0, z⟩ := start0 w F
 have A0_0 := z.rd h0_0
 refine calls_of_TM (args := [w0_0, (.int .i64 a1)]) Try.func39 Try.ntmps39 rfl rfl m ?_
 unfold laws_heldTrackS.f
 refine sr (pu' rfl (dn (sq (sr (pu' rfl (dn (bl (lpI (fun (x2 : Int × Int) (e : Env) (w : World) => ∃ (s : St) (e0 : Env), w = s.w ∧ e = upd (upd (upd e0 0 w0_0) 1 (.int .i64 x2.1)) 5 (.int .i64 x2.2) ∧ Kp s0 s) ⟨s0, _, rfl, (ue (ue (ue rfl rfl) rfl) rfl), kp0⟩ (fun g2 ih2 => ?_)))))))))
 rintro x2 _ _ ⟨s3, _, rfl, rfl, Kx2⟩
 unfold laws_heldTrackS.b0
 refine sq (sr (pu' rfl (mv' w0_0 rfl ?_)))
 have A4 := (A0_0.kp Kx2)
 refine ln' A4 Try.underlying62 rfl (pu' rfl (dn (cd rfl (fun h5 => ?_) (fun h5 => ?_))))
 ·
  refine sk (sq (bl (sq (sr (mv' w0_0 rfl (pu' rfl (ix' A4 Try.underlying62 z59 rfl (fun ad6 es6 h0_6 h1_6 he6 ce6 ia6 => ?_))))))))
  obtain ⟨v6_0, v6_1, rfl, A6_0, A6_1⟩ := op59 he6
  refine fa' fa59_0 rfl (lc0 ce6 Try.underlying3 rfl rfl rfl rfl rfl rfl rfl rfl (pu' rfl (pu' rfl (dn (cd rfl (fun h10 => ?_) (fun h10 => ?_))))))
  ·
   exact sr (pu' rfl (dn (sgi (re rfl Try.func39 rfl (r_t rfl r_nil) rfl ⟨_, rfl, rfl, z.ky Kx2⟩))))
  ·
   refine sk (sr (pu' rfl (pu' rfl (pu' rfl (dn (sq (sr (mv' w0_0 rfl (pu' rfl (ix' A4 Try.underlying62 z59 rfl (fun ad11 es11 h0_11 h1_11 he11 ce11 ia11 => ?_)))))))))))
   obtain ⟨v11_0, v11_1, rfl, A11_0, A11_1⟩ := op59 he11
   refine fa' fa59_1 rfl (lc' ce11 Try.underlying3 rfl (pu' rfl (pu' rfl (dn (cd rfl (fun h15 => ?_) (fun h15 => ?_))))))
   ·
    exact sr (pu' rfl (dn (sgi (re rfl Try.func39 rfl (r_t rfl r_nil) rfl ⟨_, rfl, rfl, z.ky Kx2⟩))))
   ·
    refine sk (sr (pu' rfl (pu' rfl (pu' rfl (dn (sq (sr (mv' w0_0 rfl (pu' rfl (ix' A4 Try.underlying62 z59 rfl (fun ad16 es16 h0_16 h1_16 he16 ce16 ia16 => ?_)))))))))))
    obtain ⟨v16_0, v16_1, rfl, A16_0, A16_1⟩ := op59 he16
    refine fa' fa59_2 rfl (lc' ce16 Try.underlying3 rfl (pu' rfl (pu' rfl (dn (cd rfl (fun h20 => ?_) (fun h20 => ?_))))))
    ·
     exact sr (pu' rfl (dn (sgi (re rfl Try.func39 rfl (r_t rfl r_nil) rfl ⟨_, rfl, rfl, z.ky Kx2⟩))))
    ·
     refine sk (sr (pu' rfl (pu' rfl (pu' rfl (dn (sq (sr (mv' w0_0 rfl (pu' rfl (ix' A4 Try.underlying62 z59 rfl (fun ad21 es21 h0_21 h1_21 he21 ce21 ia21 => ?_)))))))))))
     obtain ⟨v21_0, v21_1, rfl, A21_0, A21_1⟩ := op59 he21
     refine fa' fa59_3 rfl (lc' ce21 Try.underlying4 rfl (pu' rfl (remK rfl rfl rfl rfl rfl rfl rfl rfl (pu' rfl (bne_ Try.underlying4 rfl rfl rfl rfl rfl rfl rfl (dn (cd rfl (fun h25 => ?_) (fun h25 => ?_))))))))
     ·
      exact sr (pu' rfl (dn (sgi (re rfl Try.func39 rfl (r_t rfl r_nil) rfl ⟨_, rfl, rfl, z.ky Kx2⟩))))
     ·
      refine sk (sr (pu' rfl (pu' rfl (pu' rfl (dn (sr (mv' w0_0 rfl (pu' rfl (ix' A4 Try.underlying62 z59 rfl (fun ad26 es26 h0_26 h1_26 he26 ce26 ia26 => ?_))))))))))
      obtain ⟨v26_0, v26_1, rfl, A26_0, A26_1⟩ := op59 he26
      refine fa' fa59_4 rfl (lc' ce26 Try.underlying56 rfl (pu' rfl (cl' rfl Try.func105 rfl (fun r30 m30 => laws_heldSpanS.calls ((at_ a0 x2.2).Reads) (IntKind.wrap .i64 ((IntKind.wrap .i64 ((IntKind.wrap .i64 ((IntKind.wrap .i64 (x2.1 + (1 : Int))) + (1 : Int))) + (1 : Int))) + (1 : Int))) s3.w (fun b => memb [0] (s3.g b) = true) v26_0 A26_0 r30 m30) ?_)))
      rintro r30 _ w30 m30 ⟨rfl, ky30⟩
      obtain ⟨s31, rfl, p31, n31⟩ := nwx s3 w30 40 ky30
      refine pu' rfl (dn (sq (sr (pu' rfl (pu' rfl (dn (cd rfl (fun h32 => ?_) (fun h32 => ?_))))))))
      ·
       refine sr (pu' rfl (dn (sgi ?_)))
       have K33 := (Kx2.st p31 rfl)
       exact re rfl Try.func39 rfl (r_t rfl r_nil) rfl ⟨_, rfl, rfl, z.ky K33⟩
      ·
       refine sk (sr (mv' w0_0 rfl (pu' rfl ?_)))
       have K34 := (Kx2.st p31 rfl)
       have A35 := (A0_0.kp K34)
       refine ix' A35 Try.underlying62 z59 rfl (fun ad36 es36 h0_36 h1_36 he36 ce36 ia36 => ?_)
       obtain ⟨v36_0, v36_1, rfl, A36_0, A36_1⟩ := op59 he36
       refine fa' fa59_5 rfl (lc' ce36 Try.underlying57 rfl (pu' rfl (cl' rfl Try.func106 rfl (fun r40 m40 => laws_heldItemS.calls ((at_ a0 x2.2).Writes) r30 s31.w (fun b => memb [0] (s31.g b) = true) v36_1 A36_1 r40 m40) ?_)))
       rintro r40 _ w40 m40 ⟨rfl, ky40⟩
       obtain ⟨s41, rfl, p41, n41⟩ := nwx s31 w40 41 ky40
       refine pu' rfl (dn (sq (sr (pu' rfl (pu' rfl (dn (cd rfl (fun h42 => ?_) (fun h42 => ?_))))))))
       ·
        refine sr (pu' rfl (dn (sgi ?_)))
        have K43 := (K34.st p41 rfl)
        exact re rfl Try.func39 rfl (r_t rfl r_nil) rfl ⟨_, rfl, rfl, z.ky K43⟩
       ·
        refine sk (sq (sr (mv' w0_0 rfl (pu' rfl ?_))))
        have K44 := (K34.st p41 rfl)
        have A45 := (A0_0.kp K44)
        refine ix' A45 Try.underlying62 z59 rfl (fun ad46 es46 h0_46 h1_46 he46 ce46 ia46 => ?_)
        obtain ⟨v46_0, v46_1, rfl, A46_0, A46_1⟩ := op59 he46
        refine fa' fa59_6 rfl (lc' ce46 Try.underlying4 rfl (pu' rfl (remK rfl rfl rfl rfl rfl rfl rfl rfl (pu' rfl (bne_ Try.underlying4 rfl rfl rfl rfl rfl rfl rfl (dn (cd rfl (fun h50 => ?_) (fun h50 => ?_))))))))
        ·
         exact sr (pu' rfl (dn (sgi (re rfl Try.func39 rfl (r_t rfl r_nil) rfl ⟨_, rfl, rfl, z.ky K44⟩))))
        ·
         refine sk (sr (pu' rfl (pu' rfl (pu' rfl (dn (sq (sr (mv' w0_0 rfl (pu' rfl (ix' A45 Try.underlying62 z59 rfl (fun ad51 es51 h0_51 h1_51 he51 ce51 ia51 => ?_)))))))))))
         obtain ⟨v51_0, v51_1, rfl, A51_0, A51_1⟩ := op59 he51
         refine fa' fa59_7 rfl (lc' ce51 Try.underlying4 rfl (pu' rfl (remK rfl rfl rfl rfl rfl rfl rfl rfl (pu' rfl (bne_ Try.underlying4 rfl rfl rfl rfl rfl rfl rfl (dn (cd rfl (fun h55 => ?_) (fun h55 => ?_))))))))
         ·
          exact sr (pu' rfl (dn (sgi (re rfl Try.func39 rfl (r_t rfl r_nil) rfl ⟨_, rfl, rfl, z.ky K44⟩))))
         ·
          exact sk (rg (pu' rfl (pu' rfl (pu' rfl (dn (ib (rg (pu' rfl (pu' rfl (pu' rfl (dn (lb ih2 ⟨s41, _, rfl, (ue (ue (ue rfl rfl) rfl) rfl), K44⟩))))))))))))
 ·
  exact xt rfl (sgb (sr (pu' rfl (pu' rfl (dn (re rfl Try.func39 rfl (r_t rfl r_nil) rfl ⟨_, rfl, rfl, z.ky Kx2⟩))))))
noncomputable def laws_FnExactEdgeEnd.f (a0 : (List Track)) (a1 : Int) (a2 : Int) (a3 : Bool) : Option (Bool) :=
 ((laws_szTrackS.f a0 (1048576 : Int)).bind fun r2 => (if (decide (r2 < (0 : Int))) = true then (some true) else ((laws_toTrackS.f a0).bind fun r8 => ((spec_EdgeEnd.f r8 a1 a2 a3).bind fun r11 => ((laws_toTrackS.f a0).bind fun r16 => ((impl_EdgeEnd.f r16 a1 a2 a3).bind fun r19 => ((laws_eqTrackS.f r19.1 r11.1).bind fun r23 => (if ((!r23) || (r19.2 != r11.2)) = true then (some false) else ((laws_toTrackS.f a0).bind fun r30 => ((laws_eqTrackS.f r16 r30).bind fun r34 => (if (!r34) = true then (some false) else ((laws_markTrackS.f r16 (1 : Int)).bind fun r38 => ((if (decide (r38.1 < (0 : Int))) = true then (some true) else ((laws_eqTrackS.f r19.1 r11.1).bind fun r48 => (some (!r48)))).bind fun y42 => (if (y42 || (r19.2 != r11.2)) = true then (some false) else ((laws_markTrackS.f r19.1 (1 : Int)).bind fun r56 => ((laws_heldTrackS.f r56.2 (1 : Int)).bind fun r59 => (if (decide (r59 < (0 : Int))) = true then (some false) else (if (r59 != r56.1) = true then (some false) else ((laws_toTrackS.f a0).bind fun r67 => ((impl_EdgeEnd.f r67 a1 a2 a3).bind fun r70 => ((laws_eqTrackS.f r70.1 r11.1).bind fun r74 => (if ((!r74) || (r70.2 != r11.2)) = true then (some false) else ((laws_heldTrackS.f r56.2 (1 : Int)).bind fun r80 => (if (decide (r80 < (0 : Int))) = true then (some false) else (if (r80 != r56.1) = true then (some false) else (some true))))))))))))))))))))))))))
def laws_FnExactEdgeEnd.Q (w : World) (F : Nat → Prop) (r : Bool) (v : Value) (w' : World) : Prop :=
 v = (.bool r) ∧ Ky [] w w'
set_option maxHeartbeats 4000000 in
set_option maxRecDepth 100000 in
theorem laws_FnExactEdgeEnd.calls (a0 : (List Track)) (a1 : Int) (a2 : Int) (a3 : Bool) (w : World) (F : Nat → Prop) (w0_0 : Value) (h0_0 : (Kd.sl 149 kd149).rd w [w0_0] a0 F) (r : Bool) (m : laws_FnExactEdgeEnd.f a0 a1 a2 a3 = some r) :
  Calls Try.prog 6 #[w0_0, (.int .i64 a1), (.int .i64 a2), (.bool a3)] w (RT (laws_FnExactEdgeEnd.Q w F) r) := by
 obtain ⟨s0, rfl, kp0, z⟩ := start0 w F
 have A0_0 := z.rd h0_0
 refine calls_of_TM (args := [w0_0, (.int .i64 a1), (.int .i64 a2), (.bool a3)]) Try.func6 Try.ntmps6 rfl rfl m ?_
 unfold laws_FnExactEdgeEnd.f
 refine sr (pu' rfl (dn (sr (pu' rfl (dn (sr (mv' w0_0 rfl (pu' rfl (cl' rfl Try.func35 rfl (fun r2 m2 => laws_szTrackS.calls a0 (1048576 : Int) s0.w (fun b => memb [0] (s0.g b) = true) w0_0 A0_0 r2 m2) ?_)))))))))
 rintro r2 _ w2 m2 ⟨rfl, ky2⟩
 obtain ⟨s3, rfl, p3, n3⟩ := nwx s0 w2 40 ky2
 refine pu' rfl (dn (sq (sr (pu' rfl (pu' rfl (dn (cd rfl (fun h4 => ?_) (fun h4 => ?_))))))))
 ·
  refine sr (pu' rfl (dn ?_))
  have K5 := (kp0.st p3 rfl)
  exact re rfl Try.func6 rfl (r_t rfl r_nil) rfl ⟨_, rfl, rfl, z.ky K5⟩
 ·
  refine sk (sr (mv' w0_0 rfl ?_))
  have K6 := (kp0.st p3 rfl)
  have A7 := (A0_0.kp K6)
  refine cl' rfl Try.func36 rfl (fun r8 m8 => laws_toTrackS.calls a0 s3.w (fun b => memb [0] (s3.g b) = true) w0_0 A7 r8 m8) ?_
  rintro r8 v8_0 w8 m8 ⟨f8_0, ky8⟩
  obtain ⟨s9, rfl, p9, n9⟩ := nwx s3 w8 41 ky8
  have A8_0 := f8_0.c n9
  refine pu' rfl (pu' rfl (pu' rfl (cl' rfl Try.func33 rfl (fun r11 m11 => spec_EdgeEnd.calls r8 a1 a2 a3 s9.w (fun b => memb [41] (s9.g b) = true) v8_0 A8_0.rd r11 m11) ?_)))
  rintro r11 _ w11 m11 ⟨v11_0, rfl, f11_0, ky11⟩
  obtain ⟨s12, rfl, p12, n12⟩ := nwx s9 w11 42 ky11
  have A11_0 := f11_0.c n12
  refine pu' rfl (pu' (v := v11_0) rfl (pu' (v := (.int .i64 r11.2)) rfl (asg' v11_0 rfl (pu' rfl (dn (sr (mv' w0_0 rfl ?_)))))))
  have K14 := (K6.st (tr2 p9 p12) rfl)
  have A15 := (A0_0.kp K14)
  refine cl' rfl Try.func36 rfl (fun r16 m16 => laws_toTrackS.calls a0 s12.w (fun b => memb [0] (s12.g b) = true) w0_0 A15 r16 m16) ?_
  rintro r16 v16_0 w16 m16 ⟨f16_0, ky16⟩
  obtain ⟨s17, rfl, p17, n17⟩ := nwx s12 w16 43 ky16
  have A16_0 := f16_0.c n17
  refine asg' v16_0 rfl (dn (sr (mv' v16_0 rfl (pu' rfl (pu' rfl (pu' rfl (cl' rfl Try.func32 rfl (fun r19 m19 => impl_EdgeEnd.calls r16 a1 a2 a3 s17.w (fun b => memb [43] (s17.g b) = true) v16_0 A16_0.rd r19 m19) ?_)))))))
  rintro r19 _ w19 m19 ⟨v19_0, rfl, f19_0, ky19⟩
  obtain ⟨s20, rfl, p20, n20⟩ := nwx s17 w19 44 ky19
  have A19_0 := f19_0.c n20
  refine pu' rfl (pu' (v := v19_0) rfl (pu' (v := (.int .i64 r19.2)) rfl (asg' v19_0 rfl (pu' rfl (dn (sq (sr (mv' v19_0 rfl (mv' v11_0 rfl ?_)))))))))
  have A22 := (A11_0.st (tr2 p17 p20) rfl)
  refine cl' rfl Try.func37 rfl (fun r23 m23 => laws_eqTrackS.calls r19.1 r11.1 s20.w (fun b => memb [44, 42] (s20.g b) = true) v19_0 v11_0 (A19_0.rd.sub (D := [44, 42]) rfl) (A22.rd.sub (D := [44, 42]) rfl) r23 m23) ?_
  rintro r23 _ w23 m23 ⟨rfl, ky23⟩
  obtain ⟨s24, rfl, p24, n24⟩ := nwx s20 w23 45 ky23
  refine pu' rfl (pu' rfl (jy [48, 49, 50, 51, 52] [] 52 (.bool ((!r23) || (r19.2 != r11.2))) rfl (fun Kg25 => ?_) (fun j25 => ?_)))
  ·
   rcases Bool.eq_false_or_eq_true (!r23) with hb25 | hb25
   ·
    exact sbT hb25 (uw' rfl (uw' rfl (uw' rfl (pu' rfl (Kg25 _ (Ag.put ((Ag.put ((Ag.put ((Ag.put (Ag.base rfl) rfl)) rfl)) rfl)) rfl) (by rw [hb25]; rfl))))))
   ·
    exact sbT hb25 (pu' rfl (pu' rfl (pu' rfl (pu' rfl (Kg25 _ (Ag.put ((Ag.put ((Ag.put ((Ag.put (Ag.base rfl) rfl)) rfl)) rfl)) rfl) (by rw [hb25]; rfl))))))
  refine dn (cd rfl (fun h26 => ?_) (fun h26 => ?_))
  ·
   refine sr (pu' rfl (dn ?_))
   have K27 := (K14.st (tr3 p17 p20 p24) rfl)
   exact re rfl Try.func6 rfl (r_t rfl r_nil) rfl ⟨_, rfl, rfl, z.ky K27⟩
  ·
   refine sk (sq (sr (mv' v16_0 rfl (mv' w0_0 rfl ?_))))
   have K28 := (K14.st (tr3 p17 p20 p24) rfl)
   have A29 := (A0_0.kp K28)
   refine cl' rfl Try.func36 rfl (fun r30 m30 => laws_toTrackS.calls a0 s24.w (fun b => memb [0] (s24.g b) = true) w0_0 A29 r30 m30) ?_
   rintro r30 v30_0 w30 m30 ⟨f30_0, ky30⟩
   obtain ⟨s31, rfl, p31, n31⟩ := nwx s24 w30 46 ky30
   have A30_0 := f30_0.c n31
   have A33 := (A16_0.st (tr3 p20 p24 p31) rfl)
   refine cl' rfl Try.func37 rfl (fun r34 m34 => laws_eqTrackS.calls r16 r30 s31.w (fun b => memb [43, 46] (s31.g b) = true) v16_0 v30_0 (A33.rd.sub (D := [43, 46]) rfl) (A30_0.rd.sub (D := [43, 46]) rfl) r34 m34) ?_
   rintro r34 _ w34 m34 ⟨rfl, ky34⟩
   obtain ⟨s35, rfl, p35, n35⟩ := nwx s31 w34 47 ky34
   refine pu' rfl (dn (cd rfl (fun h36 => ?_) (fun h36 => ?_)))
   ·
    refine sr (pu' rfl (dn ?_))
    have K37 := (K28.st (tr2 p31 p35) rfl)
    exact re rfl Try.func6 rfl (r_t rfl r_nil) rfl ⟨_, rfl, rfl, z.ky K37⟩
   ·
    refine sk (sr (pu' rfl (dn (sr (mv' v16_0 rfl (pu' rfl ?_))))))
    have A39 := (A33.st p35 rfl)
    obtain ⟨os38, ho38, hn38, hc38⟩ := A39
    refine cl' rfl Try.func38 rfl (fun r38 m38 => laws_markTrackS.calls r16 (1 : Int) s35.w (fun b => memb [] (s35.g b) = true) v16_0 os38 ho38 hn38 (apart_of hc38 rfl) r38 m38) ?_
    rintro r38 _ w38 m38 ⟨rfl, w38_, ky38⟩
    obtain ⟨s40, rfl, p40, A40⟩ := nwo 48 hc38 ky38 w38_
    refine pu' rfl (dn (sq (sr (pu' rfl (pu' rfl (pu' rfl (ji [8, 9, 10, 11, 12] (fun (y42 : Bool) (e : Env) (w : World) => ∃ (s : St) (e0 : Env), w = s.w ∧ e = upd (upd (upd (upd (upd (upd (upd (upd (upd e0 0 w0_0) 1 (.int .i64 a1)) 2 (.int .i64 a2)) 3 (.bool a3)) 10 v11_0) 11 (.int .i64 r11.2)) 13 v19_0) 14 (.int .i64 r19.2)) 68 (.bool y42) ∧ Kp s0 s ∧ OwF (Kd.sl 59 kd59) s [v11_0] r11.1 42 ∧ OwF (Kd.sl 59 kd59) s [v19_0] r19.1 44) (fun Gj42 Kj42 => ?_) ?_)))))))
    ·
     rcases Bool.eq_false_or_eq_true (decide (r38.1 < (0 : Int))) with hb42 | hb42
     ·
      refine sbT hb42 ?_
      rw [if_pos hb42]
      refine uw' rfl (uw' rfl (uw' rfl (uw' rfl (pu' rfl ?_))))
      have A43 := (A22.st (tr4 p24 p31 p35 p40) rfl)
      have A44 := (A19_0.st (tr4 p24 p31 p35 p40) rfl)
      have K45 := (K28.st (tr3 p31 p35 p40) rfl)
      exact Kj42 _ _ _ ⟨s40, _, rfl, (ue (ue (ue (ue (ue (ue (ue (ue (ue rfl rfl) rfl) rfl) rfl) rfl) rfl) rfl) rfl) rfl), K45, A43, A44⟩
     ·
      refine sbT hb42 ?_
      rw [if_neg (by rw [hb42]; decide)]
      refine mv' v19_0 rfl (mv' v11_0 rfl ?_)
      have A46 := (A19_0.st (tr4 p24 p31 p35 p40) rfl)
      have A47 := (A22.st (tr4 p24 p31 p35 p40) rfl)
      refine cl' rfl Try.func37 rfl (fun r48 m48 => laws_eqTrackS.calls r19.1 r11.1 s40.w (fun b => memb [44, 42] (s40.g b) = true) v19_0 v11_0 (A46.rd.sub (D := [44, 42]) rfl) (A47.rd.sub (D := [44, 42]) rfl) r48 m48) ?_
      rintro r48 _ w48 m48 ⟨rfl, ky48⟩
      obtain ⟨s49, rfl, p49, n49⟩ := nwx s40 w48 49 ky48
      refine pu' rfl (pu' rfl ?_)
      have A50 := (A47.st p49 rfl)
      have A51 := (A46.st p49 rfl)
      have K52 := (K28.st (tr4 p31 p35 p40 p49) rfl)
      exact Kj42 _ _ _ ⟨s49, _, rfl, (ue (ue (ue (ue (ue (ue (ue (ue (ue rfl rfl) rfl) rfl) rfl) rfl) rfl) rfl) rfl) rfl), K52, A50, A51⟩
    rintro y42 _ _ ⟨s53, _, rfl, rfl, Ky42, Cy42_13, Cy42_21⟩
    refine pu' rfl (jy [69, 70, 71, 72, 73] [] 73 (.bool (y42 || (r19.2 != r11.2))) rfl (fun Kg54 => ?_) (fun j54 => ?_))
    ·
     rcases Bool.eq_false_or_eq_true y42 with hb54 | hb54
     ·
      exact sbT hb54 (uw' rfl (uw' rfl (uw' rfl (pu' rfl (Kg54 _ (Ag.put ((Ag.put ((Ag.put ((Ag.put (Ag.base rfl) rfl)) rfl)) rfl)) rfl) (by rw [hb54]; rfl))))))
     ·
      exact sbT hb54 (pu' rfl (pu' rfl (pu' rfl (pu' rfl (Kg54 _ (Ag.put ((Ag.put ((Ag.put ((Ag.put (Ag.base rfl) rfl)) rfl)) rfl)) rfl) (by rw [hb54]; rfl))))))
    refine dn (cd rfl (fun h55 => ?_) (fun h55 => ?_))
    ·
     exact sr (pu' rfl (dn (re rfl Try.func6 rfl (r_t rfl r_nil) rfl ⟨_, rfl, rfl, z.ky Ky42⟩)))
    ·
     refine sk (sr (pu' rfl (dn (sr (mv' v19_0 rfl (pu' rfl ?_))))))
     obtain ⟨os56, ho56, hn56, hc56⟩ := Cy42_21
     refine cl' rfl Try.func38 rfl (fun r56 m56 => laws_markTrackS.calls r19.1 (1 : Int) s53.w (fun b => memb [] (s53.g b) = true) v19_0 os56 ho56 hn56 (apart_of hc56 rfl) r56 m56) ?_
     rintro r56 _ w56 m56 ⟨rfl, w56_, ky56⟩
     obtain ⟨s57, rfl, p57, A57⟩ := nwo 50 hc56 ky56 w56_
     refine pu' rfl (dn (sr (pu' rfl (dn (sr (mv' v19_0 rfl (pu' rfl (cl' rfl Try.func39 rfl (fun r59 m59 => laws_heldTrackS.calls r56.2 (1 : Int) s57.w (fun b => memb [44] (s57.g b) = true) v19_0 A57.rd r59 m59) ?_))))))))
     rintro r59 _ w59 m59 ⟨rfl, ky59⟩
     obtain ⟨s60, rfl, p60, n60⟩ := nwx s57 w59 51 ky59
     refine pu' rfl (dn (sq (sr (pu' rfl (pu' rfl (dn (cd rfl (fun h61 => ?_) (fun h61 => ?_))))))))
     ·
      refine sr (pu' rfl (dn ?_))
      have K62 := (Ky42.st (tr2 p57 p60) rfl)
      exact re rfl Try.func6 rfl (r_t rfl r_nil) rfl ⟨_, rfl, rfl, z.ky K62⟩
     ·
      refine sk (sq (sr (pu' rfl (pu' rfl (pu' rfl (dn (cd rfl (fun h63 => ?_) (fun h63 => ?_))))))))
      ·
       refine sr (pu' rfl (dn ?_))
       have K64 := (Ky42.st (tr2 p57 p60) rfl)
       exact re rfl Try.func6 rfl (r_t rfl r_nil) rfl ⟨_, rfl, rfl, z.ky K64⟩
      ·
       refine sk (sr (mv' w0_0 rfl ?_))
       have K65 := (Ky42.st (tr2 p57 p60) rfl)
       have A66 := (A0_0.kp K65)
       refine cl' rfl Try.func36 rfl (fun r67 m67 => laws_toTrackS.calls a0 s60.w (fun b => memb [0] (s60.g b) = true) w0_0 A66 r67 m67) ?_
       rintro r67 v67_0 w67 m67 ⟨f67_0, ky67⟩
       obtain ⟨s68, rfl, p68, n68⟩ := nwx s60 w67 52 ky67
       have A67_0 := f67_0.c n68
       refine pu' rfl (pu' rfl (pu' rfl (cl' rfl Try.func32 rfl (fun r70 m70 => impl_EdgeEnd.calls r67 a1 a2 a3 s68.w (fun b => memb [52] (s68.g b) = true) v67_0 A67_0.rd r70 m70) ?_)))
       rintro r70 _ w70 m70 ⟨v70_0, rfl, f70_0, ky70⟩
       obtain ⟨s71, rfl, p71, n71⟩ := nwx s68 w70 53 ky70
       have A70_0 := f70_0.c n71
       refine pu' rfl (pu' (v := v70_0) rfl (pu' (v := (.int .i64 r70.2)) rfl (asg' v70_0 rfl (pu' rfl (dn (sq (sr (mv' v70_0 rfl (mv' v11_0 rfl ?_)))))))))
       have A73 := (Cy42_13.st (tr4 p57 p60 p68 p71) rfl)
       refine cl' rfl Try.func37 rfl (fun r74 m74 => laws_eqTrackS.calls r70.1 r11.1 s71.w (fun b => memb [53, 42] (s71.g b) = true) v70_0 v11_0 (A70_0.rd.sub (D := [53, 42]) rfl) (A73.rd.sub (D := [53, 42]) rfl) r74 m74) ?_
       rintro r74 _ w74 m74 ⟨rfl, ky74⟩
       obtain ⟨s75, rfl, p75, n75⟩ := nwx s71 w74 54 ky74
       refine pu' rfl (pu' rfl (jy [98, 99, 100, 101, 102] [] 102 (.bool ((!r74) || (r70.2 != r11.2))) rfl (fun Kg76 => ?_) (fun j76 => ?_)))
       ·
        rcases Bool.eq_false_or_eq_true (!r74) with hb76 | hb76
        ·
         exact sbT hb76 (uw' rfl (uw' rfl (uw' rfl (pu' rfl (Kg76 _ (Ag.put ((Ag.put ((Ag.put ((Ag.put (Ag.base rfl) rfl)) rfl)) rfl)) rfl) (by rw [hb76]; rfl))))))
        ·
         exact sbT hb76 (pu' rfl (pu' rfl (pu' rfl (pu' rfl (Kg76 _ (Ag.put ((Ag.put ((Ag.put ((Ag.put (Ag.base rfl) rfl)) rfl)) rfl)) rfl) (by rw [hb76]; rfl))))))
       refine dn (cd rfl (fun h77 => ?_) (fun h77 => ?_))
       ·
        refine sr (pu' rfl (dn ?_))
        have K78 := (K65.st (tr3 p68 p71 p75) rfl)
        exact re rfl Try.func6 rfl (r_t rfl r_nil) rfl ⟨_, rfl, rfl, z.ky K78⟩
       ·
        refine sk (sr (pu' rfl (dn (sr (mv' v19_0 rfl (pu' rfl ?_))))))
        have A79 := (A57.st (tr4 p60 p68 p71 p75) rfl)
        refine cl' rfl Try.func39 rfl (fun r80 m80 => laws_heldTrackS.calls r56.2 (1 : Int) s75.w (fun b => memb [44] (s75.g b) = true) v19_0 A79.rd r80 m80) ?_
        rintro r80 _ w80 m80 ⟨rfl, ky80⟩
        obtain ⟨s81, rfl, p81, n81⟩ := nwx s75 w80 55 ky80
        refine pu' rfl (dn (sq (sr (pu' rfl (pu' rfl (dn (cd rfl (fun h82 => ?_) (fun h82 => ?_))))))))
        ·
         refine sr (pu' rfl (dn ?_))
         have K83 := (K65.st (tr4 p68 p71 p75 p81) rfl)
         exact re rfl Try.func6 rfl (r_t rfl r_nil) rfl ⟨_, rfl, rfl, z.ky K83⟩
        ·
         refine sk (sq (sr (pu' rfl (pu' rfl (pu' rfl (dn (cd rfl (fun h84 => ?_) (fun h84 => ?_))))))))
         ·
          refine sr (pu' rfl (dn ?_))
          have K85 := (K65.st (tr4 p68 p71 p75 p81) rfl)
          exact re rfl Try.func6 rfl (r_t rfl r_nil) rfl ⟨_, rfl, rfl, z.ky K85⟩
         ·
          refine sk (sr (pu' rfl (dn ?_)))
          have K86 := (K65.st (tr4 p68 p71 p75 p81) rfl)
          exact re rfl Try.func6 rfl (r_t rfl r_nil) rfl ⟨_, rfl, rfl, z.ky K86⟩
end Go.Proofs.Ytcagjdngannneaa
