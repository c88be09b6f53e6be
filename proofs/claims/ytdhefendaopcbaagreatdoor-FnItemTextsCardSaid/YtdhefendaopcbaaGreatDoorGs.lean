/- The functions as models, and that the calls come to what the models tell. -/
import Derived.Test.YtdhefendaopcbaaGreatDoorGsb
set_option linter.unusedVariables false
set_option linter.unusedSimpArgs false
set_option maxHeartbeats 4000000
set_option maxRecDepth 100000
noncomputable section
namespace Go.Proofs.YtdhefendaopcbaaGreatDoor
open Go V Tryz
def spec_OpOk.f (a0 : Op) : Option (Bool) :=
 ((spec_l5in.f a0.Kind (1 : Int) (13 : Int)).bind fun r7 => ((if (!r7) = true then (some true) else ((if (decide (a0.Kind ≤ (8 : Int))) = true then ((spec_l5in.f a0.Seat (0 : Int) (7 : Int)).bind fun r14 => (some (!r14))) else (some false)).bind fun y13 => (some y13))).bind fun y9 => (if y9 = true then (some false) else ((if ((decide (a0.Kind ≥ (2 : Int))) && (decide (a0.Kind ≤ (6 : Int)))) = true then ((spec_ItemClean.f a0.Key).bind fun r27 => ((spec_KeyOk.f r27).bind fun r30 => (some (!r30)))) else (some false)).bind fun y25 => (if y25 = true then (some false) else (if (a0.Kind == (1 : Int)) = true then ((spec_l5in.f a0.Level (0 : Int) (1 : Int)).bind fun r38 => (some r38)) else (if (a0.Kind == (3 : Int)) = true then ((spec_ItemOk.f a0.Value).bind fun r43 => (some (r43 && (a0.Value.Kind != (0 : Int))))) else (if (a0.Kind == (5 : Int)) = true then ((spec_ItemClean.f a0.To).bind fun r50 => ((spec_KeyOk.f r50).bind fun r53 => ((if r53 = true then ((spec_l5in.f a0.N (0 : Int) (50 : Int)).bind fun r57 => (some r57)) else (some false)).bind fun y55 => (some y55)))) else (if (a0.Kind == (6 : Int)) = true then ((spec_ItemClean.f a0.To).bind fun r64 => ((spec_KeyOk.f r64).bind fun r67 => (some r67))) else (if (a0.Kind == (11 : Int)) = true then ((spec_l5in.f a0.N (0 : Int) (15 : Int)).bind fun r71 => (some r71)) else (if (a0.Kind == (12 : Int)) = true then (some (decide (a0.N ≥ (0 : Int)))) else (if (a0.Kind == (13 : Int)) = true then (some (decide ((a0.Keep.length : Int) ≤ (600 : Int)))) else (some true)))))))))))))
def spec_OpOk.Q (w : World) (F : Nat → Prop) (r : Bool) (v : Value) (w' : World) : Prop :=
 v = (.bool r) ∧ Ky [] w w'
theorem spec_OpOk.calls (a0 : Op) (w : World) (F : Nat → Prop) (w0_0 : Value) (w0_1 : Value) (w0_2 : Value) (w0_3 : Value) (w0_4 : Value) (w0_5 : Value) (w0_6 : Value) (h0_0 : Kd.flt.rd w [w0_0] a0.Key.F F) (h0_1 : Ya.rd w [w0_1] a0.Key.T F) (h0_2 : Kd.flt.rd w [w0_2] a0.To.F F) (h0_3 : Ya.rd w [w0_3] a0.To.T F) (h0_4 : Kd.flt.rd w [w0_4] a0.Value.F F) (h0_5 : Ya.rd w [w0_5] a0.Value.T F) (h0_6 : (Kd.sl 4 Kd.bool).rd w [w0_6] a0.Keep F) (r : Bool) (m : spec_OpOk.f a0 = some r) :
  Calls prog 14 #[(.agg #[(iI a0.Kind), (iI a0.Seat), (iI a0.Level), (iI a0.N), (iI a0.Key.Kind), (iI a0.Key.N), w0_0, w0_1, (iI a0.To.Kind), (iI a0.To.N), w0_2, w0_3, (iI a0.Value.Kind), (iI a0.Value.N), w0_4, w0_5, w0_6])] w (RT (spec_OpOk.Q w F) r) := by
 obtain ⟨s0, rfl, kp0, z⟩ := Xq w F
 have A0_2 := fl_of h0_2
 have A0_3 := z.rd h0_3
 refine Xd (args := [(.agg #[(iI a0.Kind), (iI a0.Seat), (iI a0.Level), (iI a0.N), (iI a0.Key.Kind), (iI a0.Key.N), w0_0, w0_1, (iI a0.To.Kind), (iI a0.To.N), w0_2, w0_3, (iI a0.Value.Kind), (iI a0.Value.N), w0_4, w0_5, w0_6])]) func14 ntmps14 rfl rfl m ?_
 unfold spec_OpOk.f
 refine sr (bx (cs := [(iI a0.Kind), (iI a0.Seat), (iI a0.Level), (iI a0.N), (iI a0.Key.Kind), (iI a0.Key.N), w0_0, w0_1, (iI a0.To.Kind), (iI a0.To.N), w0_2, w0_3, (iI a0.Value.Kind), (iI a0.Value.N), w0_4, w0_5, w0_6]) 40 rfl rfl rfl rfl rfl rfl (fun b5 s5 p5 B5 => ?_))
 refine Xc rfl (dn (sq (sr (Xt fa35_0 rfl (ld' B5 u3 rfl (clV 41 rfl func42 rfl (spec_l5in.calls a0.Kind (1 : Int) (13 : Int) s5.w (mm [] s5)) (fun r7 s8 p8 n8 => ?_)))))))
 refine Xc rfl (Xc rfl (ji [] (fun (y9 : Bool) e w => ∃ (s : St) (e0 : Env), w = s.w ∧ e = upd (upd e0 1 (pB b5)) 18 (.bool y9) ∧ Kp s0 s ∧ BlF s b5 35 [(iI a0.Kind), (iI a0.Seat), (iI a0.Level), (iI a0.N), (iI a0.Key.Kind), (iI a0.Key.N), w0_0, w0_1, (iI a0.To.Kind), (iI a0.To.N), w0_2, w0_3, (iI a0.Value.Kind), (iI a0.Value.N), w0_4, w0_5, w0_6] 40) (fun Gj9 Kj9 => ?_) ?_))
 ·
  rcases bft (!r7) with hb9 | hb9
  ·
   refine sbT hb9 ?_
   rw [if_pos hb9]
   refine Xj rfl (Xj rfl (Xj rfl (Xj rfl (Xj rfl (Xj rfl (Xj rfl (Xj rfl (Xj rfl (Xc rfl ?_)))))))))
   exact Kj9 _ _ _ ⟨s8, _, rfl, (ue (ue rfl rfl) rfl), (kp0.st (Xk p5 p8) rfl), (B5.st p8 rfl)⟩
  refine sbT hb9 ?_
  rw [if_neg (by rw [hb9]; decide)]
  refine Xt fa35_0 rfl ?_
  have A12 := B5.st p8 rfl
  refine ld' A12 u3 rfl (Xc rfl (Xc rfl (ji [14] (fun (y13 : Bool) e w => ∃ (s : St) (e0 : Env), w = s.w ∧ e = upd (upd (upd e0 1 (pB b5)) 8 (.bool false)) 17 (.bool y13) ∧ Kp s0 s ∧ BlF s b5 35 [(iI a0.Kind), (iI a0.Seat), (iI a0.Level), (iI a0.N), (iI a0.Key.Kind), (iI a0.Key.N), w0_0, w0_1, (iI a0.To.Kind), (iI a0.To.N), w0_2, w0_3, (iI a0.Value.Kind), (iI a0.Value.N), w0_4, w0_5, w0_6] 40) (fun Gj13 Kj13 => ?_) ?_)))
  ·
   rcases bft (decide (a0.Kind ≤ (8 : Int))) with hb13 | hb13
   ·
    refine sbT hb13 ?_
    rw [if_pos hb13]
    refine Xt fa35_1 rfl (ld' A12 u3 rfl (clV 42 rfl func42 rfl (spec_l5in.calls a0.Seat (0 : Int) (7 : Int) s8.w (mm [] s8)) (fun r14 s15 p15 n15 => ?_)))
    refine Xc rfl (Xc rfl ?_)
    exact Kj13 _ _ _ ⟨s15, _, rfl, (ue (ue (ue rfl rfl) rfl) rfl), (kp0.st (Xw p5 p8 p15) rfl), (A12.st p15 rfl)⟩
   refine sbT hb13 ?_
   rw [if_neg (by rw [hb13]; decide)]
   refine Xj rfl (Xj rfl (Xj rfl (Xj rfl (Xc rfl ?_))))
   exact Kj13 _ _ _ ⟨s8, _, rfl, (ue (ue (ue rfl rfl) rfl) rfl), (kp0.st (Xk p5 p8) rfl), A12⟩
  rintro y13 _ _ ⟨s19, _, rfl, rfl, Ky13, By13_b5⟩
  exact Xc rfl (Kj9 _ _ _ ⟨s19, _, rfl, (ue (ue rfl rfl) rfl), Ky13, By13_b5⟩)
 rintro y9 _ _ ⟨s21, _, rfl, rfl, Ky9, By9_b5⟩
 refine dn (cd rfl (fun h23 => ?_) (fun h23 => ?_))
 ·
  exact sr (Xc rfl (dn (re rfl func14 rfl (r_t rfl Xg) rfl ⟨_, rfl, rfl, z.ky Ky9⟩)))
 refine sk (sr (Xt fa35_0 rfl (ld' By9_b5 u3 rfl (Xc rfl (Xc rfl (jy [22, 23, 24, 25, 26] [8] 26 (.bool ((decide (a0.Kind ≥ (2 : Int))) && (decide (a0.Kind ≤ (6 : Int))))) rfl (fun Kg24 => ?_) (fun j24 => ?_)))))))
 ·
  rcases bft (decide (a0.Kind ≥ (2 : Int))) with hb24 | hb24
  ·
   exact sbT hb24 (Xt fa35_0 rfl (ld' By9_b5 u3 rfl (Xc rfl (Xc rfl (Kg24 _ (Ag.put ((Ag.put ((Ag.put ((Ag.put (Ag.base rfl) rfl)) rfl)) rfl)) rfl) (by rw [hb24]; rfl))))))
  exact sbT hb24 (Xj rfl (Xj rfl (Xj rfl (Xc rfl (Kg24 _ (Ag.put ((Ag.put ((Ag.put ((Ag.put (Ag.base rfl) rfl)) rfl)) rfl)) rfl) (by rw [hb24]; rfl))))))
 refine Xc rfl (dn (sq (sr (Xc rfl (Xc rfl (ji [] (fun (y25 : Bool) e w => ∃ (s : St) (e0 : Env), w = s.w ∧ e = upd (upd e0 1 (pB b5)) 34 (.bool y25) ∧ Kp s0 s ∧ BlF s b5 35 [(iI a0.Kind), (iI a0.Seat), (iI a0.Level), (iI a0.N), (iI a0.Key.Kind), (iI a0.Key.N), w0_0, w0_1, (iI a0.To.Kind), (iI a0.To.N), w0_2, w0_3, (iI a0.Value.Kind), (iI a0.Value.N), w0_4, w0_5, w0_6] 40) (fun Gj25 Kj25 => ?_) ?_))))))
 ·
  rcases bft ((decide (a0.Kind ≥ (2 : Int))) && (decide (a0.Kind ≤ (6 : Int)))) with hb25 | hb25
  ·
   refine sbT hb25 ?_
   rw [if_pos hb25]
   refine Xt fa35_4 rfl (lda' (es := [(iI a0.Key.Kind), (iI a0.Key.N), w0_0, w0_1]) By9_b5 u26 z26 rfl ?_)
   refine cl' rfl func44 rfl (spec_ItemClean.calls a0.Key s21.w (mm [0] s21) w0_0 w0_1 ((Xh (s := s21) (fl_of h0_0)).sub (D := [0]) rfl) ((z.rd h0_1).kp Ky9)) ?_
   rintro r27 _ w27 m27 ⟨v27_0, v27_1, rfl, f27_0, ky27⟩
   obtain ⟨s28, rfl, p28, n28⟩ := nwx s21 w27 43 ky27
   obtain ⟨hu27_0_0, Au27_0_1⟩ := ap26 (f27_0.c n28)
   refine clV 44 rfl func43 rfl (spec_KeyOk.calls r27 s28.w (mm [43] s28) v27_0 v27_1 ((Xh (s := s28) hu27_0_0).sub (D := [43]) rfl) Au27_0_1.rd) (fun r30 s31 p31 n31 => ?_)
   refine Xc rfl (Xc rfl ?_)
   exact Kj25 _ _ _ ⟨s31, _, rfl, (ue (ue rfl rfl) rfl), (Ky9.st (Xk p28 p31) rfl), (By9_b5.st (Xk p28 p31) rfl)⟩
  refine sbT hb25 ?_
  rw [if_neg (by rw [hb25]; decide)]
  exact Xj rfl (Xj rfl (Xj rfl (Xj rfl (Xj rfl (Xc rfl (Kj25 _ _ _ ⟨s21, _, rfl, (ue (ue rfl rfl) rfl), Ky9, By9_b5⟩))))))
 rintro y25 _ _ ⟨s34, _, rfl, rfl, Ky25, By25_b5⟩
 refine dn (cd rfl (fun h36 => ?_) (fun h36 => ?_))
 ·
  exact sr (Xc rfl (dn (re rfl func14 rfl (r_t rfl Xg) rfl ⟨_, rfl, rfl, z.ky Ky25⟩)))
 refine sk (sq (sr (Xt fa35_0 rfl (ld' By25_b5 u3 rfl (dn (bl (sr (Xc rfl (Xc rfl (dn (cd rfl (fun h37 => ?_) (fun h37 => ?_))))))))))))
 ·
  refine sr (Xt fa35_2 rfl (ld' By25_b5 u3 rfl (clV 45 rfl func42 rfl (spec_l5in.calls a0.Level (0 : Int) (1 : Int) s34.w (mm [] s34)) (fun r38 s39 p39 n39 => ?_))))
  refine Xc rfl (dn ?_)
  exact re rfl func14 rfl (r_t rfl Xg) rfl ⟨_, rfl, rfl, z.ky (Ky25.st p39 rfl)⟩
 refine sr (Xc rfl (Xc rfl (dn (cd rfl (fun h41 => ?_) (fun h41 => ?_)))))
 ·
  refine sr (Xt fa35_6 rfl (lda' (es := [(iI a0.Value.Kind), (iI a0.Value.N), w0_4, w0_5]) By25_b5 u26 z26 rfl ?_))
  refine clV 46 rfl func9 rfl (spec_ItemOk.calls a0.Value s34.w (mm [0] s34) w0_4 w0_5 ((Xh (s := s34) (fl_of h0_4)).sub (D := [0]) rfl) ((z.rd h0_5).kp Ky25)) (fun r43 s44 p44 n44 => ?_)
  refine Xc rfl (jy [47, 48, 49, 50, 51, 52] [9] 52 (.bool (r43 && (a0.Value.Kind != (0 : Int)))) rfl (fun Kg45 => ?_) (fun j45 => ?_))
  ·
   rcases bft r43 with hb45 | hb45
   ·
    refine sbT hb45 (Xt fa35_6 rfl (Xt fa26_0 rfl ?_))
    exact ld' (By25_b5.st p44 rfl) u3 rfl (Xc rfl (Xc rfl (Kg45 _ (Ag.put ((Ag.put ((Ag.put ((Ag.put ((Ag.put (Ag.base rfl) rfl)) rfl)) rfl)) rfl)) rfl) (by rw [hb45]; rfl))))
   exact sbT hb45 (Xj rfl (Xj rfl (Xj rfl (Xj rfl (Xc rfl (Kg45 _ (Ag.put ((Ag.put ((Ag.put ((Ag.put ((Ag.put (Ag.base rfl) rfl)) rfl)) rfl)) rfl)) rfl) (by rw [hb45]; rfl)))))))
  refine Xc rfl (dn ?_)
  exact re rfl func14 rfl (r_t rfl Xg) rfl ⟨_, rfl, rfl, z.ky (Ky25.st p44 rfl)⟩
 refine sr (Xc rfl (Xc rfl (dn (cd rfl (fun h48 => ?_) (fun h48 => ?_)))))
 ·
  refine sr (Xt fa35_5 rfl (lda' (es := [(iI a0.To.Kind), (iI a0.To.N), w0_2, w0_3]) By25_b5 u26 z26 rfl ?_))
  refine cl' rfl func44 rfl (spec_ItemClean.calls a0.To s34.w (mm [0] s34) w0_2 w0_3 ((Xh (s := s34) A0_2).sub (D := [0]) rfl) (A0_3.kp Ky25)) ?_
  rintro r50 _ w50 m50 ⟨v50_0, v50_1, rfl, f50_0, ky50⟩
  obtain ⟨s51, rfl, p51, n51⟩ := nwx s34 w50 47 ky50
  obtain ⟨hu50_0_0, Au50_0_1⟩ := ap26 (f50_0.c n51)
  refine clV 48 rfl func43 rfl (spec_KeyOk.calls r50 s51.w (mm [47] s51) v50_0 v50_1 ((Xh (s := s51) hu50_0_0).sub (D := [47]) rfl) Au50_0_1.rd) (fun r53 s54 p54 n54 => ?_)
  refine Xc rfl (ji [9] (fun (y55 : Bool) e w => ∃ (s : St) (e0 : Env), w = s.w ∧ e = upd e0 63 (.bool y55) ∧ Kp s0 s) (fun Gj55 Kj55 => ?_) ?_)
  ·
   rcases bft r53 with hb55 | hb55
   ·
    refine sbT hb55 ?_
    rw [if_pos hb55]
    refine Xt fa35_3 rfl (ld' (By25_b5.st (Xk p51 p54) rfl) u3 rfl (clV 49 rfl func42 rfl (spec_l5in.calls a0.N (0 : Int) (50 : Int) s54.w (mm [] s54)) (fun r57 s58 p58 n58 => ?_)))
    exact Xc rfl (Kj55 _ _ _ ⟨s58, _, rfl, (ue rfl rfl), (Ky25.st (Xw p51 p54 p58) rfl)⟩)
   refine sbT hb55 ?_
   rw [if_neg (by rw [hb55]; decide)]
   refine Xj rfl (Xj rfl (Xj rfl (Xc rfl ?_)))
   exact Kj55 _ _ _ ⟨s54, _, rfl, (ue rfl rfl), (Ky25.st (Xk p51 p54) rfl)⟩
  rintro y55 _ _ ⟨s61, _, rfl, rfl, Ky55⟩
  exact Xc rfl (dn (re rfl func14 rfl (r_t rfl Xg) rfl ⟨_, rfl, rfl, z.ky Ky55⟩))
 refine sr (Xc rfl (Xc rfl (dn (cd rfl (fun h62 => ?_) (fun h62 => ?_)))))
 ·
  refine sr (Xt fa35_5 rfl (lda' (es := [(iI a0.To.Kind), (iI a0.To.N), w0_2, w0_3]) By25_b5 u26 z26 rfl ?_))
  refine cl' rfl func44 rfl (spec_ItemClean.calls a0.To s34.w (mm [0] s34) w0_2 w0_3 ((Xh (s := s34) A0_2).sub (D := [0]) rfl) (A0_3.kp Ky25)) ?_
  rintro r64 _ w64 m64 ⟨v64_0, v64_1, rfl, f64_0, ky64⟩
  obtain ⟨s65, rfl, p65, n65⟩ := nwx s34 w64 50 ky64
  obtain ⟨hu64_0_0, Au64_0_1⟩ := ap26 (f64_0.c n65)
  refine clV 51 rfl func43 rfl (spec_KeyOk.calls r64 s65.w (mm [50] s65) v64_0 v64_1 ((Xh (s := s65) hu64_0_0).sub (D := [50]) rfl) Au64_0_1.rd) (fun r67 s68 p68 n68 => ?_)
  refine Xc rfl (dn ?_)
  exact re rfl func14 rfl (r_t rfl Xg) rfl ⟨_, rfl, rfl, z.ky (Ky25.st (Xk p65 p68) rfl)⟩
 refine sr (Xc rfl (Xc rfl (dn (cd rfl (fun h70 => ?_) (fun h70 => ?_)))))
 ·
  refine sr (Xt fa35_3 rfl (ld' By25_b5 u3 rfl (clV 52 rfl func42 rfl (spec_l5in.calls a0.N (0 : Int) (15 : Int) s34.w (mm [] s34)) (fun r71 s72 p72 n72 => ?_))))
  refine Xc rfl (dn ?_)
  exact re rfl func14 rfl (r_t rfl Xg) rfl ⟨_, rfl, rfl, z.ky (Ky25.st p72 rfl)⟩
 refine sr (Xc rfl (Xc rfl (dn (cd rfl (fun h74 => ?_) (fun h74 => ?_)))))
 ·
  exact sr (Xt fa35_3 rfl (ld' By25_b5 u3 rfl (Xc rfl (Xc rfl (dn (re rfl func14 rfl (r_t rfl Xg) rfl ⟨_, rfl, rfl, z.ky Ky25⟩))))))
 refine sr (Xc rfl (Xc rfl (dn (cd rfl (fun h75 => ?_) (fun h75 => ?_)))))
 ·
  refine sr (Xt fa35_7 rfl (ld' By25_b5 u33 rfl ?_))
  exact ln ((z.rd h0_6).kp Ky25) u33 rfl rfl rfl rfl rfl rfl (Xc rfl (Xc rfl (dn (re rfl func14 rfl (r_t rfl Xg) rfl ⟨_, rfl, rfl, z.ky Ky25⟩))))
 exact sk (ib (sr (Xc rfl (dn (re rfl func14 rfl (r_t rfl Xg) rfl ⟨_, rfl, rfl, z.ky Ky25⟩)))))
def laws_FnItemTexts.f (a0 : (List Int)) : Option (Bool) :=
 ((laws_big.f a0).bind fun r2 => (if r2 = true then (some true) else ((spec_DrawItemText.f a0).bind fun r8 => ((impl_ItemText.f r8).bind fun r18 => ((impl_ItemRead.f r18).bind fun r22 => ((spec_ItemOk.f r8).bind fun r32 => ((if (!(r32 == r22.2)) = true then (some true) else ((if r22.2 = true then ((laws_sameItem.f r8 r22.1).bind fun r41 => (some (!r41))) else (some false)).bind fun y36 => (some y36))).bind fun y34 => (if y34 = true then (some false) else ((spec_DrawOpText.f a0).bind fun r49 => ((impl_OpText.f r49).bind fun r69 => ((impl_OpRead.f r69).bind fun r73 => ((spec_OpOk.f r49).bind fun r93 => (if (!(r73.2 == r93)) = true then (some false) else ((if (!r73.2) = true then (some true) else ((impl_OpText.f r73.1).bind fun r127 => ((if ((str r127).toList == (str r69).toList) = true then (some (r73.1.Kind == r49.Kind)) else (some false)).bind fun y134 => (some (y134 && (decide ((r69.length : Int) > (0 : Int)))))))).bind fun y101 => (some y101)))))))))))))))
def laws_FnItemTexts.Q (w : World) (F : Nat → Prop) (r : Bool) (v : Value) (w' : World) : Prop :=
 v = (.bool r) ∧ Ky [] w w'
theorem laws_FnItemTexts.calls (a0 : (List Int)) (w : World) (F : Nat → Prop) (w0_0 : Value) (hG : GV.rd w [] () F) (h0_0 : Ya.rd w [w0_0] a0 F) (r : Bool) (m : laws_FnItemTexts.f a0 = some r) :
  Calls prog 3 #[w0_0] w (RT (laws_FnItemTexts.Q w F) r) := by
 obtain ⟨s0, rfl, kp0, z⟩ := Xq w F
 have A0_0 := z.rd h0_0
 have AG := z.rd hG
 refine Xd (args := [w0_0]) func3 ntmps3 rfl rfl m ?_
 unfold laws_FnItemTexts.f
 refine sr (Xc rfl (dn (sq (sr (mv' w0_0 rfl (clV 40 rfl func5 rfl (laws_big.calls a0 s0.w (mm [0] s0) w0_0 A0_0) (fun r2 s3 p3 n3 => ?_)))))))
 refine dn (cd rfl (fun h4 => ?_) (fun h4 => ?_))
 ·
  refine sr (Xc rfl (dn ?_))
  exact re rfl func3 rfl (r_t rfl Xg) rfl ⟨_, rfl, rfl, z.ky (kp0.st p3 rfl)⟩
 refine sk (sr (mv' w0_0 rfl ?_))
 have K6 := kp0.st p3 rfl
 refine cl' rfl func6 rfl (spec_DrawItemText.calls a0 s3.w (mm [0] s3) w0_0 (A0_0.kp K6)) ?_
 rintro r8 _ w8 m8 ⟨v8_0, v8_1, rfl, f8_0, ky8⟩
 obtain ⟨s9, rfl, p9, n9⟩ := nwx s3 w8 41 ky8
 obtain ⟨hu8_0_0, Au8_0_1⟩ := ap26 (f8_0.c n9)
 refine al (cs := [(iI 0), (iI 0), (.float .f64 0), (.slice none 0 0)]) 42 rfl rfl rfl rfl rfl o26 rfl (fun b11 s11 p11 B11 => ?_)
 have A13 := Au8_0_1.st p11 rfl
 refine Xx (vs := [(iI r8.Kind), (iI r8.N), v8_0, v8_1]) B11 z26 rfl (Xa rfl (Xa rfl (Xa (FL.one hu8_0_0) (Xa A13.rd.one Xi)))) rfl (fun s14 p14 B14 => ?_)
 refine dn (sr (lda' (es := [(iI r8.Kind), (iI r8.N), v8_0, v8_1]) B14 u26 z26 rfl ?_))
 have A16 := A13.st p14 rfl
 have K17 := K6.st (Xw p9 p11 p14) rfl
 refine clO 43 rfl func7 rfl (impl_ItemText.calls r8 s14.w (mm [41, 0] s14) v8_0 v8_1 ((gu_gt (gv_gu (AG.kp K17))).sub (D := [41, 0]) rfl) ((Xh (s := s14) hu8_0_0).sub (D := [41, 0]) rfl) (A16.rd.sub (D := [41, 0]) rfl)) (fun r18 v18_0 s19 p19 A18_0 => ?_)
 refine asg' v18_0 rfl (dn (sr (mv' v18_0 rfl ?_)))
 have K21 := K17.st p19 rfl
 refine cl' rfl func8 rfl (impl_ItemRead.calls r18 s19.w (mm [43, 0] s19) v18_0 ((gv_gu (AG.kp K21)).sub (D := [43, 0]) rfl) (A18_0.rd.sub (D := [43, 0]) rfl)) ?_
 rintro r22 _ w22 m22 ⟨v22_0, v22_1, rfl, f22_0, ky22⟩
 obtain ⟨s23, rfl, p23, n23⟩ := nwx s19 w22 44 ky22
 obtain ⟨hu22_0_0, Au22_0_1⟩ := ap26 (f22_0.c n23)
 refine Xc rfl (Xc (v := (.agg #[(iI r22.1.Kind), (iI r22.1.N), v22_0, v22_1])) rfl (Xc (v := (.bool r22.2)) rfl (al (cs := [(iI 0), (iI 0), (.float .f64 0), (.slice none 0 0)]) 45 rfl rfl rfl rfl rfl o26 rfl (fun b25 s25 p25 B25 => ?_))))
 have A27 := Au22_0_1.st p25 rfl
 refine Xx (vs := [(iI r22.1.Kind), (iI r22.1.N), v22_0, v22_1]) B25 z26 rfl (Xa rfl (Xa rfl (Xa (FL.one hu22_0_0) (Xa A27.rd.one Xi)))) rfl (fun s28 p28 B28 => ?_)
 refine Xc rfl (dn (sq (sr ?_)))
 have A30 := B14.st (tr4 p19 p23 p25 p28) rfl
 refine lda' (es := [(iI r8.Kind), (iI r8.N), v8_0, v8_1]) A30 u26 z26 rfl ?_
 have A31 := A16.st (tr4 p19 p23 p25 p28) rfl
 refine clV 46 rfl func9 rfl (spec_ItemOk.calls r8 s28.w (mm [41] s28) v8_0 v8_1 ((Xh (s := s28) hu8_0_0).sub (D := [41]) rfl) A31.rd) (fun r32 s33 p33 n33 => ?_)
 refine Xc rfl (bne_ u4 rfl rfl rfl rfl rfl rfl rfl (Xc rfl (ji [] (fun (y34 : Bool) e w => ∃ (s : St) (e0 : Env), w = s.w ∧ e = upd (upd e0 0 w0_0) 34 (.bool y34) ∧ Kp s0 s) (fun Gj34 Kj34 => ?_) ?_)))
 ·
  rcases bft (!(r32 == r22.2)) with hb34 | hb34
  ·
   refine sbT hb34 ?_
   rw [if_pos hb34]
   refine Xj rfl (Xj rfl (Xj rfl (Xj rfl (Xj rfl (Xj rfl (Xj rfl (Xc rfl ?_)))))))
   exact Kj34 _ _ _ ⟨s33, _, rfl, (ue (ue rfl rfl) rfl), (K21.st (tr4 p23 p25 p28 p33) rfl)⟩
  refine sbT hb34 ?_
  rw [if_neg (by rw [hb34]; decide)]
  refine Xc rfl (Xc rfl (ji [12] (fun (y36 : Bool) e w => ∃ (s : St) (e0 : Env), w = s.w ∧ e = upd (upd (upd e0 0 w0_0) 26 (.bool false)) 33 (.bool y36) ∧ Kp s0 s) (fun Gj36 Kj36 => ?_) ?_))
  ·
   rcases bft r22.2 with hb36 | hb36
   ·
    refine sbT hb36 ?_
    rw [if_pos hb36]
    refine lda' (es := [(iI r8.Kind), (iI r8.N), v8_0, v8_1]) (A30.st p33 rfl) u26 z26 rfl (lda' (es := [(iI r22.1.Kind), (iI r22.1.N), v22_0, v22_1]) (B28.st p33 rfl) u26 z26 rfl (clV 47 rfl func10 rfl (laws_sameItem.calls r8 r22.1 s33.w (mm [41, 44] s33) v8_0 v8_1 v22_0 v22_1 ((Xh (s := s33) hu8_0_0).sub (D := [41, 44]) rfl) ((A31.st p33 rfl).rd.sub (D := [41, 44]) rfl) ((Xh (s := s33) hu22_0_0).sub (D := [41, 44]) rfl) ((A27.st (Xk p28 p33) rfl).rd.sub (D := [41, 44]) rfl)) (fun r41 s42 p42 n42 => ?_)))
    refine Xc rfl (Xc rfl ?_)
    exact Kj36 _ _ _ ⟨s42, _, rfl, (ue (ue (ue rfl rfl) rfl) rfl), (K21.st (tr5 p23 p25 p28 p33 p42) rfl)⟩
   refine sbT hb36 ?_
   rw [if_neg (by rw [hb36]; decide)]
   refine Xj rfl (Xj rfl (Xj rfl (Xj rfl (Xc rfl ?_))))
   exact Kj36 _ _ _ ⟨s33, _, rfl, (ue (ue (ue rfl rfl) rfl) rfl), (K21.st (tr4 p23 p25 p28 p33) rfl)⟩
  rintro y36 _ _ ⟨s45, _, rfl, rfl, Ky36⟩
  exact Xc rfl (Kj34 _ _ _ ⟨s45, _, rfl, (ue (ue rfl rfl) rfl), Ky36⟩)
 rintro y34 _ _ ⟨s46, _, rfl, rfl, Ky34⟩
 refine dn (cd rfl (fun h47 => ?_) (fun h47 => ?_))
 ·
  exact sr (Xc rfl (dn (re rfl func3 rfl (r_t rfl Xg) rfl ⟨_, rfl, rfl, z.ky Ky34⟩)))
 refine sk (sr (mv' w0_0 rfl ?_))
 refine cl' rfl func11 rfl (spec_DrawOpText.calls a0 s46.w (mm [0] s46) w0_0 (A0_0.kp Ky34)) ?_
 rintro r49 _ w49 m49 ⟨v49_0, v49_1, v49_2, v49_3, v49_4, v49_5, v49_6, rfl, f49_0, ky49⟩
 obtain ⟨s50, rfl, p50, n50⟩ := nwx s46 w49 48 ky49
 obtain ⟨s51, hw51, p51, hu49_0_0, Au49_0_1, hu49_0_2, Au49_0_3, hu49_0_4, Au49_0_5, Au49_0_6⟩ := ap35 49 50 51 (f49_0.c n50) rfl
 rw [hw51]
 refine al (cs := [(iI 0), (iI 0), (iI 0), (iI 0), (iI 0), (iI 0), (.float .f64 0), (.slice none 0 0), (iI 0), (iI 0), (.float .f64 0), (.slice none 0 0), (iI 0), (iI 0), (.float .f64 0), (.slice none 0 0), (.slice none 0 0)]) 52 rfl rfl rfl rfl rfl o35 rfl (fun b56 s56 p56 B56 => ?_)
 have A58 := Au49_0_6.st p56 rfl
 have A59 := Au49_0_5.st p56 rfl
 have A60 := Au49_0_3.st p56 rfl
 have A61 := Au49_0_1.st p56 rfl
 refine Xx (vs := [(iI r49.Kind), (iI r49.Seat), (iI r49.Level), (iI r49.N), (iI r49.Key.Kind), (iI r49.Key.N), v49_0, v49_1, (iI r49.To.Kind), (iI r49.To.N), v49_2, v49_3, (iI r49.Value.Kind), (iI r49.Value.N), v49_4, v49_5, v49_6]) B56 z35 rfl (Xa rfl (Xa rfl (Xa rfl (Xa rfl (Xa rfl (Xa rfl (Xa (FL.one hu49_0_0) (Xa A61.rd.one (Xa rfl (Xa rfl (Xa (FL.one hu49_0_2) (Xa A60.rd.one (Xa rfl (Xa rfl (Xa (FL.one hu49_0_4) (Xa A59.rd.one (Xa A58.rd.one Xi))))))))))))))))) rfl (fun s62 p62 B62 => ?_)
 replace B62 : BlF s62 b56 35 [(iI r49.Kind), (iI r49.Seat), (iI r49.Level), (iI r49.N), (iI r49.Key.Kind), (iI r49.Key.N), v49_0, v49_1, (iI r49.To.Kind), (iI r49.To.N), v49_2, v49_3, (iI r49.Value.Kind), (iI r49.Value.N), v49_4, v49_5, v49_6] 52 := B62
 refine dn (sr (lda' (es := [(iI r49.Kind), (iI r49.Seat), (iI r49.Level), (iI r49.N), (iI r49.Key.Kind), (iI r49.Key.N), v49_0, v49_1, (iI r49.To.Kind), (iI r49.To.N), v49_2, v49_3, (iI r49.Value.Kind), (iI r49.Value.N), v49_4, v49_5, v49_6]) B62 u35 z35 rfl ?_))
 have A64 := A61.st p62 rfl
 have A65 := A60.st p62 rfl
 have A66 := A59.st p62 rfl
 have A67 := A58.st p62 rfl
 have K68 := Ky34.st (tr4 p50 p51 p56 p62) rfl
 refine clO 53 rfl func12 rfl (impl_OpText.calls r49 s62.w (mm [48, 49, 50, 51, 0] s62) v49_0 v49_1 v49_2 v49_3 v49_4 v49_5 v49_6 ((gu_gt (gv_gu (AG.kp K68))).sub (D := [48, 49, 50, 51, 0]) rfl) ((Xh (s := s62) hu49_0_0).sub (D := [48, 49, 50, 51, 0]) rfl) (A64.rd.sub (D := [48, 49, 50, 51, 0]) rfl) ((Xh (s := s62) hu49_0_2).sub (D := [48, 49, 50, 51, 0]) rfl) (A65.rd.sub (D := [48, 49, 50, 51, 0]) rfl) ((Xh (s := s62) hu49_0_4).sub (D := [48, 49, 50, 51, 0]) rfl) (A66.rd.sub (D := [48, 49, 50, 51, 0]) rfl) (A67.rd.sub (D := [48, 49, 50, 51, 0]) rfl)) (fun r69 v69_0 s70 p70 A69_0 => ?_)
 refine asg' v69_0 rfl (dn (sr (mv' v69_0 rfl ?_)))
 have K72 := K68.st p70 rfl
 refine cl' rfl func13 rfl (impl_OpRead.calls r69 s70.w (mm [53, 0] s70) v69_0 ((AG.kp K72).sub (D := [53, 0]) rfl) (A69_0.rd.sub (D := [53, 0]) rfl)) ?_
 rintro r73 _ w73 m73 ⟨v73_0, v73_1, v73_2, v73_3, v73_4, v73_5, v73_6, rfl, f73_0, ky73⟩
 obtain ⟨s74, rfl, p74, n74⟩ := nwx s70 w73 54 ky73
 obtain ⟨s75, hw75, p75, hu73_0_0, Au73_0_1, hu73_0_2, Au73_0_3, hu73_0_4, Au73_0_5, Au73_0_6⟩ := ap35 55 56 57 (f73_0.c n74) rfl
 rw [hw75]
 refine Xc rfl (Xc (v := (.agg #[(iI r73.1.Kind), (iI r73.1.Seat), (iI r73.1.Level), (iI r73.1.N), (iI r73.1.Key.Kind), (iI r73.1.Key.N), v73_0, v73_1, (iI r73.1.To.Kind), (iI r73.1.To.N), v73_2, v73_3, (iI r73.1.Value.Kind), (iI r73.1.Value.N), v73_4, v73_5, v73_6])) rfl (Xc (v := (.bool r73.2)) rfl (al (cs := [(iI 0), (iI 0), (iI 0), (iI 0), (iI 0), (iI 0), (.float .f64 0), (.slice none 0 0), (iI 0), (iI 0), (.float .f64 0), (.slice none 0 0), (iI 0), (iI 0), (.float .f64 0), (.slice none 0 0), (.slice none 0 0)]) 58 rfl rfl rfl rfl rfl o35 rfl (fun b80 s80 p80 B80 => ?_))))
 have A82 := Au73_0_6.st p80 rfl
 have A83 := Au73_0_5.st p80 rfl
 have A84 := Au73_0_3.st p80 rfl
 have A85 := Au73_0_1.st p80 rfl
 refine Xx (vs := [(iI r73.1.Kind), (iI r73.1.Seat), (iI r73.1.Level), (iI r73.1.N), (iI r73.1.Key.Kind), (iI r73.1.Key.N), v73_0, v73_1, (iI r73.1.To.Kind), (iI r73.1.To.N), v73_2, v73_3, (iI r73.1.Value.Kind), (iI r73.1.Value.N), v73_4, v73_5, v73_6]) B80 z35 rfl (Xa rfl (Xa rfl (Xa rfl (Xa rfl (Xa rfl (Xa rfl (Xa (FL.one hu73_0_0) (Xa A85.rd.one (Xa rfl (Xa rfl (Xa (FL.one hu73_0_2) (Xa A84.rd.one (Xa rfl (Xa rfl (Xa (FL.one hu73_0_4) (Xa A83.rd.one (Xa A82.rd.one Xi))))))))))))))))) rfl (fun s86 p86 B86 => ?_)
 replace B86 : BlF s86 b80 35 [(iI r73.1.Kind), (iI r73.1.Seat), (iI r73.1.Level), (iI r73.1.N), (iI r73.1.Key.Kind), (iI r73.1.Key.N), v73_0, v73_1, (iI r73.1.To.Kind), (iI r73.1.To.N), v73_2, v73_3, (iI r73.1.Value.Kind), (iI r73.1.Value.N), v73_4, v73_5, v73_6] 58 := B86
 refine Xc rfl (dn (sq (sr (Xc rfl ?_))))
 have A88 := B62.st (tr5 p70 p74 p75 p80 p86) rfl
 refine lda' (es := [(iI r49.Kind), (iI r49.Seat), (iI r49.Level), (iI r49.N), (iI r49.Key.Kind), (iI r49.Key.N), v49_0, v49_1, (iI r49.To.Kind), (iI r49.To.N), v49_2, v49_3, (iI r49.Value.Kind), (iI r49.Value.N), v49_4, v49_5, v49_6]) A88 u35 z35 rfl (clV 59 rfl func14 rfl (spec_OpOk.calls r49 s86.w (mm [48, 49, 50, 51] s86) v49_0 v49_1 v49_2 v49_3 v49_4 v49_5 v49_6 ((Xh (s := s86) hu49_0_0).sub (D := [48, 49, 50, 51]) rfl) ((A64.st (tr5 p70 p74 p75 p80 p86) rfl).rd.sub (D := [48, 49, 50, 51]) rfl) ((Xh (s := s86) hu49_0_2).sub (D := [48, 49, 50, 51]) rfl) ((A65.st (tr5 p70 p74 p75 p80 p86) rfl).rd.sub (D := [48, 49, 50, 51]) rfl) ((Xh (s := s86) hu49_0_4).sub (D := [48, 49, 50, 51]) rfl) ((A66.st (tr5 p70 p74 p75 p80 p86) rfl).rd.sub (D := [48, 49, 50, 51]) rfl) ((A67.st (tr5 p70 p74 p75 p80 p86) rfl).rd.sub (D := [48, 49, 50, 51]) rfl)) (fun r93 s94 p94 n94 => ?_))
 refine bne_ u4 rfl rfl rfl rfl rfl rfl rfl (dn (cd rfl (fun h95 => ?_) (fun h95 => ?_)))
 ·
  refine sr (Xc rfl (dn ?_))
  exact re rfl func3 rfl (r_t rfl Xg) rfl ⟨_, rfl, rfl, z.ky (K72.st (tr5 p74 p75 p80 p86 p94) rfl)⟩
 refine sk (sq (zdraw [[], [0], [1], [2], [3, 2, 2], [4, 2], [2], [6, 2], [5, 7, 2], [8, 4, 2], [9], [10, 9], [9], [12, 9], [11, 13, 9], [9, 14, 2], [15, 9, 2], [16], [17, 16], [18, 16], [16, 19, 2], [2, 20], [21, 16, 0, 1, 2, 3, 4, 5, 6, 7, 8, 9, 10, 11, 12, 13, 14, 15, 16, 17, 18, 19, 20, 21]] [some 48, some 49, some 50, some 51, some 52, some 53, some 54, some 55, some 56, some 57, some 58, some 59, some 60, some 61, some 62, some 63, some 64, some 65, some 66, some 67, some 68, some 69, some 2] [[10], [48], [49], [9, 50], [51, 50], [52, 50], [8, 50], [54, 50], [53, 55, 50], [56, 50], [9, 57], [58, 57], [7, 57], [60, 57], [59, 61, 57], [57, 62, 50], [63, 50], [8, 64], [65, 64], [66, 64], [64, 67, 50], [50, 68], [69]] [0, 1, 2, 3, 4, 5, 6, 7, 8, 9, 10, 11, 12, 13, 14, 15, 16, 17, 18, 19, 20, 21, 22] ⟨by kernel_rfl, by kernel_rfl, by kernel_rfl⟩ (by kernel_rfl) (fun s97 p97 l97 tb97 zd97 => ?_)))
 have zd100 := ((zd97.add 0 48 (.bool r73.2) rfl).add 1 49 (.bool (!r73.2)) rfl).add 2 50 (.bool (!r73.2)) rfl
 refine ji [22] (fun (y101 : Bool) e w => ∃ (s : St) (e0 : Env), w = s.w ∧ e = upd e0 69 (.bool y101) ∧ Kp s0 s) (fun Gj101 Kj101 => ?_) ?_
 ·
  rcases bft (!r73.2) with hb101 | hb101
  ·
   rw [if_pos hb101]
   rw [hb101] at zd100
   try rw [hb101]
   refine zfin [14, 15, 16, 17, 18, 19, 20, 21, 22] tb97 (((((((((((zd100.add 3 51 undef rfl).add 4 52 undef rfl).add 5 53 undef rfl).add 6 54 undef rfl).add 7 55 undef rfl).add 8 56 undef rfl).add 9 57 undef rfl).add 10 58 undef rfl).add 11 59 undef rfl).add 12 60 undef rfl).add 13 61 undef rfl) (Xb (Xr rfl) rfl (Xb (Xr rfl) rfl (Xb (Xr rfl) rfl (Xb (Xr rfl) rfl (Xb (Xr rfl) rfl (Xb (Xr rfl) rfl (Xb (Xr rfl) rfl (Xb (Xr rfl) rfl (Xb (Xr rfl) rfl (Xb (Xr rfl) rfl (Xb (Xr rfl) rfl (Xb (Xm rfl) rfl (Xb (qv_b (Xm rfl) hb101) rfl (Xb (Xm rfl) rfl Xo)))))))))))))) (by kernel_rfl) (by decide) (Xj rfl (Xj rfl (Xj rfl (Xj rfl (Xj rfl (Xj rfl (Xj rfl (Xc rfl ?_))))))))
   exact Kj101 _ _ _ ⟨s97, _, rfl, (ue rfl rfl), (K72.st (tr6 p74 p75 p80 p86 p94 p97) rfl)⟩
  rw [if_neg (by rw [hb101]; decide)]
  rw [hb101] at zd100
  try rw [hb101]
  refine zstep 4 [some 55, some 54] tb97 (((zd100.add 3 51 (.agg #[(iI r73.1.Kind), (iI r73.1.Seat), (iI r73.1.Level), (iI r73.1.N), (iI r73.1.Key.Kind), (iI r73.1.Key.N), v73_0, v73_1, (iI r73.1.To.Kind), (iI r73.1.To.N), v73_2, v73_3, (iI r73.1.Value.Kind), (iI r73.1.Value.N), v73_4, v73_5, v73_6]) rfl).add 6 54 v69_0 rfl).add 7 55 (.string (str r69)) rfl) (Xb (b2s_q (A69_0.st (tr6 p74 p75 p80 p86 p94 p97) rfl).rd u22 u9 u5 rfl rfl rfl rfl rfl rfl) rfl (Xb (mv_q v69_0 rfl rfl rfl rfl rfl rfl) rfl (Xb (lda_q (es := [(iI r73.1.Kind), (iI r73.1.Seat), (iI r73.1.Level), (iI r73.1.N), (iI r73.1.Key.Kind), (iI r73.1.Key.N), v73_0, v73_1, (iI r73.1.To.Kind), (iI r73.1.To.N), v73_2, v73_3, (iI r73.1.Value.Kind), (iI r73.1.Value.N), v73_4, v73_5, v73_6]) (B86.st (Xk p94 p97) rfl) u35 z35 rfl rfl rfl rfl rfl rfl rfl rfl) rfl (Xb (Xm rfl) rfl (Xb (qv_b (Xm rfl) hb101) rfl (Xb (Xm rfl) rfl Xo)))))) (by kernel_rfl) rfl (fun l119 e119 zd119 => ?_)
  have K126 := K72.st (tr6 p74 p75 p80 p86 p94 p97) rfl
  refine clO 60 rfl func12 rfl (impl_OpText.calls r73.1 s97.w (mm [54, 55, 56, 57, 0] s97) v73_0 v73_1 v73_2 v73_3 v73_4 v73_5 v73_6 ((gu_gt (gv_gu (AG.kp K126))).sub (D := [54, 55, 56, 57, 0]) rfl) ((Xh (s := s97) hu73_0_0).sub (D := [54, 55, 56, 57, 0]) rfl) ((A85.st (Xw p86 p94 p97) rfl).rd.sub (D := [54, 55, 56, 57, 0]) rfl) ((Xh (s := s97) hu73_0_2).sub (D := [54, 55, 56, 57, 0]) rfl) ((A84.st (Xw p86 p94 p97) rfl).rd.sub (D := [54, 55, 56, 57, 0]) rfl) ((Xh (s := s97) hu73_0_4).sub (D := [54, 55, 56, 57, 0]) rfl) ((A83.st (Xw p86 p94 p97) rfl).rd.sub (D := [54, 55, 56, 57, 0]) rfl) ((A82.st (Xw p86 p94 p97) rfl).rd.sub (D := [54, 55, 56, 57, 0]) rfl)) (fun r127 v127_0 s128 p128 A127_0 => ?_)
  refine zdone (L' := [7, 6]) (D' := [0, 1, 3, 2, 2, 4]) zd119 rfl rfl rfl (fun zd130 => ?_)
  have zd133 := ((zd130.add 5 53 (.string (str r127)) rfl).add 8 56 (.bool ((str r127).toList == (str r69).toList)) rfl).add 9 57 (.bool ((str r127).toList == (str r69).toList)) rfl
  refine ji [16, 17, 18, 19, 20, 21, 22] (fun (y134 : Bool) e w => ∃ (s : St) (e0 : Env), w = s.w ∧ e = upd (upd (upd e0 8 v69_0) 50 (.bool false)) 63 (.bool y134) ∧ Kp s0 s ∧ OwF Ya s [v69_0] r69 53) (fun Gj134 Kj134 => ?_) ?_
  ·
   rcases bft ((str r127).toList == (str r69).toList) with hb134 | hb134
   ·
    rw [if_pos hb134]
    rw [hb134] at zd133
    try rw [hb134]
    refine zfin [14, 15, 16, 17, 18, 19, 20, 21, 22] tb97 ((((zd133.add 10 58 (pB b80) rfl).add 11 59 (iI r73.1.Kind) rfl).add 12 60 (pB b56) rfl).add 13 61 (iI r49.Kind) rfl) (Xb (ld_q' (A88.st (Xw p94 p97 p128) rfl) u3 rfl) rfl (Xb (Xz fa35_0 rfl) rfl (Xb (ld_q' (B86.st (Xw p94 p97 p128) rfl) u3 rfl) rfl (Xb (Xz fa35_0 rfl) rfl (Xb (Xm rfl) rfl (Xb (qv_b (Xm rfl) hb134) rfl (Xb (b2s_q A127_0.rd u22 u9 u5 rfl rfl rfl rfl rfl rfl) rfl (Xb (b2s_q (A69_0.st (tr7 p74 p75 p80 p86 p94 p97 p128) rfl).rd u22 u9 u5 rfl rfl rfl rfl rfl rfl) rfl (Xb (mv_q v69_0 rfl rfl rfl rfl rfl rfl) rfl Xo))))))))) (by kernel_rfl) (by decide) (Xc rfl (Xc rfl ?_))
    exact Kj134 _ _ _ ⟨s128, _, rfl, (ue (ue (ue rfl rfl) rfl) rfl), (K126.st p128 rfl), (A69_0.st (tr7 p74 p75 p80 p86 p94 p97 p128) rfl)⟩
   rw [if_neg (by rw [hb134]; decide)]
   rw [hb134] at zd133
   try rw [hb134]
   refine zfin [14, 15, 16, 17, 18, 19, 20, 21, 22] tb97 ((((zd133.add 10 58 undef rfl).add 11 59 undef rfl).add 12 60 undef rfl).add 13 61 undef rfl) (Xb (Xr rfl) rfl (Xb (Xr rfl) rfl (Xb (Xr rfl) rfl (Xb (Xr rfl) rfl (Xb (Xm rfl) rfl (Xb (qv_b (Xm rfl) hb134) rfl (Xb (b2s_q A127_0.rd u22 u9 u5 rfl rfl rfl rfl rfl rfl) rfl (Xb (b2s_q (A69_0.st (tr7 p74 p75 p80 p86 p94 p97 p128) rfl).rd u22 u9 u5 rfl rfl rfl rfl rfl rfl) rfl (Xb (mv_q v69_0 rfl rfl rfl rfl rfl rfl) rfl Xo))))))))) (by kernel_rfl) (by decide) (Xj rfl (Xc rfl ?_))
   exact Kj134 _ _ _ ⟨s128, _, rfl, (ue (ue (ue rfl rfl) rfl) rfl), (K126.st p128 rfl), (A69_0.st (tr7 p74 p75 p80 p86 p94 p97 p128) rfl)⟩
  rintro y134 _ _ ⟨s153, _, rfl, rfl, Ky134, Cy134_71⟩
  refine Xc rfl (jy [64, 65, 66, 67, 68] [21, 22] 68 (.bool (y134 && (decide ((r69.length : Int) > (0 : Int))))) rfl (fun Kg154 => ?_) (fun j154 => ?_))
  ·
   rcases bft y134 with hb154 | hb154
   ·
    exact sbT hb154 (mv' v69_0 rfl (ln Cy134_71.rd u22 rfl rfl rfl rfl rfl rfl (Xc rfl (Xc rfl (Kg154 _ (Ag.put ((Ag.put ((Ag.put ((Ag.put (Ag.base rfl) rfl)) rfl)) rfl)) rfl) (by rw [hb154]; rfl))))))
   exact sbT hb154 (Xj rfl (Xj rfl (Xj rfl (Xc rfl (Kg154 _ (Ag.put ((Ag.put ((Ag.put ((Ag.put (Ag.base rfl) rfl)) rfl)) rfl)) rfl) (by rw [hb154]; rfl))))))
  exact Xc rfl (Kj101 _ _ _ ⟨s153, _, rfl, (ue rfl rfl), Ky134⟩)
 rintro y101 _ _ ⟨s155, _, rfl, rfl, Ky101⟩
 exact Xc rfl (dn (re rfl func3 rfl (r_t rfl Xg) rfl ⟨_, rfl, rfl, z.ky Ky101⟩))
def spec_l3low.b0 (a0 : (List Int)) (x2 : Int × Int) : Option ((Int × Int) ⊕ Int) :=
 (if (decide (x2.2 < (a0.length : Int))) = true then (if 0 ≤ x2.2 ∧ x2.2 < (a0.length : Int) then (some (Sum.inl ((ior .u64 (ishl .u64 x2.1 (8 : Int)) (IntKind.wrap .u64 (at_ a0 x2.2))), (IntKind.wrap .i64 (x2.2 + (1 : Int)))))) else none) else ((some x2.1).bind fun o => some (Sum.inr o)))
def spec_l3low.f (a0 : (List Int)) : Option (Int) :=
 (iter (spec_l3low.b0 a0) ((0 : Int), (0 : Int)))
def spec_l3low.Q (w : World) (F : Nat → Prop) (r : Int) (v : Value) (w' : World) : Prop :=
 v = (.int .u64 r) ∧ Ky [] w w'
theorem spec_l3low.calls (a0 : (List Int)) (w : World) (F : Nat → Prop) (w0_0 : Value) (h0_0 : Ya.rd w [w0_0] a0 F) (r : Int) (m : spec_l3low.f a0 = some r) :
  Calls prog 80 #[w0_0] w (RT (spec_l3low.Q w F) r) := by
 obtain ⟨s0, rfl, kp0, z⟩ := Xq w F
 refine Xd (args := [w0_0]) func80 ntmps80 rfl rfl m ?_
 unfold spec_l3low.f
 refine sr (Xc rfl (dn (sr (Xc rfl (dn (sq (sr (Xc rfl (dn (bl (lpI (fun (x2 : Int × Int) e w => ∃ (s : St) (e0 : Env), w = s.w ∧ e = upd (upd (upd e0 0 w0_0) 3 (.int .u64 x2.1)) 4 (iI x2.2) ∧ Kp s0 s) ⟨s0, _, rfl, (ue (ue (ue rfl rfl) rfl) rfl), kp0⟩ (fun g2 ih2 => ?_))))))))))))
 rintro x2 _ _ ⟨s3, _, rfl, rfl, Kx2⟩
 unfold spec_l3low.b0
 refine sq (sr (Xc rfl (mv' w0_0 rfl ?_)))
 have A4 := (z.rd h0_0).kp Kx2
 refine ln A4 u22 rfl rfl rfl rfl rfl rfl (Xc rfl (dn (cd rfl (fun h5 => ?_) (fun h5 => ?_))))
 ·
  refine sk (sq (bl (rg (Xc rfl (shlK rfl rfl rfl rfl rfl rfl rfl rfl (mv' w0_0 rfl (Xc rfl (ix A4 u22 z5 rfl rfl rfl rfl rfl rfl rfl rfl (fun ad6 es6 h0_6 h1_6 he6 ce6 ia6 => ?_)))))))))
  obtain rfl := he6
  exact lc0 ce6 u5 rfl rfl rfl rfl rfl rfl rfl rfl (cv u53 u5 rfl rfl rfl rfl rfl rfl (Xc rfl (Xc rfl (dn (ib (rg (Xc rfl (Xc rfl (Xc rfl (dn (lb ih2 ⟨s3, _, rfl, (ue (ue (ue rfl rfl) rfl) rfl), Kx2⟩)))))))))))
 exact xt rfl (sgb (sr (Xc rfl (Xc rfl (dn (re rfl func80 rfl (r_t rfl Xg) rfl ⟨_, rfl, rfl, z.ky Kx2⟩))))))
end Go.Proofs.YtdhefendaopcbaaGreatDoor
