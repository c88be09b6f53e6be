/- The functions as models, and that the calls come to what the models tell. -/
import Derived.Test.YtiofnjnnocjbhaaDoorGsa
set_option linter.unusedVariables false
set_option linter.unusedSimpArgs false
set_option maxHeartbeats 4000000
set_option maxRecDepth 100000
noncomputable section
namespace Go.Proofs.YtiofnjnnocjbhaaDoor
open Go V Tryd
def laws_FnExactOpText.f (a0 : Op) : Option (Bool) :=
 ((laws_szOp.f a0 (1048576 : Int)).bind fun r12 => (if (decide (r12 < (0 : Int))) = true then (some true) else ((laws_toOp.f a0).bind fun r22 => ((spec_OpText.f r22).bind fun r29 => ((laws_toOp.f a0).bind fun r38 => ((impl_OpText.f r38).bind fun r58 => ((laws_eqByteS.f r58 r29).bind fun r62 => (if (!r62) = true then (some false) else ((laws_toOp.f a0).bind fun r79 => ((laws_eqOp.f r38 r79).bind fun r92 => (if (!r92) = true then (some false) else ((laws_markOp.f r38 (1 : Int)).bind fun r109 => ((if (decide (r109.1 < (0 : Int))) = true then (some true) else ((laws_eqByteS.f r58 r29).bind fun r123 => (some (!r123)))).bind fun y116 => (if y116 = true then (some false) else ((laws_markByteS.f r58 (1 : Int)).bind fun r132 => ((laws_heldByteS.f r132.2 (1 : Int)).bind fun r135 => (if (decide (r135 < (0 : Int))) = true then (some false) else (if (r135 != r132.1) = true then (some false) else ((laws_toOp.f a0).bind fun r147 => ((impl_OpText.f r147).bind fun r155 => ((laws_eqByteS.f r155 r29).bind fun r159 => (if (!r159) = true then (some false) else ((laws_heldByteS.f r132.2 (1 : Int)).bind fun r164 => (if (decide (r164 < (0 : Int))) = true then (some false) else (if (r164 != r132.1) = true then (some false) else (some true))))))))))))))))))))))))))
def laws_FnExactOpText.Q (w : World) (F : Nat → Prop) (r : Bool) (v : Value) (w' : World) : Prop :=
 v = (.bool r) ∧ Ky [] w w'
theorem laws_FnExactOpText.calls (a0 : Op) (w : World) (F : Nat → Prop) (w0_0 : Value) (w0_1 : Value) (w0_2 : Value) (w0_3 : Value) (w0_4 : Value) (w0_5 : Value) (w0_6 : Value) (hG : GT.rd w [] () F) (h0_0 : Kd.flt.rd w [w0_0] a0.Key.F F) (h0_1 : Xp.rd w [w0_1] a0.Key.T F) (h0_2 : Kd.flt.rd w [w0_2] a0.To.F F) (h0_3 : Xp.rd w [w0_3] a0.To.T F) (h0_4 : Kd.flt.rd w [w0_4] a0.Value.F F) (h0_5 : Xp.rd w [w0_5] a0.Value.T F) (h0_6 : (Kd.sl 4 Kd.bool).rd w [w0_6] a0.Keep F) (r : Bool) (m : laws_FnExactOpText.f a0 = some r) :
  Calls prog 5 #[(.agg #[(iI a0.Kind), (iI a0.Seat), (iI a0.Level), (iI a0.N), (iI a0.Key.Kind), (iI a0.Key.N), w0_0, w0_1, (iI a0.To.Kind), (iI a0.To.N), w0_2, w0_3, (iI a0.Value.Kind), (iI a0.Value.N), w0_4, w0_5, w0_6])] w (RT (laws_FnExactOpText.Q w F) r) := by
 obtain ⟨s0, rfl, kp0, z⟩ := Xh w F
 have A0_0 := Xm h0_0
 have A0_1 := z.rd h0_1
 have A0_2 := Xm h0_2
 have A0_3 := z.rd h0_3
 have A0_4 := Xm h0_4
 have A0_5 := z.rd h0_5
 have A0_6 := z.rd h0_6
 have AG := z.rd hG
 refine Xb (args := [(.agg #[(iI a0.Kind), (iI a0.Seat), (iI a0.Level), (iI a0.N), (iI a0.Key.Kind), (iI a0.Key.N), w0_0, w0_1, (iI a0.To.Kind), (iI a0.To.N), w0_2, w0_3, (iI a0.Value.Kind), (iI a0.Value.N), w0_4, w0_5, w0_6])]) func5 ntmps5 rfl rfl m ?_
 unfold laws_FnExactOpText.f
 refine sr (bx' (cs := [(iI a0.Kind), (iI a0.Seat), (iI a0.Level), (iI a0.N), (iI a0.Key.Kind), (iI a0.Key.N), w0_0, w0_1, (iI a0.To.Kind), (iI a0.To.N), w0_2, w0_3, (iI a0.Value.Kind), (iI a0.Value.N), w0_4, w0_5, w0_6]) 40 rfl (fun b5 s5 p5 B5 => ?_))
 refine Xa rfl (dn (sr (Xa rfl (dn (sr (lda' (es := [(iI a0.Kind), (iI a0.Seat), (iI a0.Level), (iI a0.N), (iI a0.Key.Kind), (iI a0.Key.N), w0_0, w0_1, (iI a0.To.Kind), (iI a0.To.N), w0_2, w0_3, (iI a0.Value.Kind), (iI a0.Value.N), w0_4, w0_5, w0_6]) B5 u49 z49 rfl (Xa rfl ?_)))))))
 have K7 := kp0.st p5 rfl
 refine clV 41 rfl func22 rfl (laws_szOp.calls a0 (1048576 : Int) s5.w (mm [0] s5) w0_0 w0_1 w0_2 w0_3 w0_4 w0_5 w0_6 ((Xc (s := s5) A0_0).sub (D := [0]) rfl) (A0_1.kp K7) ((Xc (s := s5) A0_2).sub (D := [0]) rfl) (A0_3.kp K7) ((Xc (s := s5) A0_4).sub (D := [0]) rfl) (A0_5.kp K7) (A0_6.kp K7)) (fun r12 s13 p13 n13 => ?_)
 refine Xa rfl (dn (sq (sr (Xa rfl (Xa rfl (dn (cd rfl (fun h14 => ?_) (fun h14 => ?_))))))))
 ·
  refine sr (Xa rfl (dn ?_))
  exact re rfl func5 rfl (r_t rfl Xe) rfl ⟨_, rfl, rfl, z.ky (K7.st p13 rfl)⟩
 refine sk (sr ?_)
 have A16 := B5.st p13 rfl
 refine lda' (es := [(iI a0.Kind), (iI a0.Seat), (iI a0.Level), (iI a0.N), (iI a0.Key.Kind), (iI a0.Key.N), w0_0, w0_1, (iI a0.To.Kind), (iI a0.To.N), w0_2, w0_3, (iI a0.Value.Kind), (iI a0.Value.N), w0_4, w0_5, w0_6]) A16 u49 z49 rfl ?_
 have K17 := K7.st p13 rfl
 refine cl' rfl func24 rfl (laws_toOp.calls a0 s13.w (mm [0] s13) w0_0 w0_1 w0_2 w0_3 w0_4 w0_5 w0_6 ((Xc (s := s13) A0_0).sub (D := [0]) rfl) (A0_1.kp K17) ((Xc (s := s13) A0_2).sub (D := [0]) rfl) (A0_3.kp K17) ((Xc (s := s13) A0_4).sub (D := [0]) rfl) (A0_5.kp K17) (A0_6.kp K17)) ?_
 rintro r22 _ w22 m22 ⟨v22_0, v22_1, v22_2, v22_3, v22_4, v22_5, v22_6, rfl, f22_0, ky22⟩
 obtain ⟨s23, rfl, p23, n23⟩ := nwx s13 w22 42 ky22
 obtain ⟨s24, hw24, p24, hu22_0_0, Au22_0_1, hu22_0_2, Au22_0_3, hu22_0_4, Au22_0_5, Au22_0_6⟩ := ap53 43 44 45 (f22_0.c n23) rfl
 rw [hw24]
 refine clO 46 rfl func23 rfl (spec_OpText.calls r22 s24.w (mm [42, 43, 44, 45] s24) v22_0 v22_1 v22_2 v22_3 v22_4 v22_5 v22_6 ((Xc (s := s24) hu22_0_0).sub (D := [42, 43, 44, 45]) rfl) (Au22_0_1.rd.sub (D := [42, 43, 44, 45]) rfl) ((Xc (s := s24) hu22_0_2).sub (D := [42, 43, 44, 45]) rfl) (Au22_0_3.rd.sub (D := [42, 43, 44, 45]) rfl) ((Xc (s := s24) hu22_0_4).sub (D := [42, 43, 44, 45]) rfl) (Au22_0_5.rd.sub (D := [42, 43, 44, 45]) rfl) (Au22_0_6.rd.sub (D := [42, 43, 44, 45]) rfl)) (fun r29 v29_0 s30 p30 A29_0 => ?_)
 refine Xn v29_0 rfl (dn (sr ?_))
 have A32 := A16.st (tr3 p23 p24 p30) rfl
 refine lda' (es := [(iI a0.Kind), (iI a0.Seat), (iI a0.Level), (iI a0.N), (iI a0.Key.Kind), (iI a0.Key.N), w0_0, w0_1, (iI a0.To.Kind), (iI a0.To.N), w0_2, w0_3, (iI a0.Value.Kind), (iI a0.Value.N), w0_4, w0_5, w0_6]) A32 u49 z49 rfl ?_
 have K33 := K17.st (tr3 p23 p24 p30) rfl
 refine cl' rfl func24 rfl (laws_toOp.calls a0 s30.w (mm [0] s30) w0_0 w0_1 w0_2 w0_3 w0_4 w0_5 w0_6 ((Xc (s := s30) A0_0).sub (D := [0]) rfl) (A0_1.kp K33) ((Xc (s := s30) A0_2).sub (D := [0]) rfl) (A0_3.kp K33) ((Xc (s := s30) A0_4).sub (D := [0]) rfl) (A0_5.kp K33) (A0_6.kp K33)) ?_
 rintro r38 _ w38 m38 ⟨v38_0, v38_1, v38_2, v38_3, v38_4, v38_5, v38_6, rfl, f38_0, ky38⟩
 obtain ⟨s39, rfl, p39, n39⟩ := nwx s30 w38 47 ky38
 obtain ⟨s40, hw40, p40, hu38_0_0, Au38_0_1, hu38_0_2, Au38_0_3, hu38_0_4, Au38_0_5, Au38_0_6⟩ := ap53 48 49 50 (f38_0.c n39) rfl
 rw [hw40]
 refine al (cs := [(iI 0), (iI 0), (iI 0), (iI 0), (iI 0), (iI 0), (.float .f64 0), (.slice none 0 0), (iI 0), (iI 0), (.float .f64 0), (.slice none 0 0), (iI 0), (iI 0), (.float .f64 0), (.slice none 0 0), (.slice none 0 0)]) 51 rfl rfl rfl rfl rfl o53 rfl (fun b45 s45 p45 B45 => ?_)
 have A47 := Au38_0_6.st p45 rfl
 have A48 := Au38_0_5.st p45 rfl
 have A49 := Au38_0_3.st p45 rfl
 have A50 := Au38_0_1.st p45 rfl
 refine sva (vs := [(iI r38.Kind), (iI r38.Seat), (iI r38.Level), (iI r38.N), (iI r38.Key.Kind), (iI r38.Key.N), v38_0, v38_1, (iI r38.To.Kind), (iI r38.To.N), v38_2, v38_3, (iI r38.Value.Kind), (iI r38.Value.N), v38_4, v38_5, v38_6]) B45 z53 rfl rfl rfl rfl rfl rfl (Xd rfl (Xd rfl (Xd rfl (Xd rfl (Xd rfl (Xd rfl (Xd (FL.one hu38_0_0) (Xd A50.rd.one (Xd rfl (Xd rfl (Xd (FL.one hu38_0_2) (Xd A49.rd.one (Xd rfl (Xd rfl (Xd (FL.one hu38_0_4) (Xd A48.rd.one (Xd A47.rd.one on_nil))))))))))))))))) rfl (fun s51 p51 B51 => ?_)
 refine dn (sr (lda' (es := [(iI r38.Kind), (iI r38.Seat), (iI r38.Level), (iI r38.N), (iI r38.Key.Kind), (iI r38.Key.N), v38_0, v38_1, (iI r38.To.Kind), (iI r38.To.N), v38_2, v38_3, (iI r38.Value.Kind), (iI r38.Value.N), v38_4, v38_5, v38_6]) B51 u53 z53 rfl ?_))
 have A53 := A50.st p51 rfl
 have A54 := A49.st p51 rfl
 have A55 := A48.st p51 rfl
 have A56 := A47.st p51 rfl
 have K57 := K33.st (tr4 p39 p40 p45 p51) rfl
 refine clO 52 rfl func25 rfl (impl_OpText.calls r38 s51.w (mm [47, 48, 49, 50, 0] s51) v38_0 v38_1 v38_2 v38_3 v38_4 v38_5 v38_6 ((AG.kp K57).sub (D := [47, 48, 49, 50, 0]) rfl) ((Xc (s := s51) hu38_0_0).sub (D := [47, 48, 49, 50, 0]) rfl) (A53.rd.sub (D := [47, 48, 49, 50, 0]) rfl) ((Xc (s := s51) hu38_0_2).sub (D := [47, 48, 49, 50, 0]) rfl) (A54.rd.sub (D := [47, 48, 49, 50, 0]) rfl) ((Xc (s := s51) hu38_0_4).sub (D := [47, 48, 49, 50, 0]) rfl) (A55.rd.sub (D := [47, 48, 49, 50, 0]) rfl) (A56.rd.sub (D := [47, 48, 49, 50, 0]) rfl)) (fun r58 v58_0 s59 p59 A58_0 => ?_)
 refine Xn v58_0 rfl (dn (sq (sr (Xo v58_0 rfl (Xo v29_0 rfl ?_)))))
 have A61 := A29_0.st (tr5 p39 p40 p45 p51 p59) rfl
 refine clV 53 rfl func11 rfl (laws_eqByteS.calls r58 r29 s59.w (mm [52, 46] s59) v58_0 v29_0 (A58_0.rd.sub (D := [52, 46]) rfl) (A61.rd.sub (D := [52, 46]) rfl)) (fun r62 s63 p63 n63 => ?_)
 refine Xa rfl (dn (cd rfl (fun h64 => ?_) (fun h64 => ?_)))
 ·
  refine sr (Xa rfl (dn ?_))
  exact re rfl func5 rfl (r_t rfl Xe) rfl ⟨_, rfl, rfl, z.ky (K57.st (tr2 p59 p63) rfl)⟩
 refine sk (sq (sq (zdraw [[], [], [1], [0, 2, 2], [3]] [some 27, some 28, some 29, some 30, some 31] [[5], [1], [28], [27, 29], [30]] [0, 1, 2, 3, 4] ⟨by kernel_rfl, by kernel_rfl, by kernel_rfl⟩ (by kernel_rfl) (fun s66 p66 l66 tb66 zd66 => ?_))))
 refine zstep 2 [some 27] tb66 ((zd66.add 0 27 (.agg #[(iI r38.Kind), (iI r38.Seat), (iI r38.Level), (iI r38.N), (iI r38.Key.Kind), (iI r38.Key.N), v38_0, v38_1, (iI r38.To.Kind), (iI r38.To.N), v38_2, v38_3, (iI r38.Value.Kind), (iI r38.Value.N), v38_4, v38_5, v38_6]) rfl).add 1 28 (.agg #[(iI a0.Kind), (iI a0.Seat), (iI a0.Level), (iI a0.N), (iI a0.Key.Kind), (iI a0.Key.N), w0_0, w0_1, (iI a0.To.Kind), (iI a0.To.N), w0_2, w0_3, (iI a0.Value.Kind), (iI a0.Value.N), w0_4, w0_5, w0_6]) rfl) (Xf (lda_q (es := [(iI a0.Kind), (iI a0.Seat), (iI a0.Level), (iI a0.N), (iI a0.Key.Kind), (iI a0.Key.N), w0_0, w0_1, (iI a0.To.Kind), (iI a0.To.N), w0_2, w0_3, (iI a0.Value.Kind), (iI a0.Value.N), w0_4, w0_5, w0_6]) (A32.st (tr7 p39 p40 p45 p51 p59 p63 p66) rfl) u49 z49 rfl rfl rfl rfl rfl rfl rfl rfl) rfl (Xf (lda_q (es := [(iI r38.Kind), (iI r38.Seat), (iI r38.Level), (iI r38.N), (iI r38.Key.Kind), (iI r38.Key.N), v38_0, v38_1, (iI r38.To.Kind), (iI r38.To.N), v38_2, v38_3, (iI r38.Value.Kind), (iI r38.Value.N), v38_4, v38_5, v38_6]) (B51.st (tr3 p59 p63 p66) rfl) u53 z53 rfl rfl rfl rfl rfl rfl rfl rfl) rfl pq_nil)) (by kernel_rfl) rfl (fun l71 e71 zd71 => ?_)
 have K74 := K57.st (tr3 p59 p63 p66) rfl
 refine cl' rfl func24 rfl (laws_toOp.calls a0 s66.w (mm [0] s66) w0_0 w0_1 w0_2 w0_3 w0_4 w0_5 w0_6 ((Xc (s := s66) A0_0).sub (D := [0]) rfl) (A0_1.kp K74) ((Xc (s := s66) A0_2).sub (D := [0]) rfl) (A0_3.kp K74) ((Xc (s := s66) A0_4).sub (D := [0]) rfl) (A0_5.kp K74) (A0_6.kp K74)) ?_
 rintro r79 _ w79 m79 ⟨v79_0, v79_1, v79_2, v79_3, v79_4, v79_5, v79_6, rfl, f79_0, ky79⟩
 obtain ⟨s80, rfl, p80, n80⟩ := nwx s66 w79 54 ky79
 obtain ⟨s81, hw81, p81, hu79_0_0, Au79_0_1, hu79_0_2, Au79_0_3, hu79_0_4, Au79_0_5, Au79_0_6⟩ := ap53 55 56 57 (f79_0.c n80) rfl
 rw [hw81]
 refine zdone (L' := [0]) (D' := [1, 2]) zd71 rfl rfl rfl (fun zd86 => ?_)
 refine zfin [3, 4] tb66 zd86 (Xf (lda_q (es := [(iI r38.Kind), (iI r38.Seat), (iI r38.Level), (iI r38.N), (iI r38.Key.Kind), (iI r38.Key.N), v38_0, v38_1, (iI r38.To.Kind), (iI r38.To.N), v38_2, v38_3, (iI r38.Value.Kind), (iI r38.Value.N), v38_4, v38_5, v38_6]) (B51.st (tr5 p59 p63 p66 p80 p81) rfl) u53 z53 rfl rfl rfl rfl rfl rfl rfl rfl) rfl pq_nil) (by kernel_rfl) (by decide) ?_
 have A88 := A53.st (tr5 p59 p63 p66 p80 p81) rfl
 have A89 := A54.st (tr5 p59 p63 p66 p80 p81) rfl
 have A90 := A55.st (tr5 p59 p63 p66 p80 p81) rfl
 have A91 := A56.st (tr5 p59 p63 p66 p80 p81) rfl
 refine clV 58 rfl func26 rfl (laws_eqOp.calls r38 r79 s81.w (mm [47, 48, 49, 50, 54, 55, 56, 57] s81) v38_0 v38_1 v38_2 v38_3 v38_4 v38_5 v38_6 v79_0 v79_1 v79_2 v79_3 v79_4 v79_5 v79_6 ((Xc (s := s81) hu38_0_0).sub (D := [47, 48, 49, 50, 54, 55, 56, 57]) rfl) (A88.rd.sub (D := [47, 48, 49, 50, 54, 55, 56, 57]) rfl) ((Xc (s := s81) hu38_0_2).sub (D := [47, 48, 49, 50, 54, 55, 56, 57]) rfl) (A89.rd.sub (D := [47, 48, 49, 50, 54, 55, 56, 57]) rfl) ((Xc (s := s81) hu38_0_4).sub (D := [47, 48, 49, 50, 54, 55, 56, 57]) rfl) (A90.rd.sub (D := [47, 48, 49, 50, 54, 55, 56, 57]) rfl) (A91.rd.sub (D := [47, 48, 49, 50, 54, 55, 56, 57]) rfl) ((Xc (s := s81) hu79_0_0).sub (D := [47, 48, 49, 50, 54, 55, 56, 57]) rfl) (Au79_0_1.rd.sub (D := [47, 48, 49, 50, 54, 55, 56, 57]) rfl) ((Xc (s := s81) hu79_0_2).sub (D := [47, 48, 49, 50, 54, 55, 56, 57]) rfl) (Au79_0_3.rd.sub (D := [47, 48, 49, 50, 54, 55, 56, 57]) rfl) ((Xc (s := s81) hu79_0_4).sub (D := [47, 48, 49, 50, 54, 55, 56, 57]) rfl) (Au79_0_5.rd.sub (D := [47, 48, 49, 50, 54, 55, 56, 57]) rfl) (Au79_0_6.rd.sub (D := [47, 48, 49, 50, 54, 55, 56, 57]) rfl)) (fun r92 s93 p93 n93 => ?_)
 refine Xa rfl (dn (cd rfl (fun h94 => ?_) (fun h94 => ?_)))
 ·
  refine sr (Xa rfl (dn ?_))
  exact re rfl func5 rfl (r_t rfl Xe) rfl ⟨_, rfl, rfl, z.ky (K74.st (tr3 p80 p81 p93) rfl)⟩
 refine sk (sr (Xa rfl (dn (sr ?_))))
 refine lda' (es := [(iI r38.Kind), (iI r38.Seat), (iI r38.Level), (iI r38.N), (iI r38.Key.Kind), (iI r38.Key.N), v38_0, v38_1, (iI r38.To.Kind), (iI r38.To.N), v38_2, v38_3, (iI r38.Value.Kind), (iI r38.Value.N), v38_4, v38_5, v38_6]) (B51.st (tr6 p59 p63 p66 p80 p81 p93) rfl) u53 z53 rfl (Xa rfl ?_)
 obtain ⟨s99, hw99, p99, A99⟩ := ow_2 (ow_isoz (fun x : Item => (x.Kind, x.N, x.F, x.T)) r38.Value (ow_l (Xk .i64 r38.Value.Kind) (ow_l (Xk .i64 r38.Value.N) (ow_l (fz_flt hu38_0_4) (A90.st p93 rfl))))) (A91.st p93 rfl) rfl rfl
 rw [hw99]
 obtain ⟨s102, hw102, p102, A102⟩ := ow_2 (ow_isoz (fun x : Item => (x.Kind, x.N, x.F, x.T)) r38.To (ow_l (Xk .i64 r38.To.Kind) (ow_l (Xk .i64 r38.To.N) (ow_l (fz_flt hu38_0_2) (A89.st (tr2 p93 p99) rfl))))) A99 rfl rfl
 rw [hw102]
 obtain ⟨s105, hw105, p105, A105⟩ := ow_2 (ow_isoz (fun x : Item => (x.Kind, x.N, x.F, x.T)) r38.Key (ow_l (Xk .i64 r38.Key.Kind) (ow_l (Xk .i64 r38.Key.N) (ow_l (fz_flt hu38_0_0) (A88.st (tr3 p93 p99 p102) rfl))))) A102 rfl rfl
 rw [hw105]
 have A107 : OwF kd53 s105 [(iI r38.Kind), (iI r38.Seat), (iI r38.Level), (iI r38.N), (iI r38.Key.Kind), (iI r38.Key.N), v38_0, v38_1, (iI r38.To.Kind), (iI r38.To.N), v38_2, v38_3, (iI r38.Value.Kind), (iI r38.Value.N), v38_4, v38_5, v38_6] r38 47 := (ow_isoz (fun x : Op => (x.Kind, x.Seat, x.Level, x.N, x.Key, x.To, x.Value, x.Keep)) r38 (ow_l (Xk .i64 r38.Kind) (ow_l (Xk .i64 r38.Seat) (ow_l (Xk .i64 r38.Level) (ow_l (Xk .i64 r38.N) A105)))))
 obtain ⟨os109, ho109, hn109, hc109⟩ := A107
 refine cl' rfl func27 rfl (laws_markOp.calls r38 (1 : Int) s105.w (mm [] s105) v38_0 v38_1 v38_2 v38_3 v38_4 v38_5 v38_6 os109 ho109 hn109 (apart_of hc109 rfl)) ?_
 rintro r109 _ w109 m109 ⟨rfl, w109_, ky109⟩
 obtain ⟨s110, rfl, p110, A110⟩ := nwo 59 hc109 ky109 w109_
 obtain ⟨s111, hw111, p111, hu109_w_0, Au109_w_1, hu109_w_2, Au109_w_3, hu109_w_4, Au109_w_5, Au109_w_6⟩ := ap53 60 61 62 A110 rfl
 rw [hw111]
 refine Xa rfl (dn (sq (sr (Xa rfl (Xa rfl (Xa rfl (ji [] (fun (y116 : Bool) e w => ∃ (s : St) (e0 : Env), w = s.w ∧ e = upd (upd (upd (upd e0 1 (pB b5)) 4 v29_0) 6 v58_0) 42 (.bool y116) ∧ Kp s0 s ∧ BlF s b5 49 [(iI a0.Kind), (iI a0.Seat), (iI a0.Level), (iI a0.N), (iI a0.Key.Kind), (iI a0.Key.N), w0_0, w0_1, (iI a0.To.Kind), (iI a0.To.N), w0_2, w0_3, (iI a0.Value.Kind), (iI a0.Value.N), w0_4, w0_5, w0_6] 40 ∧ OwF Xp s [v29_0] r29 46 ∧ OwF Xp s [v58_0] r58 52) (fun Gj116 Kj116 => ?_) ?_)))))))
 ·
  rcases bft (decide (r109.1 < (0 : Int))) with hb116 | hb116
  ·
   refine sbT hb116 ?_
   rw [if_pos hb116]
   refine Xj rfl (Xj rfl (Xj rfl (Xj rfl (Xa rfl ?_))))
   exact Kj116 _ _ _ ⟨s111, _, rfl, (ue (ue (ue (ue rfl rfl) rfl) rfl) rfl), (K74.st (tr8 p80 p81 p93 p99 p102 p105 p110 p111) rfl), (A32.st (tr4 (tr12 p39 p40 p45 p51 p59 p63 p66 p80 p81 p93 p99 p102) p105 p110 p111) rfl), (A61.st (tr10 p63 p66 p80 p81 p93 p99 p102 p105 p110 p111) rfl), (A58_0.st (tr10 p63 p66 p80 p81 p93 p99 p102 p105 p110 p111) rfl)⟩
  refine sbT hb116 ?_
  rw [if_neg (by rw [hb116]; decide)]
  refine Xo v58_0 rfl (Xo v29_0 rfl ?_)
  have A121 := A58_0.st (tr10 p63 p66 p80 p81 p93 p99 p102 p105 p110 p111) rfl
  have A122 := A61.st (tr10 p63 p66 p80 p81 p93 p99 p102 p105 p110 p111) rfl
  refine clV 63 rfl func11 rfl (laws_eqByteS.calls r58 r29 s111.w (mm [52, 46] s111) v58_0 v29_0 (A121.rd.sub (D := [52, 46]) rfl) (A122.rd.sub (D := [52, 46]) rfl)) (fun r123 s124 p124 n124 => ?_)
  refine Xa rfl (Xa rfl ?_)
  exact Kj116 _ _ _ ⟨s124, _, rfl, (ue (ue (ue (ue rfl rfl) rfl) rfl) rfl), (K74.st (tr9 p80 p81 p93 p99 p102 p105 p110 p111 p124) rfl), (A32.st (tr5 (tr12 p39 p40 p45 p51 p59 p63 p66 p80 p81 p93 p99 p102) p105 p110 p111 p124) rfl), (A122.st p124 rfl), (A121.st p124 rfl)⟩
 rintro y116 _ _ ⟨s129, _, rfl, rfl, Ky116, By116_b5, Cy116_31, Cy116_60⟩
 refine dn (cd rfl (fun h131 => ?_) (fun h131 => ?_))
 ·
  exact sr (Xa rfl (dn (re rfl func5 rfl (r_t rfl Xe) rfl ⟨_, rfl, rfl, z.ky Ky116⟩)))
 refine sk (sr (Xa rfl (dn (sr (Xo v58_0 rfl (Xa rfl ?_))))))
 obtain ⟨os132, ho132, hn132, hc132⟩ := Cy116_60
 refine cl' rfl func14 rfl (laws_markByteS.calls r58 (1 : Int) s129.w (mm [] s129) v58_0 os132 ho132 hn132 (apart_of hc132 rfl)) ?_
 rintro r132 _ w132 m132 ⟨rfl, w132_, ky132⟩
 obtain ⟨s133, rfl, p133, A133⟩ := nwo 64 hc132 ky132 w132_
 refine Xa rfl (dn (sr (Xa rfl (dn (sr (Xo v58_0 rfl (Xa rfl (clV 65 rfl func15 rfl (laws_heldByteS.calls r132.2 (1 : Int) s133.w (mm [52] s133) v58_0 A133.rd) (fun r135 s136 p136 n136 => ?_)))))))))
 refine Xa rfl (dn (sq (sr (Xa rfl (Xa rfl (dn (cd rfl (fun h137 => ?_) (fun h137 => ?_))))))))
 ·
  refine sr (Xa rfl (dn ?_))
  exact re rfl func5 rfl (r_t rfl Xe) rfl ⟨_, rfl, rfl, z.ky (Ky116.st (tr2 p133 p136) rfl)⟩
 refine sk (sq (sr (Xa rfl (Xa rfl (Xa rfl (dn (cd rfl (fun h139 => ?_) (fun h139 => ?_))))))))
 ·
  refine sr (Xa rfl (dn ?_))
  exact re rfl func5 rfl (r_t rfl Xe) rfl ⟨_, rfl, rfl, z.ky (Ky116.st (tr2 p133 p136) rfl)⟩
 refine sk (sr ?_)
 refine lda' (es := [(iI a0.Kind), (iI a0.Seat), (iI a0.Level), (iI a0.N), (iI a0.Key.Kind), (iI a0.Key.N), w0_0, w0_1, (iI a0.To.Kind), (iI a0.To.N), w0_2, w0_3, (iI a0.Value.Kind), (iI a0.Value.N), w0_4, w0_5, w0_6]) (By116_b5.st (tr2 p133 p136) rfl) u49 z49 rfl ?_
 have K142 := Ky116.st (tr2 p133 p136) rfl
 refine cl' rfl func24 rfl (laws_toOp.calls a0 s136.w (mm [0] s136) w0_0 w0_1 w0_2 w0_3 w0_4 w0_5 w0_6 ((Xc (s := s136) A0_0).sub (D := [0]) rfl) (A0_1.kp K142) ((Xc (s := s136) A0_2).sub (D := [0]) rfl) (A0_3.kp K142) ((Xc (s := s136) A0_4).sub (D := [0]) rfl) (A0_5.kp K142) (A0_6.kp K142)) ?_
 rintro r147 _ w147 m147 ⟨v147_0, v147_1, v147_2, v147_3, v147_4, v147_5, v147_6, rfl, f147_0, ky147⟩
 obtain ⟨s148, rfl, p148, n148⟩ := nwx s136 w147 66 ky147
 obtain ⟨s149, hw149, p149, hu147_0_0, Au147_0_1, hu147_0_2, Au147_0_3, hu147_0_4, Au147_0_5, Au147_0_6⟩ := ap53 67 68 69 (f147_0.c n148) rfl
 rw [hw149]
 have K154 := K142.st (tr2 p148 p149) rfl
 refine clO 70 rfl func25 rfl (impl_OpText.calls r147 s149.w (mm [66, 67, 68, 69, 0] s149) v147_0 v147_1 v147_2 v147_3 v147_4 v147_5 v147_6 ((AG.kp K154).sub (D := [66, 67, 68, 69, 0]) rfl) ((Xc (s := s149) hu147_0_0).sub (D := [66, 67, 68, 69, 0]) rfl) (Au147_0_1.rd.sub (D := [66, 67, 68, 69, 0]) rfl) ((Xc (s := s149) hu147_0_2).sub (D := [66, 67, 68, 69, 0]) rfl) (Au147_0_3.rd.sub (D := [66, 67, 68, 69, 0]) rfl) ((Xc (s := s149) hu147_0_4).sub (D := [66, 67, 68, 69, 0]) rfl) (Au147_0_5.rd.sub (D := [66, 67, 68, 69, 0]) rfl) (Au147_0_6.rd.sub (D := [66, 67, 68, 69, 0]) rfl)) (fun r155 v155_0 s156 p156 A155_0 => ?_)
 refine Xn v155_0 rfl (dn (sq (sr (Xo v155_0 rfl (Xo v29_0 rfl ?_)))))
 refine clV 71 rfl func11 rfl (laws_eqByteS.calls r155 r29 s156.w (mm [70, 46] s156) v155_0 v29_0 (A155_0.rd.sub (D := [70, 46]) rfl) ((Cy116_31.st (tr5 p133 p136 p148 p149 p156) rfl).rd.sub (D := [70, 46]) rfl)) (fun r159 s160 p160 n160 => ?_)
 refine Xa rfl (dn (cd rfl (fun h161 => ?_) (fun h161 => ?_)))
 ·
  refine sr (Xa rfl (dn ?_))
  exact re rfl func5 rfl (r_t rfl Xe) rfl ⟨_, rfl, rfl, z.ky (K154.st (tr2 p156 p160) rfl)⟩
 refine sk (sr (Xa rfl (dn (sr (Xo v58_0 rfl (Xa rfl ?_))))))
 refine clV 72 rfl func15 rfl (laws_heldByteS.calls r132.2 (1 : Int) s160.w (mm [52] s160) v58_0 (A133.st (tr5 p136 p148 p149 p156 p160) rfl).rd) (fun r164 s165 p165 n165 => ?_)
 refine Xa rfl (dn (sq (sr (Xa rfl (Xa rfl (dn (cd rfl (fun h166 => ?_) (fun h166 => ?_))))))))
 ·
  refine sr (Xa rfl (dn ?_))
  exact re rfl func5 rfl (r_t rfl Xe) rfl ⟨_, rfl, rfl, z.ky (K154.st (tr3 p156 p160 p165) rfl)⟩
 refine sk (sq (sr (Xa rfl (Xa rfl (Xa rfl (dn (cd rfl (fun h168 => ?_) (fun h168 => ?_))))))))
 ·
  refine sr (Xa rfl (dn ?_))
  exact re rfl func5 rfl (r_t rfl Xe) rfl ⟨_, rfl, rfl, z.ky (K154.st (tr3 p156 p160 p165) rfl)⟩
 refine sk (sr (Xa rfl (dn ?_)))
 exact re rfl func5 rfl (r_t rfl Xe) rfl ⟨_, rfl, rfl, z.ky (K154.st (tr3 p156 p160 p165) rfl)⟩
end Go.Proofs.YtiofnjnnocjbhaaDoor
