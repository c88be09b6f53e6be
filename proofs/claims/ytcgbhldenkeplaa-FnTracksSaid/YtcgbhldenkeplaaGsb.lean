/- The functions as models, and that the calls come to what the models tell. -/
import Derived.Test.YtcgbhldenkeplaaGsa
set_option linter.unusedVariables false
set_option linter.unusedSimpArgs false
set_option maxHeartbeats 4000000
set_option maxRecDepth 100000
noncomputable section
namespace Go.Proofs.Ytcgbhldenkeplaa
open Go V Try
def spec_EdgeWrite.b0 (a0 : (List Track)) (a2 : Item) (r7 : Int) (r28 : (List Track)) (y47 : (List Track) × (List Span) × (List Item)) (x111 : (List Track) × Int × Int × Bool) : Option (((List Track) × Int × Int × Bool) ⊕ ((List Track) × Int)) :=
 (if (decide (x111.2.2.1 < (x111.1.length : Int))) = true then ((if 0 ≤ x111.2.2.1 ∧ x111.2.2.1 < (x111.1.length : Int) then ((if (x111.2.2.1 == r7) = true then (some true) else ((spec_TrackReads.f (at_ x111.1 x111.2.2.1) a2).bind fun r168 => ((if (!r168) = true then (some (true, true)) else (if 0 ≤ r7 ∧ r7 < (a0.length : Int) then ((spec_Concurrent.f (at_ a0 r7) (at_ x111.1 x111.2.2.1)).bind fun r206 => (some (false, (!r206)))) else none)).bind fun y174 => (some y174.2)))).bind fun y134 => (if y134 = true then (some (x111.1, x111.2.1, x111.2.2.2)) else (if 0 ≤ x111.2.2.1 ∧ x111.2.2.1 < (x111.1.length : Int) then ((some (x111.1.set (x111.2.2.1).toNat (Track.mk ((at_ x111.1 x111.2.2.1).Xid) ((at_ x111.1 x111.2.2.1).Begun) ((at_ x111.1 x111.2.2.1).Ended) ((at_ x111.1 x111.2.2.1).All) ((at_ x111.1 x111.2.2.1).Reads) ((at_ x111.1 x111.2.2.1).Writes) ((at_ x111.1 x111.2.2.1).In) true))).bind fun y246 => ((if ((decide ((at_ x111.1 x111.2.2.1).Ended > (0 : Int))) && (at_ x111.1 x111.2.2.1).In) = true then (some (2 : Int)) else (some x111.2.1)).bind fun y249 => (some (y246, y249, true)))) else none))) else none).bind fun y118 => (some (Sum.inl (y118.1, y118.2.1, (IntKind.wrap .i64 (x111.2.2.1 + (1 : Int))), y118.2.2)))) else ((if 0 ≤ r7 ∧ r7 < (x111.1.length : Int) then ((some (x111.1.set (r7).toNat (Track.mk ((at_ r28 r7).Xid) ((at_ r28 r7).Begun) ((at_ r28 r7).Ended) ((at_ r28 r7).All) y47.2.1 y47.2.2 x111.2.2.2 ((at_ r28 r7).Out)))).bind fun y280 => ((if (x111.2.2.2 && (at_ r28 r7).Out) = true then (some (2 : Int)) else (some x111.2.1)).bind fun y283 => (some (y280, y283)))) else none).bind fun o => some (Sum.inr o)))
def spec_EdgeWrite.f (a0 : (List Track)) (a1 : Int) (a2 : Item) : Option ((List Track) × Int) :=
 ((spec_l13at.f a0 a1).bind fun r7 => ((spec_TracksOk.f a0).bind fun r11 => ((if ((!r11) || (decide (r7 < (0 : Int)))) = true then (some true) else ((spec_KeyOk.f a2).bind fun r20 => (some (!r20)))).bind fun y14 => (if y14 = true then (some (([] : (List Track)), (1 : Int))) else ((spec_l13copy.f a0).bind fun r28 => (if 0 ≤ r7 ∧ r7 < (r28.length : Int) then ((spec_l13has.f ((at_ r28 r7).Writes) a2).bind fun r45 => ((if (!r45) = true then ((spec_l3copy.f a2).bind fun r60 => (if ((at_ r28 r7).Writes).length + ([r60]).length ≤ Lim then (some (r28, (at_ r28 r7).Reads, ((at_ r28 r7).Writes ++ [r60]))) else none)) else (some (r28, (at_ r28 r7).Reads, (at_ r28 r7).Writes))).bind fun y47 => (if (decide ((y47.2.2.length : Int) > (200 : Int))) = true then (some (([] : (List Track)), (1 : Int))) else (iter (spec_EdgeWrite.b0 a0 a2 r7 r28 y47) (y47.1, (0 : Int), (0 : Int), (at_ r28 r7).In))))) else none))))))
def spec_EdgeWrite.Q (w : World) (F : Nat → Prop) (r : (List Track) × Int) (v : Value) (w' : World) : Prop :=
 ∃ (v0 : Value), v = .tuple #[v0, (iI r.2)] ∧ FO Yc w w' [v0] r.1 ∧ Ky [] w w'
theorem spec_EdgeWrite.calls (a0 : (List Track)) (a1 : Int) (a2 : Item) (w : World) (F : Nat → Prop) (w0_0 : Value) (w2_0 : Value) (w2_1 : Value) (h0_0 : Yc.rd w [w0_0] a0 F) (h2_0 : Kd.flt.rd w [w2_0] a2.F F) (h2_1 : Yd.rd w [w2_1] a2.T F) (r : (List Track) × Int) (m : spec_EdgeWrite.f a0 a1 a2 = some r) :
  Calls prog 34 #[w0_0, (iI a1), (.agg #[(iI a2.Kind), (iI a2.N), w2_0, w2_1])] w (RT (spec_EdgeWrite.Q w F) r) := by
 obtain ⟨s0, rfl, kp0, z⟩ := Xj w F
 have A0_0 := z.rd h0_0
 have A2_0 := fl_of h2_0
 have A2_1 := z.rd h2_1
 refine Xd (args := [w0_0, (iI a1), (.agg #[(iI a2.Kind), (iI a2.N), w2_0, w2_1])]) func34 ntmps34 rfl rfl m ?_
 unfold spec_EdgeWrite.f
 refine sr (bx' (cs := [(iI a2.Kind), (iI a2.N), w2_0, w2_1]) 40 rfl rfl (fun b3 s3 p3 B3 => ?_))
 refine Xb rfl (Xb rfl (dn (sr (Xp w0_0 rfl (Xb rfl ?_)))))
 have K5 := kp0.st p3 rfl
 refine clV 41 rfl func23 rfl (spec_l13at.calls a0 a1 s3.w (mm [0] s3) w0_0 (A0_0.kp K5)) (fun r7 s8 p8 n8 => ?_)
 refine Xb rfl (dn (sq (sr (Xp w0_0 rfl ?_))))
 have K9 := K5.st p8 rfl
 refine clV 42 rfl func24 rfl (spec_TracksOk.calls a0 s8.w (mm [0] s8) w0_0 (A0_0.kp K9)) (fun r11 s12 p12 n12 => ?_)
 refine Xb rfl (Xb rfl (jy [20, 21, 22, 23] [7, 8, 9, 10, 11] 23 (.bool ((!r11) || (decide (r7 < (0 : Int))))) rfl (fun Kg13 => ?_) (fun j13 => ?_)))
 ·
  rcases bft (!r11) with hb13 | hb13
  ·
   exact Xs hb13 (Xf rfl (Xf rfl (Xb rfl (Kg13 _ (Ag.put ((Ag.put ((Ag.put (Ag.base rfl) rfl)) rfl)) rfl) (by rw [hb13]; rfl)))))
  exact Xs hb13 (Xb rfl (Xb rfl (Xb rfl (Kg13 _ (Ag.put ((Ag.put ((Ag.put (Ag.base rfl) rfl)) rfl)) rfl) (by rw [hb13]; rfl)))))
 refine Xb rfl (ji [] (fun (y14 : Bool) e w => ∃ (s : St) (e0 : Env), w = s.w ∧ e = upd (upd (upd (upd e0 0 w0_0) 5 (pB b3)) 8 (iI r7)) 28 (.bool y14) ∧ Kp s0 s ∧ BlF s b3 60 [(iI a2.Kind), (iI a2.N), w2_0, w2_1] 40) (fun Gj14 Kj14 => ?_) ?_)
 ·
  rcases bft ((!r11) || (decide (r7 < (0 : Int)))) with hb14 | hb14
  ·
   refine Xs hb14 ?_
   rw [if_pos hb14]
   refine Xf rfl (Xf rfl (Xf rfl (Xb rfl ?_)))
   exact Kj14 _ _ _ ⟨s12, _, rfl, (ue (ue (ue (ue rfl rfl) rfl) rfl) rfl), (K9.st p12 rfl), (B3.st (Xm p8 p12) rfl)⟩
  refine Xs hb14 ?_
  rw [if_neg (by rw [hb14]; decide)]
  have A17 := B3.st (Xm p8 p12) rfl
  refine lda' (es := [(iI a2.Kind), (iI a2.N), w2_0, w2_1]) A17 u60 z60 rfl ?_
  have K18 := K9.st p12 rfl
  refine clV 43 rfl func48 rfl (spec_KeyOk.calls a2 s12.w (mm [0] s12) w2_0 w2_1 ((Xl (s := s12) A2_0).sub (D := [0]) rfl) (A2_1.kp K18)) (fun r20 s21 p21 n21 => ?_)
  refine Xb rfl (Xb rfl ?_)
  exact Kj14 _ _ _ ⟨s21, _, rfl, (ue (ue (ue (ue rfl rfl) rfl) rfl) rfl), (K18.st p21 rfl), (A17.st p21 rfl)⟩
 rintro y14 _ _ ⟨s24, _, rfl, rfl, Ky14, By14_b3⟩
 refine dn (cd rfl (fun h26 => ?_) (fun h26 => ?_))
 ·
  exact sr (Xb rfl (Xb rfl (dn (re rfl func34 rfl (Xq rfl (Xq rfl Xe)) rfl ⟨_, rfl, (.slice none 0 0), rfl, (ow_nil 27 kd27 s24 40).fo Ky14 rfl z.l, z.ky Ky14⟩))))
 refine sk (sr (Xp w0_0 rfl ?_))
 refine clO 44 rfl func25 rfl (spec_l13copy.calls a0 s24.w (mm [0] s24) w0_0 (A0_0.kp Ky14)) (fun r28 v28_0 s29 p29 A28_0 => ?_)
 refine Xy v28_0 rfl (dn (sr (Xp v28_0 rfl (Xb rfl (ix' A28_0.rd u30 z27 rfl (fun ad31 es31 h0_31 h1_31 he31 ce31 ia31 => ?_))))))
 obtain ⟨v31_0, v31_1, rfl, A31_0, A31_1⟩ := op27 he31
 refine lca ce31 u27 z27 rfl rfl rfl rfl rfl rfl rfl (al (cs := [(iI 0), (iI 0), (iI 0), (.bool false), (.slice none 0 0), (.slice none 0 0), (.bool false), (.bool false)]) 45 rfl rfl rfl rfl rfl o27 rfl (fun b35 s35 p35 B35 => ?_))
 have A37 := A31_1.st p35 rfl
 refine sva' (vs := [(iI ((at_ r28 r7).Xid)), (iI ((at_ r28 r7).Begun)), (iI ((at_ r28 r7).Ended)), (.bool ((at_ r28 r7).All)), v31_0, v31_1, (.bool ((at_ r28 r7).In)), (.bool ((at_ r28 r7).Out))]) B35 z27 rfl (Xc rfl (Xc rfl (Xc rfl (Xc rfl (Xc (A31_0.st p35 rfl).one (Xc A37.one (Xc rfl (Xc rfl Xx)))))))) rfl (fun s39 p39 B39 => ?_)
 refine dn (sq (sr (Xw fa27_5 rfl (ld' B39 u25 rfl ?_))))
 have A41 := By14_b3.st (Yb p29 p35 p39) rfl
 refine lda' (es := [(iI a2.Kind), (iI a2.N), w2_0, w2_1]) A41 u60 z60 rfl ?_
 have K43 := Ky14.st (Yb p29 p35 p39) rfl
 refine clV 46 rfl func62 rfl (spec_l13has.calls ((at_ r28 r7).Writes) a2 s39.w (mm [44, 0] s39) v31_1 w2_0 w2_1 ((A37.st p39 rfl).sub (D := [44, 0]) rfl) ((Xl (s := s39) A2_0).sub (D := [44, 0]) rfl) ((A2_1.kp K43).sub (D := [44, 0]) rfl)) (fun r45 s46 p46 n46 => ?_)
 refine Xb rfl (dn (jc (fun (y47 : (List Track) × (List Span) × (List Item)) e w => ∃ (s : St) (e0 : Env) (vy47_2 : Value), w = s.w ∧ e = upd (upd (upd (upd (upd e0 0 w0_0) 5 (pB b3)) 8 (iI r7)) 9 v28_0) 10 (pB b35) ∧ Kp s0 s ∧ RwF 27 kd27 s v28_0 y47.1 44 [900, 904, 905] ∧ OwF Yf s [v31_0] y47.2.1 904 ∧ OwF Ye s [vy47_2] y47.2.2 905 ∧ HoG 27 kd27 s v28_0 y47.1 r7 44 900 ∧ BlF s b35 27 [(iI ((at_ r28 r7).Xid)), (iI ((at_ r28 r7).Begun)), (iI ((at_ r28 r7).Ended)), (.bool ((at_ r28 r7).All)), v31_0, vy47_2, (.bool ((at_ r28 r7).In)), (.bool ((at_ r28 r7).Out))] 45 ∧ BlF s b3 60 [(iI a2.Kind), (iI a2.N), w2_0, w2_1] 40) (fun Gj47 Kj47 => ?_) ?_))
 ·
  refine cd rfl (fun h48 => ?_) (fun h48 => ?_)
  ·
   refine zdraw [[], [0], [], [2], [3], [1, 4, 3], [0, 1, 2, 3, 4, 5], [6, 5, 5, 0, 1, 2, 3, 4, 5]] [some 40, some 41, some 42, some 43, some 44, some 45, some 46, none] [[10], [40], [5], [42], [43], [41, 44], [10], [46, 45]] [0, 1, 2, 3, 4, 5, 6, 7] ⟨by kernel_rfl, by kernel_rfl, by kernel_rfl⟩ (by kernel_rfl) (fun s49 p49 l49 tb49 zd49 => ?_)
   refine zstep 3 [some 41, some 40] tb49 (((zd49.add 0 40 (pO b35 5) rfl).add 1 41 v31_1 rfl).add 2 42 (.agg #[(iI a2.Kind), (iI a2.N), w2_0, w2_1]) rfl) (Xa (lda_q' (es := [(iI a2.Kind), (iI a2.N), w2_0, w2_1]) (A41.st (Xm p46 p49) rfl) u60 z60 rfl) rfl (Xa (Ya (B39.st (Xm p46 p49) rfl) u25 rfl) rfl (Xa (Xo fa27_5 rfl) rfl Xk))) (by kernel_rfl) rfl (fun l55 e55 zd55 => ?_)
   have K58 := K43.st (Xm p46 p49) rfl
   refine cl' rfl func60 rfl (spec_l3copy.calls a2 s49.w (mm [0] s49) w2_0 w2_1 ((Xl (s := s49) A2_0).sub (D := [0]) rfl) (A2_1.kp K58)) ?_
   rintro r60 _ w60 m60 ⟨v60_0, v60_1, rfl, f60_0, ky60⟩
   obtain ⟨s61, rfl, p61, n61⟩ := nwx s49 w60 47 ky60
   obtain ⟨hu60_0_0, Au60_0_1⟩ := ap60 (f60_0.c n61)
   refine zdone (L' := [1, 0]) (D' := [2, 3]) zd55 rfl rfl rfl (fun zd63 => ?_)
   refine zstep 4 [some 41, some 40] tb49 zd63 (Xa (Ya (B39.st (Yb p46 p49 p61) rfl) u25 rfl) rfl (Xa (Xo fa27_5 rfl) rfl Xk)) (by kernel_rfl) rfl (fun l64 e64 zd64 => ?_)
   have A66 : OwF kd60 s61 [(iI r60.Kind), (iI r60.N), v60_0, v60_1] r60 47 := (Xv (fun x : Item => (x.Kind, x.N, x.F, x.T)) r60 (Xt (Xi .i64 r60.Kind) (Xt (Xi .i64 r60.N) (Xt (fz_flt hu60_0_0) Au60_0_1))))
   refine ltO (K := kd60) (cells := [(iI r60.Kind), (iI r60.N), v60_0, v60_1]) [r60] 47 u25 z60 o60 (lo_one A66) rfl rfl rfl rfl rfl rfl rfl rfl rfl rfl (fun v69 s69 p69 A69 => ?_)
   refine zdone (L' := [1, 0]) (D' := [4, 2, 3]) zd64 rfl rfl rfl (fun zd71 => ?_)
   refine zfin [5, 6, 7] tb49 zd71 (Xa (Ya (B39.st (tr4 p46 p49 p61 p69) rfl) u25 rfl) rfl (Xa (Xo fa27_5 rfl) rfl Xk)) (by kernel_rfl) (by decide) ?_
   obtain ⟨s75, hw75, p75, A75, B75, G75, R75, ce75⟩ := takeG 905 904 900 (lg_iso (fun x : Track => (x.Xid, x.Begun, x.Ended, x.All, x.Reads, x.Writes, x.In, x.Out)) (fun x => x.Writes) (fun x y => (Track.mk x.Xid x.Begun x.Ended x.All x.Reads y x.In x.Out)) (Xh (Xh (Xh (Xh (Xh (lg_left lg_id)))))) (fun _ => rfl) (fun _ _ => rfl)) (lg_iso (fun x : Track => (x.Xid, x.Begun, x.Ended, x.All, x.Reads, x.Writes, x.In, x.Out)) (fun x => x.Reads) (fun x y => (Track.mk x.Xid x.Begun x.Ended x.All y x.Writes x.In x.Out)) (Xh (Xh (Xh (Xh (lg_left lg_id))))) (fun _ => rfl) (fun _ _ => rfl)) (fun _ => rfl) (fun _ _ => rfl) (fz_nil 60 kd60) (A28_0.st (tr6 p35 p39 p46 p49 p61 p69) rfl) h0_31 h1_31 ia31 (ce31.st (tr6 p35 p39 p46 p49 p61 p69) rfl rfl) rfl rfl rfl rfl rfl rfl rfl
   rw [hw75]
   refine apk1 sl25 A75 (A69.st p75 rfl) rfl rfl rfl rfl rfl rfl rfl rfl rfl (fun v80 s80 p80 A80 O80 => ?_)
   have W80 : RwF 27 kd27 s80 v28_0 r28 44 [900, 904, 905] := (HoR.rw (R75.st p80 rfl rfl) O80).sub rfl
   refine Xw fa27_5 rfl (sv' (B39.st (tr6 p46 p49 p61 p69 p75 p80) rfl) z25 rfl A80.rd.one rfl (fun s85 p85 B85 => ?_))
   exact dn (Kj47 _ _ _ ⟨s85, _, v80, rfl, (ue (ue (ue (ue (ue rfl rfl) rfl) rfl) rfl) rfl), (K58.st (tr5 p61 p69 p75 p80 p85) rfl), (W80.st p85 rfl rfl), (B75.st (Xm p80 p85) rfl), (A80.st p85 rfl), (G75.st (Xm p80 p85) rfl), B85, (A41.st (tr7 p46 p49 p61 p69 p75 p80 p85) rfl)⟩)
  obtain ⟨s95, hw95, p95, A95, B95, G95, R95, ce95⟩ := takeG 904 905 900 (lg_iso (fun x : Track => (x.Xid, x.Begun, x.Ended, x.All, x.Reads, x.Writes, x.In, x.Out)) (fun x => x.Reads) (fun x y => (Track.mk x.Xid x.Begun x.Ended x.All y x.Writes x.In x.Out)) (Xh (Xh (Xh (Xh (lg_left lg_id))))) (fun _ => rfl) (fun _ _ => rfl)) (lg_iso (fun x : Track => (x.Xid, x.Begun, x.Ended, x.All, x.Reads, x.Writes, x.In, x.Out)) (fun x => x.Writes) (fun x y => (Track.mk x.Xid x.Begun x.Ended x.All x.Reads y x.In x.Out)) (Xh (Xh (Xh (Xh (Xh (lg_left lg_id)))))) (fun _ => rfl) (fun _ _ => rfl)) (fun _ => rfl) (fun _ _ => rfl) (fz_nil 62 kd62) (A28_0.st (Yb p35 p39 p46) rfl) h0_31 h1_31 ia31 (ce31.st (Yb p35 p39 p46) rfl rfl) rfl rfl rfl rfl rfl rfl rfl
  rw [hw95]
  have W95 : RwF 27 kd27 s95 v28_0 r28 44 [900, 904, 905] := (HoR.rw R95 A95).sub rfl
  exact sk (Kj47 _ _ _ ⟨s95, _, v31_1, rfl, (ue (ue (ue (ue (ue rfl rfl) rfl) rfl) rfl) rfl), (K43.st (Xm p46 p95) rfl), W95, A95, B95, G95, (B39.st (Xm p46 p95) rfl), (A41.st (Xm p46 p95) rfl)⟩)
 rintro y47 _ _ ⟨s103, _, vy47_2, rfl, rfl, Ky47, Ay47_0, Ay47_1, Ay47_2, Gy47_0, By47_b35, By47_b3⟩
 refine sq (sr (Xw fa27_5 rfl (ld' By47_b35 u25 rfl (ln' Ay47_2.rd u25 rfl (Xb rfl (dn (cd rfl (fun h110 => ?_) (fun h110 => ?_))))))))
 ·
  exact sr (Xb rfl (Xb rfl (dn (re rfl func34 rfl (Xq rfl (Xq rfl Xe)) rfl ⟨_, rfl, (.slice none 0 0), rfl, (ow_nil 27 kd27 s103 40).fo Ky47 rfl z.l, z.ky Ky47⟩))))
 refine sk (sr (Xb rfl (dn (sq (sr (Xb rfl (dn (bl (lpI (fun (x111 : (List Track) × Int × Int × Bool) e w => ∃ (s : St) (e0 : Env), w = s.w ∧ e = upd (upd (upd (upd (upd (upd (upd e0 0 w0_0) 5 (pB b3)) 8 (iI r7)) 9 v28_0) 10 (pB b35)) 11 (iI x111.2.1)) 12 (iI x111.2.2.1) ∧ Kp s0 s ∧ RwF 27 kd27 s v28_0 x111.1 44 [900, 904, 905] ∧ HoG 27 kd27 s v28_0 x111.1 r7 44 900 ∧ BlF s b35 27 [(iI ((at_ r28 r7).Xid)), (iI ((at_ r28 r7).Begun)), (iI ((at_ r28 r7).Ended)), (.bool ((at_ r28 r7).All)), v31_0, vy47_2, (.bool x111.2.2.2), (.bool ((at_ r28 r7).Out))] 45 ∧ BlF s b3 60 [(iI a2.Kind), (iI a2.N), w2_0, w2_1] 40 ∧ OwF Yf s [v31_0] y47.2.1 904 ∧ OwF Ye s [vy47_2] y47.2.2 905) ⟨s103, _, rfl, (ue (ue (ue (ue (ue (ue (ue rfl rfl) rfl) rfl) rfl) rfl) rfl) rfl), Ky47, Ay47_0, Gy47_0, By47_b35, By47_b3, Ay47_1, Ay47_2⟩ (fun g111 ih111 => ?_))))))))))
 rintro x111 _ _ ⟨s112, _, rfl, rfl, Kx111, Ax111_0, Gx111_0, Bx111_b35, Bx111_b3, Cx111_106, Cx111_107⟩
 unfold spec_EdgeWrite.b0
 refine sq (sr (Xb rfl (Xp v28_0 rfl (ln' Ax111_0.rd u30 rfl (Xb rfl (dn (cd rfl (fun h117 => ?_) (fun h117 => ?_))))))))
 ·
  refine sk (sq (jc (fun (y118 : (List Track) × Int × Bool) e w => ∃ (s : St) (e0 : Env), w = s.w ∧ e = upd (upd (upd (upd (upd (upd (upd e0 0 w0_0) 5 (pB b3)) 8 (iI r7)) 9 v28_0) 10 (pB b35)) 11 (iI y118.2.1)) 12 (iI x111.2.2.1) ∧ Kp s0 s ∧ RwF 27 kd27 s v28_0 y118.1 44 [900, 904, 905] ∧ HoG 27 kd27 s v28_0 y118.1 r7 44 900 ∧ BlF s b35 27 [(iI ((at_ r28 r7).Xid)), (iI ((at_ r28 r7).Begun)), (iI ((at_ r28 r7).Ended)), (.bool ((at_ r28 r7).All)), v31_0, vy47_2, (.bool y118.2.2), (.bool ((at_ r28 r7).Out))] 45 ∧ BlF s b3 60 [(iI a2.Kind), (iI a2.N), w2_0, w2_1] 40 ∧ OwF Yf s [v31_0] y47.2.1 904 ∧ OwF Ye s [vy47_2] y47.2.2 905) (fun Gj118 Kj118 => ?_) ?_))
  ·
   refine bl (sr (Xp v28_0 rfl (Xb rfl (ix' Ax111_0.rd u30 z27 rfl (fun ad119 es119 h0_119 h1_119 he119 ce119 ia119 => ?_)))))
   replace he119 := rw_sharp Ax111_0 h0_119 h1_119 ia119 ce119 he119
   obtain ⟨v119_0, v119_1, rfl, A119_0, A119_1⟩ := op27 he119
   refine lca ce119 u27 z27 rfl rfl rfl rfl rfl rfl rfl (al (cs := [(iI 0), (iI 0), (iI 0), (.bool false), (.slice none 0 0), (.slice none 0 0), (.bool false), (.bool false)]) 49 rfl rfl rfl rfl rfl o27 rfl (fun b123 s123 p123 B123 => ?_))
   have A125 := A119_1.st p123 rfl
   have A126 := A119_0.st p123 rfl
   refine sva' (vs := [(iI ((at_ x111.1 x111.2.2.1).Xid)), (iI ((at_ x111.1 x111.2.2.1).Begun)), (iI ((at_ x111.1 x111.2.2.1).Ended)), (.bool ((at_ x111.1 x111.2.2.1).All)), v119_0, v119_1, (.bool ((at_ x111.1 x111.2.2.1).In)), (.bool ((at_ x111.1 x111.2.2.1).Out))]) B123 z27 rfl (Xc rfl (Xc rfl (Xc rfl (Xc rfl (Xc A126.one (Xc A125.one (Xc rfl (Xc rfl Xx)))))))) rfl (fun s127 p127 B127 => ?_)
   refine dn (sq (sq (zdraw [[], [], [0, 1], [2], [3], [3], [4, 5, 3, 3], [6, 3], [3, 7], [8, 6], [9], [9], [10, 11, 9], [12, 9], [9], [13, 14, 9, 9], [15, 9], [9, 16]] [some 61, some 62, some 63, some 64, some 65, some 66, some 67, some 68, some 69, some 70, some 71, some 72, some 73, some 74, some 75, some 76, some 77, some 78] [[12], [8], [61, 62], [63], [13, 64], [5, 64], [65, 66, 64], [67, 64], [64, 68], [69], [0, 70], [8, 70], [71, 72, 70], [73, 70], [13, 70], [74, 75, 70], [76, 70], [70, 77]] [0, 1, 2, 3, 4, 5, 6, 7, 8, 9, 10, 11, 12, 13, 14, 15, 16, 17] ⟨by kernel_rfl, by kernel_rfl, by kernel_rfl⟩ (by kernel_rfl) (fun s129 p129 l129 tb129 zd129 => ?_))))
   have zd133 := (((zd129.add 0 61 (iI x111.2.2.1) rfl).add 1 62 (iI r7) rfl).add 2 63 (.bool (x111.2.2.1 == r7)) rfl).add 3 64 (.bool (x111.2.2.1 == r7)) rfl
   refine ji [] (fun (y134 : Bool) e w => ∃ (s : St) (e0 : Env), w = s.w ∧ e = upd (upd (upd (upd (upd (upd (upd (upd (upd e0 0 w0_0) 5 (pB b3)) 8 (iI r7)) 9 v28_0) 10 (pB b35)) 11 (iI x111.2.1)) 12 (iI x111.2.2.1)) 13 (pB b123)) 78 (.bool y134) ∧ Kp s0 s ∧ BlF s b123 27 [(iI ((at_ x111.1 x111.2.2.1).Xid)), (iI ((at_ x111.1 x111.2.2.1).Begun)), (iI ((at_ x111.1 x111.2.2.1).Ended)), (.bool ((at_ x111.1 x111.2.2.1).All)), v119_0, v119_1, (.bool ((at_ x111.1 x111.2.2.1).In)), (.bool ((at_ x111.1 x111.2.2.1).Out))] 49 ∧ BlF s b35 27 [(iI ((at_ r28 r7).Xid)), (iI ((at_ r28 r7).Begun)), (iI ((at_ r28 r7).Ended)), (.bool ((at_ r28 r7).All)), v31_0, vy47_2, (.bool x111.2.2.2), (.bool ((at_ r28 r7).Out))] 45 ∧ BlF s b3 60 [(iI a2.Kind), (iI a2.N), w2_0, w2_1] 40 ∧ RwF 27 kd27 s v28_0 x111.1 44 [900, 904, 905] ∧ HoG 27 kd27 s v28_0 x111.1 r7 44 900 ∧ RdF Yf s [v119_0] ((at_ x111.1 x111.2.2.1).Reads) [900, 904, 905] ∧ CeF s ad119 [(iI ((at_ x111.1 x111.2.2.1).Xid)), (iI ((at_ x111.1 x111.2.2.1).Begun)), (iI ((at_ x111.1 x111.2.2.1).Ended)), (.bool ((at_ x111.1 x111.2.2.1).All)), v119_0, v119_1, (.bool ((at_ x111.1 x111.2.2.1).In)), (.bool ((at_ x111.1 x111.2.2.1).Out))] [44, 900, 904, 905] ∧ RdF Ye s [v119_1] ((at_ x111.1 x111.2.2.1).Writes) [900, 904, 905] ∧ OwF Yf s [v31_0] y47.2.1 904 ∧ OwF Ye s [vy47_2] y47.2.2 905) (fun Gj134 Kj134 => ?_) ?_
   ·
    rcases bft (x111.2.2.1 == r7) with hb134 | hb134
    ·
     rw [if_pos hb134]
     rw [hb134] at zd133
     try rw [hb134]
     refine zfin [15, 16, 17] tb129 (((((((((((zd133.add 4 65 undef rfl).add 5 66 undef rfl).add 6 67 undef rfl).add 7 68 undef rfl).add 8 69 (.bool true) rfl).add 9 70 (.bool true) rfl).add 10 71 undef rfl).add 11 72 undef rfl).add 12 73 undef rfl).add 13 74 undef rfl).add 14 75 undef rfl) (Xa (Xr rfl) rfl (Xa (Xr rfl) rfl (Xa (Xr rfl) rfl (Xa (Xr rfl) rfl (Xa (Xr rfl) rfl (Xa (Xg rfl) rfl (Xa (Xg rfl) rfl (Xa (Xr rfl) rfl (Xa (Xr rfl) rfl (Xa (Xr rfl) rfl (Xa (Xr rfl) rfl (Xa (Xg rfl) rfl (Xa (qv_b (Xg rfl) hb134) rfl (Xa (Xg rfl) rfl (Xa (Xg rfl) rfl Xk))))))))))))))) (by kernel_rfl) (by decide) (Xf rfl (Xf rfl (Xb rfl ?_)))
     exact Kj134 _ _ _ ⟨s129, _, rfl, (ue (ue (ue (ue (ue (ue (ue (ue (ue rfl rfl) rfl) rfl) rfl) rfl) rfl) rfl) rfl) rfl), (Kx111.st (Yb p123 p127 p129) rfl), (B127.st p129 rfl), (Bx111_b35.st (Yb p123 p127 p129) rfl), (Bx111_b3.st (Yb p123 p127 p129) rfl), (Ax111_0.st (Yb p123 p127 p129) rfl rfl), (Gx111_0.st (Yb p123 p127 p129) rfl), (A126.st (Xm p127 p129) rfl), (ce119.st (Yb p123 p127 p129) rfl rfl), (A125.st (Xm p127 p129) rfl), (Cx111_106.st (Yb p123 p127 p129) rfl), (Cx111_107.st (Yb p123 p127 p129) rfl)⟩
    rw [if_neg (by rw [hb134]; decide)]
    rw [hb134] at zd133
    try rw [hb134]
    refine zstep 6 [] tb129 ((zd133.add 4 65 (.agg #[(iI ((at_ x111.1 x111.2.2.1).Xid)), (iI ((at_ x111.1 x111.2.2.1).Begun)), (iI ((at_ x111.1 x111.2.2.1).Ended)), (.bool ((at_ x111.1 x111.2.2.1).All)), v119_0, v119_1, (.bool ((at_ x111.1 x111.2.2.1).In)), (.bool ((at_ x111.1 x111.2.2.1).Out))]) rfl).add 5 66 (.agg #[(iI a2.Kind), (iI a2.N), w2_0, w2_1]) rfl) (Xa (lda_q' (es := [(iI a2.Kind), (iI a2.N), w2_0, w2_1]) (Bx111_b3.st (Yb p123 p127 p129) rfl) u60 z60 rfl) rfl (Xa (lda_q' (es := [(iI ((at_ x111.1 x111.2.2.1).Xid)), (iI ((at_ x111.1 x111.2.2.1).Begun)), (iI ((at_ x111.1 x111.2.2.1).Ended)), (.bool ((at_ x111.1 x111.2.2.1).All)), v119_0, v119_1, (.bool ((at_ x111.1 x111.2.2.1).In)), (.bool ((at_ x111.1 x111.2.2.1).Out))]) (B127.st p129 rfl) u27 z27 rfl) rfl (Xa (Xg rfl) rfl (Xa (qv_b (Xg rfl) hb134) rfl (Xa (Xg rfl) rfl (Xa (Xg rfl) rfl Xk)))))) (by kernel_rfl) rfl (fun l161 e161 zd161 => ?_)
    have A164 := A126.st (Xm p127 p129) rfl
    have A165 := A125.st (Xm p127 p129) rfl
    have K166 := Kx111.st (Yb p123 p127 p129) rfl
    refine clV 50 rfl func63 rfl (spec_TrackReads.calls (at_ x111.1 x111.2.2.1) a2 s129.w (mm [900, 904, 905, 0] s129) v119_0 v119_1 w2_0 w2_1 (A164.sub (D := [900, 904, 905, 0]) rfl) (A165.sub (D := [900, 904, 905, 0]) rfl) ((Xl (s := s129) A2_0).sub (D := [900, 904, 905, 0]) rfl) ((A2_1.kp K166).sub (D := [900, 904, 905, 0]) rfl)) (fun r168 s169 p169 n169 => ?_)
    refine zdone (L' := []) (D' := [0, 1, 2, 4, 5, 3, 3, 6]) zd161 rfl rfl rfl (fun zd170 => ?_)
    have zd173 := ((zd170.add 7 68 (.bool (!r168)) rfl).add 8 69 (.bool (!r168)) rfl).add 9 70 (.bool (!r168)) rfl
    refine ji [] (fun (y174 : Bool × Bool) e w => ∃ (s : St) (e0 : Env), w = s.w ∧ e = upd (upd (upd (upd (upd (upd (upd (upd (upd (upd (upd (upd (upd e0 0 w0_0) 5 (pB b3)) 8 (iI r7)) 9 v28_0) 10 (pB b35)) 11 (iI x111.2.1)) 12 (iI x111.2.2.1)) 13 (pB b123)) 65 (.agg #[(iI ((at_ x111.1 x111.2.2.1).Xid)), (iI ((at_ x111.1 x111.2.2.1).Begun)), (iI ((at_ x111.1 x111.2.2.1).Ended)), (.bool ((at_ x111.1 x111.2.2.1).All)), v119_0, v119_1, (.bool ((at_ x111.1 x111.2.2.1).In)), (.bool ((at_ x111.1 x111.2.2.1).Out))])) 66 (.agg #[(iI a2.Kind), (iI a2.N), w2_0, w2_1])) 67 (.bool r168)) 68 (.bool y174.1)) 78 (.bool y174.2) ∧ Kp s0 s ∧ BlF s b123 27 [(iI ((at_ x111.1 x111.2.2.1).Xid)), (iI ((at_ x111.1 x111.2.2.1).Begun)), (iI ((at_ x111.1 x111.2.2.1).Ended)), (.bool ((at_ x111.1 x111.2.2.1).All)), v119_0, v119_1, (.bool ((at_ x111.1 x111.2.2.1).In)), (.bool ((at_ x111.1 x111.2.2.1).Out))] 49 ∧ BlF s b35 27 [(iI ((at_ r28 r7).Xid)), (iI ((at_ r28 r7).Begun)), (iI ((at_ r28 r7).Ended)), (.bool ((at_ r28 r7).All)), v31_0, vy47_2, (.bool x111.2.2.2), (.bool ((at_ r28 r7).Out))] 45 ∧ BlF s b3 60 [(iI a2.Kind), (iI a2.N), w2_0, w2_1] 40 ∧ RwF 27 kd27 s v28_0 x111.1 44 [900, 904, 905] ∧ HoG 27 kd27 s v28_0 x111.1 r7 44 900 ∧ RdF Yf s [v119_0] ((at_ x111.1 x111.2.2.1).Reads) [900, 904, 905] ∧ CeF s ad119 [(iI ((at_ x111.1 x111.2.2.1).Xid)), (iI ((at_ x111.1 x111.2.2.1).Begun)), (iI ((at_ x111.1 x111.2.2.1).Ended)), (.bool ((at_ x111.1 x111.2.2.1).All)), v119_0, v119_1, (.bool ((at_ x111.1 x111.2.2.1).In)), (.bool ((at_ x111.1 x111.2.2.1).Out))] [44, 900, 904, 905] ∧ RdF Ye s [v119_1] ((at_ x111.1 x111.2.2.1).Writes) [900, 904, 905] ∧ OwF Yf s [v31_0] y47.2.1 904 ∧ OwF Ye s [vy47_2] y47.2.2 905) (fun Gj174 Kj174 => ?_) ?_
    ·
     rcases bft (!r168) with hb174 | hb174
     ·
      rw [if_pos hb174]
      rw [hb174] at zd173
      try rw [hb174]
      refine zfin [15, 16, 17] tb129 (((((zd173.add 10 71 undef rfl).add 11 72 undef rfl).add 12 73 undef rfl).add 13 74 undef rfl).add 14 75 undef rfl) (Xa (Xr rfl) rfl (Xa (Xr rfl) rfl (Xa (Xr rfl) rfl (Xa (Xr rfl) rfl (Xa (Xr rfl) rfl (Xa (Xg rfl) rfl (Xa (Xg rfl) rfl (Xa (qv_b (Xg rfl) hb174) rfl Xk)))))))) (by kernel_rfl) (by decide) (Xf rfl (Xf rfl (Xb rfl ?_)))
      exact Kj174 _ _ _ ⟨s169, _, rfl, (ue (ue (ue (ue (ue (ue (ue (ue (ue (ue (ue (ue (ue rfl rfl) rfl) rfl) rfl) rfl) rfl) rfl) rfl) rfl) rfl) rfl) rfl) rfl), (K166.st p169 rfl), (B127.st (Xm p129 p169) rfl), (Bx111_b35.st (tr4 p123 p127 p129 p169) rfl), (Bx111_b3.st (tr4 p123 p127 p129 p169) rfl), (Ax111_0.st (tr4 p123 p127 p129 p169) rfl rfl), (Gx111_0.st (tr4 p123 p127 p129 p169) rfl), (A164.st p169 rfl), (ce119.st (tr4 p123 p127 p129 p169) rfl rfl), (A165.st p169 rfl), (Cx111_106.st (tr4 p123 p127 p129 p169) rfl), (Cx111_107.st (tr4 p123 p127 p129 p169) rfl)⟩
     rw [if_neg (by rw [hb174]; decide)]
     rw [hb174] at zd173
     try rw [hb174]
     have K193 := K166.st p169 rfl
     have A194 := A0_0.kp K193
     refine mg fun hg195 => ?_
     obtain ⟨ad195, es195, he195, ce195, ia195⟩ := ix_e A194 rfl hg195.1 hg195.2
     obtain ⟨v195_0, v195_1, rfl, A195_0, A195_1⟩ := op27 he195
     refine zfin [15, 16, 17] tb129 (((((zd173.add 10 71 w0_0 rfl).add 11 72 (iI r7) rfl).add 12 73 (.pointer (some ad195)) rfl).add 13 74 (.agg #[(iI ((at_ a0 r7).Xid)), (iI ((at_ a0 r7).Begun)), (iI ((at_ a0 r7).Ended)), (.bool ((at_ a0 r7).All)), v195_0, v195_1, (.bool ((at_ a0 r7).In)), (.bool ((at_ a0 r7).Out))]) rfl).add 14 75 (.agg #[(iI ((at_ x111.1 x111.2.2.1).Xid)), (iI ((at_ x111.1 x111.2.2.1).Begun)), (iI ((at_ x111.1 x111.2.2.1).Ended)), (.bool ((at_ x111.1 x111.2.2.1).All)), v119_0, v119_1, (.bool ((at_ x111.1 x111.2.2.1).In)), (.bool ((at_ x111.1 x111.2.2.1).Out))]) rfl) (Xa (lda_q' (es := [(iI ((at_ x111.1 x111.2.2.1).Xid)), (iI ((at_ x111.1 x111.2.2.1).Begun)), (iI ((at_ x111.1 x111.2.2.1).Ended)), (.bool ((at_ x111.1 x111.2.2.1).All)), v119_0, v119_1, (.bool ((at_ x111.1 x111.2.2.1).In)), (.bool ((at_ x111.1 x111.2.2.1).Out))]) (B127.st (Xm p129 p169) rfl) u27 z27 rfl) rfl (Xa (lca_q ce195 u27 z27 rfl rfl rfl rfl rfl rfl rfl) rfl (Xa (ix_q' A194 u30 z27 hg195.1 hg195.2 ia195 rfl) rfl (Xa (Xg rfl) rfl (Xa (Xu w0_0 rfl) rfl (Xa (Xg rfl) rfl (Xa (Xg rfl) rfl (Xa (qv_b (Xg rfl) hb174) rfl Xk)))))))) (by kernel_rfl) (by decide) ?_
     have A204 := A164.st p169 rfl
     have A205 := A165.st p169 rfl
     refine clV 51 rfl func59 rfl (spec_Concurrent.calls (at_ a0 r7) (at_ x111.1 x111.2.2.1) s169.w (mm [0, 900, 904, 905] s169) v195_0 v195_1 v119_0 v119_1 (A195_0.sub (D := [0, 900, 904, 905]) rfl) (A195_1.sub (D := [0, 900, 904, 905]) rfl) (A204.sub (D := [0, 900, 904, 905]) rfl) (A205.sub (D := [0, 900, 904, 905]) rfl)) (fun r206 s207 p207 n207 => ?_)
     refine Xb rfl (Xb rfl ?_)
     exact Kj174 _ _ _ ⟨s207, _, rfl, (ue (ue (ue (ue (ue (ue (ue (ue (ue (ue (ue (ue (ue rfl rfl) rfl) rfl) rfl) rfl) rfl) rfl) rfl) rfl) rfl) rfl) rfl) rfl), (K193.st p207 rfl), (B127.st (Yb p129 p169 p207) rfl), (Bx111_b35.st (tr5 p123 p127 p129 p169 p207) rfl), (Bx111_b3.st (tr5 p123 p127 p129 p169 p207) rfl), (Ax111_0.st (tr5 p123 p127 p129 p169 p207) rfl rfl), (Gx111_0.st (tr5 p123 p127 p129 p169 p207) rfl), (A204.st p207 rfl), (ce119.st (tr5 p123 p127 p129 p169 p207) rfl rfl), (A205.st p207 rfl), (Cx111_106.st (tr5 p123 p127 p129 p169 p207) rfl), (Cx111_107.st (tr5 p123 p127 p129 p169 p207) rfl)⟩
    rintro y174 _ _ ⟨s219, _, rfl, rfl, Ky174, By174_b123, By174_b35, By174_b3, Cy174_113, Cy174_114, Cy174_120, Cy174_122, Cy174_121, Cy174_106, Cy174_107⟩
    exact Kj134 _ _ _ ⟨s219, _, rfl, (ue (ue (ue (ue (ue (ue (ue (ue (ue rfl rfl) rfl) rfl) rfl) rfl) rfl) rfl) rfl) rfl), Ky174, By174_b123, By174_b35, By174_b3, Cy174_113, Cy174_114, Cy174_120, Cy174_122, Cy174_121, Cy174_106, Cy174_107⟩
   rintro y134 _ _ ⟨s223, _, rfl, rfl, Ky134, By134_b123, By134_b35, By134_b3, Cy134_113, Cy134_114, Cy134_120, Cy134_122, Cy134_121, Cy134_106, Cy134_107⟩
   refine dn (cd rfl (fun h227 => ?_) (fun h227 => ?_))
   ·
    exact xt rfl (Kj118 _ _ _ ⟨s223, _, rfl, (ue (ue (ue (ue (ue (ue (ue rfl rfl) rfl) rfl) rfl) rfl) rfl) rfl), Ky134, Cy134_113, Cy134_114, By134_b35, By134_b3, Cy134_106, Cy134_107⟩)
   refine sk (sr (Xw fa27_7 rfl (sv' By134_b123 z4 rfl rfl rfl (fun s228 p228 B228 => ?_))))
   refine dn (sr (Xw fa27_6 rfl ?_))
   refine sv' (By134_b35.st p228 rfl) z4 rfl rfl rfl (fun s231 p231 B231 => ?_)
   refine dn (sr (Xp v28_0 rfl (Xb rfl ?_)))
   have A233 := B228.st p231 rfl
   refine lda' (es := [(iI ((at_ x111.1 x111.2.2.1).Xid)), (iI ((at_ x111.1 x111.2.2.1).Begun)), (iI ((at_ x111.1 x111.2.2.1).Ended)), (.bool ((at_ x111.1 x111.2.2.1).All)), v119_0, v119_1, (.bool ((at_ x111.1 x111.2.2.1).In)), (.bool true)]) A233 u27 z27 rfl ?_
   have A234 := Cy134_113.st (Xm p228 p231) rfl rfl
   refine ix' A234.rd u30 z27 rfl (fun ad235 es235 h0_235 h1_235 he235 ce235 ia235 => ?_)
   replace he235 := rw_sharp A234 h0_235 h1_235 ia235 ce235 he235
   obtain ⟨v235_0, v235_1, rfl, A235_0, A235_1⟩ := op27 he235
   refine soG (x' := (Track.mk ((at_ x111.1 x111.2.2.1).Xid) ((at_ x111.1 x111.2.2.1).Begun) ((at_ x111.1 x111.2.2.1).Ended) ((at_ x111.1 x111.2.2.1).All) ((at_ x111.1 x111.2.2.1).Reads) ((at_ x111.1 x111.2.2.1).Writes) ((at_ x111.1 x111.2.2.1).In) true)) (lg_iso (fun x : Track => (x.Xid, x.Begun, x.Ended, x.All, x.Reads, x.Writes, x.In, x.Out)) (fun x => x.Out) (fun x y => (Track.mk x.Xid x.Begun x.Ended x.All x.Reads x.Writes x.In y)) (Xh (Xh (Xh (Xh (Xh (Xh (Xh lg_id))))))) (fun _ => rfl) (fun _ _ => rfl)) (Cy134_114.st (Xm p228 p231) rfl) A234 ia235 h0_235 h1_235 ia119 (Cy134_122.st (Xm p228 p231) rfl rfl) rfl (Xz true) rfl rfl (mk27 (x := (Track.mk ((at_ x111.1 x111.2.2.1).Xid) ((at_ x111.1 x111.2.2.1).Begun) ((at_ x111.1 x111.2.2.1).Ended) ((at_ x111.1 x111.2.2.1).All) ((at_ x111.1 x111.2.2.1).Reads) ((at_ x111.1 x111.2.2.1).Writes) ((at_ x111.1 x111.2.2.1).In) true)) (Cy134_120.st (Xm p228 p231) rfl) (Cy134_121.st (Xm p228 p231) rfl)) rfl rfl z27 rfl rfl rfl rfl rfl rfl (fun s243 p243 A243 G243 => ?_)
   refine nb (fun y246 h246 => ?_)
   have A246 : RwF 27 kd27 s243 v28_0 y246 44 [900, 904, 905] := by rw [h246]; exact A243.sub (D := [900, 904, 905]) rfl
   have G246 : HoG 27 kd27 s243 v28_0 y246 r7 44 900 := by rw [h246]; exact G243
   refine dn (sr (Xw fa27_2 rfl ?_))
   have A247 := A233.st p243 rfl
   refine ld' A247 u3 rfl (Xb rfl (Xb rfl (jy [88, 89, 90, 91] [] 91 (.bool ((decide ((at_ x111.1 x111.2.2.1).Ended > (0 : Int))) && (at_ x111.1 x111.2.2.1).In)) rfl (fun Kg248 => ?_) (fun j248 => ?_))))
   ·
    rcases bft (decide ((at_ x111.1 x111.2.2.1).Ended > (0 : Int))) with hb248 | hb248
    ·
     exact Xs hb248 (Xw fa27_6 rfl (ld' A247 u4 rfl (Xb rfl (Kg248 _ (Ag.put ((Ag.put ((Ag.put (Ag.base rfl) rfl)) rfl)) rfl) (by rw [hb248]; rfl)))))
    exact Xs hb248 (Xf rfl (Xf rfl (Xb rfl (Kg248 _ (Ag.put ((Ag.put ((Ag.put (Ag.base rfl) rfl)) rfl)) rfl) (by rw [hb248]; rfl)))))
   refine dn (jc (fun (y249 : Int) e w => ∃ (s : St) (e0 : Env), w = s.w ∧ e = upd (upd (upd (upd (upd (upd (upd e0 0 w0_0) 5 (pB b3)) 8 (iI r7)) 9 v28_0) 10 (pB b35)) 11 (iI y249)) 12 (iI x111.2.2.1) ∧ Kp s0 s ∧ BlF s b35 27 [(iI ((at_ r28 r7).Xid)), (iI ((at_ r28 r7).Begun)), (iI ((at_ r28 r7).Ended)), (.bool ((at_ r28 r7).All)), v31_0, vy47_2, (.bool true), (.bool ((at_ r28 r7).Out))] 45 ∧ BlF s b3 60 [(iI a2.Kind), (iI a2.N), w2_0, w2_1] 40 ∧ RwF 27 kd27 s v28_0 y246 44 [900, 904, 905] ∧ HoG 27 kd27 s v28_0 y246 r7 44 900 ∧ OwF Yf s [v31_0] y47.2.1 904 ∧ OwF Ye s [vy47_2] y47.2.2 905) (fun Gj249 Kj249 => ?_) ?_)
   ·
    refine cd rfl (fun h250 => ?_) (fun h250 => ?_)
    ·
     refine rg (Xb rfl (dn ?_))
     exact Kj249 _ _ _ ⟨s243, _, rfl, (ue (ue (ue (ue (ue (ue (ue rfl rfl) rfl) rfl) rfl) rfl) rfl) rfl), (Ky134.st (Yb p228 p231 p243) rfl), (B231.st p243 rfl), (By134_b3.st (Yb p228 p231 p243) rfl), A246, G246, (Cy134_106.st (Yb p228 p231 p243) rfl), (Cy134_107.st (Yb p228 p231 p243) rfl)⟩
    exact sk (Kj249 _ _ _ ⟨s243, _, rfl, (ue (ue (ue (ue (ue (ue (ue rfl rfl) rfl) rfl) rfl) rfl) rfl) rfl), (Ky134.st (Yb p228 p231 p243) rfl), (B231.st p243 rfl), (By134_b3.st (Yb p228 p231 p243) rfl), A246, G246, (Cy134_106.st (Yb p228 p231 p243) rfl), (Cy134_107.st (Yb p228 p231 p243) rfl)⟩)
   rintro y249 _ _ ⟨s261, _, rfl, rfl, Ky249, By249_b35, By249_b3, Cy249_244, Cy249_245, Cy249_106, Cy249_107⟩
   exact ib (Kj118 _ _ _ ⟨s261, _, rfl, (ue (ue (ue (ue (ue (ue (ue rfl rfl) rfl) rfl) rfl) rfl) rfl) rfl), Ky249, Cy249_244, Cy249_245, By249_b35, By249_b3, Cy249_106, Cy249_107⟩)
  rintro y118 _ _ ⟨s264, _, rfl, rfl, Ky118, Ay118_0, Gy118_0, By118_b35, By118_b3, Cy118_106, Cy118_107⟩
  exact rg (Xb rfl (Xb rfl (Xb rfl (dn (lb ih111 ⟨s264, _, rfl, (ue (ue (ue (ue (ue (ue (ue rfl rfl) rfl) rfl) rfl) rfl) rfl) rfl), Ky118, Ay118_0, Gy118_0, By118_b35, By118_b3, Cy118_106, Cy118_107⟩)))))
 refine xt rfl (sgb (sr (Xp v28_0 rfl (Xb rfl (lda' (es := [(iI ((at_ r28 r7).Xid)), (iI ((at_ r28 r7).Begun)), (iI ((at_ r28 r7).Ended)), (.bool ((at_ r28 r7).All)), v31_0, vy47_2, (.bool x111.2.2.2), (.bool ((at_ r28 r7).Out))]) Bx111_b35 u27 z27 rfl (ix' Ax111_0.rd u30 z27 rfl (fun ad269 es269 h0_269 h1_269 he269 ce269 ia269 => ?_)))))))
 replace he269 := rw_sharp Ax111_0 h0_269 h1_269 ia269 ce269 he269
 obtain ⟨v269_0, v269_1, rfl, A269_0, A269_1⟩ := op27 he269
 obtain ⟨s273, hw273, p273, A273⟩ := ow_2 Cx111_106 (ow_r Cx111_107 (Xn (Xz x111.2.2.2) (Xz ((at_ r28 r7).Out)))) rfl rfl
 rw [hw273]
 have A275 : OwF kd27 s273 [(iI ((at_ r28 r7).Xid)), (iI ((at_ r28 r7).Begun)), (iI ((at_ r28 r7).Ended)), (.bool ((at_ r28 r7).All)), v31_0, vy47_2, (.bool x111.2.2.2), (.bool ((at_ r28 r7).Out))] (Track.mk ((at_ r28 r7).Xid) ((at_ r28 r7).Begun) ((at_ r28 r7).Ended) ((at_ r28 r7).All) y47.2.1 y47.2.2 x111.2.2.2 ((at_ r28 r7).Out)) 904 := (Xv (fun x : Track => (x.Xid, x.Begun, x.Ended, x.All, x.Reads, x.Writes, x.In, x.Out)) (Track.mk ((at_ r28 r7).Xid) ((at_ r28 r7).Begun) ((at_ r28 r7).Ended) ((at_ r28 r7).All) y47.2.1 y47.2.2 x111.2.2.2 ((at_ r28 r7).Out)) (Xt (Xi .i64 ((at_ r28 r7).Xid)) (Xt (Xi .i64 ((at_ r28 r7).Begun)) (Xt (Xi .i64 ((at_ r28 r7).Ended)) (Xt (Xz ((at_ r28 r7).All)) A273)))))
 refine soC (x' := (Track.mk ((at_ r28 r7).Xid) ((at_ r28 r7).Begun) ((at_ r28 r7).Ended) ((at_ r28 r7).All) y47.2.1 y47.2.2 x111.2.2.2 ((at_ r28 r7).Out))) (Gx111_0.st p273 rfl) ia269 A275 rfl z27 rfl rfl rfl rfl rfl rfl (fun s278 p278 A278 => ?_)
 refine nb (fun y280 h280 => ?_)
 have A280 : OwF Yc s278 [v28_0] y280 44 := by rw [h280]; exact A278
 refine dn (sq (sr (Xw fa27_6 rfl ?_)))
 have A281 := Bx111_b35.st (Xm p273 p278) rfl
 refine ld' A281 u4 rfl (Xb rfl (jy [98, 99, 100, 101] [] 101 (.bool (x111.2.2.2 && (at_ r28 r7).Out)) rfl (fun Kg282 => ?_) (fun j282 => ?_)))
 ·
  rcases bft x111.2.2.2 with hb282 | hb282
  ·
   exact Xs hb282 (Xw fa27_7 rfl (ld' A281 u4 rfl (Xb rfl (Kg282 _ (Ag.put ((Ag.put ((Ag.put (Ag.base rfl) rfl)) rfl)) rfl) (by rw [hb282]; rfl)))))
  exact Xs hb282 (Xf rfl (Xf rfl (Xb rfl (Kg282 _ (Ag.put ((Ag.put ((Ag.put (Ag.base rfl) rfl)) rfl)) rfl) (by rw [hb282]; rfl)))))
 refine dn (jc (fun (y283 : Int) e w => ∃ (s : St) (e0 : Env), w = s.w ∧ e = upd (upd e0 9 v28_0) 11 (iI y283) ∧ Kp s0 s ∧ OwF Yc s [v28_0] y280 44) (fun Gj283 Kj283 => ?_) ?_)
 ·
  refine cd rfl (fun h284 => ?_) (fun h284 => ?_)
  ·
   refine rg (Xb rfl (dn ?_))
   exact Kj283 _ _ _ ⟨s278, _, rfl, (ue (ue rfl rfl) rfl), (Kx111.st (Xm p273 p278) rfl), A280⟩
  exact sk (Kj283 _ _ _ ⟨s278, _, rfl, (ue (ue rfl rfl) rfl), (Kx111.st (Xm p273 p278) rfl), A280⟩)
 rintro y283 _ _ ⟨s287, _, rfl, rfl, Ky283, Cy283_279⟩
 exact sr (Xp v28_0 rfl (Xb rfl (Xy v28_0 rfl (Xb rfl (dn (re rfl func34 rfl (Xq rfl (Xq rfl Xe)) rfl ⟨_, rfl, v28_0, rfl, Cy283_279.fo Ky283 rfl z.l, z.ky Ky283⟩))))))
def spec_EdgeEnd.b2 (x39 : (List Track) × Int) (x79 : (List Track) × Int) (x87 : Bool × Int) : Option ((Bool × Int) ⊕ ((List Track) × Int ⊕ (List Track) × Int)) :=
 (if (decide (x87.2 < (x39.1.length : Int))) = true then ((if x87.1 = true then (some true) else (if 0 ≤ x87.2 ∧ x87.2 < (x39.1.length : Int) then ((if ((at_ x39.1 x87.2).Ended == (0 : Int)) = true then (if 0 ≤ x79.2 ∧ x79.2 < (x39.1.length : Int) then (if 0 ≤ x87.2 ∧ x87.2 < (x39.1.length : Int) then (some (true, true, (decide ((at_ x39.1 x79.2).Ended > (at_ x39.1 x87.2).Begun)))) else none) else none) else (some (false, false, false))).bind fun y126 => (some y126.2.2)) else none)).bind fun y93 => (some (Sum.inl (y93, (IntKind.wrap .i64 (x87.2 + (1 : Int))))))) else (((if x87.1 = true then (if 0 ≤ x79.2 ∧ x79.2 < (x39.1.length : Int) then (if x79.1.length + ([(at_ x39.1 x79.2)]).length ≤ Lim then (some (x79.1 ++ [(at_ x39.1 x79.2)])) else none) else none) else (some x79.1)).bind fun y161 => (some (Sum.inl (y161, (IntKind.wrap .i64 (x79.2 + (1 : Int))))))).bind fun o => some (Sum.inr o)))
def spec_EdgeEnd.b1 (x39 : (List Track) × Int) (x79 : (List Track) × Int) : Option (((List Track) × Int) ⊕ ((List Track) × Int)) :=
 (if (decide (x79.2 < (x39.1.length : Int))) = true then (if 0 ≤ x79.2 ∧ x79.2 < (x39.1.length : Int) then (iter (spec_EdgeEnd.b2 x39 x79) (((at_ x39.1 x79.2).Ended == (0 : Int)), (0 : Int))) else none) else (((spec_l13copy.f x79.1).bind fun r176 => (some (r176, (0 : Int)))).bind fun o => some (Sum.inr o)))
def spec_EdgeEnd.b0 (a0 : (List Track)) (a2 : Int) (a3 : Bool) (r2 : Int) (x39 : (List Track) × Int) : Option (((List Track) × Int) ⊕ ((List Track) × Int)) :=
 (if (decide (x39.2 < (a0.length : Int))) = true then ((if 0 ≤ x39.2 ∧ x39.2 < (a0.length : Int) then (if (x39.2 == r2) = true then (if (!a3) = true then (some x39.1) else (if x39.1.length + ([(Track.mk ((at_ a0 x39.2).Xid) ((at_ a0 x39.2).Begun) a2 ((at_ a0 x39.2).All) ((at_ a0 x39.2).Reads) ((at_ a0 x39.2).Writes) ((at_ a0 x39.2).In) ((at_ a0 x39.2).Out))]).length ≤ Lim then (some (x39.1 ++ [(Track.mk ((at_ a0 x39.2).Xid) ((at_ a0 x39.2).Begun) a2 ((at_ a0 x39.2).All) ((at_ a0 x39.2).Reads) ((at_ a0 x39.2).Writes) ((at_ a0 x39.2).In) ((at_ a0 x39.2).Out))])) else none)) else (if x39.1.length + ([(at_ a0 x39.2)]).length ≤ Lim then (some (x39.1 ++ [(at_ a0 x39.2)])) else none)) else none).bind fun y44 => (some (Sum.inl (y44, (IntKind.wrap .i64 (x39.2 + (1 : Int))))))) else ((iter (spec_EdgeEnd.b1 x39) (([] : (List Track)), (0 : Int))).bind fun o => some (Sum.inr o)))
def spec_EdgeEnd.f (a0 : (List Track)) (a1 : Int) (a2 : Int) (a3 : Bool) : Option ((List Track) × Int) :=
 ((spec_l13at.f a0 a1).bind fun r2 => ((spec_TracksOk.f a0).bind fun r6 => ((if ((!r6) || (decide (r2 < (0 : Int)))) = true then (some true) else (if 0 ≤ r2 ∧ r2 < (a0.length : Int) then (some (decide (a2 ≤ (at_ a0 r2).Begun))) else none)).bind fun y9 => (if y9 = true then (some (([] : (List Track)), (1 : Int))) else ((if a3 = true then (if 0 ≤ r2 ∧ r2 < (a0.length : Int) then (some ((at_ a0 r2).In)) else none) else (some false)).bind fun y19 => ((if y19 = true then (if 0 ≤ r2 ∧ r2 < (a0.length : Int) then (some ((at_ a0 r2).Out)) else none) else (some false)).bind fun y26 => (if y26 = true then ((spec_l13copy.f a0).bind fun r35 => (some (r35, (2 : Int)))) else (iter (spec_EdgeEnd.b0 a0 a2 a3 r2) (([] : (List Track)), (0 : Int))))))))))
def spec_EdgeEnd.Q (w : World) (F : Nat → Prop) (r : (List Track) × Int) (v : Value) (w' : World) : Prop :=
 ∃ (v0 : Value), v = .tuple #[v0, (iI r.2)] ∧ FO Yc w w' [v0] r.1 ∧ Ky [] w w'
theorem spec_EdgeEnd.calls (a0 : (List Track)) (a1 : Int) (a2 : Int) (a3 : Bool) (w : World) (F : Nat → Prop) (w0_0 : Value) (h0_0 : Yc.rd w [w0_0] a0 F) (r : (List Track) × Int) (m : spec_EdgeEnd.f a0 a1 a2 a3 = some r) :
  Calls prog 9 #[w0_0, (iI a1), (iI a2), (.bool a3)] w (RT (spec_EdgeEnd.Q w F) r) := by
 obtain ⟨s0, rfl, kp0, z⟩ := Xj w F
 have A0_0 := z.rd h0_0
 refine Xd (args := [w0_0, (iI a1), (iI a2), (.bool a3)]) func9 ntmps9 rfl rfl m ?_
 unfold spec_EdgeEnd.f
 refine sr (Xb rfl (Xb rfl (dn (sr (Xp w0_0 rfl (Xb rfl (clV 40 rfl func23 rfl (spec_l13at.calls a0 a1 s0.w (mm [0] s0) w0_0 A0_0) (fun r2 s3 p3 n3 => ?_))))))))
 refine Xb rfl (dn (sq (sr (Xp w0_0 rfl ?_))))
 have K4 := kp0.st p3 rfl
 refine clV 41 rfl func24 rfl (spec_TracksOk.calls a0 s3.w (mm [0] s3) w0_0 (A0_0.kp K4)) (fun r6 s7 p7 n7 => ?_)
 refine Xb rfl (Xb rfl (jy [24, 25, 26, 27] [7, 8, 9, 10, 11, 12, 13, 14, 15] 27 (.bool ((!r6) || (decide (r2 < (0 : Int))))) rfl (fun Kg8 => ?_) (fun j8 => ?_)))
 ·
  rcases bft (!r6) with hb8 | hb8
  ·
   exact Xs hb8 (Xf rfl (Xf rfl (Xb rfl (Kg8 _ (Ag.put ((Ag.put ((Ag.put (Ag.base rfl) rfl)) rfl)) rfl) (by rw [hb8]; rfl)))))
  exact Xs hb8 (Xb rfl (Xb rfl (Xb rfl (Kg8 _ (Ag.put ((Ag.put ((Ag.put (Ag.base rfl) rfl)) rfl)) rfl) (by rw [hb8]; rfl)))))
 refine Xb rfl (ji [] (fun (y9 : Bool) e w => ∃ (s : St) (e0 : Env), w = s.w ∧ e = upd (upd (upd (upd (upd e0 0 w0_0) 2 (iI a2)) 3 (.bool a3)) 10 (iI r2)) 36 (.bool y9) ∧ Kp s0 s) (fun Gj9 Kj9 => ?_) ?_)
 ·
  rcases bft ((!r6) || (decide (r2 < (0 : Int)))) with hb9 | hb9
  ·
   refine Xs hb9 ?_
   rw [if_pos hb9]
   refine Xf rfl (Xf rfl (Xf rfl (Xf rfl (Xf rfl (Xf rfl (Xf rfl (Xb rfl ?_)))))))
   exact Kj9 _ _ _ ⟨s7, _, rfl, (ue (ue (ue (ue (ue rfl rfl) rfl) rfl) rfl) rfl), (K4.st p7 rfl)⟩
  refine Xs hb9 ?_
  rw [if_neg (by rw [hb9]; decide)]
  refine Xb rfl (Xp w0_0 rfl (Xb rfl ?_))
  have K11 := K4.st p7 rfl
  refine ix' (A0_0.kp K11) u30 z27 rfl (fun ad13 es13 h0_13 h1_13 he13 ce13 ia13 => ?_)
  obtain ⟨v13_0, v13_1, rfl, A13_0, A13_1⟩ := op27 he13
  exact Xw fa27_1 rfl (lc ce13 u3 rfl rfl rfl rfl rfl rfl rfl rfl (Xb rfl (Xb rfl (Kj9 _ _ _ ⟨s7, _, rfl, (ue (ue (ue (ue (ue rfl rfl) rfl) rfl) rfl) rfl), K11⟩))))
 rintro y9 _ _ ⟨s17, _, rfl, rfl, Ky9⟩
 refine dn (cd rfl (fun h18 => ?_) (fun h18 => ?_))
 ·
  exact sr (Xb rfl (Xb rfl (dn (re rfl func9 rfl (Xq rfl (Xq rfl Xe)) rfl ⟨_, rfl, (.slice none 0 0), rfl, (ow_nil 27 kd27 s17 40).fo Ky9 rfl z.l, z.ky Ky9⟩))))
 refine sk (sq (sr (Xb rfl (Xb rfl (ji [8, 9, 10, 11, 12, 13, 14] (fun (y19 : Bool) e w => ∃ (s : St) (e0 : Env), w = s.w ∧ e = upd (upd (upd (upd (upd e0 0 w0_0) 2 (iI a2)) 3 (.bool a3)) 10 (iI r2)) 44 (.bool y19) ∧ Kp s0 s) (fun Gj19 Kj19 => ?_) ?_)))))
 ·
  rcases bft a3 with hb19 | hb19
  ·
   refine Xs hb19 ?_
   rw [if_pos hb19]
   refine Xp w0_0 rfl (Xb rfl ?_)
   refine ix' (A0_0.kp Ky9) u30 z27 rfl (fun ad21 es21 h0_21 h1_21 he21 ce21 ia21 => ?_)
   obtain ⟨v21_0, v21_1, rfl, A21_0, A21_1⟩ := op27 he21
   exact Xw fa27_6 rfl (lc ce21 u4 rfl rfl rfl rfl rfl rfl rfl rfl (Xb rfl (Kj19 _ _ _ ⟨s17, _, rfl, (ue (ue (ue (ue (ue rfl rfl) rfl) rfl) rfl) rfl), Ky9⟩)))
  refine Xs hb19 ?_
  rw [if_neg (by rw [hb19]; decide)]
  exact Xf rfl (Xf rfl (Xf rfl (Xf rfl (Xf rfl (Xb rfl (Kj19 _ _ _ ⟨s17, _, rfl, (ue (ue (ue (ue (ue rfl rfl) rfl) rfl) rfl) rfl), Ky9⟩))))))
 rintro y19 _ _ ⟨s25, _, rfl, rfl, Ky19⟩
 refine Xb rfl (ji [] (fun (y26 : Bool) e w => ∃ (s : St) (e0 : Env), w = s.w ∧ e = upd (upd (upd (upd (upd e0 0 w0_0) 2 (iI a2)) 3 (.bool a3)) 10 (iI r2)) 51 (.bool y26) ∧ Kp s0 s) (fun Gj26 Kj26 => ?_) ?_)
 ·
  rcases bft y19 with hb26 | hb26
  ·
   refine Xs hb26 ?_
   rw [if_pos hb26]
   refine Xp w0_0 rfl (Xb rfl ?_)
   refine ix' (A0_0.kp Ky19) u30 z27 rfl (fun ad28 es28 h0_28 h1_28 he28 ce28 ia28 => ?_)
   obtain ⟨v28_0, v28_1, rfl, A28_0, A28_1⟩ := op27 he28
   exact Xw fa27_7 rfl (lc ce28 u4 rfl rfl rfl rfl rfl rfl rfl rfl (Xb rfl (Kj26 _ _ _ ⟨s25, _, rfl, (ue (ue (ue (ue (ue rfl rfl) rfl) rfl) rfl) rfl), Ky19⟩)))
  refine Xs hb26 ?_
  rw [if_neg (by rw [hb26]; decide)]
  exact Xf rfl (Xf rfl (Xf rfl (Xf rfl (Xf rfl (Xb rfl (Kj26 _ _ _ ⟨s25, _, rfl, (ue (ue (ue (ue (ue rfl rfl) rfl) rfl) rfl) rfl), Ky19⟩))))))
 rintro y26 _ _ ⟨s32, _, rfl, rfl, Ky26⟩
 refine dn (cd rfl (fun h33 => ?_) (fun h33 => ?_))
 ·
  refine sr (Xp w0_0 rfl ?_)
  refine clO 42 rfl func25 rfl (spec_l13copy.calls a0 s32.w (mm [0] s32) w0_0 (A0_0.kp Ky26)) (fun r35 v35_0 s36 p36 A35_0 => ?_)
  refine Xy v35_0 rfl (Xb rfl (dn ?_))
  have K38 := Ky26.st p36 rfl
  exact re rfl func9 rfl (Xq rfl (Xq rfl Xe)) rfl ⟨_, rfl, v35_0, rfl, A35_0.fo K38 rfl z.l, z.ky K38⟩
 refine sk (sr (Xb rfl (dn (sq (sr (Xb rfl (dn (bl (lpI (fun (x39 : (List Track) × Int) e w => ∃ (s : St) (e0 : Env) (vx39_0 : Value), w = s.w ∧ e = upd (upd (upd (upd (upd (upd e0 0 w0_0) 2 (iI a2)) 3 (.bool a3)) 10 (iI r2)) 11 vx39_0) 12 (iI x39.2) ∧ Kp s0 s ∧ RwF 27 kd27 s vx39_0 x39.1 44 [0]) ⟨s32, _, (.slice none 0 0), rfl, (ue (ue (ue (ue (ue (ue rfl rfl) rfl) rfl) rfl) rfl) rfl), Ky26, (rw_nil 27 kd27 _ 44 [0])⟩ (fun g39 ih39 => ?_))))))))))
 rintro x39 _ _ ⟨s40, _, vx39_0, rfl, rfl, Kx39, Ax39_0⟩
 unfold spec_EdgeEnd.b0
 refine sq (sr (Xb rfl (Xp w0_0 rfl ?_)))
 have A42 := A0_0.kp Kx39
 refine ln' A42 u30 rfl (Xb rfl (dn (cd rfl (fun h43 => ?_) (fun h43 => ?_))))
 ·
  refine sk (sq (jc (fun (y44 : (List Track)) e w => ∃ (s : St) (e0 : Env) (vy44_0 : Value), w = s.w ∧ e = upd (upd (upd (upd (upd (upd e0 0 w0_0) 2 (iI a2)) 3 (.bool a3)) 10 (iI r2)) 11 vy44_0) 12 (iI x39.2) ∧ Kp s0 s ∧ RwF 27 kd27 s vy44_0 y44 44 [0]) (fun Gj44 Kj44 => ?_) ?_))
  ·
   refine bl (sr (Xp w0_0 rfl (Xb rfl (ix' A42 u30 z27 rfl (fun ad45 es45 h0_45 h1_45 he45 ce45 ia45 => ?_)))))
   obtain ⟨v45_0, v45_1, rfl, A45_0, A45_1⟩ := op27 he45
   refine lca ce45 u27 z27 rfl rfl rfl rfl rfl rfl rfl (al (cs := [(iI 0), (iI 0), (iI 0), (.bool false), (.slice none 0 0), (.slice none 0 0), (.bool false), (.bool false)]) 45 rfl rfl rfl rfl rfl o27 rfl (fun b49 s49 p49 B49 => ?_))
   have A51 := A45_1.st p49 rfl
   have A52 := A45_0.st p49 rfl
   refine sva' (vs := [(iI ((at_ a0 x39.2).Xid)), (iI ((at_ a0 x39.2).Begun)), (iI ((at_ a0 x39.2).Ended)), (.bool ((at_ a0 x39.2).All)), v45_0, v45_1, (.bool ((at_ a0 x39.2).In)), (.bool ((at_ a0 x39.2).Out))]) B49 z27 rfl (Xc rfl (Xc rfl (Xc rfl (Xc rfl (Xc A52.one (Xc A51.one (Xc rfl (Xc rfl Xx)))))))) rfl (fun s53 p53 B53 => ?_)
   refine dn (sq (sr (Xb rfl (Xb rfl (Xb rfl (dn (cd rfl (fun h55 => ?_) (fun h55 => ?_))))))))
   ·
    refine sq (sr (Xb rfl (Xb rfl (dn (cd rfl (fun h56 => ?_) (fun h56 => ?_))))))
    ·
     exact xt rfl (Kj44 _ _ _ ⟨s53, _, vx39_0, rfl, (ue (ue (ue (ue (ue (ue rfl rfl) rfl) rfl) rfl) rfl) rfl), (Kx39.st (Xm p49 p53) rfl), (Ax39_0.st (Xm p49 p53) rfl rfl)⟩)
    refine sk (rg (Xb rfl (Xw fa27_2 rfl (sv' B53 z3 rfl rfl rfl (fun s59 p59 B59 => ?_)))))
    refine dn (rg (Xp vx39_0 rfl (lda' (es := [(iI ((at_ a0 x39.2).Xid)), (iI ((at_ a0 x39.2).Begun)), (iI a2), (.bool ((at_ a0 x39.2).All)), v45_0, v45_1, (.bool ((at_ a0 x39.2).In)), (.bool ((at_ a0 x39.2).Out))]) B59 u27 z27 rfl ?_)))
    refine ltR (K := kd27) (cells := [(iI ((at_ a0 x39.2).Xid)), (iI ((at_ a0 x39.2).Begun)), (iI a2), (.bool ((at_ a0 x39.2).All)), v45_0, v45_1, (.bool ((at_ a0 x39.2).In)), (.bool ((at_ a0 x39.2).Out))]) [(Track.mk ((at_ a0 x39.2).Xid) ((at_ a0 x39.2).Begun) a2 ((at_ a0 x39.2).All) ((at_ a0 x39.2).Reads) ((at_ a0 x39.2).Writes) ((at_ a0 x39.2).In) ((at_ a0 x39.2).Out))] 46 [0] rfl u30 z27 o27 (el_cons (mk27 (x := (Track.mk ((at_ a0 x39.2).Xid) ((at_ a0 x39.2).Begun) a2 ((at_ a0 x39.2).All) ((at_ a0 x39.2).Reads) ((at_ a0 x39.2).Writes) ((at_ a0 x39.2).In) ((at_ a0 x39.2).Out))) (A52.st (Xm p53 p59) rfl) (A51.st (Xm p53 p59) rfl)) el_nil) rfl rfl rfl rfl rfl rfl rfl rfl rfl rfl (fun v63 s63 p63 A63 => ?_)
    refine apRR sl30 (Ax39_0.st (tr4 p49 p53 p59 p63) rfl rfl) A63 rfl rfl rfl rfl rfl rfl rfl rfl (fun v66 s66 p66 A66 => ?_)
    refine Xy v66 rfl (dn (ib ?_))
    exact Kj44 _ _ _ ⟨s66, _, v66, rfl, (ue (ue (ue (ue (ue (ue rfl rfl) rfl) rfl) rfl) rfl) rfl), (Kx39.st (tr5 p49 p53 p59 p63 p66) rfl), (A66.sub (D := [0]) rfl)⟩
   refine sk (rg (Xp vx39_0 rfl (lda' (es := [(iI ((at_ a0 x39.2).Xid)), (iI ((at_ a0 x39.2).Begun)), (iI ((at_ a0 x39.2).Ended)), (.bool ((at_ a0 x39.2).All)), v45_0, v45_1, (.bool ((at_ a0 x39.2).In)), (.bool ((at_ a0 x39.2).Out))]) B53 u27 z27 rfl ?_)))
   refine ltR (K := kd27) (cells := [(iI ((at_ a0 x39.2).Xid)), (iI ((at_ a0 x39.2).Begun)), (iI ((at_ a0 x39.2).Ended)), (.bool ((at_ a0 x39.2).All)), v45_0, v45_1, (.bool ((at_ a0 x39.2).In)), (.bool ((at_ a0 x39.2).Out))]) [(at_ a0 x39.2)] 47 [0] rfl u30 z27 o27 (el_cons (mk27 (x := (at_ a0 x39.2)) (A52.st p53 rfl) (A51.st p53 rfl)) el_nil) rfl rfl rfl rfl rfl rfl rfl rfl rfl rfl (fun v71 s71 p71 A71 => ?_)
   refine apRR sl30 (Ax39_0.st (Yb p49 p53 p71) rfl rfl) A71 rfl rfl rfl rfl rfl rfl rfl rfl (fun v74 s74 p74 A74 => ?_)
   refine Xy v74 rfl (dn (ib ?_))
   exact Kj44 _ _ _ ⟨s74, _, v74, rfl, (ue (ue (ue (ue (ue (ue rfl rfl) rfl) rfl) rfl) rfl) rfl), (Kx39.st (tr4 p49 p53 p71 p74) rfl), (A74.sub (D := [0]) rfl)⟩
  rintro y44 _ _ ⟨s77, _, vy44_0, rfl, rfl, Ky44, Ay44_0⟩
  exact rg (Xb rfl (Xb rfl (Xb rfl (dn (lb ih39 ⟨s77, _, vy44_0, rfl, (ue (ue (ue (ue (ue (ue rfl rfl) rfl) rfl) rfl) rfl) rfl), Ky44, Ay44_0⟩)))))
 refine xt rfl (sgb (sr (Xb rfl (dn (sq (sr (Xb rfl (dn (bl (lpI (fun (x79 : (List Track) × Int) e w => ∃ (s : St) (e0 : Env) (vx79_0 : Value), w = s.w ∧ e = upd (upd (upd e0 11 vx39_0) 14 vx79_0) 15 (iI x79.2) ∧ Kp s0 s ∧ RwF 27 kd27 s vx79_0 x79.1 49 [0] ∧ RwF 27 kd27 s vx39_0 x39.1 44 [0]) ⟨s40, _, (.slice none 0 0), rfl, (ue (ue (ue rfl rfl) rfl) rfl), Kx39, (rw_nil 27 kd27 _ 49 [0]), Ax39_0⟩ (fun g79 ih79 => ?_)))))))))))
 rintro x79 _ _ ⟨s80, _, vx79_0, rfl, rfl, Kx79, Ax79_0, Cx79_41⟩
 unfold spec_EdgeEnd.b1
 refine sq (sr (Xb rfl (Xp vx39_0 rfl (ln' Cx79_41.rd u30 rfl (Xb rfl (dn (cd rfl (fun h82 => ?_) (fun h82 => ?_))))))))
 ·
  refine sk (sq (bl (sr (Xp vx39_0 rfl (Xb rfl (ix' Cx79_41.rd u30 z27 rfl (fun ad83 es83 h0_83 h1_83 he83 ce83 ia83 => ?_)))))))
  replace he83 := rw_sharp Cx79_41 h0_83 h1_83 ia83 ce83 he83
  obtain ⟨v83_0, v83_1, rfl, A83_0, A83_1⟩ := op27 he83
  refine Xw fa27_2 rfl (lc ce83 u3 rfl rfl rfl rfl rfl rfl rfl rfl (Xb rfl (Xb rfl (dn (sq (sr (Xb rfl (dn (bl (lpI (fun (x87 : Bool × Int) e w => ∃ (s : St) (e0 : Env), w = s.w ∧ e = upd (upd (upd (upd (upd e0 11 vx39_0) 14 vx79_0) 15 (iI x79.2)) 16 (.bool x87.1)) 17 (iI x87.2) ∧ Kp s0 s ∧ RwF 27 kd27 s vx39_0 x39.1 44 [0] ∧ RwF 27 kd27 s vx79_0 x79.1 49 [0]) ⟨s80, _, rfl, (ue (ue (ue (ue (ue rfl rfl) rfl) rfl) rfl) rfl), Kx79, Cx79_41, Ax79_0⟩ (fun g87 ih87 => ?_)))))))))))
  rintro x87 _ _ ⟨s88, _, rfl, rfl, Kx87, Cx87_41, Cx87_81⟩
  unfold spec_EdgeEnd.b2
  refine sq (sr (Xb rfl (Xp vx39_0 rfl (ln' Cx87_41.rd u30 rfl (Xb rfl (dn (cd rfl (fun h89 => ?_) (fun h89 => ?_))))))))
  ·
   refine sk (sq (bl (zdraw [[], [0], [1], [1], [2, 3, 1], [4, 1], [5, 1], [6, 1], [7, 1, 1], [8], [8], [9, 10, 8], [11, 8], [12, 8], [8], [8], [14, 15, 8], [16, 8], [17, 8], [13, 18, 8], [8, 19, 1], [1, 20], [21, 8, 0, 1, 2, 3, 4, 5, 6, 7, 8, 9, 10, 11, 12, 13, 14, 15, 16, 17, 18, 19, 20, 21]] [some 93, some 94, some 95, some 96, some 97, some 98, some 99, some 100, some 101, some 102, some 103, some 104, some 105, some 106, some 107, some 108, some 109, some 110, some 111, some 112, some 113, some 114, some 16] [[16], [93], [11, 94], [17, 94], [95, 96, 94], [97, 94], [98, 94], [99, 94], [100, 94], [11, 101], [15, 101], [102, 103, 101], [104, 101], [105, 101], [11, 101], [17, 101], [107, 108, 101], [109, 101], [110, 101], [106, 111, 101], [101, 112, 94], [94, 113], [114]] [0, 1, 2, 3, 4, 5, 6, 7, 8, 9, 10, 11, 12, 13, 14, 15, 16, 17, 18, 19, 20, 21, 22] ⟨by kernel_rfl, by kernel_rfl, by kernel_rfl⟩ (by kernel_rfl) (fun s90 p90 l90 tb90 zd90 => ?_))))
   have zd92 := (zd90.add 0 93 (.bool x87.1) rfl).add 1 94 (.bool x87.1) rfl
   refine ji [22] (fun (y93 : Bool) e w => ∃ (s : St) (e0 : Env), w = s.w ∧ e = upd (upd (upd (upd (upd e0 11 vx39_0) 14 vx79_0) 15 (iI x79.2)) 17 (iI x87.2)) 114 (.bool y93) ∧ Kp s0 s ∧ RwF 27 kd27 s vx39_0 x39.1 44 [0] ∧ RwF 27 kd27 s vx79_0 x79.1 49 [0]) (fun Gj93 Kj93 => ?_) ?_
   ·
    rcases bft x87.1 with hb93 | hb93
    ·
     rw [if_pos hb93]
     rw [hb93] at zd92
     try rw [hb93]
     refine zfin [19, 20, 21, 22] tb90 (((((((((((((((((zd92.add 2 95 undef rfl).add 3 96 undef rfl).add 4 97 undef rfl).add 5 98 undef rfl).add 6 99 undef rfl).add 7 100 undef rfl).add 8 101 undef rfl).add 9 102 undef rfl).add 10 103 undef rfl).add 11 104 undef rfl).add 12 105 undef rfl).add 13 106 undef rfl).add 14 107 undef rfl).add 15 108 undef rfl).add 16 109 undef rfl).add 17 110 undef rfl).add 18 111 undef rfl) (Xa (Xr rfl) rfl (Xa (Xr rfl) rfl (Xa (Xr rfl) rfl (Xa (Xr rfl) rfl (Xa (Xr rfl) rfl (Xa (Xr rfl) rfl (Xa (Xr rfl) rfl (Xa (Xr rfl) rfl (Xa (Xr rfl) rfl (Xa (Xr rfl) rfl (Xa (Xr rfl) rfl (Xa (Xr rfl) rfl (Xa (Xr rfl) rfl (Xa (Xr rfl) rfl (Xa (Xr rfl) rfl (Xa (Xr rfl) rfl (Xa (Xr rfl) rfl (Xa (Xg rfl) rfl (Xa (Xg rfl) rfl Xk))))))))))))))))))) (by kernel_rfl) (by decide) (Xf rfl (Xf rfl (Xb rfl ?_)))
     exact Kj93 _ _ _ ⟨s90, _, rfl, (ue (ue (ue (ue (ue rfl rfl) rfl) rfl) rfl) rfl), (Kx87.st p90 rfl), (Cx87_41.st p90 rfl rfl), (Cx87_81.st p90 rfl rfl)⟩
    rw [if_neg (by rw [hb93]; decide)]
    rw [hb93] at zd92
    try rw [hb93]
    have zd115 := (zd92.add 2 95 vx39_0 rfl).add 3 96 (iI x87.2) rfl
    have A116 := Cx87_41.st p90 rfl rfl
    refine mg fun hg117 => ?_
    obtain ⟨ad117, es117, he117, ce117, ia117⟩ := ix_e A116.rd rfl hg117.1 hg117.2
    have h0_117 := hg117.1
    have h1_117 := hg117.2
    replace he117 := rw_sharp A116 h0_117 h1_117 ia117 ce117 he117
    obtain ⟨v117_0, v117_1, rfl, A117_0, A117_1⟩ := op27 he117
    have zd125 := ((((zd115.add 4 97 (.pointer (some ad117)) rfl).add 5 98 (.pointer (some (ad117.add 2))) rfl).add 6 99 (iI ((at_ x39.1 x87.2).Ended)) rfl).add 7 100 (.bool ((at_ x39.1 x87.2).Ended == (0 : Int))) rfl).add 8 101 (.bool ((at_ x39.1 x87.2).Ended == (0 : Int))) rfl
    refine ji [21, 22] (fun (y126 : Bool × Bool × Bool) e w => ∃ (s : St) (e0 : Env), w = s.w ∧ e = upd (upd (upd (upd (upd (upd (upd (upd (upd (upd (upd (upd (upd e0 11 vx39_0) 14 vx79_0) 15 (iI x79.2)) 17 (iI x87.2)) 94 (.bool false)) 95 vx39_0) 96 (iI x87.2)) 97 (.pointer (some ad117))) 98 (.pointer (some (ad117.add 2)))) 99 (iI ((at_ x39.1 x87.2).Ended))) 100 (.bool y126.1)) 101 (.bool y126.2.1)) 113 (.bool y126.2.2) ∧ Kp s0 s ∧ RwF 27 kd27 s vx39_0 x39.1 44 [0] ∧ RwF 27 kd27 s vx79_0 x79.1 49 [0]) (fun Gj126 Kj126 => ?_) ?_
    ·
     rcases bft ((at_ x39.1 x87.2).Ended == (0 : Int)) with hb126 | hb126
     ·
      rw [if_pos hb126]
      rw [hb126] at zd125
      try rw [hb126]
      have zd128 := (zd125.add 9 102 vx39_0 rfl).add 10 103 (iI x79.2) rfl
      refine mg fun hg129 => ?_
      obtain ⟨ad129, es129, he129, ce129, ia129⟩ := ix_e A116.rd rfl hg129.1 hg129.2
      have h0_129 := hg129.1
      have h1_129 := hg129.2
      replace he129 := rw_sharp A116 h0_129 h1_129 ia129 ce129 he129
      obtain ⟨v129_0, v129_1, rfl, A129_0, A129_1⟩ := op27 he129
      have zd137 := ((((zd128.add 11 104 (.pointer (some ad129)) rfl).add 12 105 (.pointer (some (ad129.add 2))) rfl).add 13 106 (iI ((at_ x39.1 x79.2).Ended)) rfl).add 14 107 vx39_0 rfl).add 15 108 (iI x87.2) rfl
      refine mg fun hg138 => ?_
      obtain ⟨ad138, es138, he138, ce138, ia138⟩ := ix_e A116.rd rfl hg138.1 hg138.2
      have h0_138 := hg138.1
      have h1_138 := hg138.2
      replace he138 := rw_sharp A116 h0_138 h1_138 ia138 ce138 he138
      obtain ⟨v138_0, v138_1, rfl, A138_0, A138_1⟩ := op27 he138
      refine zfin [19, 20, 21, 22] tb90 (((zd137.add 16 109 (.pointer (some ad138)) rfl).add 17 110 (.pointer (some (ad138.add 1))) rfl).add 18 111 (iI ((at_ x39.1 x87.2).Begun)) rfl) (Xa (lc_q' ce138 u3 rfl) rfl (Xa (Xo fa27_1 rfl) rfl (Xa (ix_q' A116.rd u30 z27 hg138.1 hg138.2 ia138 rfl) rfl (Xa (Xg rfl) rfl (Xa (Xu vx39_0 rfl) rfl (Xa (lc_q' ce129 u3 rfl) rfl (Xa (Xo fa27_2 rfl) rfl (Xa (ix_q' A116.rd u30 z27 hg129.1 hg129.2 ia129 rfl) rfl (Xa (Xg rfl) rfl (Xa (Xu vx39_0 rfl) rfl (Xa (Xg rfl) rfl (Xa (qv_b (Xg rfl) hb126) rfl (Xa (lc_q' ce117 u3 rfl) rfl (Xa (Xo fa27_2 rfl) rfl (Xa (ix_q' A116.rd u30 z27 hg117.1 hg117.2 ia117 rfl) rfl (Xa (Xg rfl) rfl (Xa (Xu vx39_0 rfl) rfl (Xa (Xg rfl) rfl (Xa (Xg rfl) rfl Xk))))))))))))))))))) (by kernel_rfl) (by decide) (Xb rfl (Xb rfl ?_))
      exact Kj126 _ _ _ ⟨s90, _, rfl, (ue (ue (ue (ue (ue (ue (ue (ue (ue (ue (ue (ue (ue rfl rfl) rfl) rfl) rfl) rfl) rfl) rfl) rfl) rfl) rfl) rfl) rfl) rfl), (Kx87.st p90 rfl), A116, (Cx87_81.st p90 rfl rfl)⟩
     rw [if_neg (by rw [hb126]; decide)]
     rw [hb126] at zd125
     try rw [hb126]
     refine zfin [19, 20, 21, 22] tb90 ((((((((((zd125.add 9 102 undef rfl).add 10 103 undef rfl).add 11 104 undef rfl).add 12 105 undef rfl).add 13 106 undef rfl).add 14 107 undef rfl).add 15 108 undef rfl).add 16 109 undef rfl).add 17 110 undef rfl).add 18 111 undef rfl) (Xa (Xr rfl) rfl (Xa (Xr rfl) rfl (Xa (Xr rfl) rfl (Xa (Xr rfl) rfl (Xa (Xr rfl) rfl (Xa (Xr rfl) rfl (Xa (Xr rfl) rfl (Xa (Xr rfl) rfl (Xa (Xr rfl) rfl (Xa (Xr rfl) rfl (Xa (Xg rfl) rfl (Xa (qv_b (Xg rfl) hb126) rfl (Xa (lc_q' ce117 u3 rfl) rfl (Xa (Xo fa27_2 rfl) rfl (Xa (ix_q' A116.rd u30 z27 hg117.1 hg117.2 ia117 rfl) rfl (Xa (Xg rfl) rfl (Xa (Xu vx39_0 rfl) rfl (Xa (Xg rfl) rfl (Xa (Xg rfl) rfl Xk))))))))))))))))))) (by kernel_rfl) (by decide) (Xf rfl (Xb rfl ?_))
     exact Kj126 _ _ _ ⟨s90, _, rfl, (ue (ue (ue (ue (ue (ue (ue (ue (ue (ue (ue (ue (ue rfl rfl) rfl) rfl) rfl) rfl) rfl) rfl) rfl) rfl) rfl) rfl) rfl) rfl), (Kx87.st p90 rfl), A116, (Cx87_81.st p90 rfl rfl)⟩
    rintro y126 _ _ ⟨s159, _, rfl, rfl, Ky126, Cy126_41, Cy126_81⟩
    exact Xb rfl (Kj93 _ _ _ ⟨s159, _, rfl, (ue (ue (ue (ue (ue rfl rfl) rfl) rfl) rfl) rfl), Ky126, Cy126_41, Cy126_81⟩)
   rintro y93 _ _ ⟨s160, _, rfl, rfl, Ky93, Cy93_41, Cy93_81⟩
   exact Xb rfl (dn (ib (rg (Xb rfl (Xb rfl (Xb rfl (dn (lb ih87 ⟨s160, _, rfl, (ue (ue (ue (ue (ue rfl rfl) rfl) rfl) rfl) rfl), Ky93, Cy93_41, Cy93_81⟩))))))))
  refine xt rfl (sgb (sr (Xb rfl (dn (jc (fun (y161 : (List Track)) e w => ∃ (s : St) (e0 : Env) (vy161_0 : Value), w = s.w ∧ e = upd (upd (upd e0 11 vx39_0) 14 vy161_0) 15 (iI x79.2) ∧ Kp s0 s ∧ RwF 27 kd27 s vy161_0 y161 49 [0] ∧ RwF 27 kd27 s vx39_0 x39.1 44 [0]) (fun Gj161 Kj161 => ?_) ?_)))))
  ·
   refine cd rfl (fun h162 => ?_) (fun h162 => ?_)
   ·
    refine rg (Xp vx79_0 rfl (Xp vx39_0 rfl (Xb rfl (ix' Cx87_41.rd u30 z27 rfl (fun ad163 es163 h0_163 h1_163 he163 ce163 ia163 => ?_)))))
    replace he163 := rw_sharp Cx87_41 h0_163 h1_163 ia163 ce163 he163
    obtain ⟨v163_0, v163_1, rfl, A163_0, A163_1⟩ := op27 he163
    refine lca ce163 u27 z27 rfl rfl rfl rfl rfl rfl rfl (ltR (K := kd27) (cells := [(iI ((at_ x39.1 x79.2).Xid)), (iI ((at_ x39.1 x79.2).Begun)), (iI ((at_ x39.1 x79.2).Ended)), (.bool ((at_ x39.1 x79.2).All)), v163_0, v163_1, (.bool ((at_ x39.1 x79.2).In)), (.bool ((at_ x39.1 x79.2).Out))]) [(at_ x39.1 x79.2)] 50 [0] rfl u30 z27 o27 (el_cons (mk27 (x := (at_ x39.1 x79.2)) A163_0 A163_1) el_nil) rfl rfl rfl rfl rfl rfl rfl rfl rfl rfl (fun v167 s167 p167 A167 => ?_))
    refine apRR sl30 (Cx87_81.st p167 rfl rfl) A167 rfl rfl rfl rfl rfl rfl rfl rfl (fun v170 s170 p170 A170 => ?_)
    refine Xy v170 rfl (dn ?_)
    exact Kj161 _ _ _ ⟨s170, _, v170, rfl, (ue (ue (ue rfl rfl) rfl) rfl), (Kx87.st (Xm p167 p170) rfl), (A170.sub (D := [0]) rfl), (Cx87_41.st (Xm p167 p170) rfl rfl)⟩
   exact sk (Kj161 _ _ _ ⟨s88, _, vx79_0, rfl, (ue (ue (ue rfl rfl) rfl) rfl), Kx87, Cx87_81, Cx87_41⟩)
  rintro y161 _ _ ⟨s174, _, vy161_0, rfl, rfl, Ky161, Ay161_0, Cy161_41⟩
  exact ib (rg (Xb rfl (Xb rfl (Xb rfl (dn (lb ih79 ⟨s174, _, vy161_0, rfl, (ue (ue (ue rfl rfl) rfl) rfl), Ky161, Ay161_0, Cy161_41⟩))))))
 refine xt rfl (sgb (sr (Xp vx79_0 rfl (clO 51 rfl func25 rfl (spec_l13copy.calls x79.1 s80.w (mm [49, 0] s80) vx79_0 Ax79_0.rd) (fun r176 v176_0 s177 p177 A176_0 => ?_)))))
 refine Xy v176_0 rfl (Xb rfl (dn ?_))
 have K179 := Kx79.st p177 rfl
 exact re rfl func9 rfl (Xq rfl (Xq rfl Xe)) rfl ⟨_, rfl, v176_0, rfl, A176_0.fo K179 rfl z.l, z.ky K179⟩
def spec_l13tracks.b0 (a0 : l1Cur) (x6 : (List Track) × Int × Int × Int × Int × Int) : Option (((List Track) × Int × Int × Int × Int × Int) ⊕ ((List Track) × Int × l1Cur)) :=
 (if (decide (x6.2.2.2.1 > (0 : Int))) = true then ((spec_l1Below.f (l1Cur.mk a0.b x6.2.2.2.2.1 x6.2.2.2.2.2) x6.2.2.1).bind fun r13 => ((spec_l1Below.f (l1Cur.mk a0.b r13.2.i r13.2.h) (7 : Int)).bind fun r18 => ((if (r18.1 == (0 : Int)) = true then (some (r18.1 == (0 : Int))) else (some (r18.1 == (1 : Int)))).bind fun y21 => ((if y21 = true then ((spec_EdgeBegin.f x6.1 x6.2.2.1 x6.2.1).bind fun r31 => (some ((IntKind.wrap .i64 (x6.2.1 + (1 : Int))), (IntKind.wrap .i64 (x6.2.2.1 + (1 : Int))), r31.1, r31.2, r18.2.i, r18.2.h))) else ((if (r18.1 == (2 : Int)) = true then (some (r18.1 == (2 : Int))) else (some (r18.1 == (3 : Int)))).bind fun y38 => ((if y38 = true then ((spec_l13span.f (l1Cur.mk a0.b r18.2.i r18.2.h)).bind fun r45 => ((spec_EdgeRead.f x6.1 (IntKind.wrap .i64 ((1 : Int) + r13.1)) r45.1).bind fun r52 => (some (x6.2.1, r52.1, r52.2, r45.2.i, r45.2.h)))) else ((if (r18.1 == (4 : Int)) = true then (some (r18.1 == (4 : Int))) else (some (r18.1 == (5 : Int)))).bind fun y59 => ((if y59 = true then ((spec_l3key.f (l1Cur.mk a0.b r18.2.i r18.2.h)).bind fun r66 => ((spec_EdgeWrite.f x6.1 (IntKind.wrap .i64 ((1 : Int) + r13.1)) r66.1).bind fun r71 => (some (x6.2.1, r71.1, r71.2, r66.2.i, r66.2.h)))) else ((spec_l1Once.f (l1Cur.mk a0.b r18.2.i r18.2.h) (4 : Int)).bind fun r79 => ((spec_EdgeEnd.f x6.1 (IntKind.wrap .i64 ((1 : Int) + r13.1)) x6.2.1 (!r79.1)).bind fun r83 => (some ((IntKind.wrap .i64 (x6.2.1 + (1 : Int))), r83.1, r83.2, r79.2.i, r79.2.h))))).bind fun y63 => (some (y63.1, y63.2.1, y63.2.2.1, y63.2.2.2.1, y63.2.2.2.2))))).bind fun y42 => (some (y42.1, x6.2.2.1, y42.2.1, y42.2.2.1, y42.2.2.2.1, y42.2.2.2.2))))).bind fun y29 => ((if (y29.2.2.2.1 != (1 : Int)) = true then (some y29.2.2.1) else (some x6.1)).bind fun y107 => (some (Sum.inl (y107, y29.1, y29.2.1, (IntKind.wrap .i64 (x6.2.2.2.1 - (1 : Int))), y29.2.2.2.2.1, y29.2.2.2.2.2)))))))) else ((some (x6.1, x6.2.1, (l1Cur.mk a0.b x6.2.2.2.2.1 x6.2.2.2.2.2))).bind fun o => some (Sum.inr o)))
def spec_l13tracks.f (a0 : l1Cur) (a1 : Int) : Option ((List Track) × Int × l1Cur) :=
 ((spec_l1Below.f a0 (IntKind.wrap .i64 (a1 + (1 : Int)))).bind fun r3 => (iter (spec_l13tracks.b0 a0) (([] : (List Track)), (1 : Int), (1 : Int), r3.1, r3.2.i, r3.2.h)))
def spec_l13tracks.Q (w : World) (F : Nat → Prop) (p0 : Nat) (w0_0 : Value) (r : (List Track) × Int × l1Cur) (v : Value) (w' : World) : Prop :=
 ∃ (v0 : Value), v = .tuple #[v0, (iI r.2.1)] ∧ FO Yc w w' [v0] r.1 ∧ BlW w' p0 54 [w0_0, (iI r.2.2.i), (iI r.2.2.h)] ∧ Ky [p0] w w'
theorem spec_l13tracks.calls (a0 : l1Cur) (a1 : Int) (w : World) (F : Nat → Prop) (p0 : Nat) (w0_0 : Value) (h0_0 : Yd.rd w [w0_0] a0.b F) (hb0 : BlW w p0 54 [w0_0, (iI a0.i), (iI a0.h)]) (hF : ∀ b, F b → b ∉ [p0]) (r : (List Track) × Int × l1Cur) (m : spec_l13tracks.f a0 a1 = some r) :
  Calls prog 14 #[(pB p0), (iI a1)] w (RT (spec_l13tracks.Q w F p0 w0_0) r) := by
 obtain ⟨s0, rfl, kp0, z⟩ := start1 w F [p0] hF
 have A0_0 := z.rd h0_0
 have B0 := z.bl hb0 (by simp)
 refine Xd (args := [(pB p0), (iI a1)]) func14 ntmps14 rfl rfl m ?_
 unfold spec_l13tracks.f
 refine sr (Xb rfl (Xb rfl (dn (sr (Xb rfl (dn (sr (Xb rfl (dn (sr (Xb rfl (dn (sq (sr ?_))))))))))))))
 refine Xb rfl (Xb rfl (Xb rfl (clB B0 rfl func12 rfl (spec_l1Below.calls a0 (IntKind.wrap .i64 (a1 + (1 : Int))) s0.w (mm [0] s0) p0 w0_0 A0_0 B0.w (B0.apart rfl)) (fun r3 s4 p4 B4 => ?_))))
 refine Xb rfl (dn (bl ?_))
 refine lpI (fun (x6 : (List Track) × Int × Int × Int × Int × Int) e w => ∃ (s : St) (e0 : Env) (vx6_0 : Value), w = s.w ∧ e = upd (upd (upd (upd (upd e0 0 (pB p0)) 6 vx6_0) 7 (iI x6.2.1)) 8 (iI x6.2.2.1)) 9 (iI x6.2.2.2.1) ∧ Kp s0 s ∧ OwF Yc s [vx6_0] x6.1 42 ∧ BlF s p0 54 [w0_0, (iI x6.2.2.2.2.1), (iI x6.2.2.2.2.2)] 2) ⟨s4, _, (.slice none 0 0), rfl, (ue (ue (ue (ue (ue rfl rfl) rfl) rfl) rfl) rfl), (kp0.st p4 rfl), (ow_nil 27 kd27 _ 42), B4⟩ (fun g6 ih6 => ?_)
 rintro x6 _ _ ⟨s8, _, vx6_0, rfl, rfl, Kx6, Ax6_0, Bx6_p0⟩
 unfold spec_l13tracks.b0
 refine sq (sr (Xb rfl (Xb rfl (dn (cd rfl (fun h11 => ?_) (fun h11 => ?_))))))
 ·
  refine sk (sq (bl (sr (Xb rfl (dn (sr (Xb rfl (dn (sr (Xb rfl (Xb rfl ?_)))))))))))
  refine clB Bx6_p0 rfl func12 rfl (spec_l1Below.calls (l1Cur.mk a0.b x6.2.2.2.2.1 x6.2.2.2.2.2) x6.2.2.1 s8.w (mm [0] s8) p0 w0_0 (A0_0.kp Kx6) Bx6_p0.w (Bx6_p0.apart rfl)) (fun r13 s14 p14 B14 => ?_)
  refine Xb rfl (Xb rfl (dn (sq (sr (Xb rfl ?_)))))
  have K16 := Kx6.st p14 rfl
  refine clB B14 rfl func12 rfl (spec_l1Below.calls (l1Cur.mk a0.b r13.2.i r13.2.h) (7 : Int) s14.w (mm [0] s14) p0 w0_0 (A0_0.kp K16) B14.w (B14.apart rfl)) (fun r18 s19 p19 B19 => ?_)
  refine dn (bl (sq (sr (Xb rfl (Xb rfl (dn (jc (fun (y21 : Bool) e w => ∃ (s : St) (e0 : Env), w = s.w ∧ e = upd (upd (upd (upd (upd (upd (upd (upd e0 0 (pB p0)) 6 vx6_0) 7 (iI x6.2.1)) 8 (iI x6.2.2.1)) 9 (iI x6.2.2.2.1)) 12 (iI (IntKind.wrap .i64 ((1 : Int) + r13.1)))) 26 (iI r18.1)) 39 (.bool y21) ∧ Kp s0 s ∧ BlF s p0 54 [w0_0, (iI r18.2.i), (iI r18.2.h)] 2 ∧ OwF Yc s [vx6_0] x6.1 42) (fun Gj21 Kj21 => ?_) ?_)))))))
  ·
   refine cd rfl (fun h22 => ?_) (fun h22 => ?_)
   ·
    exact sk (Kj21 _ _ _ ⟨s19, _, rfl, (ue (ue (ue (ue (ue (ue (ue (ue rfl rfl) rfl) rfl) rfl) rfl) rfl) rfl) rfl), (K16.st p19 rfl), B19, (Ax6_0.st (Xm p14 p19) rfl)⟩)
   refine rg (Xb rfl (Xb rfl (dn ?_)))
   exact Kj21 _ _ _ ⟨s19, _, rfl, (ue (ue (ue (ue (ue (ue (ue (ue rfl rfl) rfl) rfl) rfl) rfl) rfl) rfl) rfl), (K16.st p19 rfl), B19, (Ax6_0.st (Xm p14 p19) rfl)⟩
  rintro y21 _ _ ⟨s27, _, rfl, rfl, Ky21, By21_p0, Cy21_9⟩
  refine jc (fun (y29 : Int × Int × (List Track) × Int × Int × Int) e w => ∃ (s : St) (e0 : Env) (vy29_0 : Value), w = s.w ∧ e = upd (upd (upd (upd (upd (upd (upd e0 0 (pB p0)) 6 vx6_0) 7 (iI y29.1)) 8 (iI y29.2.1)) 9 (iI x6.2.2.2.1)) 10 vy29_0) 11 (iI y29.2.2.2.1) ∧ Kp s0 s ∧ OwF Yc s [vy29_0] y29.2.2.1 45 ∧ BlF s p0 54 [w0_0, (iI y29.2.2.2.2.1), (iI y29.2.2.2.2.2)] 2 ∧ OwF Yc s [vx6_0] x6.1 42) (fun Gj29 Kj29 => ?_) ?_
  ·
   refine cd rfl (fun h30 => ?_) (fun h30 => ?_)
   ·
    refine sr (Xp vx6_0 rfl (Xb rfl (Xb rfl (cl' rfl func31 rfl (spec_EdgeBegin.calls x6.1 x6.2.2.1 x6.2.1 s27.w (mm [42] s27) vx6_0 Cy21_9.rd) ?_))))
    rintro r31 _ w31 m31 ⟨v31_0, rfl, f31_0, ky31⟩
    obtain ⟨s32, rfl, p32, n32⟩ := nwx s27 w31 46 ky31
    refine Xb rfl (Xb (v := v31_0) rfl (Xb (v := (iI r31.2)) rfl (Xy v31_0 rfl (Xb rfl (dn (sr (Xb rfl (Xb rfl (Xb rfl (dn (rg (Xb rfl (Xb rfl (Xb rfl ?_))))))))))))))
    refine dn ?_
    obtain ⟨s34, hw34, p34, A34⟩ := (f31_0.c n32).rc 45 rfl
    rw [hw34]
    exact Kj29 _ _ _ ⟨s34, _, v31_0, rfl, (ue (ue (ue (ue (ue (ue (ue rfl rfl) rfl) rfl) rfl) rfl) rfl) rfl), (Ky21.st (Xm p32 p34) rfl), A34, (By21_p0.st (Xm p32 p34) rfl), (Cy21_9.st (Xm p32 p34) rfl)⟩
   refine sq (sr (Xb rfl (Xb rfl (dn (jc (fun (y38 : Bool) e w => ∃ (s : St) (e0 : Env), w = s.w ∧ e = upd (upd (upd (upd (upd (upd (upd (upd e0 0 (pB p0)) 6 vx6_0) 7 (iI x6.2.1)) 8 (iI x6.2.2.1)) 9 (iI x6.2.2.2.1)) 12 (iI (IntKind.wrap .i64 ((1 : Int) + r13.1)))) 26 (iI r18.1)) 53 (.bool y38) ∧ Kp s0 s ∧ BlF s p0 54 [w0_0, (iI r18.2.i), (iI r18.2.h)] 2 ∧ OwF Yc s [vx6_0] x6.1 42) (fun Gj38 Kj38 => ?_) ?_)))))
   ·
    refine cd rfl (fun h39 => ?_) (fun h39 => ?_)
    ·
     exact sk (Kj38 _ _ _ ⟨s27, _, rfl, (ue (ue (ue (ue (ue (ue (ue (ue rfl rfl) rfl) rfl) rfl) rfl) rfl) rfl) rfl), Ky21, By21_p0, Cy21_9⟩)
    exact rg (Xb rfl (Xb rfl (dn (Kj38 _ _ _ ⟨s27, _, rfl, (ue (ue (ue (ue (ue (ue (ue (ue rfl rfl) rfl) rfl) rfl) rfl) rfl) rfl) rfl), Ky21, By21_p0, Cy21_9⟩))))
   rintro y38 _ _ ⟨s40, _, rfl, rfl, Ky38, By38_p0, Cy38_9⟩
   refine jc (fun (y42 : Int × (List Track) × Int × Int × Int) e w => ∃ (s : St) (e0 : Env) (vy42_0 : Value), w = s.w ∧ e = upd (upd (upd (upd (upd (upd (upd e0 0 (pB p0)) 6 vx6_0) 7 (iI y42.1)) 8 (iI x6.2.2.1)) 9 (iI x6.2.2.2.1)) 10 vy42_0) 11 (iI y42.2.2.1) ∧ Kp s0 s ∧ OwF Yc s [vy42_0] y42.2.1 47 ∧ BlF s p0 54 [w0_0, (iI y42.2.2.2.1), (iI y42.2.2.2.2)] 2 ∧ OwF Yc s [vx6_0] x6.1 42) (fun Gj42 Kj42 => ?_) ?_
   ·
    refine cd rfl (fun h43 => ?_) (fun h43 => ?_)
    ·
     refine rg (Xp vx6_0 rfl (Xb rfl (Xb rfl ?_)))
     refine cl' rfl func33 rfl (spec_l13span.calls (l1Cur.mk a0.b r18.2.i r18.2.h) s40.w (mm [0] s40) p0 w0_0 (A0_0.kp Ky38) By38_p0.w (By38_p0.apart rfl)) ?_
     rintro r45 _ w45 m45 ⟨v45_0, v45_1, v45_2, v45_3, rfl, f45_0, bw45, ky45⟩
     obtain ⟨s46, rfl, p46, n46, g46⟩ := nwb 48 By38_p0 ky45
     obtain ⟨s47, hw47, p47, hu45_0_0, Au45_0_1, hu45_0_2, Au45_0_3⟩ := ap62 49 (f45_0.c n46) rfl
     rw [hw47]
     have A51 := Cy38_9.st (Xm p46 p47) rfl
     refine cl' rfl func32 rfl (spec_EdgeRead.calls x6.1 (IntKind.wrap .i64 ((1 : Int) + r13.1)) r45.1 s47.w (mm [42, 48, 49] s47) vx6_0 v45_0 v45_1 v45_2 v45_3 (A51.rd.sub (D := [42, 48, 49]) rfl) ((Xl (s := s47) hu45_0_0).sub (D := [42, 48, 49]) rfl) (Au45_0_1.rd.sub (D := [42, 48, 49]) rfl) ((Xl (s := s47) hu45_0_2).sub (D := [42, 48, 49]) rfl) (Au45_0_3.rd.sub (D := [42, 48, 49]) rfl)) ?_
     rintro r52 _ w52 m52 ⟨v52_0, rfl, f52_0, ky52⟩
     obtain ⟨s53, rfl, p53, n53⟩ := nwx s47 w52 50 ky52
     refine Xb rfl (Xb (v := v52_0) rfl (Xb (v := (iI r52.2)) rfl (Xy v52_0 rfl (Xb rfl (dn ?_)))))
     obtain ⟨s55, hw55, p55, A55⟩ := (f52_0.c n53).rc 47 rfl
     rw [hw55]
     exact Kj42 _ _ _ ⟨s55, _, v52_0, rfl, (ue (ue (ue (ue (ue (ue (ue rfl rfl) rfl) rfl) rfl) rfl) rfl) rfl), (Ky38.st (tr4 p46 p47 p53 p55) rfl), A55, (BlF.st (blf_mk bw45 g46) (Yb p47 p53 p55) rfl), (A51.st (Xm p53 p55) rfl)⟩
    refine sq (sr (Xb rfl (Xb rfl (dn (jc (fun (y59 : Bool) e w => ∃ (s : St) (e0 : Env), w = s.w ∧ e = upd (upd (upd (upd (upd (upd (upd e0 0 (pB p0)) 6 vx6_0) 7 (iI x6.2.1)) 8 (iI x6.2.2.1)) 9 (iI x6.2.2.2.1)) 12 (iI (IntKind.wrap .i64 ((1 : Int) + r13.1)))) 64 (.bool y59) ∧ Kp s0 s ∧ BlF s p0 54 [w0_0, (iI r18.2.i), (iI r18.2.h)] 2 ∧ OwF Yc s [vx6_0] x6.1 42) (fun Gj59 Kj59 => ?_) ?_)))))
    ·
     refine cd rfl (fun h60 => ?_) (fun h60 => ?_)
     ·
      exact sk (Kj59 _ _ _ ⟨s40, _, rfl, (ue (ue (ue (ue (ue (ue (ue rfl rfl) rfl) rfl) rfl) rfl) rfl) rfl), Ky38, By38_p0, Cy38_9⟩)
     exact rg (Xb rfl (Xb rfl (dn (Kj59 _ _ _ ⟨s40, _, rfl, (ue (ue (ue (ue (ue (ue (ue rfl rfl) rfl) rfl) rfl) rfl) rfl) rfl), Ky38, By38_p0, Cy38_9⟩))))
    rintro y59 _ _ ⟨s61, _, rfl, rfl, Ky59, By59_p0, Cy59_9⟩
    refine jc (fun (y63 : Int × (List Track) × Int × Int × Int) e w => ∃ (s : St) (e0 : Env) (vy63_0 : Value), w = s.w ∧ e = upd (upd (upd (upd (upd (upd (upd e0 0 (pB p0)) 6 vx6_0) 7 (iI y63.1)) 8 (iI x6.2.2.1)) 9 (iI x6.2.2.2.1)) 10 vy63_0) 11 (iI y63.2.2.1) ∧ Kp s0 s ∧ OwF Yc s [vy63_0] y63.2.1 51 ∧ BlF s p0 54 [w0_0, (iI y63.2.2.2.1), (iI y63.2.2.2.2)] 2 ∧ OwF Yc s [vx6_0] x6.1 42) (fun Gj63 Kj63 => ?_) ?_
    ·
     refine cd rfl (fun h64 => ?_) (fun h64 => ?_)
     ·
      refine rg (Xp vx6_0 rfl (Xb rfl (Xb rfl ?_)))
      refine cl' rfl func35 rfl (spec_l3key.calls (l1Cur.mk a0.b r18.2.i r18.2.h) s61.w (mm [0] s61) p0 w0_0 (A0_0.kp Ky59) By59_p0.w (By59_p0.apart rfl)) ?_
      rintro r66 _ w66 m66 ⟨v66_0, v66_1, rfl, f66_0, bw66, ky66⟩
      obtain ⟨s67, rfl, p67, n67, g67⟩ := nwb 52 By59_p0 ky66
      obtain ⟨hu66_0_0, Au66_0_1⟩ := ap60 (f66_0.c n67)
      have A70 := Cy59_9.st p67 rfl
      refine cl' rfl func34 rfl (spec_EdgeWrite.calls x6.1 (IntKind.wrap .i64 ((1 : Int) + r13.1)) r66.1 s67.w (mm [42, 52] s67) vx6_0 v66_0 v66_1 (A70.rd.sub (D := [42, 52]) rfl) ((Xl (s := s67) hu66_0_0).sub (D := [42, 52]) rfl) (Au66_0_1.rd.sub (D := [42, 52]) rfl)) ?_
      rintro r71 _ w71 m71 ⟨v71_0, rfl, f71_0, ky71⟩
      obtain ⟨s72, rfl, p72, n72⟩ := nwx s67 w71 53 ky71
      refine Xb rfl (Xb (v := v71_0) rfl (Xb (v := (iI r71.2)) rfl (Xy v71_0 rfl (Xb rfl (dn ?_)))))
      obtain ⟨s74, hw74, p74, A74⟩ := (f71_0.c n72).rc 51 rfl
      rw [hw74]
      exact Kj63 _ _ _ ⟨s74, _, v71_0, rfl, (ue (ue (ue (ue (ue (ue (ue rfl rfl) rfl) rfl) rfl) rfl) rfl) rfl), (Ky59.st (Yb p67 p72 p74) rfl), A74, (BlF.st (blf_mk bw66 g67) (Xm p72 p74) rfl), (A70.st (Xm p72 p74) rfl)⟩
     refine sr (Xp vx6_0 rfl (Xb rfl (Xb rfl (Xb rfl ?_))))
     refine clB By59_p0 rfl func13 rfl (spec_l1Once.calls (l1Cur.mk a0.b r18.2.i r18.2.h) (4 : Int) s61.w (mm [0] s61) p0 w0_0 (A0_0.kp Ky59) By59_p0.w (By59_p0.apart rfl)) (fun r79 s80 p80 B80 => ?_)
     refine Xb rfl ?_
     have A82 := Cy59_9.st p80 rfl
     refine cl' rfl func9 rfl (spec_EdgeEnd.calls x6.1 (IntKind.wrap .i64 ((1 : Int) + r13.1)) x6.2.1 (!r79.1) s80.w (mm [42] s80) vx6_0 A82.rd) ?_
     rintro r83 _ w83 m83 ⟨v83_0, rfl, f83_0, ky83⟩
     obtain ⟨s84, rfl, p84, n84⟩ := nwx s80 w83 55 ky83
     refine Xb rfl (Xb (v := v83_0) rfl (Xb (v := (iI r83.2)) rfl (Xy v83_0 rfl (Xb rfl (dn (rg (Xb rfl (Xb rfl (Xb rfl (dn ?_))))))))))
     obtain ⟨s86, hw86, p86, A86⟩ := (f83_0.c n84).rc 51 rfl
     rw [hw86]
     exact Kj63 _ _ _ ⟨s86, _, v83_0, rfl, (ue (ue (ue (ue (ue (ue (ue rfl rfl) rfl) rfl) rfl) rfl) rfl) rfl), (Ky59.st (Yb p80 p84 p86) rfl), A86, (B80.st (Xm p84 p86) rfl), (A82.st (Xm p84 p86) rfl)⟩
    rintro y63 _ _ ⟨s90, _, vy63_0, rfl, rfl, Ky63, Ay63_0, By63_p0, Cy63_9⟩
    obtain ⟨s93, hw93, p93, A93⟩ := Ay63_0.rc 47 rfl
    rw [hw93]
    exact Kj42 _ _ _ ⟨s93, _, vy63_0, rfl, (ue (ue (ue (ue (ue (ue (ue rfl rfl) rfl) rfl) rfl) rfl) rfl) rfl), (Ky63.st p93 rfl), A93, (By63_p0.st p93 rfl), (Cy63_9.st p93 rfl)⟩
   rintro y42 _ _ ⟨s97, _, vy42_0, rfl, rfl, Ky42, Ay42_0, By42_p0, Cy42_9⟩
   obtain ⟨s100, hw100, p100, A100⟩ := Ay42_0.rc 45 rfl
   rw [hw100]
   exact Kj29 _ _ _ ⟨s100, _, vy42_0, rfl, (ue (ue (ue (ue (ue (ue (ue rfl rfl) rfl) rfl) rfl) rfl) rfl) rfl), (Ky42.st p100 rfl), A100, (By42_p0.st p100 rfl), (Cy42_9.st p100 rfl)⟩
  rintro y29 _ _ ⟨s104, _, vy29_0, rfl, rfl, Ky29, Ay29_0, By29_p0, Cy29_9⟩
  refine ib (sr (Xb rfl (Xb rfl (dn (jc (fun (y107 : (List Track)) e w => ∃ (s : St) (e0 : Env) (vy107_0 : Value), w = s.w ∧ e = upd (upd (upd (upd (upd e0 0 (pB p0)) 6 vy107_0) 7 (iI y29.1)) 8 (iI y29.2.1)) 9 (iI x6.2.2.2.1) ∧ Kp s0 s ∧ OwF Yc s [vy107_0] y107 56 ∧ BlF s p0 54 [w0_0, (iI y29.2.2.2.2.1), (iI y29.2.2.2.2.2)] 2) (fun Gj107 Kj107 => ?_) ?_)))))
  ·
   refine cd rfl (fun h108 => ?_) (fun h108 => ?_)
   ·
    refine rg (Xp vy29_0 rfl (Xy vy29_0 rfl (dn ?_)))
    obtain ⟨s109, hw109, p109, A109⟩ := Ay29_0.rc 56 rfl
    rw [hw109]
    exact Kj107 _ _ _ ⟨s109, _, vy29_0, rfl, (ue (ue (ue (ue (ue rfl rfl) rfl) rfl) rfl) rfl), (Ky29.st p109 rfl), A109, (By29_p0.st p109 rfl)⟩
   refine sk ?_
   obtain ⟨s112, hw112, p112, A112⟩ := Cy29_9.rc 56 rfl
   rw [hw112]
   exact Kj107 _ _ _ ⟨s112, _, vx6_0, rfl, (ue (ue (ue (ue (ue rfl rfl) rfl) rfl) rfl) rfl), (Ky29.st p112 rfl), A112, (By29_p0.st p112 rfl)⟩
  rintro y107 _ _ ⟨s115, _, vy107_0, rfl, rfl, Ky107, Ay107_0, By107_p0⟩
  refine ib (rg (Xb rfl (Xb rfl (Xb rfl (dn ?_)))))
  obtain ⟨s118, hw118, p118, A118⟩ := Ay107_0.rc 42 rfl
  rw [hw118]
  exact lb ih6 ⟨s118, _, vy107_0, rfl, (ue (ue (ue (ue (ue rfl rfl) rfl) rfl) rfl) rfl), (Ky107.st p118 rfl), A118, (By107_p0.st p118 rfl)⟩
 exact xt rfl (sgb (sr (Xp vx6_0 rfl (Xb rfl (Xy vx6_0 rfl (Xb rfl (dn (re rfl func14 rfl (Xq rfl (Xq rfl Xe)) rfl ⟨_, rfl, vx6_0, rfl, Ax6_0.fo Kx6 rfl z.l, Bx6_p0.w, z.ky Kx6⟩))))))))
def spec_l1PickInt.f (a0 : l1Cur) (a1 : (List Int)) : Option (Int × l1Cur) :=
 ((spec_l1Below.f a0 (a1.length : Int)).bind fun r4 => (if 0 ≤ r4.1 ∧ r4.1 < (a1.length : Int) then (some ((at_ a1 r4.1), (l1Cur.mk a0.b r4.2.i r4.2.h))) else none))
def spec_l1PickInt.Q (w : World) (F : Nat → Prop) (p0 : Nat) (w0_0 : Value) (r : Int × l1Cur) (v : Value) (w' : World) : Prop :=
 v = (iI r.1) ∧ BlW w' p0 54 [w0_0, (iI r.2.i), (iI r.2.h)] ∧ Ky [p0] w w'
theorem spec_l1PickInt.calls (a0 : l1Cur) (a1 : (List Int)) (w : World) (F : Nat → Prop) (p0 : Nat) (w0_0 : Value) (w1_0 : Value) (h0_0 : Yd.rd w [w0_0] a0.b F) (h1_0 : (Kd.sl 3 (Kd.int .i64)).rd w [w1_0] a1 F) (hb0 : BlW w p0 54 [w0_0, (iI a0.i), (iI a0.h)]) (hF : ∀ b, F b → b ∉ [p0]) (r : Int × l1Cur) (m : spec_l1PickInt.f a0 a1 = some r) :
  Calls prog 36 #[(pB p0), w1_0] w (RT (spec_l1PickInt.Q w F p0 w0_0) r) := by
 obtain ⟨s0, rfl, kp0, z⟩ := start1 w F [p0] hF
 have B0 := z.bl hb0 (by simp)
 have A1_0 := z.rd h1_0
 refine Xd (args := [(pB p0), w1_0]) func36 ntmps36 rfl rfl m ?_
 unfold spec_l1PickInt.f
 refine sr (Xb rfl (dn (sr (Xp w1_0 rfl (Xb rfl (Xp w1_0 rfl (ln' A1_0 u67 rfl (clB B0 rfl func12 rfl (spec_l1Below.calls a0 (a1.length : Int) s0.w (mm [0] s0) p0 w0_0 (z.rd h0_0) B0.w (B0.apart rfl)) (fun r4 s5 p5 B5 => ?_)))))))))
 have K7 := kp0.st p5 rfl
 refine ix' (A1_0.kp K7) u67 z3 rfl (fun ad9 es9 h0_9 h1_9 he9 ce9 ia9 => ?_)
 obtain rfl := he9
 exact lc0 ce9 u3 rfl rfl rfl rfl rfl rfl rfl rfl (Xb rfl (dn (re rfl func36 rfl (Xq rfl Xe) rfl ⟨_, rfl, rfl, B5.w, z.ky K7⟩)))
def spec_l1number.b0 (a0 : l1Cur) (x11 : Int × Int × Int × Int) : Option ((Int × Int × Int × Int) ⊕ (Int × l1Cur)) :=
 (if (decide (x11.2.1 > (0 : Int))) = true then ((spec_l1Byte.f (l1Cur.mk a0.b x11.2.2.1 x11.2.2.2)).bind fun r17 => (some (Sum.inl ((IntKind.wrap .i64 ((IntKind.wrap .i64 (x11.1 * (256 : Int))) + r17.1)), (IntKind.wrap .i64 (x11.2.1 - (1 : Int))), r17.2.i, r17.2.h)))) else (((spec_l1Below.f (l1Cur.mk a0.b x11.2.2.1 x11.2.2.2) (12 : Int)).bind fun r22 => (if (r22.1 == (0 : Int)) = true then (some ((IntKind.wrap .i64 (0 - x11.1)), (l1Cur.mk a0.b r22.2.i r22.2.h))) else (if (r22.1 == (1 : Int)) = true then ((spec_l1Below.f (l1Cur.mk a0.b r22.2.i r22.2.h) (7 : Int)).bind fun r34 => (if 0 ≤ (IntKind.wrap .i64 ((8 : Int) * (IntKind.wrap .i64 ((1 : Int) + r34.1)))) then ((spec_l1Below.f (l1Cur.mk a0.b r34.2.i r34.2.h) (2 : Int)).bind fun r46 => (some ((IntKind.wrap .i64 ((ishl .i64 (1 : Int) (IntKind.wrap .i64 ((8 : Int) * (IntKind.wrap .i64 ((1 : Int) + r34.1))))) - r46.1)), (l1Cur.mk a0.b r46.2.i r46.2.h)))) else none)) else (if (r22.1 == (2 : Int)) = true then (some ((9223372036854775807 : Int), (l1Cur.mk a0.b r22.2.i r22.2.h))) else (if (r22.1 == (3 : Int)) = true then (some ((-9223372036854775808 : Int), (l1Cur.mk a0.b r22.2.i r22.2.h))) else (some (x11.1, (l1Cur.mk a0.b r22.2.i r22.2.h)))))))).bind fun o => some (Sum.inr o)))
def spec_l1number.f (a0 : l1Cur) : Option (Int × l1Cur) :=
 ((spec_l1Below.f a0 (1000 : Int)).bind fun r3 => ((spec_l1Below.f (l1Cur.mk a0.b r3.2.i r3.2.h) (6 : Int)).bind fun r8 => (iter (spec_l1number.b0 a0) (r3.1, r8.1, r8.2.i, r8.2.h))))
def spec_l1number.Q (w : World) (F : Nat → Prop) (p0 : Nat) (w0_0 : Value) (r : Int × l1Cur) (v : Value) (w' : World) : Prop :=
 v = (iI r.1) ∧ BlW w' p0 54 [w0_0, (iI r.2.i), (iI r.2.h)] ∧ Ky [p0] w w'
theorem spec_l1number.calls (a0 : l1Cur) (w : World) (F : Nat → Prop) (p0 : Nat) (w0_0 : Value) (h0_0 : Yd.rd w [w0_0] a0.b F) (hb0 : BlW w p0 54 [w0_0, (iI a0.i), (iI a0.h)]) (hF : ∀ b, F b → b ∉ [p0]) (r : Int × l1Cur) (m : spec_l1number.f a0 = some r) :
  Calls prog 83 #[(pB p0)] w (RT (spec_l1number.Q w F p0 w0_0) r) := by
 obtain ⟨s0, rfl, kp0, z⟩ := start1 w F [p0] hF
 have A0_0 := z.rd h0_0
 have B0 := z.bl hb0 (by simp)
 refine Xd (args := [(pB p0)]) func83 ntmps83 rfl rfl m ?_
 unfold spec_l1number.f
 refine sr (Xb rfl (dn (sr (Xb rfl (clB B0 rfl func12 rfl (spec_l1Below.calls a0 (1000 : Int) s0.w (mm [0] s0) p0 w0_0 A0_0 B0.w (B0.apart rfl)) (fun r3 s4 p4 B4 => ?_))))))
 refine Xb rfl (dn (sq (sr (Xb rfl ?_))))
 have K6 := kp0.st p4 rfl
 refine clB B4 rfl func12 rfl (spec_l1Below.calls (l1Cur.mk a0.b r3.2.i r3.2.h) (6 : Int) s4.w (mm [0] s4) p0 w0_0 (A0_0.kp K6) B4.w (B4.apart rfl)) (fun r8 s9 p9 B9 => ?_)
 refine Xb rfl (dn (bl ?_))
 refine lpI (fun (x11 : Int × Int × Int × Int) e w => ∃ (s : St) (e0 : Env), w = s.w ∧ e = upd (upd (upd e0 0 (pB p0)) 3 (iI x11.1)) 4 (iI x11.2.1) ∧ Kp s0 s ∧ BlF s p0 54 [w0_0, (iI x11.2.2.1), (iI x11.2.2.2)] 2) ⟨s9, _, rfl, (ue (ue (ue rfl rfl) rfl) rfl), (K6.st p9 rfl), B9⟩ (fun g11 ih11 => ?_)
 rintro x11 _ _ ⟨s13, _, rfl, rfl, Kx11, Bx11_p0⟩
 unfold spec_l1number.b0
 refine sq (sr (Xb rfl (Xb rfl (dn (cd rfl (fun h15 => ?_) (fun h15 => ?_))))))
 ·
  refine sk (sq (bl (rg (Xb rfl (Xb rfl (Xb rfl ?_))))))
  refine clB Bx11_p0 rfl func30 rfl (spec_l1Byte.calls (l1Cur.mk a0.b x11.2.2.1 x11.2.2.2) s13.w (mm [0] s13) p0 w0_0 (A0_0.kp Kx11) Bx11_p0.w (Bx11_p0.apart rfl)) (fun r17 s18 p18 B18 => ?_)
  refine Xb rfl (Xb rfl (dn (ib (rg (Xb rfl (Xb rfl (Xb rfl (dn ?_))))))))
  exact lb ih11 ⟨s18, _, rfl, (ue (ue (ue rfl rfl) rfl) rfl), (Kx11.st p18 rfl), B18⟩
 refine xt rfl (sgb (sq (sr (Xb rfl ?_))))
 refine clB Bx11_p0 rfl func12 rfl (spec_l1Below.calls (l1Cur.mk a0.b x11.2.2.1 x11.2.2.2) (12 : Int) s13.w (mm [0] s13) p0 w0_0 (A0_0.kp Kx11) Bx11_p0.w (Bx11_p0.apart rfl)) (fun r22 s23 p23 B23 => ?_)
 refine dn (bl (sr (Xb rfl (Xb rfl (dn (cd rfl (fun h25 => ?_) (fun h25 => ?_)))))))
 ·
  refine sr (Xb rfl (Xb rfl (Xb rfl (dn ?_))))
  exact re rfl func83 rfl (Xq rfl Xe) rfl ⟨_, rfl, rfl, B23.w, z.ky (Kx11.st p23 rfl)⟩
 refine sr (Xb rfl (Xb rfl (dn (cd rfl (fun h27 => ?_) (fun h27 => ?_)))))
 ·
  refine sq (zdraw [[], [0], [1], [2], [3], [], [5, 1], [4, 6], [7, 6, 0, 1, 2, 3, 4, 5, 6, 7]] [some 26, some 27, some 28, some 29, some 30, some 31, some 32, some 33, some 2] [[0], [26], [27], [28], [29], [0], [31], [30, 32], [33]] [0, 1, 2, 3, 4, 5, 6, 7, 8] ⟨by kernel_rfl, by kernel_rfl, by kernel_rfl⟩ (by kernel_rfl) (fun s28 p28 l28 tb28 zd28 => ?_))
  refine zstep 1 [some 31] tb28 ((zd28.add 0 26 (pB p0) rfl).add 5 31 (pB p0) rfl) (Xa (Xg rfl) rfl (Xa (Xg rfl) rfl Xk)) (by kernel_rfl) rfl (fun l31 e31 zd31 => ?_)
  have K32 := Kx11.st (Xm p23 p28) rfl
  have A35 := B23.st p28 rfl
  refine clB A35 rfl func12 rfl (spec_l1Below.calls (l1Cur.mk a0.b r22.2.i r22.2.h) (7 : Int) s28.w (mm [0] s28) p0 w0_0 (A0_0.kp K32) A35.w (A35.apart rfl)) (fun r34 s36 p36 B36 => ?_)
  refine zdone (L' := [5]) (D' := [0, 1]) zd31 rfl rfl rfl (fun zd38 => ?_)
  refine mg fun hg41 => (zstep 6 [some 30, some 29, some 28] tb28 (((zd38.add 2 28 (iI (IntKind.wrap .i64 ((1 : Int) + r34.1))) rfl).add 3 29 (iI (IntKind.wrap .i64 ((8 : Int) * (IntKind.wrap .i64 ((1 : Int) + r34.1))))) rfl).add 4 30 (iI (ishl .i64 (1 : Int) (IntKind.wrap .i64 ((8 : Int) * (IntKind.wrap .i64 ((1 : Int) + r34.1)))))) rfl) (Xa (shl__q hg41 rfl rfl rfl rfl rfl rfl rfl) rfl (Xa (Xg rfl) rfl (Xa (Xg rfl) rfl (Xa (Xg rfl) rfl Xk)))) (by kernel_rfl) rfl (fun l43 e43 zd43 => ?_))
  have K44 := K32.st p36 rfl
  refine clB B36 rfl func12 rfl (spec_l1Below.calls (l1Cur.mk a0.b r34.2.i r34.2.h) (2 : Int) s36.w (mm [0] s36) p0 w0_0 (A0_0.kp K44) B36.w (B36.apart rfl)) (fun r46 s47 p47 B47 => ?_)
  refine zdone (L' := [4, 3, 2]) (D' := [5, 6, 0, 1]) zd43 rfl rfl rfl (fun zd49 => ?_)
  refine zfin [7, 8] tb28 zd49 (Xa (shl__q hg41 rfl rfl rfl rfl rfl rfl rfl) rfl (Xa (Xg rfl) rfl (Xa (Xg rfl) rfl Xk))) (by kernel_rfl) (by decide) (Xb rfl (Xb rfl (dn ?_)))
  exact re rfl func83 rfl (Xq rfl Xe) rfl ⟨_, rfl, rfl, B47.w, z.ky (K44.st p47 rfl)⟩
 refine sr (Xb rfl (Xb rfl (dn (cd rfl (fun h51 => ?_) (fun h51 => ?_)))))
 ·
  refine sr (Xb rfl (dn ?_))
  exact re rfl func83 rfl (Xq rfl Xe) rfl ⟨_, rfl, rfl, B23.w, z.ky (Kx11.st p23 rfl)⟩
 refine sr (Xb rfl (Xb rfl (dn (cd rfl (fun h53 => ?_) (fun h53 => ?_)))))
 ·
  refine sr (Xb rfl (dn ?_))
  exact re rfl func83 rfl (Xq rfl Xe) rfl ⟨_, rfl, rfl, B23.w, z.ky (Kx11.st p23 rfl)⟩
 refine sk (ib (sr (Xb rfl (Xb rfl (dn ?_)))))
 exact re rfl func83 rfl (Xq rfl Xe) rfl ⟨_, rfl, rfl, B23.w, z.ky (Kx11.st p23 rfl)⟩
def spec_l3value.f (a0 : l1Cur) : Option (Item × l1Cur) :=
 ((spec_l1Below.f a0 (5 : Int)).bind fun r7 => (if (r7.1 == (0 : Int)) = true then ((spec_l1some.f (l1Cur.mk a0.b r7.2.i r7.2.h) (8 : Int)).bind fun r14 => (some ((Item.mk (3 : Int) (0 : Int) (0 : Nat) r14.1), (l1Cur.mk a0.b r14.2.i r14.2.h)))) else (if (r7.1 == (1 : Int)) = true then ((spec_l2float.f (l1Cur.mk a0.b r7.2.i r7.2.h)).bind fun r29 => (some ((Item.mk (2 : Int) (0 : Int) r29.1 ([] : (List Int))), (l1Cur.mk a0.b r29.2.i r29.2.h)))) else (if (r7.1 == (2 : Int)) = true then ((spec_l1Below.f (l1Cur.mk a0.b r7.2.i r7.2.h) (64 : Int)).bind fun r42 => (some ((Item.mk (2 : Int) (0 : Int) (far .quo (FloatKind.f64.nearest (IntKind.wrap .i64 (r42.1 - (32 : Int)))) (4616189618054758400 : Nat)) ([] : (List Int))), (l1Cur.mk a0.b r42.2.i r42.2.h)))) else ((if (r7.1 == (3 : Int)) = true then ((spec_l1Once.f (l1Cur.mk a0.b r7.2.i r7.2.h) (5 : Int)).bind fun r58 => (if r58.1 = true then ((spec_l1some.f (l1Cur.mk a0.b r58.2.i r58.2.h) (40 : Int)).bind fun r64 => (some (Sum.inr ((Item.mk (3 : Int) (0 : Int) (0 : Nat) r64.1), (l1Cur.mk a0.b r64.2.i r64.2.h))))) else (some (Sum.inl (r58.2.i, r58.2.h))))) else (some (Sum.inl (r7.2.i, r7.2.h)))).bind (sel fun y54 => ((spec_l1number.f (l1Cur.mk a0.b y54.1 y54.2)).bind fun r84 => (some ((Item.mk (1 : Int) r84.1 (0 : Nat) ([] : (List Int))), (l1Cur.mk a0.b r84.2.i r84.2.h))))))))))
def spec_l3value.Q (w : World) (F : Nat → Prop) (p0 : Nat) (w0_0 : Value) (r : Item × l1Cur) (v : Value) (w' : World) : Prop :=
 ∃ (v0 : Value) (v1 : Value), v = (.agg #[(iI r.1.Kind), (iI r.1.N), v0, v1]) ∧ FO kd60 w w' [(iI r.1.Kind), (iI r.1.N), v0, v1] r.1 ∧ BlW w' p0 54 [w0_0, (iI r.2.i), (iI r.2.h)] ∧ Ky [p0] w w'
theorem spec_l3value.calls (a0 : l1Cur) (w : World) (F : Nat → Prop) (p0 : Nat) (w0_0 : Value) (h0_0 : Yd.rd w [w0_0] a0.b F) (hb0 : BlW w p0 54 [w0_0, (iI a0.i), (iI a0.h)]) (hF : ∀ b, F b → b ∉ [p0]) (r : Item × l1Cur) (m : spec_l3value.f a0 = some r) :
  Calls prog 67 #[(pB p0)] w (RT (spec_l3value.Q w F p0 w0_0) r) := by
 obtain ⟨s0, rfl, kp0, z⟩ := start1 w F [p0] hF
 have A0_0 := z.rd h0_0
 refine Xd (args := [(pB p0)]) func67 ntmps67 rfl rfl m ?_
 unfold spec_l3value.f
 refine sr (al (cs := [(iI 0), (iI 0), (.float .f64 0), (.slice none 0 0)]) 40 rfl rfl rfl rfl rfl o60 rfl (fun b3 s3 p3 B3 => ?_))
 refine dn (sq (sr (Xb rfl ?_)))
 have K5 := kp0.st p3 rfl
 have A8 := BlF.st (z.bl hb0 (by simp)) p3 rfl
 refine clB A8 rfl func12 rfl (spec_l1Below.calls a0 (5 : Int) s3.w (mm [0] s3) p0 w0_0 (A0_0.kp K5) A8.w (A8.apart rfl)) (fun r7 s9 p9 B9 => ?_)
 refine dn (bl (sr (Xb rfl (Xb rfl (dn (cd rfl (fun h11 => ?_) (fun h11 => ?_)))))))
 ·
  refine sr (Xb rfl ?_)
  have K12 := K5.st p9 rfl
  refine cl' rfl func66 rfl (spec_l1some.calls (l1Cur.mk a0.b r7.2.i r7.2.h) (8 : Int) s9.w (mm [0] s9) p0 w0_0 (A0_0.kp K12) B9.w (B9.apart rfl)) ?_
  rintro r14 v14_0 w14 m14 ⟨f14_0, bw14, ky14⟩
  obtain ⟨s15, rfl, p15, n15, g15⟩ := nwb 42 B9 ky14
  have A14_0 := f14_0.c n15
  refine bd (cells := [(iI 3), (iI 0), (.float .f64 0), v14_0]) pl60 o60 rfl rfl rfl rfl rfl (lfill_pc (pc_c rfl (pc_c (oc A14_0.rd.one) pc_n)) rfl) (sva' (vs := [(iI 3), (iI 0), (.float .f64 0), v14_0]) (B3.st (Xm p9 p15) rfl) z60 rfl (Xc rfl (Xc rfl (Xc (FL.one (fl_c rfl)) (Xc A14_0.rd.one Xx)))) rfl (fun s19 p19 B19 => ?_))
  refine dn ?_
  have A21 : OwF kd60 s19 [(iI 3), (iI 0), (.float .f64 0), v14_0] (Item.mk (3 : Int) (0 : Int) (0 : Nat) r14.1) 42 := (Xv (fun x : Item => (x.Kind, x.N, x.F, x.T)) (Item.mk (3 : Int) (0 : Int) (0 : Nat) r14.1) (Xt (Xi .i64 (3 : Int)) (Xt (Xi .i64 (0 : Int)) (Xt (fz_flt (fl_c rfl)) (A14_0.st p19 rfl)))))
  have K24 := K12.st (Xm p15 p19) rfl
  exact re rfl func67 rfl (r_b B19 u60 rfl z60 rfl Xe) rfl ⟨_, rfl, (.float .f64 0), v14_0, rfl, A21.fo K24 rfl z.l, (BlF.w (BlF.st (blf_mk bw14 g15) p19 rfl)), z.ky K24⟩
 refine sr (Xb rfl (Xb rfl (dn (cd rfl (fun h26 => ?_) (fun h26 => ?_)))))
 ·
  refine sr (Xb rfl ?_)
  have K27 := K5.st p9 rfl
  refine cl' rfl func65 rfl (spec_l2float.calls (l1Cur.mk a0.b r7.2.i r7.2.h) s9.w (mm [0] s9) p0 w0_0 (A0_0.kp K27) B9.w (B9.apart rfl)) ?_
  rintro r29 v29_0 w29 m29 ⟨f29_0, bw29, ky29⟩
  obtain ⟨s30, rfl, p30, n30, g30⟩ := nwb 43 B9 ky29
  refine bd (cells := [(iI 2), (iI 0), v29_0, (.slice none 0 0)]) pl60 o60 rfl rfl rfl rfl rfl (lfill_pc (pc_c rfl (pc_c (oc (FL.one f29_0)) pc_n)) rfl) (sva' (vs := [(iI 2), (iI 0), v29_0, (.slice none 0 0)]) (B3.st (Xm p9 p30) rfl) z60 rfl (Xc rfl (Xc rfl (Xc (FL.one f29_0) (Xc rfl Xx)))) rfl (fun s33 p33 B33 => ?_))
  refine dn ?_
  have A35 : OwF kd60 s33 [(iI 2), (iI 0), v29_0, (.slice none 0 0)] (Item.mk (2 : Int) (0 : Int) r29.1 ([] : (List Int))) 44 := ow_z _ _ (fz_iso (fun x : Item => (x.Kind, x.N, x.F, x.T)) (Item.mk (2 : Int) (0 : Int) r29.1 ([] : (List Int))) (Xn (Xi .i64 (2 : Int)) (Xn (Xi .i64 (0 : Int)) (Xn (fz_flt f29_0) (fz_nil 5 (Kd.int .u8))))))
  have K37 := K27.st (Xm p30 p33) rfl
  exact re rfl func67 rfl (r_b B33 u60 rfl z60 rfl Xe) rfl ⟨_, rfl, v29_0, (.slice none 0 0), rfl, A35.fo K37 rfl z.l, (BlF.w (BlF.st (blf_mk bw29 g30) p33 rfl)), z.ky K37⟩
 refine sr (Xb rfl (Xb rfl (dn (cd rfl (fun h39 => ?_) (fun h39 => ?_)))))
 ·
  refine sr (Xb rfl ?_)
  have K40 := K5.st p9 rfl
  refine clB B9 rfl func12 rfl (spec_l1Below.calls (l1Cur.mk a0.b r7.2.i r7.2.h) (64 : Int) s9.w (mm [0] s9) p0 w0_0 (A0_0.kp K40) B9.w (B9.apart rfl)) (fun r42 s43 p43 B43 => ?_)
  refine Xb rfl (i2f u58 u3 rfl rfl rfl rfl rfl rfl (fun v45 A45 => ?_))
  refine fa_ A45 (fl_c rfl) (by simp) rfl rfl rfl rfl rfl rfl rfl (fun v46 s46 p46 A46 => ?_)
  refine bd (cells := [(iI 2), (iI 0), v46, (.slice none 0 0)]) pl60 o60 rfl rfl rfl rfl rfl (lfill_pc (pc_c rfl (pc_c (oc (FL.one A46)) pc_n)) rfl) (sva' (vs := [(iI 2), (iI 0), v46, (.slice none 0 0)]) (B3.st (Yb p9 p43 p46) rfl) z60 rfl (Xc rfl (Xc rfl (Xc (FL.one A46) (Xc rfl Xx)))) rfl (fun s48 p48 B48 => ?_))
  refine dn ?_
  have A50 : OwF kd60 s48 [(iI 2), (iI 0), v46, (.slice none 0 0)] (Item.mk (2 : Int) (0 : Int) (far .quo (FloatKind.f64.nearest (IntKind.wrap .i64 (r42.1 - (32 : Int)))) (4616189618054758400 : Nat)) ([] : (List Int))) 46 := ow_z _ _ (fz_iso (fun x : Item => (x.Kind, x.N, x.F, x.T)) (Item.mk (2 : Int) (0 : Int) (far .quo (FloatKind.f64.nearest (IntKind.wrap .i64 (r42.1 - (32 : Int)))) (4616189618054758400 : Nat)) ([] : (List Int))) (Xn (Xi .i64 (2 : Int)) (Xn (Xi .i64 (0 : Int)) (Xn (fz_flt A46) (fz_nil 5 (Kd.int .u8))))))
  have K52 := K40.st (Yb p43 p46 p48) rfl
  exact re rfl func67 rfl (r_b B48 u60 rfl z60 rfl Xe) rfl ⟨_, rfl, v46, (.slice none 0 0), rfl, A50.fo K52 rfl z.l, (BlF.w (B43.st (Xm p46 p48) rfl)), z.ky K52⟩
 refine sr (Xb rfl (Xb rfl (dn (jr (fun (y54 : Int × Int) e w => ∃ (s : St) (e0 : Env), w = s.w ∧ e = upd (upd e0 0 (pB p0)) 2 (pB b3) ∧ Kp s0 s ∧ BlF s p0 54 [w0_0, (iI y54.1), (iI y54.2)] 2 ∧ BlF s b3 60 [(iI 0), (iI 0), (.float .f64 0), (.slice none 0 0)] 40) (fun Gj54 Kj54 hG54 => ?_) ?_))))
 ·
  refine cd rfl (fun h55 => ?_) (fun h55 => ?_)
  ·
   refine sr (Xb rfl ?_)
   have K56 := K5.st p9 rfl
   refine clB B9 rfl func13 rfl (spec_l1Once.calls (l1Cur.mk a0.b r7.2.i r7.2.h) (5 : Int) s9.w (mm [0] s9) p0 w0_0 (A0_0.kp K56) B9.w (B9.apart rfl)) (fun r58 s59 p59 B59 => ?_)
   refine dn (cd rfl (fun h61 => ?_) (fun h61 => ?_))
   ·
    refine sr (Xb rfl ?_)
    have K62 := K56.st p59 rfl
    refine cl' rfl func66 rfl (spec_l1some.calls (l1Cur.mk a0.b r58.2.i r58.2.h) (40 : Int) s59.w (mm [0] s59) p0 w0_0 (A0_0.kp K62) B59.w (B59.apart rfl)) ?_
    rintro r64 v64_0 w64 m64 ⟨f64_0, bw64, ky64⟩
    obtain ⟨s65, rfl, p65, n65, g65⟩ := nwb 48 B59 ky64
    have A64_0 := f64_0.c n65
    refine bd (cells := [(iI 3), (iI 0), (.float .f64 0), v64_0]) pl60 o60 rfl rfl rfl rfl rfl (lfill_pc (pc_c rfl (pc_c (oc A64_0.rd.one) pc_n)) rfl) (sva' (vs := [(iI 3), (iI 0), (.float .f64 0), v64_0]) (B3.st (Yb p9 p59 p65) rfl) z60 rfl (Xc rfl (Xc rfl (Xc (FL.one (fl_c rfl)) (Xc A64_0.rd.one Xx)))) rfl (fun s69 p69 B69 => ?_))
    refine dn (jri hG54 ?_)
    have A71 : OwF kd60 s69 [(iI 3), (iI 0), (.float .f64 0), v64_0] (Item.mk (3 : Int) (0 : Int) (0 : Nat) r64.1) 48 := (Xv (fun x : Item => (x.Kind, x.N, x.F, x.T)) (Item.mk (3 : Int) (0 : Int) (0 : Nat) r64.1) (Xt (Xi .i64 (3 : Int)) (Xt (Xi .i64 (0 : Int)) (Xt (fz_flt (fl_c rfl)) (A64_0.st p69 rfl)))))
    have K74 := K62.st (Xm p65 p69) rfl
    exact re rfl func67 rfl (r_b B69 u60 rfl z60 rfl Xe) rfl ⟨_, rfl, (.float .f64 0), v64_0, rfl, A71.fo K74 rfl z.l, (BlF.w (BlF.st (blf_mk bw64 g65) p69 rfl)), z.ky K74⟩
   exact sk (Kj54 _ _ _ ⟨s59, _, rfl, (ue (ue rfl rfl) rfl), (K56.st p59 rfl), B59, (B3.st (Xm p9 p59) rfl)⟩)
  exact sk (Kj54 _ _ _ ⟨s9, _, rfl, (ue (ue rfl rfl) rfl), (K5.st p9 rfl), B9, (B3.st p9 rfl)⟩)
 rintro y54 _ _ ⟨s80, _, rfl, rfl, Ky54, By54_p0, By54_b3⟩
 refine ib (sr (Xb rfl ?_))
 refine clB By54_p0 rfl func83 rfl (spec_l1number.calls (l1Cur.mk a0.b y54.1 y54.2) s80.w (mm [0] s80) p0 w0_0 (A0_0.kp Ky54) By54_p0.w (By54_p0.apart rfl)) (fun r84 s85 p85 B85 => ?_)
 refine bd (cells := [(iI 1), (iI r84.1), (.float .f64 0), (.slice none 0 0)]) pl60 o60 rfl rfl rfl rfl rfl rfl (sva' (vs := [(iI 1), (iI r84.1), (.float .f64 0), (.slice none 0 0)]) (By54_b3.st p85 rfl) z60 rfl (Xc rfl (Xc rfl (Xc (FL.one (fl_c rfl)) (Xc rfl Xx)))) rfl (fun s88 p88 B88 => ?_))
 refine dn ?_
 have A90 : OwF kd60 s88 [(iI 1), (iI r84.1), (.float .f64 0), (.slice none 0 0)] (Item.mk (1 : Int) r84.1 (0 : Nat) ([] : (List Int))) 50 := ow_z _ _ (fz_iso (fun x : Item => (x.Kind, x.N, x.F, x.T)) (Item.mk (1 : Int) r84.1 (0 : Nat) ([] : (List Int))) (Xn (Xi .i64 (1 : Int)) (Xn (Xi .i64 r84.1) (Xn (fz_flt (fl_c rfl)) (fz_nil 5 (Kd.int .u8))))))
 have K92 := Ky54.st (Xm p85 p88) rfl
 exact re rfl func67 rfl (r_b B88 u60 rfl z60 rfl Xe) rfl ⟨_, rfl, (.float .f64 0), (.slice none 0 0), rfl, A90.fo K92 rfl z.l, (BlF.w (B85.st p88 rfl)), z.ky K92⟩
def spec_l3any.b0 (a0 : l1Cur) (x122 : Int × Int × (List Int)) : Option ((Int × Int × (List Int)) ⊕ (Int × Int × Int × Int × Nat × (List Int))) :=
 ((spec_l1Below.f (l1Cur.mk a0.b x122.1 x122.2.1) (2 : Int)).bind fun r144 => (if (decide ((x122.2.2.length : Int) < (IntKind.wrap .i64 ((40 : Int) + r144.1)))) = true then (if x122.2.2.length + ([(120 : Int)]).length ≤ Lim then (some (Sum.inl (r144.2.i, r144.2.h, (x122.2.2 ++ [(120 : Int)])))) else none) else ((some (r144.2.i, r144.2.h, (3 : Int), (0 : Int), (0 : Nat), x122.2.2)).bind fun o => some (Sum.inr o))))
def spec_l3any.f (a0 : l1Cur) : Option (Item × l1Cur) :=
 ((spec_l3value.f a0).bind fun r7 => ((spec_l1Once.f (l1Cur.mk a0.b r7.2.i r7.2.h) (2 : Int)).bind fun r19 => ((if r19.1 = true then ((spec_l3key.f (l1Cur.mk a0.b r19.2.i r19.2.h)).bind fun r27 => (some (r27.2.i, r27.2.h, r27.1.Kind, r27.1.N, r27.1.F, r27.1.T))) else (some (r19.2.i, r19.2.h, r7.1.Kind, r7.1.N, r7.1.F, r7.1.T))).bind fun y23 => ((spec_l1Below.f (l1Cur.mk a0.b y23.1 y23.2.1) (14 : Int)).bind fun r52 => ((if (r52.1 == (0 : Int)) = true then ((spec_l1Below.f (l1Cur.mk a0.b r52.2.i r52.2.h) (7 : Int)).bind fun r59 => (some (r59.2.i, r59.2.h, (IntKind.wrap .i64 (r59.1 - (1 : Int))), y23.2.2.2.1, y23.2.2.2.2.1, y23.2.2.2.2.2))) else ((if (r52.1 == (1 : Int)) = true then (some (r52.2.i, r52.2.h, y23.2.2.1, (IntKind.wrap .i64 (y23.2.2.2.1 + (1 : Int))), y23.2.2.2.2.1, y23.2.2.2.2.2)) else ((if (r52.1 == (2 : Int)) = true then ((spec_l2float.f (l1Cur.mk a0.b r52.2.i r52.2.h)).bind fun r82 => (some (r82.2.i, r82.2.h, y23.2.2.1, y23.2.2.2.1, r82.1, y23.2.2.2.2.2))) else ((if (r52.1 == (3 : Int)) = true then ((spec_l1some.f (l1Cur.mk a0.b r52.2.i r52.2.h) (3 : Int)).bind fun r103 => (if y23.2.2.2.2.2.length + r103.1.length ≤ Lim then (some (r103.2.i, r103.2.h, y23.2.2.1, y23.2.2.2.1, y23.2.2.2.2.1, (y23.2.2.2.2.2 ++ r103.1))) else none)) else ((if (r52.1 == (4 : Int)) = true then (iter (spec_l3any.b0 a0) (r52.2.i, r52.2.h, y23.2.2.2.2.2)) else ((if (r52.1 == (5 : Int)) = true then (some ((2 : Int), (0 : Int), (fneg (0 : Nat)), ([] : (List Int)))) else (some (y23.2.2.1, y23.2.2.2.1, y23.2.2.2.2.1, y23.2.2.2.2.2))).bind fun y177 => (some (r52.2.i, r52.2.h, y177.1, y177.2.1, y177.2.2.1, y177.2.2.2)))).bind fun y120 => (some (y120.1, y120.2.1, y120.2.2.1, y120.2.2.2.1, y120.2.2.2.2.1, y120.2.2.2.2.2)))).bind fun y92 => (some (y92.1, y92.2.1, y92.2.2.1, y92.2.2.2.1, y92.2.2.2.2.1, y92.2.2.2.2.2)))).bind fun y78 => (some (y78.1, y78.2.1, y78.2.2.1, y78.2.2.2.1, y78.2.2.2.2.1, y78.2.2.2.2.2)))).bind fun y69 => (some (y69.1, y69.2.1, y69.2.2.1, y69.2.2.2.1, y69.2.2.2.2.1, y69.2.2.2.2.2)))).bind fun y55 => (some ((Item.mk y55.2.2.1 y55.2.2.2.1 y55.2.2.2.2.1 y55.2.2.2.2.2), (l1Cur.mk a0.b y55.1 y55.2.1))))))))
def spec_l3any.Q (w : World) (F : Nat → Prop) (p0 : Nat) (w0_0 : Value) (r : Item × l1Cur) (v : Value) (w' : World) : Prop :=
 ∃ (v0 : Value) (v1 : Value), v = (.agg #[(iI r.1.Kind), (iI r.1.N), v0, v1]) ∧ FO kd60 w w' [(iI r.1.Kind), (iI r.1.N), v0, v1] r.1 ∧ BlW w' p0 54 [w0_0, (iI r.2.i), (iI r.2.h)] ∧ Ky [p0] w w'
theorem spec_l3any.calls (a0 : l1Cur) (w : World) (F : Nat → Prop) (p0 : Nat) (w0_0 : Value) (h0_0 : Yd.rd w [w0_0] a0.b F) (hb0 : BlW w p0 54 [w0_0, (iI a0.i), (iI a0.h)]) (hF : ∀ b, F b → b ∉ [p0]) (r : Item × l1Cur) (m : spec_l3any.f a0 = some r) :
  Calls prog 37 #[(pB p0)] w (RT (spec_l3any.Q w F p0 w0_0) r) := by
 obtain ⟨s0, rfl, kp0, z⟩ := start1 w F [p0] hF
 have A0_0 := z.rd h0_0
 refine Xd (args := [(pB p0)]) func37 ntmps37 rfl rfl m ?_
 unfold spec_l3any.f
 refine sr (al (cs := [(iI 0), (iI 0), (.float .f64 0), (.slice none 0 0)]) 40 rfl rfl rfl rfl rfl o60 rfl (fun b3 s3 p3 B3 => ?_))
 refine dn (sr (Xb rfl ?_))
 have K5 := kp0.st p3 rfl
 have A8 := BlF.st (z.bl hb0 (by simp)) p3 rfl
 refine cl' rfl func67 rfl (spec_l3value.calls a0 s3.w (mm [0] s3) p0 w0_0 (A0_0.kp K5) A8.w (A8.apart rfl)) ?_
 rintro r7 _ w7 m7 ⟨v7_0, v7_1, rfl, f7_0, bw7, ky7⟩
 obtain ⟨s9, rfl, p9, n9, g9⟩ := nwb 41 A8 ky7
 obtain ⟨hu7_0_0, Au7_0_1⟩ := ap60 (f7_0.c n9)
 refine al (cs := [(iI 0), (iI 0), (.float .f64 0), (.slice none 0 0)]) 42 rfl rfl rfl rfl rfl o60 rfl (fun b12 s12 p12 B12 => ?_)
 have A14 := Au7_0_1.st p12 rfl
 refine sva' (vs := [(iI r7.1.Kind), (iI r7.1.N), v7_0, v7_1]) B12 z60 rfl (Xc rfl (Xc rfl (Xc (FL.one hu7_0_0) (Xc A14.rd.one Xx)))) rfl (fun s15 p15 B15 => ?_)
 refine dn (sq (sr (Xb rfl ?_)))
 have K17 := K5.st (Yb p9 p12 p15) rfl
 have A20 := BlF.st (blf_mk bw7 g9) (Xm p12 p15) rfl
 refine clB A20 rfl func13 rfl (spec_l1Once.calls (l1Cur.mk a0.b r7.2.i r7.2.h) (2 : Int) s15.w (mm [0] s15) p0 w0_0 (A0_0.kp K17) A20.w (A20.apart rfl)) (fun r19 s21 p21 B21 => ?_)
 refine dn (jc (fun (y23 : Int × Int × Int × Int × Nat × (List Int)) e w => ∃ (s : St) (e0 : Env) (vy23_0 uy23_0 : Value), w = s.w ∧ e = upd (upd (upd e0 0 (pB p0)) 2 (pB b3)) 3 (pB b12) ∧ Kp s0 s ∧ OwF Yd s [vy23_0] y23.2.2.2.2.2 44 ∧ FL uy23_0 y23.2.2.2.2.1 ∧ BlF s p0 54 [w0_0, (iI y23.1), (iI y23.2.1)] 2 ∧ BlF s b12 60 [(iI y23.2.2.1), (iI y23.2.2.2.1), uy23_0, vy23_0] 42 ∧ BlF s b3 60 [(iI 0), (iI 0), (.float .f64 0), (.slice none 0 0)] 40) (fun Gj23 Kj23 => ?_) ?_)
 ·
  refine cd rfl (fun h24 => ?_) (fun h24 => ?_)
  ·
   refine rg (Xb rfl ?_)
   have K25 := K17.st p21 rfl
   refine cl' rfl func35 rfl (spec_l3key.calls (l1Cur.mk a0.b r19.2.i r19.2.h) s21.w (mm [0] s21) p0 w0_0 (A0_0.kp K25) B21.w (B21.apart rfl)) ?_
   rintro r27 _ w27 m27 ⟨v27_0, v27_1, rfl, f27_0, bw27, ky27⟩
   obtain ⟨s28, rfl, p28, n28, g28⟩ := nwb 45 B21 ky27
   obtain ⟨hu27_0_0, Au27_0_1⟩ := ap60 (f27_0.c n28)
   refine sva' (vs := [(iI r27.1.Kind), (iI r27.1.N), v27_0, v27_1]) (B15.st (Xm p21 p28) rfl) z60 rfl (Xc rfl (Xc rfl (Xc (FL.one hu27_0_0) (Xc Au27_0_1.rd.one Xx)))) rfl (fun s32 p32 B32 => ?_)
   refine dn ?_
   obtain ⟨s35, hw35, p35, A35⟩ := (Au27_0_1.st p32 rfl).rc 44 rfl
   rw [hw35]
   exact Kj23 _ _ _ ⟨s35, _, v27_1, v27_0, rfl, (ue (ue (ue rfl rfl) rfl) rfl), (K25.st (Yb p28 p32 p35) rfl), A35, hu27_0_0, (BlF.st (blf_mk bw27 g28) (Xm p32 p35) rfl), (B32.st p35 rfl), (B3.st (tr7 p9 p12 p15 p21 p28 p32 p35) rfl)⟩
  refine sk ?_
  obtain ⟨s41, hw41, p41, A41⟩ := (A14.st (Xm p15 p21) rfl).rc 44 rfl
  rw [hw41]
  exact Kj23 _ _ _ ⟨s41, _, v7_1, v7_0, rfl, (ue (ue (ue rfl rfl) rfl) rfl), (K17.st (Xm p21 p41) rfl), A41, hu7_0_0, (B21.st p41 rfl), (B15.st (Xm p21 p41) rfl), (B3.st (tr5 p9 p12 p15 p21 p41) rfl)⟩
 rintro y23 _ _ ⟨s46, _, vy23_0, uy23_0, rfl, rfl, Ky23, Ay23_0, Fy23_0, By23_p0, By23_b12, By23_b3⟩
 refine sq (sr (Xb rfl ?_))
 refine clB By23_p0 rfl func12 rfl (spec_l1Below.calls (l1Cur.mk a0.b y23.1 y23.2.1) (14 : Int) s46.w (mm [0] s46) p0 w0_0 (A0_0.kp Ky23) By23_p0.w (By23_p0.apart rfl)) (fun r52 s53 p53 B53 => ?_)
 refine dn (bl (sr (Xb rfl (Xb rfl (dn (jc (fun (y55 : Int × Int × Int × Int × Nat × (List Int)) e w => ∃ (s : St) (e0 : Env) (vy55_0 uy55_0 : Value), w = s.w ∧ e = upd (upd e0 2 (pB b3)) 3 (pB b12) ∧ Kp s0 s ∧ OwF Yd s [vy55_0] y55.2.2.2.2.2 44 ∧ FL uy55_0 y55.2.2.2.2.1 ∧ BlF s p0 54 [w0_0, (iI y55.1), (iI y55.2.1)] 2 ∧ BlF s b12 60 [(iI y55.2.2.1), (iI y55.2.2.2.1), uy55_0, vy55_0] 42 ∧ BlF s b3 60 [(iI 0), (iI 0), (.float .f64 0), (.slice none 0 0)] 40) (fun Gj55 Kj55 => ?_) ?_))))))
 ·
  refine cd rfl (fun h56 => ?_) (fun h56 => ?_)
  ·
   refine rg (Xb rfl ?_)
   have K57 := Ky23.st p53 rfl
   refine clB B53 rfl func12 rfl (spec_l1Below.calls (l1Cur.mk a0.b r52.2.i r52.2.h) (7 : Int) s53.w (mm [0] s53) p0 w0_0 (A0_0.kp K57) B53.w (B53.apart rfl)) (fun r59 s60 p60 B60 => ?_)
   refine Xb rfl (Xw fa60_0 rfl ?_)
   refine sv' (By23_b12.st (Xm p53 p60) rfl) z3 rfl rfl rfl (fun s63 p63 B63 => ?_)
   exact dn (Kj55 _ _ _ ⟨s63, _, vy23_0, uy23_0, rfl, (ue (ue rfl rfl) rfl), (K57.st (Xm p60 p63) rfl), (Ay23_0.st (Yb p53 p60 p63) rfl), Fy23_0, (B60.st p63 rfl), B63, (By23_b3.st (Yb p53 p60 p63) rfl)⟩)
  refine sr (Xb rfl (Xb rfl (dn (jc (fun (y69 : Int × Int × Int × Int × Nat × (List Int)) e w => ∃ (s : St) (e0 : Env) (vy69_0 uy69_0 : Value), w = s.w ∧ e = upd (upd e0 2 (pB b3)) 3 (pB b12) ∧ Kp s0 s ∧ OwF Yd s [vy69_0] y69.2.2.2.2.2 44 ∧ FL uy69_0 y69.2.2.2.2.1 ∧ BlF s p0 54 [w0_0, (iI y69.1), (iI y69.2.1)] 2 ∧ BlF s b12 60 [(iI y69.2.2.1), (iI y69.2.2.2.1), uy69_0, vy69_0] 42 ∧ BlF s b3 60 [(iI 0), (iI 0), (.float .f64 0), (.slice none 0 0)] 40) (fun Gj69 Kj69 => ?_) ?_))))
  ·
   refine cd rfl (fun h70 => ?_) (fun h70 => ?_)
   ·
    refine rg (Xw fa60_1 rfl ?_)
    have A71 := By23_b12.st p53 rfl
    refine ld' A71 u3 rfl (Xb rfl (Xw fa60_1 rfl (sv' A71 z3 rfl rfl rfl (fun s72 p72 B72 => ?_))))
    exact dn (Kj69 _ _ _ ⟨s72, _, vy23_0, uy23_0, rfl, (ue (ue rfl rfl) rfl), (Ky23.st (Xm p53 p72) rfl), (Ay23_0.st (Xm p53 p72) rfl), Fy23_0, (B53.st p72 rfl), B72, (By23_b3.st (Xm p53 p72) rfl)⟩)
   refine sr (Xb rfl (Xb rfl (dn (jc (fun (y78 : Int × Int × Int × Int × Nat × (List Int)) e w => ∃ (s : St) (e0 : Env) (vy78_0 uy78_0 : Value), w = s.w ∧ e = upd (upd e0 2 (pB b3)) 3 (pB b12) ∧ Kp s0 s ∧ OwF Yd s [vy78_0] y78.2.2.2.2.2 44 ∧ FL uy78_0 y78.2.2.2.2.1 ∧ BlF s p0 54 [w0_0, (iI y78.1), (iI y78.2.1)] 2 ∧ BlF s b12 60 [(iI y78.2.2.1), (iI y78.2.2.2.1), uy78_0, vy78_0] 42 ∧ BlF s b3 60 [(iI 0), (iI 0), (.float .f64 0), (.slice none 0 0)] 40) (fun Gj78 Kj78 => ?_) ?_))))
   ·
    refine cd rfl (fun h79 => ?_) (fun h79 => ?_)
    ·
     refine rg (Xb rfl ?_)
     have K80 := Ky23.st p53 rfl
     refine cl' rfl func65 rfl (spec_l2float.calls (l1Cur.mk a0.b r52.2.i r52.2.h) s53.w (mm [0] s53) p0 w0_0 (A0_0.kp K80) B53.w (B53.apart rfl)) ?_
     rintro r82 v82_0 w82 m82 ⟨f82_0, bw82, ky82⟩
     obtain ⟨s83, rfl, p83, n83, g83⟩ := nwb 48 B53 ky82
     refine Xw fa60_2 rfl (sv' (By23_b12.st (Xm p53 p83) rfl) z58 rfl (FL.one f82_0) rfl (fun s86 p86 B86 => ?_))
     exact dn (Kj78 _ _ _ ⟨s86, _, vy23_0, v82_0, rfl, (ue (ue rfl rfl) rfl), (K80.st (Xm p83 p86) rfl), (Ay23_0.st (Yb p53 p83 p86) rfl), f82_0, (BlF.st (blf_mk bw82 g83) p86 rfl), B86, (By23_b3.st (Yb p53 p83 p86) rfl)⟩)
    refine sr (Xb rfl (Xb rfl (dn (jc (fun (y92 : Int × Int × Int × Int × Nat × (List Int)) e w => ∃ (s : St) (e0 : Env) (vy92_0 uy92_0 : Value), w = s.w ∧ e = upd (upd e0 2 (pB b3)) 3 (pB b12) ∧ Kp s0 s ∧ OwF Yd s [vy92_0] y92.2.2.2.2.2 44 ∧ FL uy92_0 y92.2.2.2.2.1 ∧ BlF s p0 54 [w0_0, (iI y92.1), (iI y92.2.1)] 2 ∧ BlF s b12 60 [(iI y92.2.2.1), (iI y92.2.2.2.1), uy92_0, vy92_0] 42 ∧ BlF s b3 60 [(iI 0), (iI 0), (.float .f64 0), (.slice none 0 0)] 40) (fun Gj92 Kj92 => ?_) ?_))))
    ·
     refine cd rfl (fun h93 => ?_) (fun h93 => ?_)
     ·
      refine zdraw [[], [0], [], [2], [1, 3, 3], [0, 1, 2, 3, 4], [5, 4, 4, 0, 1, 2, 3, 4]] [some 32, some 33, some 34, some 35, some 36, some 37, none] [[3], [32], [0], [34], [33, 35], [3], [37, 36]] [0, 1, 2, 3, 4, 5, 6] ⟨by kernel_rfl, by kernel_rfl, by kernel_rfl⟩ (by kernel_rfl) (fun s94 p94 l94 tb94 zd94 => ?_)
      refine zstep 3 [some 33, some 32] tb94 (((zd94.add 0 32 (pO b12 3) rfl).add 1 33 vy23_0 rfl).add 2 34 (pB p0) rfl) (Xa (Xg rfl) rfl (Xa (Ya (By23_b12.st (Xm p53 p94) rfl) u22 rfl) rfl (Xa (Xo fa60_3 rfl) rfl Xk))) (by kernel_rfl) rfl (fun l99 e99 zd99 => ?_)
      have K101 := Ky23.st (Xm p53 p94) rfl
      have A104 := B53.st p94 rfl
      refine cl' rfl func66 rfl (spec_l1some.calls (l1Cur.mk a0.b r52.2.i r52.2.h) (3 : Int) s94.w (mm [0] s94) p0 w0_0 (A0_0.kp K101) A104.w (A104.apart rfl)) ?_
      rintro r103 v103_0 w103 m103 ⟨f103_0, bw103, ky103⟩
      obtain ⟨s105, rfl, p105, n105, g105⟩ := nwb 49 A104 ky103
      refine zdone (L' := [1, 0]) (D' := [2, 3]) zd99 rfl rfl rfl (fun zd108 => ?_)
      refine zfin [4, 5, 6] tb94 zd108 (Xa (Ya (By23_b12.st (Yb p53 p94 p105) rfl) u22 rfl) rfl (Xa (Xo fa60_3 rfl) rfl Xk)) (by kernel_rfl) (by decide) (apF fl_int sl22 (Ay23_0.st (Yb p53 p94 p105) rfl) (f103_0.c n105).rd rfl rfl rfl rfl rfl rfl rfl (fun v111 s111 p111 A111 => ?_))
      refine Xw fa60_3 rfl (sv' (By23_b12.st (tr4 p53 p94 p105 p111) rfl) z22 rfl A111.rd.one rfl (fun s114 p114 B114 => ?_))
      exact dn (Kj92 _ _ _ ⟨s114, _, v111, uy23_0, rfl, (ue (ue rfl rfl) rfl), (K101.st (Yb p105 p111 p114) rfl), (A111.st p114 rfl), Fy23_0, (BlF.st (blf_mk bw103 g105) (Xm p111 p114) rfl), B114, (By23_b3.st (tr5 p53 p94 p105 p111 p114) rfl)⟩)
     refine sr (Xb rfl (Xb rfl (dn (jc (fun (y120 : Int × Int × Int × Int × Nat × (List Int)) e w => ∃ (s : St) (e0 : Env) (vy120_0 uy120_0 : Value), w = s.w ∧ e = upd (upd e0 2 (pB b3)) 3 (pB b12) ∧ Kp s0 s ∧ OwF Yd s [vy120_0] y120.2.2.2.2.2 44 ∧ FL uy120_0 y120.2.2.2.2.1 ∧ BlF s p0 54 [w0_0, (iI y120.1), (iI y120.2.1)] 2 ∧ BlF s b12 60 [(iI y120.2.2.1), (iI y120.2.2.2.1), uy120_0, vy120_0] 42 ∧ BlF s b3 60 [(iI 0), (iI 0), (.float .f64 0), (.slice none 0 0)] 40) (fun Gj120 Kj120 => ?_) ?_))))
     ·
      refine cd rfl (fun h121 => ?_) (fun h121 => ?_)
      ·
       refine sq (bl ?_)
       refine lpI (fun (x122 : Int × Int × (List Int)) e w => ∃ (s : St) (e0 : Env) (vx122_0 : Value), w = s.w ∧ e = upd (upd (upd e0 0 (pB p0)) 2 (pB b3)) 3 (pB b12) ∧ Kp s0 s ∧ OwF Yd s [vx122_0] x122.2.2 44 ∧ BlF s p0 54 [w0_0, (iI x122.1), (iI x122.2.1)] 2 ∧ BlF s b12 60 [(iI y23.2.2.1), (iI y23.2.2.2.1), uy23_0, vx122_0] 42 ∧ BlF s b3 60 [(iI 0), (iI 0), (.float .f64 0), (.slice none 0 0)] 40) ⟨s53, _, vy23_0, rfl, (ue (ue (ue rfl rfl) rfl) rfl), (Ky23.st p53 rfl), (Ay23_0.st p53 rfl), B53, (By23_b12.st p53 rfl), (By23_b3.st p53 rfl)⟩ (fun g122 ih122 => ?_)
       rintro x122 _ _ ⟨s127, _, vx122_0, rfl, rfl, Kx122, Ax122_0, Bx122_p0, Bx122_b12, Bx122_b3⟩
       unfold spec_l3any.b0
       refine sq (sq (zdraw [[], [0], [1], [], [3], [4], [2, 5]] [some 40, some 41, some 42, some 43, some 44, some 45, some 46] [[3], [40], [41], [0], [43], [44], [42, 45]] [0, 1, 2, 3, 4, 5, 6] ⟨by kernel_rfl, by kernel_rfl, by kernel_rfl⟩ (by kernel_rfl) (fun s132 p132 l132 tb132 zd132 => ?_)))
       refine zstep 4 [some 42, some 41, some 40] tb132 ((((zd132.add 0 40 (pO b12 3) rfl).add 1 41 vx122_0 rfl).add 2 42 (iI (x122.2.2.length : Int)) rfl).add 3 43 (pB p0) rfl) (Xa (Xg rfl) rfl (Xa (ln_q (Ax122_0.st p132 rfl).rd u22 rfl rfl rfl rfl rfl rfl) rfl (Xa (Ya (Bx122_b12.st p132 rfl) u22 rfl) rfl (Xa (Xo fa60_3 rfl) rfl Xk)))) (by kernel_rfl) rfl (fun l139 e139 zd139 => ?_)
       have K142 := Kx122.st p132 rfl
       have A145 := Bx122_p0.st p132 rfl
       refine clB A145 rfl func12 rfl (spec_l1Below.calls (l1Cur.mk a0.b x122.1 x122.2.1) (2 : Int) s132.w (mm [0] s132) p0 w0_0 (A0_0.kp K142) A145.w (A145.apart rfl)) (fun r144 s146 p146 B146 => ?_)
       refine zdone (L' := [2, 1, 0]) (D' := [3, 4]) zd139 rfl rfl rfl (fun zd148 => ?_)
       refine zfin [6] tb132 (zd148.add 5 45 (iI (IntKind.wrap .i64 ((40 : Int) + r144.1))) rfl) (Xa (Xg rfl) rfl (Xa (ln_q (Ax122_0.st (Xm p132 p146) rfl).rd u22 rfl rfl rfl rfl rfl rfl) rfl (Xa (Ya (Bx122_b12.st (Xm p132 p146) rfl) u22 rfl) rfl (Xa (Xo fa60_3 rfl) rfl Xk)))) (by kernel_rfl) (by decide) (Xb rfl (dn (cd rfl (fun h152 => ?_) (fun h152 => ?_))))
       ·
        refine sk (bl (rg (Xw fa60_3 rfl ?_)))
        have A153 := Bx122_b12.st (Xm p132 p146) rfl
        refine ld' A153 u22 rfl (ltF (K := (Kd.int .u8)) (cells := [(.int .u8 (120 : Int))]) [(120 : Int)] 51 fl_int u22 z5 o5 (fun w => (els_flat _ _ _)) rfl rfl rfl rfl rfl rfl rfl rfl rfl rfl (fun v154 s154 p154 A154 => ?_))
        refine apF fl_int sl22 (Ax122_0.st (Yb p132 p146 p154) rfl) A154.rd rfl rfl rfl rfl rfl rfl rfl (fun v157 s157 p157 A157 => ?_)
        refine Xw fa60_3 rfl (sv' (A153.st (Xm p154 p157) rfl) z22 rfl A157.rd.one rfl (fun s160 p160 B160 => ?_))
        refine dn (ib ?_)
        exact lb ih122 ⟨s160, _, v157, rfl, (ue (ue (ue rfl rfl) rfl) rfl), (K142.st (tr4 p146 p154 p157 p160) rfl), (A157.st p160 rfl), (B146.st (Yb p154 p157 p160) rfl), B160, (Bx122_b3.st (tr5 p132 p146 p154 p157 p160) rfl)⟩
       refine xt rfl (sgb (sr (Xw fa60_0 rfl ?_)))
       refine sv' (Bx122_b12.st (Xm p132 p146) rfl) z3 rfl rfl rfl (fun s167 p167 B167 => ?_)
       refine dn (sr (Xw fa60_1 rfl (sv' B167 z3 rfl rfl rfl (fun s169 p169 B169 => ?_))))
       refine dn (rg (Xw fa60_2 rfl (sv' B169 z58 rfl (FL.one (fl_c rfl)) rfl (fun s171 p171 B171 => ?_))))
       exact dn (Kj120 _ _ _ ⟨s171, _, vx122_0, (.float .f64 0), rfl, (ue (ue rfl rfl) rfl), (K142.st (tr4 p146 p167 p169 p171) rfl), (Ax122_0.st (tr5 p132 p146 p167 p169 p171) rfl), (fl_c rfl), (B146.st (Yb p167 p169 p171) rfl), B171, (Bx122_b3.st (tr5 p132 p146 p167 p169 p171) rfl)⟩)
      refine sr (Xb rfl (Xb rfl (dn (jc (fun (y177 : Int × Int × Nat × (List Int)) e w => ∃ (s : St) (e0 : Env) (vy177_0 uy177_0 : Value), w = s.w ∧ e = upd (upd e0 2 (pB b3)) 3 (pB b12) ∧ Kp s0 s ∧ OwF Yd s [vy177_0] y177.2.2.2 44 ∧ FL uy177_0 y177.2.2.1 ∧ BlF s p0 54 [w0_0, (iI r52.2.i), (iI r52.2.h)] 2 ∧ BlF s b12 60 [(iI y177.1), (iI y177.2.1), uy177_0, vy177_0] 42 ∧ BlF s b3 60 [(iI 0), (iI 0), (.float .f64 0), (.slice none 0 0)] 40) (fun Gj177 Kj177 => ?_) ?_))))
      ·
       refine cd rfl (fun h178 => ?_) (fun h178 => ?_)
       ·
        refine sr (Xy (.float .f64 0) rfl (dn (rg (Xp (.float .f64 0) rfl (fng_ (fl_c rfl) rfl rfl rfl rfl rfl rfl (fun v179 A179 => ?_))))))
        refine bd (cells := [(iI 2), (iI 0), v179, (.slice none 0 0)]) pl60 o60 rfl rfl rfl rfl rfl (lfill_pc (pc_c rfl (pc_c (oc (FL.one A179)) pc_n)) rfl) (sva' (vs := [(iI 2), (iI 0), v179, (.slice none 0 0)]) (By23_b12.st p53 rfl) z60 rfl (Xc rfl (Xc rfl (Xc (FL.one A179) (Xc rfl Xx)))) rfl (fun s181 p181 B181 => ?_))
        exact dn (Kj177 _ _ _ ⟨s181, _, (.slice none 0 0), v179, rfl, (ue (ue rfl rfl) rfl), (Ky23.st (Xm p53 p181) rfl), (ow_nil 5 (Kd.int .u8) _ 44), A179, (B53.st p181 rfl), B181, (By23_b3.st (Xm p53 p181) rfl)⟩)
       exact sk (Kj177 _ _ _ ⟨s53, _, vy23_0, uy23_0, rfl, (ue (ue rfl rfl) rfl), (Ky23.st p53 rfl), (Ay23_0.st p53 rfl), Fy23_0, B53, (By23_b12.st p53 rfl), (By23_b3.st p53 rfl)⟩)
      rintro y177 _ _ ⟨s190, _, vy177_0, uy177_0, rfl, rfl, Ky177, Ay177_0, Fy177_0, By177_p0, By177_b12, By177_b3⟩
      exact Kj120 _ _ _ ⟨s190, _, vy177_0, uy177_0, rfl, (ue (ue rfl rfl) rfl), Ky177, Ay177_0, Fy177_0, By177_p0, By177_b12, By177_b3⟩
     rintro y120 _ _ ⟨s195, _, vy120_0, uy120_0, rfl, rfl, Ky120, Ay120_0, Fy120_0, By120_p0, By120_b12, By120_b3⟩
     exact Kj92 _ _ _ ⟨s195, _, vy120_0, uy120_0, rfl, (ue (ue rfl rfl) rfl), Ky120, Ay120_0, Fy120_0, By120_p0, By120_b12, By120_b3⟩
    rintro y92 _ _ ⟨s200, _, vy92_0, uy92_0, rfl, rfl, Ky92, Ay92_0, Fy92_0, By92_p0, By92_b12, By92_b3⟩
    exact Kj78 _ _ _ ⟨s200, _, vy92_0, uy92_0, rfl, (ue (ue rfl rfl) rfl), Ky92, Ay92_0, Fy92_0, By92_p0, By92_b12, By92_b3⟩
   rintro y78 _ _ ⟨s205, _, vy78_0, uy78_0, rfl, rfl, Ky78, Ay78_0, Fy78_0, By78_p0, By78_b12, By78_b3⟩
   exact Kj69 _ _ _ ⟨s205, _, vy78_0, uy78_0, rfl, (ue (ue rfl rfl) rfl), Ky78, Ay78_0, Fy78_0, By78_p0, By78_b12, By78_b3⟩
  rintro y69 _ _ ⟨s210, _, vy69_0, uy69_0, rfl, rfl, Ky69, Ay69_0, Fy69_0, By69_p0, By69_b12, By69_b3⟩
  exact Kj55 _ _ _ ⟨s210, _, vy69_0, uy69_0, rfl, (ue (ue rfl rfl) rfl), Ky69, Ay69_0, Fy69_0, By69_p0, By69_b12, By69_b3⟩
 rintro y55 _ _ ⟨s215, _, vy55_0, uy55_0, rfl, rfl, Ky55, Ay55_0, Fy55_0, By55_p0, By55_b12, By55_b3⟩
 refine ib (sr (lda' (es := [(iI y55.2.2.1), (iI y55.2.2.2.1), uy55_0, vy55_0]) By55_b12 u60 z60 rfl (sva' (vs := [(iI y55.2.2.1), (iI y55.2.2.2.1), uy55_0, vy55_0]) By55_b3 z60 rfl (Xc rfl (Xc rfl (Xc (FL.one Fy55_0) (Xc Ay55_0.rd.one Xx)))) rfl (fun s220 p220 B220 => ?_))))
 refine dn ?_
 have A222 : OwF kd60 s220 [(iI y55.2.2.1), (iI y55.2.2.2.1), uy55_0, vy55_0] (Item.mk y55.2.2.1 y55.2.2.2.1 y55.2.2.2.2.1 y55.2.2.2.2.2) 44 := (Xv (fun x : Item => (x.Kind, x.N, x.F, x.T)) (Item.mk y55.2.2.1 y55.2.2.2.1 y55.2.2.2.2.1 y55.2.2.2.2.2) (Xt (Xi .i64 y55.2.2.1) (Xt (Xi .i64 y55.2.2.2.1) (Xt (fz_flt Fy55_0) (Ay55_0.st p220 rfl)))))
 have K225 := Ky55.st p220 rfl
 exact re rfl func37 rfl (r_b B220 u60 rfl z60 rfl Xe) rfl ⟨_, rfl, uy55_0, vy55_0, rfl, A222.fo K225 rfl z.l, (BlF.w (By55_p0.st p220 rfl)), z.ky K225⟩
def spec_l13bent.b1 (a0 : l1Cur) (x327 : (List Track) × Int × Int) : Option (((List Track) × Int × Int) ⊕ ((List Track) × Int × Int)) :=
 ((spec_l1Below.f (l1Cur.mk a0.b x327.2.1 x327.2.2) (2 : Int)).bind fun r334 => (if (decide ((x327.1.length : Int) < (IntKind.wrap .i64 ((64 : Int) + r334.1)))) = true then (if x327.1.length + ([(Track.mk (IntKind.wrap .i64 ((100 : Int) + (x327.1.length : Int))) (1 : Int) (0 : Int) false ([] : (List Span)) ([] : (List Item)) false false)]).length ≤ Lim then (some (Sum.inl ((x327.1 ++ [(Track.mk (IntKind.wrap .i64 ((100 : Int) + (x327.1.length : Int))) (1 : Int) (0 : Int) false ([] : (List Span)) ([] : (List Item)) false false)]), r334.2.i, r334.2.h))) else none) else ((some (x327.1, r334.2.i, r334.2.h)).bind fun o => some (Sum.inr o))))
def spec_l13bent.b0 (a0 : l1Cur) (r5 : Int × l1Cur) (x238 : (List Track) × Int × Int) : Option (((List Track) × Int × Int) ⊕ ((List Track) × Int × Int)) :=
 (if 0 ≤ r5.1 ∧ r5.1 < (x238.1.length : Int) then ((spec_l1Below.f (l1Cur.mk a0.b x238.2.1 x238.2.2) (2 : Int)).bind fun r260 => (if (decide ((((at_ x238.1 r5.1).Reads).length : Int) < (IntKind.wrap .i64 ((6 : Int) + r260.1)))) = true then (if 0 ≤ r5.1 ∧ r5.1 < (x238.1.length : Int) then ((spec_l13span.f (l1Cur.mk a0.b r260.2.i r260.2.h)).bind fun r287 => (if ((at_ x238.1 r5.1).Reads).length + ([r287.1]).length ≤ Lim then (if 0 ≤ r5.1 ∧ r5.1 < (x238.1.length : Int) then ((some (x238.1.set (r5.1).toNat (Track.mk (at_ x238.1 r5.1).Xid (at_ x238.1 r5.1).Begun (at_ x238.1 r5.1).Ended (at_ x238.1 r5.1).All ((at_ x238.1 r5.1).Reads ++ [r287.1]) (at_ x238.1 r5.1).Writes (at_ x238.1 r5.1).In (at_ x238.1 r5.1).Out))).bind fun y321 => (some (Sum.inl (y321, r287.2.i, r287.2.h)))) else none) else none)) else none) else ((some (x238.1, r260.2.i, r260.2.h)).bind fun o => some (Sum.inr o)))) else none)
def spec_l13bent.f (a0 : l1Cur) (a1 : (List Track)) : Option ((List Track) × l1Cur) :=
 (if ((a1.length : Int) == (0 : Int)) = true then (some (a1, a0)) else ((spec_l1Below.f a0 (a1.length : Int)).bind fun r5 => ((spec_l1Below.f (l1Cur.mk a0.b r5.2.i r5.2.h) (14 : Int)).bind fun r10 => ((if (r10.1 == (0 : Int)) = true then ((spec_l1PickInt.f (l1Cur.mk a0.b r10.2.i r10.2.h) ([(0 : Int), (400 : Int), (401 : Int), (1 : Int)])).bind fun r19 => (if 0 ≤ r5.1 ∧ r5.1 < (a1.length : Int) then ((some (a1.set (r5.1).toNat (Track.mk r19.1 (at_ a1 r5.1).Begun (at_ a1 r5.1).Ended (at_ a1 r5.1).All (at_ a1 r5.1).Reads (at_ a1 r5.1).Writes (at_ a1 r5.1).In (at_ a1 r5.1).Out))).bind fun y30 => (some (y30, r19.2.i, r19.2.h))) else none)) else ((if (r10.1 == (1 : Int)) = true then ((spec_l1PickInt.f (l1Cur.mk a0.b r10.2.i r10.2.h) ([(0 : Int), (-1 : Int), (5 : Int)])).bind fun r39 => (if 0 ≤ r5.1 ∧ r5.1 < (a1.length : Int) then ((some (a1.set (r5.1).toNat (Track.mk (at_ a1 r5.1).Xid r39.1 (at_ a1 r5.1).Ended (at_ a1 r5.1).All (at_ a1 r5.1).Reads (at_ a1 r5.1).Writes (at_ a1 r5.1).In (at_ a1 r5.1).Out))).bind fun y50 => (some (y50, r39.2.i, r39.2.h))) else none)) else ((if (r10.1 == (2 : Int)) = true then (if 0 ≤ r5.1 ∧ r5.1 < (a1.length : Int) then (if 0 ≤ r5.1 ∧ r5.1 < (a1.length : Int) then ((spec_l1PickInt.f (l1Cur.mk a0.b r10.2.i r10.2.h) ([(-1 : Int), (at_ a1 r5.1).Begun, (IntKind.wrap .i64 ((at_ a1 r5.1).Begun + (1 : Int)))])).bind fun r86 => (if 0 ≤ r5.1 ∧ r5.1 < (a1.length : Int) then ((some (a1.set (r5.1).toNat (Track.mk (at_ a1 r5.1).Xid (at_ a1 r5.1).Begun r86.1 (at_ a1 r5.1).All (at_ a1 r5.1).Reads (at_ a1 r5.1).Writes (at_ a1 r5.1).In (at_ a1 r5.1).Out))).bind fun y98 => (some (y98, r86.2.i, r86.2.h))) else none)) else none) else none) else ((if (r10.1 == (3 : Int)) = true then (if 0 ≤ r5.1 ∧ r5.1 < (a1.length : Int) then ((spec_l3key.f (l1Cur.mk a0.b r10.2.i r10.2.h)).bind fun r121 => ((spec_l3any.f (l1Cur.mk a0.b r121.2.i r121.2.h)).bind fun r132 => (if ((at_ a1 r5.1).Reads).length + ([(Span.mk r121.1 r132.1)]).length ≤ Lim then (if 0 ≤ r5.1 ∧ r5.1 < (a1.length : Int) then ((some (a1.set (r5.1).toNat (Track.mk (at_ a1 r5.1).Xid (at_ a1 r5.1).Begun (at_ a1 r5.1).Ended (at_ a1 r5.1).All ((at_ a1 r5.1).Reads ++ [(Span.mk r121.1 r132.1)]) (at_ a1 r5.1).Writes (at_ a1 r5.1).In (at_ a1 r5.1).Out))).bind fun y165 => (some (y165, r132.2.i, r132.2.h))) else none) else none))) else none) else ((if (r10.1 == (4 : Int)) = true then (if 0 ≤ r5.1 ∧ r5.1 < (a1.length : Int) then ((spec_l3any.f (l1Cur.mk a0.b r10.2.i r10.2.h)).bind fun r187 => (if ((at_ a1 r5.1).Writes).length + ([r187.1]).length ≤ Lim then (if 0 ≤ r5.1 ∧ r5.1 < (a1.length : Int) then ((some (a1.set (r5.1).toNat (Track.mk (at_ a1 r5.1).Xid (at_ a1 r5.1).Begun (at_ a1 r5.1).Ended (at_ a1 r5.1).All (at_ a1 r5.1).Reads ((at_ a1 r5.1).Writes ++ [r187.1]) (at_ a1 r5.1).In (at_ a1 r5.1).Out))).bind fun y217 => (some (y217, r187.2.i, r187.2.h))) else none) else none)) else none) else ((if (r10.1 == (5 : Int)) = true then (if 0 ≤ r5.1 ∧ r5.1 < (a1.length : Int) then (if 0 ≤ r5.1 ∧ r5.1 < (a1.length : Int) then ((some (a1.set (r5.1).toNat (Track.mk (at_ a1 r5.1).Xid (at_ a1 r5.1).Begun (at_ a1 r5.1).Ended (!((at_ a1 r5.1).All)) (at_ a1 r5.1).Reads (at_ a1 r5.1).Writes (at_ a1 r5.1).In (at_ a1 r5.1).Out))).bind fun y233 => (some (y233, r10.2.i, r10.2.h))) else none) else none) else ((if (r10.1 == (6 : Int)) = true then (iter (spec_l13bent.b0 a0 r5) (a1, r10.2.i, r10.2.h)) else ((if (r10.1 == (7 : Int)) = true then (iter (spec_l13bent.b1 a0) (a1, r10.2.i, r10.2.h)) else (some (a1, r10.2.i, r10.2.h))).bind fun y325 => (some (y325.1, y325.2.1, y325.2.2)))).bind fun y236 => (some (y236.1, y236.2.1, y236.2.2)))).bind fun y220 => (some (y220.1, y220.2.1, y220.2.2)))).bind fun y168 => (some (y168.1, y168.2.1, y168.2.2)))).bind fun y101 => (some (y101.1, y101.2.1, y101.2.2)))).bind fun y53 => (some (y53.1, y53.2.1, y53.2.2)))).bind fun y33 => (some (y33.1, y33.2.1, y33.2.2)))).bind fun y13 => (some (y13.1, (l1Cur.mk a0.b y13.2.1 y13.2.2)))))))
def spec_l13bent.Q (w : World) (F : Nat → Prop) (os : List Nat) (p0 : Nat) (w0_0 : Value) (r : (List Track) × l1Cur) (v : Value) (w' : World) : Prop :=
 FW Yc os w w' [v] r.1 ∧ BlW w' p0 54 [w0_0, (iI r.2.i), (iI r.2.h)] ∧ Ky (p0 :: os) w w'
theorem spec_l13bent.calls (a0 : l1Cur) (a1 : (List Track)) (w : World) (F : Nat → Prop) (p0 : Nat) (w0_0 : Value) (w1_0 : Value) (h0_0 : Yd.rd w [w0_0] a0.b F) (os : List Nat) (h1 : Yc.ow w [w1_0] a1 os) (hn : os.Nodup) (hb0 : BlW w p0 54 [w0_0, (iI a0.i), (iI a0.h)]) (hp : p0 ∉ os) (hF : ∀ b, F b → b ∉ p0 :: os) (r : (List Track) × l1Cur) (m : spec_l13bent.f a0 a1 = some r) :
  Calls prog 16 #[(pB p0), w1_0] w (RT (spec_l13bent.Q w F os p0 w0_0) r) := by
 obtain ⟨s0, rfl, kp0, z⟩ := startN w F [([p0], 2), (os, 40)] (by simpa [fl_] using And.intro hp hn) (fun b hb => by simpa [fl_] using hF b hb) rfl
 have ez : fl_ [([p0], 2), (os, 40)] = p0 :: os := by simp [fl_]
 have A0_0 := z.rd h0_0
 have B0 := z.bl (c := 2) (by simp) hb0
 have A1_0 := z.ow (c := 40) (by simp) hn h1
 refine Xd (args := [(pB p0), w1_0]) func16 ntmps16 rfl rfl m ?_
 unfold spec_l13bent.f
 refine sr (Xb rfl (dn (sq (sr (Xp w1_0 rfl (ln' A1_0.rd u30 rfl (Xb rfl (dn (cd rfl (fun h4 => ?_) (fun h4 => ?_))))))))))
 ·
  exact sr (Xp w1_0 rfl (Xy w1_0 rfl (dn (re rfl func16 rfl (Xq rfl Xe) rfl ⟨_, rfl, z.fwm kp0 (oc_ow A1_0) rfl, B0.w, z.ky' ez kp0⟩))))
 refine sk (sr (Xb rfl (Xp w1_0 rfl (ln' A1_0.rd u30 rfl (clB B0 rfl func12 rfl (spec_l1Below.calls a0 (a1.length : Int) s0.w (mm [0] s0) p0 w0_0 A0_0 B0.w (B0.apart rfl)) (fun r5 s6 p6 B6 => ?_))))))
 refine Xb rfl (dn (sq (sr (Xb rfl ?_))))
 have K8 := kp0.st p6 rfl
 refine clB B6 rfl func12 rfl (spec_l1Below.calls (l1Cur.mk a0.b r5.2.i r5.2.h) (14 : Int) s6.w (mm [0] s6) p0 w0_0 (A0_0.kp K8) B6.w (B6.apart rfl)) (fun r10 s11 p11 B11 => ?_)
 refine dn (bl (sr (Xb rfl (Xb rfl (dn (jc (fun (y13 : (List Track) × Int × Int) e w => ∃ (s : St) (e0 : Env) (vy13_0 : Value), w = s.w ∧ e = upd e0 1 vy13_0 ∧ Kp s0 s ∧ OwF Yc s [vy13_0] y13.1 40 ∧ BlF s p0 54 [w0_0, (iI y13.2.1), (iI y13.2.2)] 2) (fun Gj13 Kj13 => ?_) ?_))))))
 ·
  refine cd rfl (fun h14 => ?_) (fun h14 => ?_)
  ·
   refine rg (Xp w1_0 rfl (Xb rfl (Xb rfl (ltF (K := (Kd.int .i64)) (cells := [(iI 0), (iI 400), (iI 401), (iI 1)]) [(0 : Int), (400 : Int), (401 : Int), (1 : Int)] 43 fl_int u67 z3 o3 (fun w => (els_flat _ _ _)) rfl rfl rfl rfl rfl rfl rfl rfl rfl rfl (fun v15 s15 p15 A15 => ?_)))))
   have K17 := K8.st (Xm p11 p15) rfl
   have A20 := B11.st p15 rfl
   refine clB A20 rfl func36 rfl (spec_l1PickInt.calls (l1Cur.mk a0.b r10.2.i r10.2.h) ([(0 : Int), (400 : Int), (401 : Int), (1 : Int)]) s15.w (mm [0, 43] s15) p0 w0_0 v15 ((A0_0.kp K17).sub (D := [0, 43]) rfl) (A15.rd.sub (D := [0, 43]) rfl) A20.w (A20.apart rfl)) (fun r19 s21 p21 B21 => ?_)
   have A23 := A1_0.st (tr4 p6 p11 p15 p21) rfl
   refine ix' A23.rd u30 z27 rfl (fun ad24 es24 h0_24 h1_24 he24 ce24 ia24 => ?_)
   obtain ⟨v24_0, v24_1, rfl, A24_0, A24_1⟩ := op27 he24
   refine Xw fa27_0 rfl (so (x' := (Track.mk r19.1 (at_ a1 r5.1).Begun (at_ a1 r5.1).Ended (at_ a1 r5.1).All (at_ a1 r5.1).Reads (at_ a1 r5.1).Writes (at_ a1 r5.1).In (at_ a1 r5.1).Out)) A23 ia24 h0_24 h1_24 (cs_iso (cs_left cs_flat)) z3 rfl rfl rfl rfl rfl rfl (fun s28 p28 A28 => ?_))
   refine nb (fun y30 h30 => ?_)
   have A30 : OwF Yc s28 [w1_0] y30 40 := by rw [h30]; exact A28
   exact dn (Kj13 _ _ _ ⟨s28, _, w1_0, rfl, (ue rfl rfl), (K17.st (Xm p21 p28) rfl), A30, (B21.st p28 rfl)⟩)
  refine sr (Xb rfl (Xb rfl (dn (jc (fun (y33 : (List Track) × Int × Int) e w => ∃ (s : St) (e0 : Env) (vy33_0 : Value), w = s.w ∧ e = upd e0 1 vy33_0 ∧ Kp s0 s ∧ OwF Yc s [vy33_0] y33.1 40 ∧ BlF s p0 54 [w0_0, (iI y33.2.1), (iI y33.2.2)] 2) (fun Gj33 Kj33 => ?_) ?_))))
  ·
   refine cd rfl (fun h34 => ?_) (fun h34 => ?_)
   ·
    refine rg (Xp w1_0 rfl (Xb rfl (Xb rfl (ltF (K := (Kd.int .i64)) (cells := [(iI 0), (iI (-1)), (iI 5)]) [(0 : Int), (-1 : Int), (5 : Int)] 45 fl_int u67 z3 o3 (fun w => (els_flat _ _ _)) rfl rfl rfl rfl rfl rfl rfl rfl rfl rfl (fun v35 s35 p35 A35 => ?_)))))
    have K37 := K8.st (Xm p11 p35) rfl
    have A40 := B11.st p35 rfl
    refine clB A40 rfl func36 rfl (spec_l1PickInt.calls (l1Cur.mk a0.b r10.2.i r10.2.h) ([(0 : Int), (-1 : Int), (5 : Int)]) s35.w (mm [0, 45] s35) p0 w0_0 v35 ((A0_0.kp K37).sub (D := [0, 45]) rfl) (A35.rd.sub (D := [0, 45]) rfl) A40.w (A40.apart rfl)) (fun r39 s41 p41 B41 => ?_)
    have A43 := A1_0.st (tr4 p6 p11 p35 p41) rfl
    refine ix' A43.rd u30 z27 rfl (fun ad44 es44 h0_44 h1_44 he44 ce44 ia44 => ?_)
    obtain ⟨v44_0, v44_1, rfl, A44_0, A44_1⟩ := op27 he44
    refine Xw fa27_1 rfl (so (x' := (Track.mk (at_ a1 r5.1).Xid r39.1 (at_ a1 r5.1).Ended (at_ a1 r5.1).All (at_ a1 r5.1).Reads (at_ a1 r5.1).Writes (at_ a1 r5.1).In (at_ a1 r5.1).Out)) A43 ia44 h0_44 h1_44 (cs_iso (cs_right (cs_left cs_flat))) z3 rfl rfl rfl rfl rfl rfl (fun s48 p48 A48 => ?_))
    refine nb (fun y50 h50 => ?_)
    have A50 : OwF Yc s48 [w1_0] y50 40 := by rw [h50]; exact A48
    exact dn (Kj33 _ _ _ ⟨s48, _, w1_0, rfl, (ue rfl rfl), (K37.st (Xm p41 p48) rfl), A50, (B41.st p48 rfl)⟩)
   refine sr (Xb rfl (Xb rfl (dn (jc (fun (y53 : (List Track) × Int × Int) e w => ∃ (s : St) (e0 : Env) (vy53_0 : Value), w = s.w ∧ e = upd e0 1 vy53_0 ∧ Kp s0 s ∧ OwF Yc s [vy53_0] y53.1 40 ∧ BlF s p0 54 [w0_0, (iI y53.2.1), (iI y53.2.2)] 2) (fun Gj53 Kj53 => ?_) ?_))))
   ·
    refine cd rfl (fun h54 => ?_) (fun h54 => ?_)
    ·
     refine zdraw [[], [], [], [], [], [3, 4], [5], [6], [], [], [8, 9], [10], [11], [12], [7, 13], [2, 14], [0, 1, 0, 1, 2, 3, 4, 5, 6, 7, 8, 9, 10, 11, 12, 13, 14, 15], [16, 0, 1, 2, 3, 4, 5, 6, 7, 8, 9, 10, 11, 12, 13, 14, 15], [17, 15, 15, 0, 1, 2, 3, 4, 5, 6, 7, 8, 9, 10, 11, 12, 13, 14, 15]] [some 36, some 37, some 38, some 39, some 40, some 41, some 42, some 43, some 44, some 45, some 46, some 47, some 48, some 49, some 50, some 51, some 52, some 53, none] [[1], [5], [0], [1], [5], [39, 40], [41], [42], [1], [5], [44, 45], [46], [47], [48], [43, 49], [38, 50], [36, 37], [52], [53, 51]] [0, 1, 2, 3, 4, 5, 6, 7, 8, 9, 10, 11, 12, 13, 14, 15, 16, 17, 18] ⟨by kernel_rfl, by kernel_rfl, by kernel_rfl⟩ (by kernel_rfl) (fun s55 p55 l55 tb55 zd55 => ?_)
     have A61 := A1_0.st (Yb p6 p11 p55) rfl
     refine mg fun hg62 => ?_
     obtain ⟨ad62, es62, he62, ce62, ia62⟩ := ix_e A61.rd rfl hg62.1 hg62.2
     obtain ⟨v62_0, v62_1, rfl, A62_0, A62_1⟩ := op27 he62
     refine mg fun hg71 => ?_
     obtain ⟨ad71, es71, he71, ce71, ia71⟩ := ix_e A61.rd rfl hg71.1 hg71.2
     obtain ⟨v71_0, v71_1, rfl, A71_0, A71_1⟩ := op27 he71
     refine zstep 14 [some 38, some 37, some 36] tb55 ((((((((((((((zd55.add 0 36 w1_0 rfl).add 1 37 (iI r5.1) rfl).add 2 38 (pB p0) rfl).add 3 39 w1_0 rfl).add 4 40 (iI r5.1) rfl).add 5 41 (.pointer (some ad62)) rfl).add 6 42 (.pointer (some (ad62.add 1))) rfl).add 7 43 (iI ((at_ a1 r5.1).Begun)) rfl).add 8 44 w1_0 rfl).add 9 45 (iI r5.1) rfl).add 10 46 (.pointer (some ad71)) rfl).add 11 47 (.pointer (some (ad71.add 1))) rfl).add 12 48 (iI ((at_ a1 r5.1).Begun)) rfl).add 13 49 (iI (IntKind.wrap .i64 ((at_ a1 r5.1).Begun + (1 : Int)))) rfl) (Xa (Xg rfl) rfl (Xa (lc_q' ce71 u3 rfl) rfl (Xa (Xo fa27_1 rfl) rfl (Xa (ix_q' A61.rd u30 z27 hg71.1 hg71.2 ia71 rfl) rfl (Xa (Xg rfl) rfl (Xa (Xu w1_0 rfl) rfl (Xa (lc_q' ce62 u3 rfl) rfl (Xa (Xo fa27_1 rfl) rfl (Xa (ix_q' A61.rd u30 z27 hg62.1 hg62.2 ia62 rfl) rfl (Xa (Xg rfl) rfl (Xa (Xu w1_0 rfl) rfl (Xa (Xg rfl) rfl (Xa (Xg rfl) rfl (Xa (Xu w1_0 rfl) rfl Xk)))))))))))))) (by kernel_rfl) rfl (fun l79 e79 zd79 => ?_)
     refine ltF (K := (Kd.int .i64)) (cells := [(iI (-1)), (iI ((at_ a1 r5.1).Begun)), (iI (IntKind.wrap .i64 ((at_ a1 r5.1).Begun + (1 : Int))))]) [(-1 : Int), (at_ a1 r5.1).Begun, (IntKind.wrap .i64 ((at_ a1 r5.1).Begun + (1 : Int)))] 47 fl_int u67 z3 o3 (fun w => (els_flat _ _ _)) rfl rfl rfl rfl rfl rfl rfl rfl rfl rfl (fun v80 s80 p80 A80 => ?_)
     refine zdone (L' := [2, 1, 0]) (D' := [3, 4, 5, 6, 8, 9, 10, 11, 12, 7, 13, 14]) zd79 rfl rfl rfl (fun zd82 => ?_)
     refine zstep 15 [some 37, some 36] tb55 zd82 (Xa (Xg rfl) rfl (Xa (Xg rfl) rfl (Xa (Xu w1_0 rfl) rfl Xk))) (by kernel_rfl) rfl (fun l83 e83 zd83 => ?_)
     have K84 := K8.st (Yb p11 p55 p80) rfl
     have A87 := B11.st (Xm p55 p80) rfl
     refine clB A87 rfl func36 rfl (spec_l1PickInt.calls (l1Cur.mk a0.b r10.2.i r10.2.h) ([(-1 : Int), (at_ a1 r5.1).Begun, (IntKind.wrap .i64 ((at_ a1 r5.1).Begun + (1 : Int)))]) s80.w (mm [0, 47] s80) p0 w0_0 v80 ((A0_0.kp K84).sub (D := [0, 47]) rfl) (A80.rd.sub (D := [0, 47]) rfl) A87.w (A87.apart rfl)) (fun r86 s88 p88 B88 => ?_)
     refine zdone (L' := [1, 0]) (D' := [2, 15, 3, 4, 5, 6, 8, 9, 10, 11, 12, 7, 13, 14]) zd83 rfl rfl rfl (fun zd90 => ?_)
     refine zfin [16, 17, 18] tb55 zd90 (Xa (Xg rfl) rfl (Xa (Xu w1_0 rfl) rfl Xk)) (by kernel_rfl) (by decide) ?_
     have A91 := A61.st (Xm p80 p88) rfl
     refine ix' A91.rd u30 z27 rfl (fun ad92 es92 h0_92 h1_92 he92 ce92 ia92 => ?_)
     obtain ⟨v92_0, v92_1, rfl, A92_0, A92_1⟩ := op27 he92
     refine Xw fa27_2 rfl (so (x' := (Track.mk (at_ a1 r5.1).Xid (at_ a1 r5.1).Begun r86.1 (at_ a1 r5.1).All (at_ a1 r5.1).Reads (at_ a1 r5.1).Writes (at_ a1 r5.1).In (at_ a1 r5.1).Out)) A91 ia92 h0_92 h1_92 (cs_iso (cs_right (cs_right (cs_left cs_flat)))) z3 rfl rfl rfl rfl rfl rfl (fun s96 p96 A96 => ?_))
     refine nb (fun y98 h98 => ?_)
     have A98 : OwF Yc s96 [w1_0] y98 40 := by rw [h98]; exact A96
     exact dn (Kj53 _ _ _ ⟨s96, _, w1_0, rfl, (ue rfl rfl), (K84.st (Xm p88 p96) rfl), A98, (B88.st p96 rfl)⟩)
    refine sr (Xb rfl (Xb rfl (dn (jc (fun (y101 : (List Track) × Int × Int) e w => ∃ (s : St) (e0 : Env) (vy101_0 : Value), w = s.w ∧ e = upd e0 1 vy101_0 ∧ Kp s0 s ∧ OwF Yc s [vy101_0] y101.1 40 ∧ BlF s p0 54 [w0_0, (iI y101.2.1), (iI y101.2.2)] 2) (fun Gj101 Kj101 => ?_) ?_))))
    ·
     refine cd rfl (fun h102 => ?_) (fun h102 => ?_)
     ·
      refine zdraw [[], [], [], [], [2, 3], [4], [5], [], [7], [], [9, 8], [8, 10], [11], [6, 12, 10], [0, 1, 0, 1, 2, 3, 4, 5, 6, 7, 8, 9, 10, 11, 12, 13], [14, 0, 1, 2, 3, 4, 5, 6, 7, 8, 9, 10, 11, 12, 13], [15, 13, 13, 0, 1, 2, 3, 4, 5, 6, 7, 8, 9, 10, 11, 12, 13]] [some 56, some 57, some 58, some 59, some 60, some 61, some 62, some 63, some 64, some 65, some 66, some 67, some 68, some 69, some 70, some 71, none] [[1], [5], [1], [5], [58, 59], [60], [61], [0], [63], [0], [65], [64, 66], [67], [62, 68], [56, 57], [70], [71, 69]] [0, 1, 2, 3, 4, 5, 6, 7, 8, 9, 10, 11, 12, 13, 14, 15, 16] ⟨by kernel_rfl, by kernel_rfl, by kernel_rfl⟩ (by kernel_rfl) (fun s103 p103 l103 tb103 zd103 => ?_)
      have A108 := A1_0.st (Yb p6 p11 p103) rfl
      refine mg fun hg109 => ?_
      obtain ⟨ad109, es109, he109, ce109, ia109⟩ := ix_e A108.rd rfl hg109.1 hg109.2
      obtain ⟨v109_0, v109_1, rfl, A109_0, A109_1⟩ := op27 he109
      refine zstep 8 [some 65, some 62, some 61, some 60, some 59, some 58, some 57, some 56] tb103 (((((((((zd103.add 0 56 w1_0 rfl).add 1 57 (iI r5.1) rfl).add 2 58 w1_0 rfl).add 3 59 (iI r5.1) rfl).add 4 60 (.pointer (some ad109)) rfl).add 5 61 (.pointer (some (ad109.add 4))) rfl).add 6 62 v109_0 rfl).add 7 63 (pB p0) rfl).add 9 65 (pB p0) rfl) (Xa (Xg rfl) rfl (Xa (Xg rfl) rfl (Xa (lc_q' ce109 u24 rfl) rfl (Xa (Xo fa27_4 rfl) rfl (Xa (ix_q' A108.rd u30 z27 hg109.1 hg109.2 ia109 rfl) rfl (Xa (Xg rfl) rfl (Xa (Xu w1_0 rfl) rfl (Xa (Xg rfl) rfl (Xa (Xu w1_0 rfl) rfl Xk))))))))) (by kernel_rfl) rfl (fun l118 e118 zd118 => ?_)
      have K119 := K8.st (Xm p11 p103) rfl
      have A122 := B11.st p103 rfl
      refine cl' rfl func35 rfl (spec_l3key.calls (l1Cur.mk a0.b r10.2.i r10.2.h) s103.w (mm [0] s103) p0 w0_0 (A0_0.kp K119) A122.w (A122.apart rfl)) ?_
      rintro r121 _ w121 m121 ⟨v121_0, v121_1, rfl, f121_0, bw121, ky121⟩
      obtain ⟨s123, rfl, p123, n123, g123⟩ := nwb 49 A122 ky121
      obtain ⟨hu121_0_0, Au121_0_1⟩ := ap60 (f121_0.c n123)
      have B123 := blf_mk bw121 g123
      refine zdone (L' := [9, 6, 5, 4, 3, 2, 1, 0]) (D' := [7, 8]) zd118 rfl rfl rfl (fun zd126 => ?_)
      have A128 := A108.st p123 rfl
      refine zstep 10 [some 62, some 61, some 60, some 59, some 58, some 57, some 56] tb103 zd126 (Xa (Xg rfl) rfl (Xa (lc_q' (ce109.st p123 rfl rfl) u24 rfl) rfl (Xa (Xo fa27_4 rfl) rfl (Xa (ix_q' A128.rd u30 z27 hg109.1 hg109.2 ia109 rfl) rfl (Xa (Xg rfl) rfl (Xa (Xu w1_0 rfl) rfl (Xa (Xg rfl) rfl (Xa (Xu w1_0 rfl) rfl Xk)))))))) (by kernel_rfl) rfl (fun l127 e127 zd127 => ?_)
      have K130 := K119.st p123 rfl
      refine cl' rfl func37 rfl (spec_l3any.calls (l1Cur.mk a0.b r121.2.i r121.2.h) s123.w (mm [0] s123) p0 w0_0 (A0_0.kp K130) B123.w (B123.apart rfl)) ?_
      rintro r132 _ w132 m132 ⟨v132_0, v132_1, rfl, f132_0, bw132, ky132⟩
      obtain ⟨s133, rfl, p133, n133, g133⟩ := nwb 50 B123 ky132
      obtain ⟨hu132_0_0, Au132_0_1⟩ := ap60 (f132_0.c n133)
      refine zdone (L' := [6, 5, 4, 3, 2, 1, 0]) (D' := [9, 10, 7, 8]) zd127 rfl rfl rfl (fun zd136 => ?_)
      have A139 := A128.st p133 rfl
      refine zstep 12 [some 62, some 61, some 60, some 59, some 58, some 57, some 56] tb103 (zd136.add 11 67 (.agg #[(iI r121.1.Kind), (iI r121.1.N), v121_0, v121_1, (iI r132.1.Kind), (iI r132.1.N), v132_0, v132_1]) rfl) (Xa (bd_q (cells := [(iI r121.1.Kind), (iI r121.1.N), v121_0, v121_1, (iI r132.1.Kind), (iI r132.1.N), v132_0, v132_1]) pl62 o62 rfl rfl rfl rfl rfl rfl) rfl (Xa (lc_q' (ce109.st (Xm p123 p133) rfl rfl) u24 rfl) rfl (Xa (Xo fa27_4 rfl) rfl (Xa (ix_q' A139.rd u30 z27 hg109.1 hg109.2 ia109 rfl) rfl (Xa (Xg rfl) rfl (Xa (Xu w1_0 rfl) rfl (Xa (Xg rfl) rfl (Xa (Xu w1_0 rfl) rfl Xk)))))))) (by kernel_rfl) rfl (fun l138 e138 zd138 => ?_)
      obtain ⟨s142, hw142, p142, A142⟩ := ow_2 (Xv (fun x : Item => (x.Kind, x.N, x.F, x.T)) r121.1 (Xt (Xi .i64 r121.1.Kind) (Xt (Xi .i64 r121.1.N) (Xt (fz_flt hu121_0_0) (Au121_0_1.st p133 rfl))))) (Xv (fun x : Item => (x.Kind, x.N, x.F, x.T)) r132.1 (Xt (Xi .i64 r132.1.Kind) (Xt (Xi .i64 r132.1.N) (Xt (fz_flt hu132_0_0) Au132_0_1)))) rfl rfl
      rw [hw142]
      have A144 : OwF kd62 s142 [(iI r121.1.Kind), (iI r121.1.N), v121_0, v121_1, (iI r132.1.Kind), (iI r132.1.N), v132_0, v132_1] (Span.mk r121.1 r132.1) 49 := (Xv (fun x : Span => (x.From, x.To)) (Span.mk r121.1 r132.1) A142)
      refine ltO (K := kd62) (cells := [(iI r121.1.Kind), (iI r121.1.N), v121_0, v121_1, (iI r132.1.Kind), (iI r132.1.N), v132_0, v132_1]) [(Span.mk r121.1 r132.1)] 49 u24 z62 o62 (lo_one A144) rfl rfl rfl rfl rfl rfl rfl rfl rfl rfl (fun v147 s147 p147 A147 => ?_)
      refine zdone (L' := [6, 5, 4, 3, 2, 1, 0]) (D' := [11, 12, 9, 10, 7, 8]) zd138 rfl rfl rfl (fun zd149 => ?_)
      have A151 := A139.st (Xm p142 p147) rfl
      refine zstep 13 [some 57, some 56] tb103 zd149 (Xa (lc_q' (ce109.st (tr4 p123 p133 p142 p147) rfl rfl) u24 rfl) rfl (Xa (Xo fa27_4 rfl) rfl (Xa (ix_q' A151.rd u30 z27 hg109.1 hg109.2 ia109 rfl) rfl (Xa (Xg rfl) rfl (Xa (Xu w1_0 rfl) rfl (Xa (Xg rfl) rfl (Xa (Xu w1_0 rfl) rfl Xk))))))) (by kernel_rfl) rfl (fun l150 e150 zd150 => ?_)
      obtain ⟨s154, hw154, p154, A154, H154, ce154⟩ := take_ 52 (lg_iso (fun x : Track => (x.Xid, x.Begun, x.Ended, x.All, x.Reads, x.Writes, x.In, x.Out)) (fun x => x.Reads) (fun x y => (Track.mk x.Xid x.Begun x.Ended x.All y x.Writes x.In x.Out)) (Xh (Xh (Xh (Xh (lg_left lg_id))))) (fun _ => rfl) (fun _ _ => rfl)) A151 hg109.1 hg109.2 ia109 (ce109.st (tr4 p123 p133 p142 p147) rfl rfl) rfl rfl rfl rfl
      rw [hw154]
      refine apO sl24 A154 (A147.st p154 rfl) rfl rfl rfl rfl rfl rfl rfl rfl rfl (fun v158 s158 p158 A158 => ?_)
      refine zdone (L' := [1, 0]) (D' := [2, 3, 4, 5, 6, 13, 11, 12, 9, 10, 7, 8]) zd150 rfl rfl rfl (fun zd160 => ?_)
      refine zfin [14, 15, 16] tb103 zd160 (Xa (Xg rfl) rfl (Xa (Xu w1_0 rfl) rfl Xk)) (by kernel_rfl) (by decide) ?_
      have A162 := H154.st p158 rfl
      refine ixh A162 u30 z27 rfl rfl rfl rfl rfl rfl rfl (fun ad161 h0_161 h1_161 ia161 => ?_)
      refine Xw fa27_4 rfl (soh (x' := ((at_ a1 r5.1).Reads ++ [(Span.mk r121.1 r132.1)])) A162 ia161 A158 rfl rfl z24 rfl rfl rfl rfl rfl (oc A158.rd.one) (fun s163 p163 A163 => ?_))
      refine nb (fun y165 h165 => ?_)
      have A165 : OwF Yc s163 [w1_0] y165 40 := by rw [h165]; exact A163
      exact dn (Kj101 _ _ _ ⟨s163, _, w1_0, rfl, (ue rfl rfl), (K130.st (tr6 p133 p142 p147 p154 p158 p163) rfl), A165, (BlF.st (blf_mk bw132 g133) (tr5 p142 p147 p154 p158 p163) rfl)⟩)
     refine sr (Xb rfl (Xb rfl (dn (jc (fun (y168 : (List Track) × Int × Int) e w => ∃ (s : St) (e0 : Env) (vy168_0 : Value), w = s.w ∧ e = upd e0 1 vy168_0 ∧ Kp s0 s ∧ OwF Yc s [vy168_0] y168.1 40 ∧ BlF s p0 54 [w0_0, (iI y168.2.1), (iI y168.2.2)] 2) (fun Gj168 Kj168 => ?_) ?_))))
     ·
      refine cd rfl (fun h169 => ?_) (fun h169 => ?_)
      ·
       refine zdraw [[], [], [], [], [2, 3], [4], [5], [], [7], [8], [6, 9, 8], [0, 1, 0, 1, 2, 3, 4, 5, 6, 7, 8, 9, 10], [11, 0, 1, 2, 3, 4, 5, 6, 7, 8, 9, 10], [12, 10, 10, 0, 1, 2, 3, 4, 5, 6, 7, 8, 9, 10]] [some 74, some 75, some 76, some 77, some 78, some 79, some 80, some 81, some 82, some 83, some 84, some 85, some 86, none] [[1], [5], [1], [5], [76, 77], [78], [79], [0], [81], [82], [80, 83], [74, 75], [85], [86, 84]] [0, 1, 2, 3, 4, 5, 6, 7, 8, 9, 10, 11, 12, 13] ⟨by kernel_rfl, by kernel_rfl, by kernel_rfl⟩ (by kernel_rfl) (fun s170 p170 l170 tb170 zd170 => ?_)
       have A175 := A1_0.st (Yb p6 p11 p170) rfl
       refine mg fun hg176 => ?_
       obtain ⟨ad176, es176, he176, ce176, ia176⟩ := ix_e A175.rd rfl hg176.1 hg176.2
       obtain ⟨v176_0, v176_1, rfl, A176_0, A176_1⟩ := op27 he176
       refine zstep 8 [some 80, some 79, some 78, some 77, some 76, some 75, some 74] tb170 ((((((((zd170.add 0 74 w1_0 rfl).add 1 75 (iI r5.1) rfl).add 2 76 w1_0 rfl).add 3 77 (iI r5.1) rfl).add 4 78 (.pointer (some ad176)) rfl).add 5 79 (.pointer (some (ad176.add 5))) rfl).add 6 80 v176_1 rfl).add 7 81 (pB p0) rfl) (Xa (Xg rfl) rfl (Xa (lc_q' ce176 u25 rfl) rfl (Xa (Xo fa27_5 rfl) rfl (Xa (ix_q' A175.rd u30 z27 hg176.1 hg176.2 ia176 rfl) rfl (Xa (Xg rfl) rfl (Xa (Xu w1_0 rfl) rfl (Xa (Xg rfl) rfl (Xa (Xu w1_0 rfl) rfl Xk)))))))) (by kernel_rfl) rfl (fun l184 e184 zd184 => ?_)
       have K185 := K8.st (Xm p11 p170) rfl
       have A188 := B11.st p170 rfl
       refine cl' rfl func37 rfl (spec_l3any.calls (l1Cur.mk a0.b r10.2.i r10.2.h) s170.w (mm [0] s170) p0 w0_0 (A0_0.kp K185) A188.w (A188.apart rfl)) ?_
       rintro r187 _ w187 m187 ⟨v187_0, v187_1, rfl, f187_0, bw187, ky187⟩
       obtain ⟨s189, rfl, p189, n189, g189⟩ := nwb 53 A188 ky187
       obtain ⟨hu187_0_0, Au187_0_1⟩ := ap60 (f187_0.c n189)
       refine zdone (L' := [6, 5, 4, 3, 2, 1, 0]) (D' := [7, 8]) zd184 rfl rfl rfl (fun zd192 => ?_)
       have A194 := A175.st p189 rfl
       refine zstep 9 [some 80, some 79, some 78, some 77, some 76, some 75, some 74] tb170 zd192 (Xa (lc_q' (ce176.st p189 rfl rfl) u25 rfl) rfl (Xa (Xo fa27_5 rfl) rfl (Xa (ix_q' A194.rd u30 z27 hg176.1 hg176.2 ia176 rfl) rfl (Xa (Xg rfl) rfl (Xa (Xu w1_0 rfl) rfl (Xa (Xg rfl) rfl (Xa (Xu w1_0 rfl) rfl Xk))))))) (by kernel_rfl) rfl (fun l193 e193 zd193 => ?_)
       have A196 : OwF kd60 s189 [(iI r187.1.Kind), (iI r187.1.N), v187_0, v187_1] r187.1 53 := (Xv (fun x : Item => (x.Kind, x.N, x.F, x.T)) r187.1 (Xt (Xi .i64 r187.1.Kind) (Xt (Xi .i64 r187.1.N) (Xt (fz_flt hu187_0_0) Au187_0_1))))
       refine ltO (K := kd60) (cells := [(iI r187.1.Kind), (iI r187.1.N), v187_0, v187_1]) [r187.1] 53 u25 z60 o60 (lo_one A196) rfl rfl rfl rfl rfl rfl rfl rfl rfl rfl (fun v199 s199 p199 A199 => ?_)
       refine zdone (L' := [6, 5, 4, 3, 2, 1, 0]) (D' := [9, 7, 8]) zd193 rfl rfl rfl (fun zd201 => ?_)
       have A203 := A194.st p199 rfl
       refine zstep 10 [some 75, some 74] tb170 zd201 (Xa (lc_q' (ce176.st (Xm p189 p199) rfl rfl) u25 rfl) rfl (Xa (Xo fa27_5 rfl) rfl (Xa (ix_q' A203.rd u30 z27 hg176.1 hg176.2 ia176 rfl) rfl (Xa (Xg rfl) rfl (Xa (Xu w1_0 rfl) rfl (Xa (Xg rfl) rfl (Xa (Xu w1_0 rfl) rfl Xk))))))) (by kernel_rfl) rfl (fun l202 e202 zd202 => ?_)
       obtain ⟨s206, hw206, p206, A206, H206, ce206⟩ := take_ 55 (lg_iso (fun x : Track => (x.Xid, x.Begun, x.Ended, x.All, x.Reads, x.Writes, x.In, x.Out)) (fun x => x.Writes) (fun x y => (Track.mk x.Xid x.Begun x.Ended x.All x.Reads y x.In x.Out)) (Xh (Xh (Xh (Xh (Xh (lg_left lg_id)))))) (fun _ => rfl) (fun _ _ => rfl)) A203 hg176.1 hg176.2 ia176 (ce176.st (Xm p189 p199) rfl rfl) rfl rfl rfl rfl
       rw [hw206]
       refine apO sl25 A206 (A199.st p206 rfl) rfl rfl rfl rfl rfl rfl rfl rfl rfl (fun v210 s210 p210 A210 => ?_)
       refine zdone (L' := [1, 0]) (D' := [2, 3, 4, 5, 6, 10, 9, 7, 8]) zd202 rfl rfl rfl (fun zd212 => ?_)
       refine zfin [11, 12, 13] tb170 zd212 (Xa (Xg rfl) rfl (Xa (Xu w1_0 rfl) rfl Xk)) (by kernel_rfl) (by decide) ?_
       have A214 := H206.st p210 rfl
       refine ixh A214 u30 z27 rfl rfl rfl rfl rfl rfl rfl (fun ad213 h0_213 h1_213 ia213 => ?_)
       refine Xw fa27_5 rfl (soh (x' := ((at_ a1 r5.1).Writes ++ [r187.1])) A214 ia213 A210 rfl rfl z25 rfl rfl rfl rfl rfl (oc A210.rd.one) (fun s215 p215 A215 => ?_))
       refine nb (fun y217 h217 => ?_)
       have A217 : OwF Yc s215 [w1_0] y217 40 := by rw [h217]; exact A215
       exact dn (Kj168 _ _ _ ⟨s215, _, w1_0, rfl, (ue rfl rfl), (K185.st (tr5 p189 p199 p206 p210 p215) rfl), A217, (BlF.st (blf_mk bw187 g189) (tr4 p199 p206 p210 p215) rfl)⟩)
      refine sr (Xb rfl (Xb rfl (dn (jc (fun (y220 : (List Track) × Int × Int) e w => ∃ (s : St) (e0 : Env) (vy220_0 : Value), w = s.w ∧ e = upd e0 1 vy220_0 ∧ Kp s0 s ∧ OwF Yc s [vy220_0] y220.1 40 ∧ BlF s p0 54 [w0_0, (iI y220.2.1), (iI y220.2.2)] 2) (fun Gj220 Kj220 => ?_) ?_))))
      ·
       refine cd rfl (fun h221 => ?_) (fun h221 => ?_)
       ·
        refine rg (Xp w1_0 rfl (Xb rfl (Xp w1_0 rfl (Xb rfl ?_))))
        have A222 := A1_0.st (Xm p6 p11) rfl
        refine ix' A222.rd u30 z27 rfl (fun ad223 es223 h0_223 h1_223 he223 ce223 ia223 => ?_)
        obtain ⟨v223_0, v223_1, rfl, A223_0, A223_1⟩ := op27 he223
        refine Xw fa27_3 rfl (lc ce223 u4 rfl rfl rfl rfl rfl rfl rfl rfl (Xb rfl (ix' A222.rd u30 z27 rfl (fun ad227 es227 h0_227 h1_227 he227 ce227 ia227 => ?_))))
        obtain ⟨v227_0, v227_1, rfl, A227_0, A227_1⟩ := op27 he227
        refine Xw fa27_3 rfl (so (x' := (Track.mk (at_ a1 r5.1).Xid (at_ a1 r5.1).Begun (at_ a1 r5.1).Ended (!((at_ a1 r5.1).All)) (at_ a1 r5.1).Reads (at_ a1 r5.1).Writes (at_ a1 r5.1).In (at_ a1 r5.1).Out)) A222 ia227 h0_227 h1_227 (cs_iso (cs_right (cs_right (cs_right (cs_left cs_flat))))) z4 rfl rfl rfl rfl rfl rfl (fun s231 p231 A231 => ?_))
        refine nb (fun y233 h233 => ?_)
        have A233 : OwF Yc s231 [w1_0] y233 40 := by rw [h233]; exact A231
        exact dn (Kj220 _ _ _ ⟨s231, _, w1_0, rfl, (ue rfl rfl), (K8.st (Xm p11 p231) rfl), A233, (B11.st p231 rfl)⟩)
       refine sr (Xb rfl (Xb rfl (dn (jc (fun (y236 : (List Track) × Int × Int) e w => ∃ (s : St) (e0 : Env) (vy236_0 : Value), w = s.w ∧ e = upd e0 1 vy236_0 ∧ Kp s0 s ∧ OwF Yc s [vy236_0] y236.1 40 ∧ BlF s p0 54 [w0_0, (iI y236.2.1), (iI y236.2.2)] 2) (fun Gj236 Kj236 => ?_) ?_))))
       ·
        refine cd rfl (fun h237 => ?_) (fun h237 => ?_)
        ·
         refine bl (lpI (fun (x238 : (List Track) × Int × Int) e w => ∃ (s : St) (e0 : Env), w = s.w ∧ e = upd (upd (upd e0 0 (pB p0)) 1 w1_0) 5 (iI r5.1) ∧ Kp s0 s ∧ OwF Yc s [w1_0] x238.1 40 ∧ BlF s p0 54 [w0_0, (iI x238.2.1), (iI x238.2.2)] 2) ⟨s11, _, rfl, (ue (ue (ue rfl rfl) rfl) rfl), (K8.st p11 rfl), (A1_0.st (Xm p6 p11) rfl), B11⟩ (fun g238 ih238 => ?_))
         rintro x238 _ _ ⟨s241, _, rfl, rfl, Kx238, Ax238_0, Bx238_p0⟩
         unfold spec_l13bent.b0
         refine sq (sq (zdraw [[], [], [0, 1], [2], [3], [4], [], [6], [7], [5, 8]] [some 101, some 102, some 103, some 104, some 105, some 106, some 107, some 108, some 109, some 110] [[1], [5], [101, 102], [103], [104], [105], [0], [107], [108], [106, 109]] [0, 1, 2, 3, 4, 5, 6, 7, 8, 9] ⟨by kernel_rfl, by kernel_rfl, by kernel_rfl⟩ (by kernel_rfl) (fun s244 p244 l244 tb244 zd244 => ?_)))
         have A247 := Ax238_0.st p244 rfl
         refine mg fun hg248 => ?_
         obtain ⟨ad248, es248, he248, ce248, ia248⟩ := ix_e A247.rd rfl hg248.1 hg248.2
         obtain ⟨v248_0, v248_1, rfl, A248_0, A248_1⟩ := op27 he248
         refine zstep 7 [some 106, some 105, some 104, some 103, some 102, some 101] tb244 (((((((zd244.add 0 101 w1_0 rfl).add 1 102 (iI r5.1) rfl).add 2 103 (.pointer (some ad248)) rfl).add 3 104 (.pointer (some (ad248.add 4))) rfl).add 4 105 v248_0 rfl).add 5 106 (iI (((at_ x238.1 r5.1).Reads).length : Int)) rfl).add 6 107 (pB p0) rfl) (Xa (Xg rfl) rfl (Xa (ln_q A248_0 u24 rfl rfl rfl rfl rfl rfl) rfl (Xa (lc_q' ce248 u24 rfl) rfl (Xa (Xo fa27_4 rfl) rfl (Xa (ix_q' A247.rd u30 z27 hg248.1 hg248.2 ia248 rfl) rfl (Xa (Xg rfl) rfl (Xa (Xu w1_0 rfl) rfl Xk))))))) (by kernel_rfl) rfl (fun l257 e257 zd257 => ?_)
         have K258 := Kx238.st p244 rfl
         have A261 := Bx238_p0.st p244 rfl
         refine clB A261 rfl func12 rfl (spec_l1Below.calls (l1Cur.mk a0.b x238.2.1 x238.2.2) (2 : Int) s244.w (mm [0] s244) p0 w0_0 (A0_0.kp K258) A261.w (A261.apart rfl)) (fun r260 s262 p262 B262 => ?_)
         refine zdone (L' := [5, 4, 3, 2, 1, 0]) (D' := [6, 7]) zd257 rfl rfl rfl (fun zd264 => ?_)
         have A266 := A247.st p262 rfl
         refine zfin [9] tb244 (zd264.add 8 109 (iI (IntKind.wrap .i64 ((6 : Int) + r260.1))) rfl) (Xa (Xg rfl) rfl (Xa (ln_q (A248_0.st p262 rfl) u24 rfl rfl rfl rfl rfl rfl) rfl (Xa (lc_q' (ce248.st p262 rfl rfl) u24 rfl) rfl (Xa (Xo fa27_4 rfl) rfl (Xa (ix_q' A266.rd u30 z27 hg248.1 hg248.2 ia248 rfl) rfl (Xa (Xg rfl) rfl (Xa (Xu w1_0 rfl) rfl Xk))))))) (by kernel_rfl) (by decide) (Xb rfl (dn (cd rfl (fun h269 => ?_) (fun h269 => ?_))))
         ·
          refine sk (bl (zdraw [[], [], [], [], [2, 3], [4], [5], [], [7], [8], [6, 9, 8], [0, 1, 0, 1, 2, 3, 4, 5, 6, 7, 8, 9, 10], [11, 0, 1, 2, 3, 4, 5, 6, 7, 8, 9, 10], [12, 10, 10, 0, 1, 2, 3, 4, 5, 6, 7, 8, 9, 10]] [some 111, some 112, some 113, some 114, some 115, some 116, some 117, some 118, some 119, some 120, some 121, some 122, some 123, none] [[1], [5], [1], [5], [113, 114], [115], [116], [0], [118], [119], [117, 120], [111, 112], [122], [123, 121]] [0, 1, 2, 3, 4, 5, 6, 7, 8, 9, 10, 11, 12, 13] ⟨by kernel_rfl, by kernel_rfl, by kernel_rfl⟩ (by kernel_rfl) (fun s270 p270 l270 tb270 zd270 => ?_)))
          have A275 := A266.st p270 rfl
          refine mg fun hg276 => ?_
          obtain ⟨ad276, es276, he276, ce276, ia276⟩ := ix_e A275.rd rfl hg276.1 hg276.2
          obtain ⟨v276_0, v276_1, rfl, A276_0, A276_1⟩ := op27 he276
          refine zstep 8 [some 117, some 116, some 115, some 114, some 113, some 112, some 111] tb270 ((((((((zd270.add 0 111 w1_0 rfl).add 1 112 (iI r5.1) rfl).add 2 113 w1_0 rfl).add 3 114 (iI r5.1) rfl).add 4 115 (.pointer (some ad276)) rfl).add 5 116 (.pointer (some (ad276.add 4))) rfl).add 6 117 v276_0 rfl).add 7 118 (pB p0) rfl) (Xa (Xg rfl) rfl (Xa (lc_q' ce276 u24 rfl) rfl (Xa (Xo fa27_4 rfl) rfl (Xa (ix_q' A275.rd u30 z27 hg276.1 hg276.2 ia276 rfl) rfl (Xa (Xg rfl) rfl (Xa (Xu w1_0 rfl) rfl (Xa (Xg rfl) rfl (Xa (Xu w1_0 rfl) rfl Xk)))))))) (by kernel_rfl) rfl (fun l284 e284 zd284 => ?_)
          have K285 := K258.st (Xm p262 p270) rfl
          have A288 := B262.st p270 rfl
          refine cl' rfl func33 rfl (spec_l13span.calls (l1Cur.mk a0.b r260.2.i r260.2.h) s270.w (mm [0] s270) p0 w0_0 (A0_0.kp K285) A288.w (A288.apart rfl)) ?_
          rintro r287 _ w287 m287 ⟨v287_0, v287_1, v287_2, v287_3, rfl, f287_0, bw287, ky287⟩
          obtain ⟨s289, rfl, p289, n289, g289⟩ := nwb 57 A288 ky287
          obtain ⟨s290, hw290, p290, hu287_0_0, Au287_0_1, hu287_0_2, Au287_0_3⟩ := ap62 58 (f287_0.c n289) rfl
          rw [hw290]
          refine zdone (L' := [6, 5, 4, 3, 2, 1, 0]) (D' := [7, 8]) zd284 rfl rfl rfl (fun zd294 => ?_)
          have A296 := A275.st (Xm p289 p290) rfl
          refine zstep 9 [some 117, some 116, some 115, some 114, some 113, some 112, some 111] tb270 zd294 (Xa (lc_q' (ce276.st (Xm p289 p290) rfl rfl) u24 rfl) rfl (Xa (Xo fa27_4 rfl) rfl (Xa (ix_q' A296.rd u30 z27 hg276.1 hg276.2 ia276 rfl) rfl (Xa (Xg rfl) rfl (Xa (Xu w1_0 rfl) rfl (Xa (Xg rfl) rfl (Xa (Xu w1_0 rfl) rfl Xk))))))) (by kernel_rfl) rfl (fun l295 e295 zd295 => ?_)
          obtain ⟨s298, hw298, p298, A298⟩ := ow_2 (Xv (fun x : Item => (x.Kind, x.N, x.F, x.T)) r287.1.From (Xt (Xi .i64 r287.1.From.Kind) (Xt (Xi .i64 r287.1.From.N) (Xt (fz_flt hu287_0_0) Au287_0_1)))) (Xv (fun x : Item => (x.Kind, x.N, x.F, x.T)) r287.1.To (Xt (Xi .i64 r287.1.To.Kind) (Xt (Xi .i64 r287.1.To.N) (Xt (fz_flt hu287_0_2) Au287_0_3)))) rfl rfl
          rw [hw298]
          have A300 : OwF kd62 s298 [(iI r287.1.From.Kind), (iI r287.1.From.N), v287_0, v287_1, (iI r287.1.To.Kind), (iI r287.1.To.N), v287_2, v287_3] r287.1 57 := (Xv (fun x : Span => (x.From, x.To)) r287.1 A298)
          refine ltO (K := kd62) (cells := [(iI r287.1.From.Kind), (iI r287.1.From.N), v287_0, v287_1, (iI r287.1.To.Kind), (iI r287.1.To.N), v287_2, v287_3]) [r287.1] 57 u24 z62 o62 (lo_one A300) rfl rfl rfl rfl rfl rfl rfl rfl rfl rfl (fun v303 s303 p303 A303 => ?_)
          refine zdone (L' := [6, 5, 4, 3, 2, 1, 0]) (D' := [9, 7, 8]) zd295 rfl rfl rfl (fun zd305 => ?_)
          have A307 := A296.st (Xm p298 p303) rfl
          refine zstep 10 [some 112, some 111] tb270 zd305 (Xa (lc_q' (ce276.st (tr4 p289 p290 p298 p303) rfl rfl) u24 rfl) rfl (Xa (Xo fa27_4 rfl) rfl (Xa (ix_q' A307.rd u30 z27 hg276.1 hg276.2 ia276 rfl) rfl (Xa (Xg rfl) rfl (Xa (Xu w1_0 rfl) rfl (Xa (Xg rfl) rfl (Xa (Xu w1_0 rfl) rfl Xk))))))) (by kernel_rfl) rfl (fun l306 e306 zd306 => ?_)
          obtain ⟨s310, hw310, p310, A310, H310, ce310⟩ := take_ 60 (lg_iso (fun x : Track => (x.Xid, x.Begun, x.Ended, x.All, x.Reads, x.Writes, x.In, x.Out)) (fun x => x.Reads) (fun x y => (Track.mk x.Xid x.Begun x.Ended x.All y x.Writes x.In x.Out)) (Xh (Xh (Xh (Xh (lg_left lg_id))))) (fun _ => rfl) (fun _ _ => rfl)) A307 hg276.1 hg276.2 ia276 (ce276.st (tr4 p289 p290 p298 p303) rfl rfl) rfl rfl rfl rfl
          rw [hw310]
          refine apO sl24 A310 (A303.st p310 rfl) rfl rfl rfl rfl rfl rfl rfl rfl rfl (fun v314 s314 p314 A314 => ?_)
          refine zdone (L' := [1, 0]) (D' := [2, 3, 4, 5, 6, 10, 9, 7, 8]) zd306 rfl rfl rfl (fun zd316 => ?_)
          refine zfin [11, 12, 13] tb270 zd316 (Xa (Xg rfl) rfl (Xa (Xu w1_0 rfl) rfl Xk)) (by kernel_rfl) (by decide) ?_
          have A318 := H310.st p314 rfl
          refine ixh A318 u30 z27 rfl rfl rfl rfl rfl rfl rfl (fun ad317 h0_317 h1_317 ia317 => ?_)
          refine Xw fa27_4 rfl (soh (x' := ((at_ x238.1 r5.1).Reads ++ [r287.1])) A318 ia317 A314 rfl rfl z24 rfl rfl rfl rfl rfl (oc A314.rd.one) (fun s319 p319 A319 => ?_))
          refine nb (fun y321 h321 => ?_)
          have A321 : OwF Yc s319 [w1_0] y321 40 := by rw [h321]; exact A319
          refine dn (ib ?_)
          exact lb ih238 ⟨s319, _, rfl, (ue (ue (ue rfl rfl) rfl) rfl), (K285.st (tr7 p289 p290 p298 p303 p310 p314 p319) rfl), A321, (BlF.st (blf_mk bw287 g289) (tr6 p290 p298 p303 p310 p314 p319) rfl)⟩
         refine xt rfl (sgb ?_)
         exact Kj236 _ _ _ ⟨s262, _, w1_0, rfl, (ue rfl rfl), (K258.st p262 rfl), A266, B262⟩
        refine sr (Xb rfl (Xb rfl (dn (jc (fun (y325 : (List Track) × Int × Int) e w => ∃ (s : St) (e0 : Env) (vy325_0 : Value), w = s.w ∧ e = upd e0 1 vy325_0 ∧ Kp s0 s ∧ OwF Yc s [vy325_0] y325.1 40 ∧ BlF s p0 54 [w0_0, (iI y325.2.1), (iI y325.2.2)] 2) (fun Gj325 Kj325 => ?_) ?_))))
        ·
         refine cd rfl (fun h326 => ?_) (fun h326 => ?_)
         ·
          refine bl (lpI (fun (x327 : (List Track) × Int × Int) e w => ∃ (s : St) (e0 : Env) (vx327_0 : Value), w = s.w ∧ e = upd (upd e0 0 (pB p0)) 1 vx327_0 ∧ Kp s0 s ∧ OwF Yc s [vx327_0] x327.1 40 ∧ BlF s p0 54 [w0_0, (iI x327.2.1), (iI x327.2.2)] 2) ⟨s11, _, w1_0, rfl, (ue (ue rfl rfl) rfl), (K8.st p11 rfl), (A1_0.st (Xm p6 p11) rfl), B11⟩ (fun g327 ih327 => ?_))
          rintro x327 _ _ ⟨s330, _, vx327_0, rfl, rfl, Kx327, Ax327_0, Bx327_p0⟩
          unfold spec_l13bent.b1
          refine sq (sr (Xp vx327_0 rfl (ln' Ax327_0.rd u30 rfl (Xb rfl ?_))))
          refine clB Bx327_p0 rfl func12 rfl (spec_l1Below.calls (l1Cur.mk a0.b x327.2.1 x327.2.2) (2 : Int) s330.w (mm [0] s330) p0 w0_0 (A0_0.kp Kx327) Bx327_p0.w (Bx327_p0.apart rfl)) (fun r334 s335 p335 B335 => ?_)
          refine Xb rfl (Xb rfl (dn (cd rfl (fun h337 => ?_) (fun h337 => ?_))))
          ·
           refine sk (bl (rg (Xp vx327_0 rfl (Xp vx327_0 rfl ?_))))
           have A338 := Ax327_0.st p335 rfl
           refine ln' A338.rd u30 rfl (Xb rfl (bd (cells := [(iI (IntKind.wrap .i64 ((100 : Int) + (x327.1.length : Int)))), (iI 1), (iI 0), (.bool false), (.slice none 0 0), (.slice none 0 0), (.bool false), (.bool false)]) pl27 o27 rfl rfl rfl rfl rfl rfl ?_))
           have A339 : OwF kd27 s335 [(iI (IntKind.wrap .i64 ((100 : Int) + (x327.1.length : Int)))), (iI 1), (iI 0), (.bool false), (.slice none 0 0), (.slice none 0 0), (.bool false), (.bool false)] (Track.mk (IntKind.wrap .i64 ((100 : Int) + (x327.1.length : Int))) (1 : Int) (0 : Int) false ([] : (List Span)) ([] : (List Item)) false false) 63 := ow_z _ _ (fz_iso (fun x : Track => (x.Xid, x.Begun, x.Ended, x.All, x.Reads, x.Writes, x.In, x.Out)) (Track.mk (IntKind.wrap .i64 ((100 : Int) + (x327.1.length : Int))) (1 : Int) (0 : Int) false ([] : (List Span)) ([] : (List Item)) false false) (Xn (Xi .i64 (IntKind.wrap .i64 ((100 : Int) + (x327.1.length : Int)))) (Xn (Xi .i64 (1 : Int)) (Xn (Xi .i64 (0 : Int)) (Xn (Xz false) (Xn (fz_nil 62 kd62) (Xn (fz_nil 60 kd60) (Xn (Xz false) (Xz false)))))))))
           refine ltO (K := kd27) (cells := [(iI (IntKind.wrap .i64 ((100 : Int) + (x327.1.length : Int)))), (iI 1), (iI 0), (.bool false), (.slice none 0 0), (.slice none 0 0), (.bool false), (.bool false)]) [(Track.mk (IntKind.wrap .i64 ((100 : Int) + (x327.1.length : Int))) (1 : Int) (0 : Int) false ([] : (List Span)) ([] : (List Item)) false false)] 63 u30 z27 o27 (lo_one A339) rfl rfl rfl rfl rfl rfl rfl rfl rfl rfl (fun v342 s342 p342 A342 => ?_)
           refine apO sl30 (A338.st p342 rfl) A342 rfl rfl rfl rfl rfl rfl rfl rfl rfl (fun v345 s345 p345 A345 => ?_)
           refine Xy v345 rfl (dn (ib ?_))
           exact lb ih327 ⟨s345, _, v345, rfl, (ue (ue rfl rfl) rfl), (Kx327.st (Yb p335 p342 p345) rfl), A345, (B335.st (Xm p342 p345) rfl)⟩
          refine xt rfl (sgb ?_)
          exact Kj325 _ _ _ ⟨s335, _, vx327_0, rfl, (ue rfl rfl), (Kx327.st p335 rfl), (Ax327_0.st p335 rfl), B335⟩
         exact sk (Kj325 _ _ _ ⟨s11, _, w1_0, rfl, (ue rfl rfl), (K8.st p11 rfl), (A1_0.st (Xm p6 p11) rfl), B11⟩)
        rintro y325 _ _ ⟨s353, _, vy325_0, rfl, rfl, Ky325, Ay325_0, By325_p0⟩
        exact Kj236 _ _ _ ⟨s353, _, vy325_0, rfl, (ue rfl rfl), Ky325, Ay325_0, By325_p0⟩
       rintro y236 _ _ ⟨s356, _, vy236_0, rfl, rfl, Ky236, Ay236_0, By236_p0⟩
       exact Kj220 _ _ _ ⟨s356, _, vy236_0, rfl, (ue rfl rfl), Ky236, Ay236_0, By236_p0⟩
      rintro y220 _ _ ⟨s359, _, vy220_0, rfl, rfl, Ky220, Ay220_0, By220_p0⟩
      exact Kj168 _ _ _ ⟨s359, _, vy220_0, rfl, (ue rfl rfl), Ky220, Ay220_0, By220_p0⟩
     rintro y168 _ _ ⟨s362, _, vy168_0, rfl, rfl, Ky168, Ay168_0, By168_p0⟩
     exact Kj101 _ _ _ ⟨s362, _, vy168_0, rfl, (ue rfl rfl), Ky168, Ay168_0, By168_p0⟩
    rintro y101 _ _ ⟨s365, _, vy101_0, rfl, rfl, Ky101, Ay101_0, By101_p0⟩
    exact Kj53 _ _ _ ⟨s365, _, vy101_0, rfl, (ue rfl rfl), Ky101, Ay101_0, By101_p0⟩
   rintro y53 _ _ ⟨s368, _, vy53_0, rfl, rfl, Ky53, Ay53_0, By53_p0⟩
   exact Kj33 _ _ _ ⟨s368, _, vy53_0, rfl, (ue rfl rfl), Ky53, Ay53_0, By53_p0⟩
  rintro y33 _ _ ⟨s371, _, vy33_0, rfl, rfl, Ky33, Ay33_0, By33_p0⟩
  exact Kj13 _ _ _ ⟨s371, _, vy33_0, rfl, (ue rfl rfl), Ky33, Ay33_0, By33_p0⟩
 rintro y13 _ _ ⟨s374, _, vy13_0, rfl, rfl, Ky13, Ay13_0, By13_p0⟩
 exact ib (sr (Xp vy13_0 rfl (Xy vy13_0 rfl (dn (re rfl func16 rfl (Xq rfl Xe) rfl ⟨_, rfl, z.fwm Ky13 (oc_ow Ay13_0) rfl, By13_p0.w, z.ky' ez Ky13⟩)))))
def spec_l13who.b0 (a0 : l1Cur) (a1 : (List Track)) (x4 : Int × Int × Int) : Option ((Int × Int × Int) ⊕ (Int × l1Cur)) :=
 (if (decide (x4.1 < (a1.length : Int))) = true then (if 0 ≤ x4.1 ∧ x4.1 < (a1.length : Int) then ((if ((at_ a1 x4.1).Ended == (0 : Int)) = true then ((spec_l1Once.f (l1Cur.mk a0.b x4.2.1 x4.2.2) (2 : Int)).bind fun r15 => (some (r15.1, r15.2.i, r15.2.h))) else (some (false, x4.2.1, x4.2.2))).bind fun y13 => (if y13.1 = true then (if 0 ≤ x4.1 ∧ x4.1 < (a1.length : Int) then (some (Sum.inr ((at_ a1 x4.1).Xid, (l1Cur.mk a0.b y13.2.1 y13.2.2)))) else none) else (some (Sum.inl ((IntKind.wrap .i64 (x4.1 + (1 : Int))), y13.2.1, y13.2.2))))) else none) else (((spec_l1Below.f (l1Cur.mk a0.b x4.2.1 x4.2.2) (9 : Int)).bind fun r28 => (some ((IntKind.wrap .i64 ((1 : Int) + r28.1)), (l1Cur.mk a0.b r28.2.i r28.2.h)))).bind fun o => some (Sum.inr o)))
def spec_l13who.f (a0 : l1Cur) (a1 : (List Track)) : Option (Int × l1Cur) :=
 (iter (spec_l13who.b0 a0 a1) ((0 : Int), a0.i, a0.h))
def spec_l13who.Q (w : World) (F : Nat → Prop) (p0 : Nat) (w0_0 : Value) (r : Int × l1Cur) (v : Value) (w' : World) : Prop :=
 v = (iI r.1) ∧ BlW w' p0 54 [w0_0, (iI r.2.i), (iI r.2.h)] ∧ Ky [p0] w w'
theorem spec_l13who.calls (a0 : l1Cur) (a1 : (List Track)) (w : World) (F : Nat → Prop) (p0 : Nat) (w0_0 : Value) (w1_0 : Value) (h0_0 : Yd.rd w [w0_0] a0.b F) (h1_0 : Yc.rd w [w1_0] a1 F) (hb0 : BlW w p0 54 [w0_0, (iI a0.i), (iI a0.h)]) (hF : ∀ b, F b → b ∉ [p0]) (r : Int × l1Cur) (m : spec_l13who.f a0 a1 = some r) :
  Calls prog 17 #[(pB p0), w1_0] w (RT (spec_l13who.Q w F p0 w0_0) r) := by
 obtain ⟨s0, rfl, kp0, z⟩ := start1 w F [p0] hF
 have A0_0 := z.rd h0_0
 have A1_0 := z.rd h1_0
 refine Xd (args := [(pB p0), w1_0]) func17 ntmps17 rfl rfl m ?_
 unfold spec_l13who.f
 refine sr (Xb rfl (dn (sq (sr (Xb rfl (dn (bl (lpI (fun (x4 : Int × Int × Int) e w => ∃ (s : St) (e0 : Env), w = s.w ∧ e = upd (upd (upd e0 0 (pB p0)) 1 w1_0) 5 (iI x4.1) ∧ Kp s0 s ∧ BlF s p0 54 [w0_0, (iI x4.2.1), (iI x4.2.2)] 2) ⟨s0, _, rfl, (ue (ue (ue rfl rfl) rfl) rfl), kp0, (z.bl hb0 (by simp))⟩ (fun g4 ih4 => ?_)))))))))
 rintro x4 _ _ ⟨s5, _, rfl, rfl, Kx4, Bx4_p0⟩
 unfold spec_l13who.b0
 refine sq (sr (Xb rfl (Xp w1_0 rfl ?_)))
 have A7 := A1_0.kp Kx4
 refine ln' A7 u30 rfl (Xb rfl (dn (cd rfl (fun h8 => ?_) (fun h8 => ?_))))
 ·
  refine sk (sq (bl (sr (Xp w1_0 rfl (Xb rfl (ix' A7 u30 z27 rfl (fun ad9 es9 h0_9 h1_9 he9 ce9 ia9 => ?_)))))))
  obtain ⟨v9_0, v9_1, rfl, A9_0, A9_1⟩ := op27 he9
  refine Xw fa27_2 rfl (lc ce9 u3 rfl rfl rfl rfl rfl rfl rfl rfl (Xb rfl (Xb rfl (ji [] (fun (y13 : Bool × Int × Int) e w => ∃ (s : St) (e0 : Env), w = s.w ∧ e = upd (upd (upd (upd e0 0 (pB p0)) 1 w1_0) 5 (iI x4.1)) 21 (.bool y13.1) ∧ Kp s0 s ∧ BlF s p0 54 [w0_0, (iI y13.2.1), (iI y13.2.2)] 2) (fun Gj13 Kj13 => ?_) ?_))))
  ·
   rcases bft ((at_ a1 x4.1).Ended == (0 : Int)) with hb13 | hb13
   ·
    refine Xs hb13 ?_
    rw [if_pos hb13]
    refine Xb rfl (clB Bx4_p0 rfl func13 rfl (spec_l1Once.calls (l1Cur.mk a0.b x4.2.1 x4.2.2) (2 : Int) s5.w (mm [0] s5) p0 w0_0 (A0_0.kp Kx4) Bx4_p0.w (Bx4_p0.apart rfl)) (fun r15 s16 p16 B16 => ?_))
    exact Xb rfl (Kj13 _ _ _ ⟨s16, _, rfl, (ue (ue (ue (ue rfl rfl) rfl) rfl) rfl), (Kx4.st p16 rfl), B16⟩)
   refine Xs hb13 ?_
   rw [if_neg (by rw [hb13]; decide)]
   exact Xf rfl (Xf rfl (Xb rfl (Kj13 _ _ _ ⟨s5, _, rfl, (ue (ue (ue (ue rfl rfl) rfl) rfl) rfl), Kx4, Bx4_p0⟩)))
  rintro y13 _ _ ⟨s19, _, rfl, rfl, Ky13, By13_p0⟩
  refine dn (cd rfl (fun h21 => ?_) (fun h21 => ?_))
  ·
   refine sr (Xp w1_0 rfl (Xb rfl ?_))
   refine ix' (A1_0.kp Ky13) u30 z27 rfl (fun ad23 es23 h0_23 h1_23 he23 ce23 ia23 => ?_)
   obtain ⟨v23_0, v23_1, rfl, A23_0, A23_1⟩ := op27 he23
   exact Xw fa27_0 rfl (lc0 ce23 u3 rfl rfl rfl rfl rfl rfl rfl rfl (Xb rfl (dn (sgi (re rfl func17 rfl (Xq rfl Xe) rfl ⟨_, rfl, rfl, By13_p0.w, z.ky Ky13⟩)))))
  exact sk (ib (rg (Xb rfl (Xb rfl (Xb rfl (dn (lb ih4 ⟨s19, _, rfl, (ue (ue (ue rfl rfl) rfl) rfl), Ky13, By13_p0⟩)))))))
 refine xt rfl (sgb (sr (Xb rfl ?_)))
 refine clB Bx4_p0 rfl func12 rfl (spec_l1Below.calls (l1Cur.mk a0.b x4.2.1 x4.2.2) (9 : Int) s5.w (mm [0] s5) p0 w0_0 (A0_0.kp Kx4) Bx4_p0.w (Bx4_p0.apart rfl)) (fun r28 s29 p29 B29 => ?_)
 refine Xb rfl (Xb rfl (dn ?_))
 exact re rfl func17 rfl (Xq rfl Xe) rfl ⟨_, rfl, rfl, B29.w, z.ky (Kx4.st p29 rfl)⟩
def spec_DrawEdgeEnd.f (a0 : (List Int)) : Option ((List Track) × Int × Int × Bool) :=
 ((spec_l1New.f a0).bind fun r2 => ((spec_l1Size.f a0 (28 : Int)).bind fun r8 => ((spec_l13tracks.f r2 r8).bind fun r11 => ((spec_l1Once.f (l1Cur.mk r2.b r11.2.2.i r11.2.2.h) (6 : Int)).bind fun r17 => ((if r17.1 = true then ((spec_l13bent.f (l1Cur.mk r2.b r17.2.i r17.2.h) r11.1).bind fun r23 => (some (r23.1, r23.2.i, r23.2.h))) else (some (r11.1, r17.2.i, r17.2.h))).bind fun y20 => ((spec_l13who.f (l1Cur.mk r2.b y20.2.1 y20.2.2) y20.1).bind fun r40 => ((spec_l1Once.f (l1Cur.mk r2.b r40.2.i r40.2.h) (6 : Int)).bind fun r44 => ((if r44.1 = true then ((spec_l1Below.f (l1Cur.mk r2.b r44.2.i r44.2.h) (9 : Int)).bind fun r50 => (some ((IntKind.wrap .i64 ((1 : Int) + r50.1)), r50.2.i, r50.2.h))) else (some (r11.2.1, r44.2.i, r44.2.h))).bind fun y47 => ((spec_l1Once.f (l1Cur.mk r2.b y47.2.1 y47.2.2) (3 : Int)).bind fun r61 => (some (y20.1, r40.1, y47.1, (!r61.1))))))))))))
def spec_DrawEdgeEnd.Q (w : World) (F : Nat → Prop) (r : (List Track) × Int × Int × Bool) (v : Value) (w' : World) : Prop :=
 ∃ (v0 : Value), v = .tuple #[v0, (iI r.2.1), (iI r.2.2.1), (.bool r.2.2.2)] ∧ FO Yc w w' [v0] r.1 ∧ Ky [] w w'
theorem spec_DrawEdgeEnd.calls (a0 : (List Int)) (w : World) (F : Nat → Prop) (w0_0 : Value) (h0_0 : Yd.rd w [w0_0] a0 F) (r : (List Track) × Int × Int × Bool) (m : spec_DrawEdgeEnd.f a0 = some r) :
  Calls prog 6 #[w0_0] w (RT (spec_DrawEdgeEnd.Q w F) r) := by
 obtain ⟨s0, rfl, kp0, z⟩ := Xj w F
 have A0_0 := z.rd h0_0
 refine Xd (args := [w0_0]) func6 ntmps6 rfl rfl m ?_
 unfold spec_DrawEdgeEnd.f
 refine sr (Xb rfl (Xb rfl (Xb rfl (Xb rfl (dn (sr (Xp w0_0 rfl (cl' rfl func11 rfl (spec_l1New.calls a0 s0.w (mm [0] s0) w0_0 A0_0) ?_))))))))
 rintro r2 _ w2 m2 ⟨v2_0, v2_1, rfl, f2_0, f2_1, ky2⟩
 obtain ⟨s3, rfl, p3, n3⟩ := nwx s0 w2 40 ky2
 refine Xb rfl (dn (sr (Xb rfl (Xp w0_0 rfl ?_))))
 have K6 := kp0.st p3 rfl
 refine clV 41 rfl func15 rfl (spec_l1Size.calls a0 (28 : Int) s3.w (mm [0] s3) w0_0 (A0_0.kp K6)) (fun r8 s9 p9 n9 => ?_)
 have A10 := (f2_1.c n3).st p9 rfl
 have A12 := BlF.st (f2_0.c n3) p9 rfl
 refine cl' rfl func14 rfl (spec_l13tracks.calls r2 r8 s9.w (mm [0] s9) v2_0 v2_1 A10 A12.w (A12.apart rfl)) ?_
 rintro r11 _ w11 m11 ⟨v11_0, rfl, f11_0, bw11, ky11⟩
 obtain ⟨s13, rfl, p13, n13, g13⟩ := nwb 42 A12 ky11
 have A11_0 := f11_0.c n13
 have B13 := blf_mk bw11 g13
 refine Xb rfl (Xb (v := v11_0) rfl (Xb (v := (iI r11.2.1)) rfl (Xy v11_0 rfl (Xb rfl (dn (sq (sr (Xb rfl ?_))))))))
 have A16 := A10.st p13 rfl
 refine clB B13 rfl func13 rfl (spec_l1Once.calls (l1Cur.mk r2.b r11.2.2.i r11.2.2.h) (6 : Int) s13.w (mm [0] s13) v2_0 v2_1 A16 B13.w (B13.apart rfl)) (fun r17 s18 p18 B18 => ?_)
 refine dn (jc (fun (y20 : (List Track) × Int × Int) e w => ∃ (s : St) (e0 : Env) (vy20_0 : Value), w = s.w ∧ e = upd (upd (upd e0 6 (pB v2_0)) 7 vy20_0) 8 (iI r11.2.1) ∧ Kp s0 s ∧ OwF Yc s [vy20_0] y20.1 44 ∧ BlF s v2_0 54 [v2_1, (iI y20.2.1), (iI y20.2.2)] 40 ∧ RdF Yd s [v2_1] r2.b [0]) (fun Gj20 Kj20 => ?_) ?_)
 ·
  refine cd rfl (fun h21 => ?_) (fun h21 => ?_)
  ·
   refine rg (Xb rfl (Xp v11_0 rfl ?_))
   have A22 := A16.st p18 rfl
   obtain ⟨os23, ho23, hn23, hc23⟩ := A11_0.st p18 rfl
   refine cl' rfl func16 rfl (spec_l13bent.calls (l1Cur.mk r2.b r17.2.i r17.2.h) r11.1 s18.w (mm [0] s18) v2_0 v2_1 v11_0 A22 os23 ho23 hn23 B18.w (bl_out B18 hc23 rfl) (apart2 (B18.apart rfl) (apart_of hc23 rfl))) ?_
   rintro r23 v23_0 w23 m23 ⟨f23_0, bw23, ky23⟩
   obtain ⟨s25, rfl, p25, n25, g25⟩ := nwm2 45 hc23 B18 ky23 rfl rfl
   refine Xy v23_0 rfl (dn ?_)
   obtain ⟨s28, hw28, p28, A28⟩ := (f23_0.m n25).rc 44 rfl
   rw [hw28]
   exact Kj20 _ _ _ ⟨s28, _, v23_0, rfl, (ue (ue (ue rfl rfl) rfl) rfl), (K6.st (tr5 p9 p13 p18 p25 p28) rfl), A28, (BlF.st (blf_mk bw23 g25) p28 rfl), (A22.st (Xm p25 p28) rfl)⟩
  refine sk ?_
  obtain ⟨s33, hw33, p33, A33⟩ := (A11_0.st p18 rfl).rc 44 rfl
  rw [hw33]
  exact Kj20 _ _ _ ⟨s33, _, v11_0, rfl, (ue (ue (ue rfl rfl) rfl) rfl), (K6.st (tr4 p9 p13 p18 p33) rfl), A33, (B18.st p33 rfl), (A16.st (Xm p18 p33) rfl)⟩
 rintro y20 _ _ ⟨s37, _, vy20_0, rfl, rfl, Ky20, Ay20_0, By20_v2_0, Cy20_5⟩
 refine sr (Xb rfl (Xp vy20_0 rfl (clB By20_v2_0 rfl func17 rfl (spec_l13who.calls (l1Cur.mk r2.b y20.2.1 y20.2.2) y20.1 s37.w (mm [0, 44] s37) v2_0 v2_1 vy20_0 (Cy20_5.sub (D := [0, 44]) rfl) (Ay20_0.rd.sub (D := [0, 44]) rfl) By20_v2_0.w (By20_v2_0.apart rfl)) (fun r40 s41 p41 B41 => ?_))))
 refine Xb rfl (dn (sq (sr (Xb rfl ?_))))
 have A43 := Cy20_5.st p41 rfl
 refine clB B41 rfl func13 rfl (spec_l1Once.calls (l1Cur.mk r2.b r40.2.i r40.2.h) (6 : Int) s41.w (mm [0] s41) v2_0 v2_1 A43 B41.w (B41.apart rfl)) (fun r44 s45 p45 B45 => ?_)
 refine dn (jc (fun (y47 : Int × Int × Int) e w => ∃ (s : St) (e0 : Env), w = s.w ∧ e = upd (upd (upd (upd e0 6 (pB v2_0)) 7 vy20_0) 8 (iI y47.1)) 9 (iI r40.1) ∧ Kp s0 s ∧ BlF s v2_0 54 [v2_1, (iI y47.2.1), (iI y47.2.2)] 40 ∧ OwF Yc s [vy20_0] y20.1 44 ∧ RdF Yd s [v2_1] r2.b [0]) (fun Gj47 Kj47 => ?_) ?_)
 ·
  refine cd rfl (fun h48 => ?_) (fun h48 => ?_)
  ·
   refine rg (Xb rfl ?_)
   have A49 := A43.st p45 rfl
   refine clB B45 rfl func12 rfl (spec_l1Below.calls (l1Cur.mk r2.b r44.2.i r44.2.h) (9 : Int) s45.w (mm [0] s45) v2_0 v2_1 A49 B45.w (B45.apart rfl)) (fun r50 s51 p51 B51 => ?_)
   refine Xb rfl (Xb rfl (dn ?_))
   exact Kj47 _ _ _ ⟨s51, _, rfl, (ue (ue (ue (ue rfl rfl) rfl) rfl) rfl), (Ky20.st (Yb p41 p45 p51) rfl), B51, (Ay20_0.st (Yb p41 p45 p51) rfl), (A49.st p51 rfl)⟩
  exact sk (Kj47 _ _ _ ⟨s45, _, rfl, (ue (ue (ue (ue rfl rfl) rfl) rfl) rfl), (Ky20.st (Xm p41 p45) rfl), B45, (Ay20_0.st (Xm p41 p45) rfl), (A43.st p45 rfl)⟩)
 rintro y47 _ _ ⟨s59, _, rfl, rfl, Ky47, By47_v2_0, Cy47_38, Cy47_5⟩
 refine sr (Xb rfl (clB By47_v2_0 rfl func13 rfl (spec_l1Once.calls (l1Cur.mk r2.b y47.2.1 y47.2.2) (3 : Int) s59.w (mm [0] s59) v2_0 v2_1 Cy47_5 By47_v2_0.w (By47_v2_0.apart rfl)) (fun r61 s62 p62 B62 => ?_)))
 refine Xb rfl (Xb rfl (dn (sr (Xp vy20_0 rfl (Xb rfl (Xb rfl (Xb rfl (Xy vy20_0 rfl (Xb rfl (Xb rfl (Xb rfl (dn ?_))))))))))))
 have K65 := Ky47.st p62 rfl
 exact re rfl func6 rfl (Xq rfl (Xq rfl (Xq rfl (Xq rfl Xe)))) rfl ⟨_, rfl, vy20_0, rfl, (Cy47_38.st p62 rfl).fo K65 rfl z.l, z.ky K65⟩
def impl_Track_isActive.f (a0 : Track) : Option (Bool) :=
 (some (a0.Ended == (0 : Int)))
def impl_Track_isActive.Q (w : World) (F : Nat → Prop) (r : Bool) (v : Value) (w' : World) : Prop :=
 v = (.bool r) ∧ Ky [] w w'
theorem impl_Track_isActive.calls (a0 : Track) (w : World) (F : Nat → Prop) (w0_0 : Value) (w0_1 : Value) (h0_0 : Yf.rd w [w0_0] a0.Reads F) (h0_1 : Ye.rd w [w0_1] a0.Writes F) (r : Bool) (m : impl_Track_isActive.f a0 = some r) :
  Calls prog 18 #[(.agg #[(iI a0.Xid), (iI a0.Begun), (iI a0.Ended), (.bool a0.All), w0_0, w0_1, (.bool a0.In), (.bool a0.Out)])] w (RT (impl_Track_isActive.Q w F) r) := by
 obtain ⟨s0, rfl, kp0, z⟩ := Xj w F
 refine Xd (args := [(.agg #[(iI a0.Xid), (iI a0.Begun), (iI a0.Ended), (.bool a0.All), w0_0, w0_1, (.bool a0.In), (.bool a0.Out)])]) func18 ntmps18 rfl rfl m ?_
 unfold impl_Track_isActive.f
 refine sr (bx' (cs := [(iI a0.Xid), (iI a0.Begun), (iI a0.Ended), (.bool a0.All), w0_0, w0_1, (.bool a0.In), (.bool a0.Out)]) 40 rfl rfl (fun b3 s3 p3 B3 => ?_))
 refine Xb rfl (dn (sr (Xw fa27_2 rfl (ld' B3 u3 rfl (Xb rfl (Xb rfl (dn ?_)))))))
 exact re rfl func18 rfl (Xq rfl Xe) rfl ⟨_, rfl, rfl, z.ky (kp0.st p3 rfl)⟩
def impl_Concurrent.f (a0 : Track) (a1 : Track) : Option (Bool) :=
 ((impl_Track_isActive.f a0).bind fun r13 => ((if (r13 || (decide (a0.Ended > a1.Begun))) = true then ((impl_Track_isActive.f a1).bind fun r23 => (some (r23 || (decide (a1.Ended > a0.Begun))))) else (some false)).bind fun y18 => (some y18)))
def impl_Concurrent.Q (w : World) (F : Nat → Prop) (r : Bool) (v : Value) (w' : World) : Prop :=
 v = (.bool r) ∧ Ky [] w w'
theorem impl_Concurrent.calls (a0 : Track) (a1 : Track) (w : World) (F : Nat → Prop) (w0_0 : Value) (w0_1 : Value) (w1_0 : Value) (w1_1 : Value) (h0_0 : Yf.rd w [w0_0] a0.Reads F) (h0_1 : Ye.rd w [w0_1] a0.Writes F) (h1_0 : Yf.rd w [w1_0] a1.Reads F) (h1_1 : Ye.rd w [w1_1] a1.Writes F) (r : Bool) (m : impl_Concurrent.f a0 a1 = some r) :
  Calls prog 7 #[(.agg #[(iI a0.Xid), (iI a0.Begun), (iI a0.Ended), (.bool a0.All), w0_0, w0_1, (.bool a0.In), (.bool a0.Out)]), (.agg #[(iI a1.Xid), (iI a1.Begun), (iI a1.Ended), (.bool a1.All), w1_0, w1_1, (.bool a1.In), (.bool a1.Out)])] w (RT (impl_Concurrent.Q w F) r) := by
 obtain ⟨s0, rfl, kp0, z⟩ := Xj w F
 refine Xd (args := [(.agg #[(iI a0.Xid), (iI a0.Begun), (iI a0.Ended), (.bool a0.All), w0_0, w0_1, (.bool a0.In), (.bool a0.Out)]), (.agg #[(iI a1.Xid), (iI a1.Begun), (iI a1.Ended), (.bool a1.All), w1_0, w1_1, (.bool a1.In), (.bool a1.Out)])]) func7 ntmps7 rfl rfl m ?_
 unfold impl_Concurrent.f
 refine sr (bx' (cs := [(iI a0.Xid), (iI a0.Begun), (iI a0.Ended), (.bool a0.All), w0_0, w0_1, (.bool a0.In), (.bool a0.Out)]) 40 rfl rfl (fun b5 s5 p5 B5 => ?_))
 refine bx' (cs := [(iI a1.Xid), (iI a1.Begun), (iI a1.Ended), (.bool a1.All), w1_0, w1_1, (.bool a1.In), (.bool a1.Out)]) 41 rfl rfl (fun b7 s7 p7 B7 => ?_)
 refine Xb rfl (dn (sr ?_))
 have A9 := B5.st p7 rfl
 refine lda' (es := [(iI a0.Xid), (iI a0.Begun), (iI a0.Ended), (.bool a0.All), w0_0, w0_1, (.bool a0.In), (.bool a0.Out)]) A9 u27 z27 rfl ?_
 have K10 := kp0.st (Xm p5 p7) rfl
 refine clV 42 rfl func18 rfl (impl_Track_isActive.calls a0 s7.w (mm [0] s7) w0_0 w0_1 ((z.rd h0_0).kp K10) ((z.rd h0_1).kp K10)) (fun r13 s14 p14 n14 => ?_)
 refine Xb rfl (jy [7, 8, 9, 10, 11, 12, 13] [9, 10, 11, 12, 13, 14, 15, 16, 17, 18, 19, 20] 13 (.bool (r13 || (decide (a0.Ended > a1.Begun)))) rfl (fun Kg15 => ?_) (fun j15 => ?_))
 ·
  rcases bft r13 with hb15 | hb15
  ·
   exact Xs hb15 (Xf rfl (Xf rfl (Xf rfl (Xf rfl (Xf rfl (Xb rfl (Kg15 _ (Ag.put ((Ag.put ((Ag.put ((Ag.put ((Ag.put ((Ag.put (Ag.base rfl) rfl)) rfl)) rfl)) rfl)) rfl)) rfl) (by rw [hb15]; rfl))))))))
  refine Xs hb15 (Xw fa27_2 rfl ?_)
  refine ld' (A9.st p14 rfl) u3 rfl (Xw fa27_1 rfl ?_)
  exact ld' (B7.st p14 rfl) u3 rfl (Xb rfl (Xb rfl (Kg15 _ (Ag.put ((Ag.put ((Ag.put ((Ag.put ((Ag.put ((Ag.put (Ag.base rfl) rfl)) rfl)) rfl)) rfl)) rfl)) rfl) (by rw [hb15]; rfl))))
 refine Xb rfl (ji [20] (fun (y18 : Bool) e w => ∃ (s : St) (e0 : Env), w = s.w ∧ e = upd e0 24 (.bool y18) ∧ Kp s0 s) (fun Gj18 Kj18 => ?_) ?_)
 ·
  rcases bft (r13 || (decide (a0.Ended > a1.Begun))) with hb18 | hb18
  ·
   refine Xs hb18 ?_
   rw [if_pos hb18]
   have A19 := B7.st p14 rfl
   refine lda' (es := [(iI a1.Xid), (iI a1.Begun), (iI a1.Ended), (.bool a1.All), w1_0, w1_1, (.bool a1.In), (.bool a1.Out)]) A19 u27 z27 rfl ?_
   have K20 := K10.st p14 rfl
   refine clV 43 rfl func18 rfl (impl_Track_isActive.calls a1 s14.w (mm [0] s14) w1_0 w1_1 ((z.rd h1_0).kp K20) ((z.rd h1_1).kp K20)) (fun r23 s24 p24 n24 => ?_)
   refine Xb rfl (jy [17, 18, 19, 20, 21, 22, 23] [19, 20] 23 (.bool (r23 || (decide (a1.Ended > a0.Begun)))) rfl (fun Kg25 => ?_) (fun j25 => ?_))
   ·
    rcases bft r23 with hb25 | hb25
    ·
     exact Xs hb25 (Xf rfl (Xf rfl (Xf rfl (Xf rfl (Xf rfl (Xb rfl (Kg25 _ (Ag.put ((Ag.put ((Ag.put ((Ag.put ((Ag.put ((Ag.put (Ag.base rfl) rfl)) rfl)) rfl)) rfl)) rfl)) rfl) (by rw [hb25]; rfl))))))))
    refine Xs hb25 (Xw fa27_2 rfl ?_)
    refine ld' (A19.st p24 rfl) u3 rfl (Xw fa27_1 rfl ?_)
    exact ld' (A9.st (Xm p14 p24) rfl) u3 rfl (Xb rfl (Xb rfl (Kg25 _ (Ag.put ((Ag.put ((Ag.put ((Ag.put ((Ag.put ((Ag.put (Ag.base rfl) rfl)) rfl)) rfl)) rfl)) rfl)) rfl) (by rw [hb25]; rfl))))
   exact Xb rfl (Kj18 _ _ _ ⟨s24, _, rfl, (ue rfl rfl), (K20.st p24 rfl)⟩)
  refine Xs hb18 ?_
  rw [if_neg (by rw [hb18]; decide)]
  refine Xf rfl (Xf rfl (Xf rfl (Xf rfl (Xf rfl (Xf rfl (Xf rfl (Xf rfl (Xf rfl (Xb rfl ?_)))))))))
  exact Kj18 _ _ _ ⟨s14, _, rfl, (ue rfl rfl), (K10.st p14 rfl)⟩
 rintro y18 _ _ ⟨s30, _, rfl, rfl, Ky18⟩
 exact Xb rfl (dn (re rfl func7 rfl (Xq rfl Xe) rfl ⟨_, rfl, rfl, z.ky Ky18⟩))
def impl_active_1.f (a0 : Track) (a1 : Int) : Option (Bool) :=
 ((if (a0.Xid == a1) = true then ((impl_Track_isActive.f a0).bind fun r11 => (some r11)) else (some false)).bind fun y7 => (some y7))
def impl_active_1.Q (w : World) (F : Nat → Prop) (r : Bool) (v : Value) (w' : World) : Prop :=
 v = (.bool r) ∧ Ky [] w w'
theorem impl_active_1.calls (a0 : Track) (a1 : Int) (w : World) (F : Nat → Prop) (w0_0 : Value) (w0_1 : Value) (c1 : Nat) (h0_0 : Yf.rd w [w0_0] a0.Reads F) (h0_1 : Ye.rd w [w0_1] a0.Writes F) (hb1 : BlW w c1 3 [(iI a1)]) (hp1 : F c1) (r : Bool) (m : impl_active_1.f a0 a1 = some r) :
  Calls prog 39 #[(.agg #[(iI a0.Xid), (iI a0.Begun), (iI a0.Ended), (.bool a0.All), w0_0, w0_1, (.bool a0.In), (.bool a0.Out)]), (pB c1)] w (RT (impl_active_1.Q w F) r) := by
 obtain ⟨s0, rfl, kp0, z⟩ := Xj w F
 refine Xd (args := [(.agg #[(iI a0.Xid), (iI a0.Begun), (iI a0.Ended), (.bool a0.All), w0_0, w0_1, (.bool a0.In), (.bool a0.Out)]), (pB c1)]) func39 ntmps39 rfl rfl m ?_
 unfold impl_active_1.f
 refine sr (bx' (cs := [(iI a0.Xid), (iI a0.Begun), (iI a0.Ended), (.bool a0.All), w0_0, w0_1, (.bool a0.In), (.bool a0.Out)]) 40 rfl rfl (fun b4 s4 p4 B4 => ?_))
 refine Xb rfl (dn (sr (Xw fa27_0 rfl (ld' B4 u3 rfl ?_))))
 refine ld' (BlF.st (z.b0 hb1 hp1) p4 rfl) u3 rfl (Xb rfl (Xb rfl (ji [8] (fun (y7 : Bool) e w => ∃ (s : St) (e0 : Env), w = s.w ∧ e = upd e0 11 (.bool y7) ∧ Kp s0 s) (fun Gj7 Kj7 => ?_) ?_)))
 ·
  rcases bft (a0.Xid == a1) with hb7 | hb7
  ·
   refine Xs hb7 ?_
   rw [if_pos hb7]
   refine lda' (es := [(iI a0.Xid), (iI a0.Begun), (iI a0.Ended), (.bool a0.All), w0_0, w0_1, (.bool a0.In), (.bool a0.Out)]) B4 u27 z27 rfl ?_
   have K8 := kp0.st p4 rfl
   refine clV 41 rfl func18 rfl (impl_Track_isActive.calls a0 s4.w (mm [0] s4) w0_0 w0_1 ((z.rd h0_0).kp K8) ((z.rd h0_1).kp K8)) (fun r11 s12 p12 n12 => ?_)
   exact Xb rfl (Kj7 _ _ _ ⟨s12, _, rfl, (ue rfl rfl), (K8.st p12 rfl)⟩)
  refine Xs hb7 ?_
  rw [if_neg (by rw [hb7]; decide)]
  refine Xf rfl (Xf rfl (Xb rfl ?_))
  exact Kj7 _ _ _ ⟨s4, _, rfl, (ue rfl rfl), (kp0.st p4 rfl)⟩
 rintro y7 _ _ ⟨s15, _, rfl, rfl, Ky7⟩
 exact Xb rfl (dn (re rfl func39 rfl (Xq rfl Xe) rfl ⟨_, rfl, rfl, z.ky Ky7⟩))
def slices_IndexFunc_impl_Track_impl_Track.b0 (a0 : (List Track)) (a1 : (Track → Option Bool)) (x2 : Int) : Option (Int ⊕ Int) :=
 (if (decide (x2 < (a0.length : Int))) = true then (if 0 ≤ x2 ∧ x2 < (a0.length : Int) then ((a1 (at_ a0 x2)).bind fun r10 => (if r10 = true then (some (Sum.inr x2)) else (some (Sum.inl (IntKind.wrap .i64 (x2 + (1 : Int))))))) else none) else ((some (-1 : Int)).bind fun o => some (Sum.inr o)))
def slices_IndexFunc_impl_Track_impl_Track.f (a0 : (List Track)) (a1 : (Track → Option Bool)) : Option (Int) :=
 (iter (slices_IndexFunc_impl_Track_impl_Track.b0 a0 a1) (0 : Int))
def slices_IndexFunc_impl_Track_impl_Track.Q (w : World) (F : Nat → Prop) (r : Int) (v : Value) (w' : World) : Prop :=
 v = (iI r) ∧ Ky [] w w'
theorem slices_IndexFunc_impl_Track_impl_Track.calls (a0 : (List Track)) (a1 : (Track → Option Bool)) (w : World) (F : Nat → Prop) (w0_0 : Value) (f1 : Value) (h0_0 : Yc.rd w [w0_0] a0 F) (hf1 : ∀ (x0 : Track) (u0_0 u0_1 : Value) (w' : World), Ky [] w w' → Yf.rd w' [u0_0] x0.Reads (fun _ => True) → Ye.rd w' [u0_1] x0.Writes (fun _ => True) → ∀ r, a1 x0 = some r → CallV prog f1 [(.agg #[(iI x0.Xid), (iI x0.Begun), (iI x0.Ended), (.bool x0.All), u0_0, u0_1, (.bool x0.In), (.bool x0.Out)])] w' fun en w'' => ∃ v, en = .returned v ∧ v = (.bool r) ∧ Ky [] w' w'') (ho1 : f1.cells = #[f1]) (r : Int) (m : slices_IndexFunc_impl_Track_impl_Track.f a0 a1 = some r) :
  Calls prog 38 #[w0_0, f1] w (RT (slices_IndexFunc_impl_Track_impl_Track.Q w F) r) := by
 obtain ⟨s0, rfl, kp0, z⟩ := Xj w F
 have A0_0 := z.rd h0_0
 refine Xd (args := [w0_0, f1]) func38 ntmps38 rfl rfl m ?_
 unfold slices_IndexFunc_impl_Track_impl_Track.f
 refine sr (Xb rfl (dn (sq (sr (Xp w0_0 rfl (ln' A0_0 u30 rfl (Xb rfl (dn (bl (lpI (fun (x2 : Int) e w => ∃ (s : St) (e0 : Env), w = s.w ∧ e = upd (upd (upd (upd e0 0 w0_0) 1 f1) 7 (iI (a0.length : Int))) 8 (iI x2) ∧ Kp s0 s) ⟨s0, _, rfl, (ue (ue (ue (ue rfl rfl) rfl) rfl) rfl), kp0⟩ (fun g2 ih2 => ?_)))))))))))
 rintro x2 _ _ ⟨s3, _, rfl, rfl, Kx2⟩
 unfold slices_IndexFunc_impl_Track_impl_Track.b0
 refine sr (Xb rfl (dn (sq (cd rfl (fun h4 => ?_) (fun h4 => ?_)))))
 ·
  refine sk (sq (bl (sr (Xb rfl (Xb rfl (dn (sr (Xp f1 rfl (Xp w0_0 rfl (Xb rfl ?_))))))))))
  refine ix' (A0_0.kp Kx2) u30 z27 rfl (fun ad6 es6 h0_6 h1_6 he6 ce6 ia6 => ?_)
  obtain ⟨v6_0, v6_1, rfl, A6_0, A6_1⟩ := op27 he6
  refine lca ce6 u27 z27 rfl rfl rfl rfl rfl rfl rfl (clv rfl rfl rfl rfl rfl rfl rfl (fun r10 m10 => hf1 (at_ a0 x2) v6_0 v6_1 s3.w (z.ky Kx2) (RdF.top A6_0) (RdF.top A6_1) r10 m10) ?_)
  rintro r10 _ w10 m10 ⟨rfl, ky10⟩
  obtain ⟨s11, rfl, p11, n11⟩ := nwx s3 w10 40 ky10
  refine dn (cd rfl (fun h12 => ?_) (fun h12 => ?_))
  ·
   refine sr (Xb rfl (Xb rfl (dn (sgi ?_))))
   exact re rfl func38 rfl (Xq rfl Xe) rfl ⟨_, rfl, rfl, z.ky (Kx2.st p11 rfl)⟩
  refine sk (ib (rg (Xb rfl (Xb rfl (dn ?_)))))
  exact lb ih2 ⟨s11, _, rfl, (ue (ue (ue (ue rfl rfl) rfl) rfl) rfl), (Kx2.st p11 rfl)⟩
 exact xt rfl (sgb (sr (Xb rfl (dn (re rfl func38 rfl (Xq rfl Xe) rfl ⟨_, rfl, rfl, z.ky Kx2⟩)))))
def impl_active.f (a0 : (List Track)) (a1 : Int) : Option (Int) :=
 ((slices_IndexFunc_impl_Track_impl_Track.f a0 (fun x0 => impl_active_1.f x0 a1)).bind fun r6 => (some r6))
def impl_active.Q (w : World) (F : Nat → Prop) (r : Int) (v : Value) (w' : World) : Prop :=
 v = (iI r) ∧ Ky [] w w'
theorem impl_active.calls (a0 : (List Track)) (a1 : Int) (w : World) (F : Nat → Prop) (w0_0 : Value) (h0_0 : Yc.rd w [w0_0] a0 F) (r : Int) (m : impl_active.f a0 a1 = some r) :
  Calls prog 19 #[w0_0, (iI a1)] w (RT (impl_active.Q w F) r) := by
 obtain ⟨s0, rfl, kp0, z⟩ := Xj w F
 refine Xd (args := [w0_0, (iI a1)]) func19 ntmps19 rfl rfl m ?_
 unfold impl_active.f
 refine sr (bx' (cs := [(iI a1)]) 40 rfl rfl (fun b2 s2 p2 B2 => ?_))
 refine Xb rfl (dn (sr (Xp w0_0 rfl (mkf (fs := []) (cs := [(pB b2)]) rfl rfl rfl rfl rfl rfl rfl ?_))))
 have K4 := kp0.st p2 rfl
 refine clV 41 rfl func38 rfl (slices_IndexFunc_impl_Track_impl_Track.calls a0 (fun x0 => impl_active_1.f x0 a1) s2.w (mm [0] s2) w0_0 (.func (.func 39) (List.toArray []) (List.toArray [(pB b2)])) ((z.rd h0_0).kp K4) (fun x0 u0_0 u0_1 w' k h0 h1 r m =>  ⟨39, _, _, [], [(pB b2)], rfl, func39, rfl, rfl, (impl_active_1.calls x0 a1 w' (fun _ => True) u0_0 u0_1 b2 h0 h1 (B2.ky k) trivial r m).mono fun en w2 hq => by obtain ⟨v, e, q⟩ := hq; exact ⟨v, e, q⟩⟩) rfl) (fun r6 s7 p7 n7 => ?_)
 refine Xb rfl (dn ?_)
 exact re rfl func19 rfl (Xq rfl Xe) rfl ⟨_, rfl, rfl, z.ky (K4.st p7 rfl)⟩
def impl_areAll_impl_Track_1.f (a0 : Track) (a1 : (Track → Option Bool)) : Option (Bool) :=
 ((a1 a0).bind fun r10 => (some (!r10)))
def impl_areAll_impl_Track_1.Q (w : World) (F : Nat → Prop) (r : Bool) (v : Value) (w' : World) : Prop :=
 v = (.bool r) ∧ Ky [] w w'
theorem impl_areAll_impl_Track_1.calls (a0 : Track) (a1 : (Track → Option Bool)) (w : World) (F : Nat → Prop) (w0_0 : Value) (w0_1 : Value) (c1 : Nat) (f1 : Value) (h0_0 : Yf.rd w [w0_0] a0.Reads F) (h0_1 : Ye.rd w [w0_1] a0.Writes F) (hf1 : ∀ (x0 : Track) (u0_0 u0_1 : Value) (w' : World), Ky [] w w' → Yf.rd w' [u0_0] x0.Reads (fun _ => True) → Ye.rd w' [u0_1] x0.Writes (fun _ => True) → ∀ r, a1 x0 = some r → CallV prog f1 [(.agg #[(iI x0.Xid), (iI x0.Begun), (iI x0.Ended), (.bool x0.All), u0_0, u0_1, (.bool x0.In), (.bool x0.Out)])] w' fun en w'' => ∃ v, en = .returned v ∧ v = (.bool r) ∧ Ky [] w' w'') (ho1 : f1.cells = #[f1]) (hb1 : BlW w c1 50 [f1]) (hp1 : F c1) (r : Bool) (m : impl_areAll_impl_Track_1.f a0 a1 = some r) :
  Calls prog 52 #[(.agg #[(iI a0.Xid), (iI a0.Begun), (iI a0.Ended), (.bool a0.All), w0_0, w0_1, (.bool a0.In), (.bool a0.Out)]), (pB c1)] w (RT (impl_areAll_impl_Track_1.Q w F) r) := by
 obtain ⟨s0, rfl, kp0, z⟩ := Xj w F
 refine Xd (args := [(.agg #[(iI a0.Xid), (iI a0.Begun), (iI a0.Ended), (.bool a0.All), w0_0, w0_1, (.bool a0.In), (.bool a0.Out)]), (pB c1)]) func52 ntmps52 rfl rfl m ?_
 unfold impl_areAll_impl_Track_1.f
 refine sr (bx' (cs := [(iI a0.Xid), (iI a0.Begun), (iI a0.Ended), (.bool a0.All), w0_0, w0_1, (.bool a0.In), (.bool a0.Out)]) 40 rfl rfl (fun b4 s4 p4 B4 => ?_))
 refine Xb rfl (dn (sr ?_))
 refine ld' (BlF.st (z.b0 hb1 hp1) p4 rfl) u50 rfl (lda' (es := [(iI a0.Xid), (iI a0.Begun), (iI a0.Ended), (.bool a0.All), w0_0, w0_1, (.bool a0.In), (.bool a0.Out)]) B4 u27 z27 rfl ?_)
 have K7 := kp0.st p4 rfl
 refine clv rfl rfl rfl rfl rfl rfl rfl (fun r10 m10 => hf1 a0 w0_0 w0_1 s4.w (z.ky K7) (RdF.top ((z.rd h0_0).kp K7)) (RdF.top ((z.rd h0_1).kp K7)) r10 m10) ?_
 rintro r10 _ w10 m10 ⟨rfl, ky10⟩
 obtain ⟨s11, rfl, p11, n11⟩ := nwx s4 w10 41 ky10
 refine Xb rfl (Xb rfl (dn ?_))
 exact re rfl func52 rfl (Xq rfl Xe) rfl ⟨_, rfl, rfl, z.ky (K7.st p11 rfl)⟩
def slices_ContainsFunc_impl_Track_impl_Track.f (a0 : (List Track)) (a1 : (Track → Option Bool)) : Option (Bool) :=
 ((slices_IndexFunc_impl_Track_impl_Track.f a0 a1).bind fun r2 => (some (decide (r2 ≥ (0 : Int)))))
def slices_ContainsFunc_impl_Track_impl_Track.Q (w : World) (F : Nat → Prop) (r : Bool) (v : Value) (w' : World) : Prop :=
 v = (.bool r) ∧ Ky [] w w'
theorem slices_ContainsFunc_impl_Track_impl_Track.calls (a0 : (List Track)) (a1 : (Track → Option Bool)) (w : World) (F : Nat → Prop) (w0_0 : Value) (f1 : Value) (h0_0 : Yc.rd w [w0_0] a0 F) (hf1 : ∀ (x0 : Track) (u0_0 u0_1 : Value) (w' : World), Ky [] w w' → Yf.rd w' [u0_0] x0.Reads (fun _ => True) → Ye.rd w' [u0_1] x0.Writes (fun _ => True) → ∀ r, a1 x0 = some r → CallV prog f1 [(.agg #[(iI x0.Xid), (iI x0.Begun), (iI x0.Ended), (.bool x0.All), u0_0, u0_1, (.bool x0.In), (.bool x0.Out)])] w' fun en w'' => ∃ v, en = .returned v ∧ v = (.bool r) ∧ Ky [] w' w'') (ho1 : f1.cells = #[f1]) (r : Bool) (m : slices_ContainsFunc_impl_Track_impl_Track.f a0 a1 = some r) :
  Calls prog 51 #[w0_0, f1] w (RT (slices_ContainsFunc_impl_Track_impl_Track.Q w F) r) := by
 obtain ⟨s0, rfl, kp0, z⟩ := Xj w F
 refine Xd (args := [w0_0, f1]) func51 ntmps51 rfl rfl m ?_
 unfold slices_ContainsFunc_impl_Track_impl_Track.f
 refine sr (Xb rfl (dn (sr (Xp w0_0 rfl (Xp f1 rfl (clV 40 rfl func38 rfl (slices_IndexFunc_impl_Track_impl_Track.calls a0 a1 s0.w (mm [0] s0) w0_0 f1 (z.rd h0_0) (fun x0 u0_0 u0_1 w' k h0 h1 r m =>  hf1 x0 u0_0 u0_1 w' (Ky.trans (z.ky kp0) k) h0 h1 r m) ho1) (fun r2 s3 p3 n3 => ?_)))))))
 refine Xb rfl (Xb rfl (dn ?_))
 exact re rfl func51 rfl (Xq rfl Xe) rfl ⟨_, rfl, rfl, z.ky (kp0.st p3 rfl)⟩
def impl_areAll_impl_Track.f (a0 : (List Track)) (a1 : (Track → Option Bool)) : Option (Bool) :=
 ((slices_ContainsFunc_impl_Track_impl_Track.f a0 (fun x0 => impl_areAll_impl_Track_1.f x0 a1)).bind fun r6 => (some (!r6)))
def impl_areAll_impl_Track.Q (w : World) (F : Nat → Prop) (r : Bool) (v : Value) (w' : World) : Prop :=
 v = (.bool r) ∧ Ky [] w w'
theorem impl_areAll_impl_Track.calls (a0 : (List Track)) (a1 : (Track → Option Bool)) (w : World) (F : Nat → Prop) (w0_0 : Value) (f1 : Value) (h0_0 : Yc.rd w [w0_0] a0 F) (hf1 : ∀ (x0 : Track) (u0_0 u0_1 : Value) (w' : World), Ky [] w w' → Yf.rd w' [u0_0] x0.Reads (fun _ => True) → Ye.rd w' [u0_1] x0.Writes (fun _ => True) → ∀ r, a1 x0 = some r → CallV prog f1 [(.agg #[(iI x0.Xid), (iI x0.Begun), (iI x0.Ended), (.bool x0.All), u0_0, u0_1, (.bool x0.In), (.bool x0.Out)])] w' fun en w'' => ∃ v, en = .returned v ∧ v = (.bool r) ∧ Ky [] w' w'') (ho1 : f1.cells = #[f1]) (r : Bool) (m : impl_areAll_impl_Track.f a0 a1 = some r) :
  Calls prog 26 #[w0_0, f1] w (RT (impl_areAll_impl_Track.Q w F) r) := by
 obtain ⟨s0, rfl, kp0, z⟩ := Xj w F
 refine Xd (args := [w0_0, f1]) func26 ntmps26 rfl rfl m ?_
 unfold impl_areAll_impl_Track.f
 refine sr (bx' (cs := [f1]) 40 rfl ho1 (fun b2 s2 p2 B2 => ?_))
 refine Xb rfl (dn (sr (Xp w0_0 rfl (mkf (fs := []) (cs := [(pB b2)]) rfl rfl rfl rfl rfl rfl rfl ?_))))
 have K4 := kp0.st p2 rfl
 refine clV 41 rfl func51 rfl (slices_ContainsFunc_impl_Track_impl_Track.calls a0 (fun x0 => impl_areAll_impl_Track_1.f x0 a1) s2.w (mm [0] s2) w0_0 (.func (.func 52) (List.toArray []) (List.toArray [(pB b2)])) ((z.rd h0_0).kp K4) (fun x0 u0_0 u0_1 w' k h0 h1 r m =>  ⟨52, _, _, [], [(pB b2)], rfl, func52, rfl, rfl, (impl_areAll_impl_Track_1.calls x0 a1 w' (fun _ => True) u0_0 u0_1 b2 f1 h0 h1 (fun x0c u0_0c u0_1c w'c kc h0c h1c r m =>  hf1 x0c u0_0c u0_1c w'c (Ky.trans (z.ky K4) (Ky.trans k kc)) h0c h1c r m) ho1 (B2.ky k) trivial r m).mono fun en w2 hq => by obtain ⟨v, e, q⟩ := hq; exact ⟨v, e, q⟩⟩) rfl) (fun r6 s7 p7 n7 => ?_)
 refine Xb rfl (Xb rfl (dn ?_))
 exact re rfl func26 rfl (Xq rfl Xe) rfl ⟨_, rfl, rfl, z.ky (K4.st p7 rfl)⟩
def impl_within.f (a0 : Int) (a1 : Int) (a2 : Int) : Option (Bool) :=
 (some ((decide (a1 ≤ a0)) && (decide (a0 ≤ a2))))
def impl_within.Q (w : World) (F : Nat → Prop) (r : Bool) (v : Value) (w' : World) : Prop :=
 v = (.bool r) ∧ Ky [] w w'
theorem impl_within.calls (a0 : Int) (a1 : Int) (a2 : Int) (w : World) (F : Nat → Prop)   (r : Bool) (m : impl_within.f a0 a1 a2 = some r) :
  Calls prog 71 #[(iI a0), (iI a1), (iI a2)] w (RT (impl_within.Q w F) r) := by
 obtain ⟨s0, rfl, kp0, z⟩ := Xj w F
 refine Xd (args := [(iI a0), (iI a1), (iI a2)]) func71 ntmps71 rfl rfl m ?_
 unfold impl_within.f
 refine sr (Xb rfl (dn (sr (Xb rfl (Xb rfl (Xb rfl (Xb rfl (jy [10, 11, 12, 13, 14] [8] 14 (.bool ((decide (a1 ≤ a0)) && (decide (a0 ≤ a2)))) rfl (fun Kg1 => ?_) (fun j1 => ?_)))))))))
 ·
  rcases bft (decide (a1 ≤ a0)) with hb1 | hb1
  ·
   exact Xs hb1 (Xb rfl (Xb rfl (Xb rfl (Xb rfl (Kg1 _ (Ag.put ((Ag.put ((Ag.put ((Ag.put (Ag.base rfl) rfl)) rfl)) rfl)) rfl) (by rw [hb1]; rfl))))))
  exact Xs hb1 (Xf rfl (Xf rfl (Xf rfl (Xb rfl (Kg1 _ (Ag.put ((Ag.put ((Ag.put ((Ag.put (Ag.base rfl) rfl)) rfl)) rfl)) rfl) (by rw [hb1]; rfl))))))
 exact Xb rfl (dn (re rfl func71 rfl (Xq rfl Xe) rfl ⟨_, rfl, rfl, z.ky kp0⟩))
def impl_isXid.f (a0 : Int) : Option (Bool) :=
 ((impl_within.f a0 (1 : Int) (400 : Int)).bind fun r1 => (some r1))
def impl_isXid.Q (w : World) (F : Nat → Prop) (r : Bool) (v : Value) (w' : World) : Prop :=
 v = (.bool r) ∧ Ky [] w w'
theorem impl_isXid.calls (a0 : Int) (w : World) (F : Nat → Prop)   (r : Bool) (m : impl_isXid.f a0 = some r) :
  Calls prog 53 #[(iI a0)] w (RT (impl_isXid.Q w F) r) := by
 obtain ⟨s0, rfl, kp0, z⟩ := Xj w F
 refine Xd (args := [(iI a0)]) func53 ntmps53 rfl rfl m ?_
 unfold impl_isXid.f
 refine sr (Xb rfl (dn (sr (Xb rfl (clV 40 rfl func71 rfl (impl_within.calls a0 (1 : Int) (400 : Int) s0.w (mm [] s0)) (fun r1 s2 p2 n2 => ?_))))))
 refine Xb rfl (dn ?_)
 exact re rfl func53 rfl (Xq rfl Xe) rfl ⟨_, rfl, rfl, z.ky (kp0.st p2 rfl)⟩
def impl_areAll_impl_Span_1.f (a0 : Span) (a1 : (Span → Option Bool)) : Option (Bool) :=
 ((a1 a0).bind fun r10 => (some (!r10)))
def impl_areAll_impl_Span_1.Q (w : World) (F : Nat → Prop) (r : Bool) (v : Value) (w' : World) : Prop :=
 v = (.bool r) ∧ Ky [] w w'
theorem impl_areAll_impl_Span_1.calls (a0 : Span) (a1 : (Span → Option Bool)) (w : World) (F : Nat → Prop) (w0_0 : Value) (w0_1 : Value) (w0_2 : Value) (w0_3 : Value) (c1 : Nat) (f1 : Value) (h0_0 : Kd.flt.rd w [w0_0] a0.From.F F) (h0_1 : Yd.rd w [w0_1] a0.From.T F) (h0_2 : Kd.flt.rd w [w0_2] a0.To.F F) (h0_3 : Yd.rd w [w0_3] a0.To.T F) (hf1 : ∀ (x0 : Span) (u0_0 u0_1 u0_2 u0_3 : Value) (w' : World), Ky [] w w' → Kd.flt.rd w' [u0_0] x0.From.F (fun _ => True) → Yd.rd w' [u0_1] x0.From.T (fun _ => True) → Kd.flt.rd w' [u0_2] x0.To.F (fun _ => True) → Yd.rd w' [u0_3] x0.To.T (fun _ => True) → ∀ r, a1 x0 = some r → CallV prog f1 [(.agg #[(iI x0.From.Kind), (iI x0.From.N), u0_0, u0_1, (iI x0.To.Kind), (iI x0.To.N), u0_2, u0_3])] w' fun en w'' => ∃ v, en = .returned v ∧ v = (.bool r) ∧ Ky [] w' w'') (ho1 : f1.cells = #[f1]) (hb1 : BlW w c1 73 [f1]) (hp1 : F c1) (r : Bool) (m : impl_areAll_impl_Span_1.f a0 a1 = some r) :
  Calls prog 73 #[(.agg #[(iI a0.From.Kind), (iI a0.From.N), w0_0, w0_1, (iI a0.To.Kind), (iI a0.To.N), w0_2, w0_3]), (pB c1)] w (RT (impl_areAll_impl_Span_1.Q w F) r) := by
 obtain ⟨s0, rfl, kp0, z⟩ := Xj w F
 refine Xd (args := [(.agg #[(iI a0.From.Kind), (iI a0.From.N), w0_0, w0_1, (iI a0.To.Kind), (iI a0.To.N), w0_2, w0_3]), (pB c1)]) func73 ntmps73 rfl rfl m ?_
 unfold impl_areAll_impl_Span_1.f
 refine sr (bx' (cs := [(iI a0.From.Kind), (iI a0.From.N), w0_0, w0_1, (iI a0.To.Kind), (iI a0.To.N), w0_2, w0_3]) 40 rfl rfl (fun b4 s4 p4 B4 => ?_))
 refine Xb rfl (dn (sr ?_))
 refine ld' (BlF.st (z.b0 hb1 hp1) p4 rfl) u73 rfl (lda' (es := [(iI a0.From.Kind), (iI a0.From.N), w0_0, w0_1, (iI a0.To.Kind), (iI a0.To.N), w0_2, w0_3]) B4 u62 z62 rfl ?_)
 have K7 := kp0.st p4 rfl
 refine clv rfl rfl rfl rfl rfl rfl rfl (fun r10 m10 => hf1 a0 w0_0 w0_1 w0_2 w0_3 s4.w (z.ky K7) (fl_rd (fl_of h0_0)) (RdF.top ((z.rd h0_1).kp K7)) (fl_rd (fl_of h0_2)) (RdF.top ((z.rd h0_3).kp K7)) r10 m10) ?_
 rintro r10 _ w10 m10 ⟨rfl, ky10⟩
 obtain ⟨s11, rfl, p11, n11⟩ := nwx s4 w10 41 ky10
 refine Xb rfl (Xb rfl (dn ?_))
 exact re rfl func73 rfl (Xq rfl Xe) rfl ⟨_, rfl, rfl, z.ky (K7.st p11 rfl)⟩
def slices_IndexFunc_impl_Span_impl_Span.b0 (a0 : (List Span)) (a1 : (Span → Option Bool)) (x2 : Int) : Option (Int ⊕ Int) :=
 (if (decide (x2 < (a0.length : Int))) = true then (if 0 ≤ x2 ∧ x2 < (a0.length : Int) then ((a1 (Span.mk ((at_ a0 x2).From) ((at_ a0 x2).To))).bind fun r10 => (if r10 = true then (some (Sum.inr x2)) else (some (Sum.inl (IntKind.wrap .i64 (x2 + (1 : Int))))))) else none) else ((some (-1 : Int)).bind fun o => some (Sum.inr o)))
def slices_IndexFunc_impl_Span_impl_Span.f (a0 : (List Span)) (a1 : (Span → Option Bool)) : Option (Int) :=
 (iter (slices_IndexFunc_impl_Span_impl_Span.b0 a0 a1) (0 : Int))
def slices_IndexFunc_impl_Span_impl_Span.Q (w : World) (F : Nat → Prop) (r : Int) (v : Value) (w' : World) : Prop :=
 v = (iI r) ∧ Ky [] w w'
theorem slices_IndexFunc_impl_Span_impl_Span.calls (a0 : (List Span)) (a1 : (Span → Option Bool)) (w : World) (F : Nat → Prop) (w0_0 : Value) (f1 : Value) (h0_0 : Yf.rd w [w0_0] a0 F) (hf1 : ∀ (x0 : Span) (u0_0 u0_1 u0_2 u0_3 : Value) (w' : World), Ky [] w w' → Kd.flt.rd w' [u0_0] x0.From.F (fun _ => True) → Yd.rd w' [u0_1] x0.From.T (fun _ => True) → Kd.flt.rd w' [u0_2] x0.To.F (fun _ => True) → Yd.rd w' [u0_3] x0.To.T (fun _ => True) → ∀ r, a1 x0 = some r → CallV prog f1 [(.agg #[(iI x0.From.Kind), (iI x0.From.N), u0_0, u0_1, (iI x0.To.Kind), (iI x0.To.N), u0_2, u0_3])] w' fun en w'' => ∃ v, en = .returned v ∧ v = (.bool r) ∧ Ky [] w' w'') (ho1 : f1.cells = #[f1]) (r : Int) (m : slices_IndexFunc_impl_Span_impl_Span.f a0 a1 = some r) :
  Calls prog 85 #[w0_0, f1] w (RT (slices_IndexFunc_impl_Span_impl_Span.Q w F) r) := by
 obtain ⟨s0, rfl, kp0, z⟩ := Xj w F
 have A0_0 := z.rd h0_0
 refine Xd (args := [w0_0, f1]) func85 ntmps85 rfl rfl m ?_
 unfold slices_IndexFunc_impl_Span_impl_Span.f
 refine sr (Xb rfl (dn (sq (sr (Xp w0_0 rfl (ln' A0_0 u24 rfl (Xb rfl (dn (bl (lpI (fun (x2 : Int) e w => ∃ (s : St) (e0 : Env), w = s.w ∧ e = upd (upd (upd (upd e0 0 w0_0) 1 f1) 7 (iI (a0.length : Int))) 8 (iI x2) ∧ Kp s0 s) ⟨s0, _, rfl, (ue (ue (ue (ue rfl rfl) rfl) rfl) rfl), kp0⟩ (fun g2 ih2 => ?_)))))))))))
 rintro x2 _ _ ⟨s3, _, rfl, rfl, Kx2⟩
 unfold slices_IndexFunc_impl_Span_impl_Span.b0
 refine sr (Xb rfl (dn (sq (cd rfl (fun h4 => ?_) (fun h4 => ?_)))))
 ·
  refine sk (sq (bl (sr (Xb rfl (Xb rfl (dn (sr (Xp f1 rfl (Xp w0_0 rfl (Xb rfl ?_))))))))))
  refine ix' (A0_0.kp Kx2) u24 z62 rfl (fun ad6 es6 h0_6 h1_6 he6 ce6 ia6 => ?_)
  obtain ⟨v6_0, v6_1, v6_2, v6_3, rfl, A6_0, A6_1, A6_2, A6_3⟩ := op62 he6
  refine lca ce6 u62 z62 rfl rfl rfl rfl rfl rfl rfl (clv rfl rfl rfl rfl rfl rfl rfl (fun r10 m10 => hf1 (Span.mk ((at_ a0 x2).From) ((at_ a0 x2).To)) v6_0 v6_1 v6_2 v6_3 s3.w (z.ky Kx2) (fl_rd A6_0) (RdF.top A6_1) (fl_rd A6_2) (RdF.top A6_3) r10 m10) ?_)
  rintro r10 _ w10 m10 ⟨rfl, ky10⟩
  obtain ⟨s11, rfl, p11, n11⟩ := nwx s3 w10 40 ky10
  refine dn (cd rfl (fun h12 => ?_) (fun h12 => ?_))
  ·
   refine sr (Xb rfl (Xb rfl (dn (sgi ?_))))
   exact re rfl func85 rfl (Xq rfl Xe) rfl ⟨_, rfl, rfl, z.ky (Kx2.st p11 rfl)⟩
  refine sk (ib (rg (Xb rfl (Xb rfl (dn ?_)))))
  exact lb ih2 ⟨s11, _, rfl, (ue (ue (ue (ue rfl rfl) rfl) rfl) rfl), (Kx2.st p11 rfl)⟩
 exact xt rfl (sgb (sr (Xb rfl (dn (re rfl func85 rfl (Xq rfl Xe) rfl ⟨_, rfl, rfl, z.ky Kx2⟩)))))
def slices_ContainsFunc_impl_Span_impl_Span.f (a0 : (List Span)) (a1 : (Span → Option Bool)) : Option (Bool) :=
 ((slices_IndexFunc_impl_Span_impl_Span.f a0 a1).bind fun r2 => (some (decide (r2 ≥ (0 : Int)))))
def slices_ContainsFunc_impl_Span_impl_Span.Q (w : World) (F : Nat → Prop) (r : Bool) (v : Value) (w' : World) : Prop :=
 v = (.bool r) ∧ Ky [] w w'
theorem slices_ContainsFunc_impl_Span_impl_Span.calls (a0 : (List Span)) (a1 : (Span → Option Bool)) (w : World) (F : Nat → Prop) (w0_0 : Value) (f1 : Value) (h0_0 : Yf.rd w [w0_0] a0 F) (hf1 : ∀ (x0 : Span) (u0_0 u0_1 u0_2 u0_3 : Value) (w' : World), Ky [] w w' → Kd.flt.rd w' [u0_0] x0.From.F (fun _ => True) → Yd.rd w' [u0_1] x0.From.T (fun _ => True) → Kd.flt.rd w' [u0_2] x0.To.F (fun _ => True) → Yd.rd w' [u0_3] x0.To.T (fun _ => True) → ∀ r, a1 x0 = some r → CallV prog f1 [(.agg #[(iI x0.From.Kind), (iI x0.From.N), u0_0, u0_1, (iI x0.To.Kind), (iI x0.To.N), u0_2, u0_3])] w' fun en w'' => ∃ v, en = .returned v ∧ v = (.bool r) ∧ Ky [] w' w'') (ho1 : f1.cells = #[f1]) (r : Bool) (m : slices_ContainsFunc_impl_Span_impl_Span.f a0 a1 = some r) :
  Calls prog 72 #[w0_0, f1] w (RT (slices_ContainsFunc_impl_Span_impl_Span.Q w F) r) := by
 obtain ⟨s0, rfl, kp0, z⟩ := Xj w F
 refine Xd (args := [w0_0, f1]) func72 ntmps72 rfl rfl m ?_
 unfold slices_ContainsFunc_impl_Span_impl_Span.f
 refine sr (Xb rfl (dn (sr (Xp w0_0 rfl (Xp f1 rfl (clV 40 rfl func85 rfl (slices_IndexFunc_impl_Span_impl_Span.calls a0 a1 s0.w (mm [0] s0) w0_0 f1 (z.rd h0_0) (fun x0 u0_0 u0_1 u0_2 u0_3 w' k h0 h1 h2 h3 r m =>  hf1 x0 u0_0 u0_1 u0_2 u0_3 w' (Ky.trans (z.ky kp0) k) h0 h1 h2 h3 r m) ho1) (fun r2 s3 p3 n3 => ?_)))))))
 refine Xb rfl (Xb rfl (dn ?_))
 exact re rfl func72 rfl (Xq rfl Xe) rfl ⟨_, rfl, rfl, z.ky (kp0.st p3 rfl)⟩
def impl_areAll_impl_Span.f (a0 : (List Span)) (a1 : (Span → Option Bool)) : Option (Bool) :=
 ((slices_ContainsFunc_impl_Span_impl_Span.f a0 (fun x0 => impl_areAll_impl_Span_1.f x0 a1)).bind fun r6 => (some (!r6)))
def impl_areAll_impl_Span.Q (w : World) (F : Nat → Prop) (r : Bool) (v : Value) (w' : World) : Prop :=
 v = (.bool r) ∧ Ky [] w w'
theorem impl_areAll_impl_Span.calls (a0 : (List Span)) (a1 : (Span → Option Bool)) (w : World) (F : Nat → Prop) (w0_0 : Value) (f1 : Value) (h0_0 : Yf.rd w [w0_0] a0 F) (hf1 : ∀ (x0 : Span) (u0_0 u0_1 u0_2 u0_3 : Value) (w' : World), Ky [] w w' → Kd.flt.rd w' [u0_0] x0.From.F (fun _ => True) → Yd.rd w' [u0_1] x0.From.T (fun _ => True) → Kd.flt.rd w' [u0_2] x0.To.F (fun _ => True) → Yd.rd w' [u0_3] x0.To.T (fun _ => True) → ∀ r, a1 x0 = some r → CallV prog f1 [(.agg #[(iI x0.From.Kind), (iI x0.From.N), u0_0, u0_1, (iI x0.To.Kind), (iI x0.To.N), u0_2, u0_3])] w' fun en w'' => ∃ v, en = .returned v ∧ v = (.bool r) ∧ Ky [] w' w'') (ho1 : f1.cells = #[f1]) (r : Bool) (m : impl_areAll_impl_Span.f a0 a1 = some r) :
  Calls prog 54 #[w0_0, f1] w (RT (impl_areAll_impl_Span.Q w F) r) := by
 obtain ⟨s0, rfl, kp0, z⟩ := Xj w F
 refine Xd (args := [w0_0, f1]) func54 ntmps54 rfl rfl m ?_
 unfold impl_areAll_impl_Span.f
 refine sr (bx' (cs := [f1]) 40 rfl ho1 (fun b2 s2 p2 B2 => ?_))
 refine Xb rfl (dn (sr (Xp w0_0 rfl (mkf (fs := []) (cs := [(pB b2)]) rfl rfl rfl rfl rfl rfl rfl ?_))))
 have K4 := kp0.st p2 rfl
 refine clV 41 rfl func72 rfl (slices_ContainsFunc_impl_Span_impl_Span.calls a0 (fun x0 => impl_areAll_impl_Span_1.f x0 a1) s2.w (mm [0] s2) w0_0 (.func (.func 73) (List.toArray []) (List.toArray [(pB b2)])) ((z.rd h0_0).kp K4) (fun x0 u0_0 u0_1 u0_2 u0_3 w' k h0 h1 h2 h3 r m =>  ⟨73, _, _, [], [(pB b2)], rfl, func73, rfl, rfl, (impl_areAll_impl_Span_1.calls x0 a1 w' (fun _ => True) u0_0 u0_1 u0_2 u0_3 b2 f1 h0 h1 h2 h3 (fun x0c u0_0c u0_1c u0_2c u0_3c w'c kc h0c h1c h2c h3c r m =>  hf1 x0c u0_0c u0_1c u0_2c u0_3c w'c (Ky.trans (z.ky K4) (Ky.trans k kc)) h0c h1c h2c h3c r m) ho1 (B2.ky k) trivial r m).mono fun en w2 hq => by obtain ⟨v, e, q⟩ := hq; exact ⟨v, e, q⟩⟩) rfl) (fun r6 s7 p7 n7 => ?_)
 refine Xb rfl (Xb rfl (dn ?_))
 exact re rfl func54 rfl (Xq rfl Xe) rfl ⟨_, rfl, rfl, z.ky (K4.st p7 rfl)⟩
def impl_ItemOk.f (a0 : Item) : Option (Bool) :=
 ((impl_within.f a0.Kind (0 : Int) (3 : Int)).bind fun r4 => (some (((r4 && ((a0.N == (0 : Int)) || (a0.Kind == (1 : Int)))) && (((a0.F : Int) == 0) || (a0.Kind == (2 : Int)))) && (((a0.T.length : Int) == (0 : Int)) || ((a0.Kind == (3 : Int)) && (decide ((a0.T.length : Int) ≤ (40 : Int))))))))
def impl_ItemOk.Q (w : World) (F : Nat → Prop) (r : Bool) (v : Value) (w' : World) : Prop :=
 v = (.bool r) ∧ Ky [] w w'
theorem impl_ItemOk.calls (a0 : Item) (w : World) (F : Nat → Prop) (w0_0 : Value) (w0_1 : Value) (h0_0 : Kd.flt.rd w [w0_0] a0.F F) (h0_1 : Yd.rd w [w0_1] a0.T F) (r : Bool) (m : impl_ItemOk.f a0 = some r) :
  Calls prog 77 #[(.agg #[(iI a0.Kind), (iI a0.N), w0_0, w0_1])] w (RT (impl_ItemOk.Q w F) r) := by
 obtain ⟨s0, rfl, kp0, z⟩ := Xj w F
 refine Xd (args := [(.agg #[(iI a0.Kind), (iI a0.N), w0_0, w0_1])]) func77 ntmps77 rfl rfl m ?_
 unfold impl_ItemOk.f
 refine sr (bx' (cs := [(iI a0.Kind), (iI a0.N), w0_0, w0_1]) 40 rfl rfl (fun b2 s2 p2 B2 => ?_))
 refine Xb rfl (dn (sr (Xw fa60_0 rfl (ld' B2 u3 rfl (clV 41 rfl func71 rfl (impl_within.calls a0.Kind (0 : Int) (3 : Int) s2.w (mm [] s2)) (fun r4 s5 p5 n5 => ?_))))))
 refine Xb rfl (jy [6, 7, 8, 9, 10, 11, 12, 13, 14, 15] [13, 14, 15, 16, 17, 18, 19, 20, 21, 22, 23, 24, 25, 26, 27, 28, 29, 30, 31, 32, 33, 34, 35, 36, 37, 38, 39, 40, 41] 15 (.bool (r4 && ((a0.N == (0 : Int)) || (a0.Kind == (1 : Int))))) rfl (fun Kg6 => ?_) (fun j6 => ?_))
 ·
  rcases bft r4 with hb6 | hb6
  ·
   refine Xs hb6 (Xw fa60_1 rfl ?_)
   have A7 := B2.st p5 rfl
   refine ld' A7 u3 rfl (Xb rfl (Xb rfl (jy [10, 11, 12, 13, 14] [12, 13, 14, 15, 16, 17, 18, 19, 20, 21, 22, 23, 24, 25, 26, 27, 28, 29, 30, 31, 32, 33, 34, 35, 36, 37, 38, 39, 40, 41] 14 (.bool ((a0.N == (0 : Int)) || (a0.Kind == (1 : Int)))) rfl (fun Kg8 => ?_) (fun j8 => ?_))))
   ·
    rcases bft (a0.N == (0 : Int)) with hb8 | hb8
    ·
     exact Xs hb8 (Xf rfl (Xf rfl (Xf rfl (Xb rfl (Kg8 _ (Ag.put ((Ag.put ((Ag.put ((Ag.put (Ag.base rfl) rfl)) rfl)) rfl)) rfl) (by rw [hb8]; rfl))))))
    exact Xs hb8 (Xw fa60_0 rfl (ld' A7 u3 rfl (Xb rfl (Xb rfl (Kg8 _ (Ag.put ((Ag.put ((Ag.put ((Ag.put (Ag.base rfl) rfl)) rfl)) rfl)) rfl) (by rw [hb8]; rfl))))))
   exact Xb rfl (Kg6 _ (Ag.put ((Ag.put ((Ag.ov ((Ag.put ((Ag.put ((Ag.put ((Ag.put (Ag.base rfl) rfl)) rfl)) rfl)) rfl)) rfl)) rfl)) rfl) (by rw [hb6]; rfl))
  exact Xs hb6 (Xf rfl (Xf rfl (Xf rfl (Xf rfl (Xf rfl (Xf rfl (Xf rfl (Xf rfl (Xb rfl (Kg6 _ (Ag.put ((Ag.put ((Ag.put ((Ag.put ((Ag.put ((Ag.put ((Ag.put ((Ag.put ((Ag.put (Ag.base rfl) rfl)) rfl)) rfl)) rfl)) rfl)) rfl)) rfl)) rfl)) rfl) (by rw [hb6]; rfl)))))))))))
 refine Xb rfl (jy [16, 17, 18, 19, 20, 21, 22, 23, 24, 25, 26] [24, 25, 26, 27, 28, 29, 30, 31, 32, 33, 34, 35, 36, 37, 38, 39, 40, 41] 26 (.bool ((r4 && ((a0.N == (0 : Int)) || (a0.Kind == (1 : Int)))) && (((a0.F : Int) == 0) || (a0.Kind == (2 : Int))))) rfl (fun Kg9 => ?_) (fun j9 => ?_))
 ·
  rcases bft (r4 && ((a0.N == (0 : Int)) || (a0.Kind == (1 : Int)))) with hb9 | hb9
  ·
   refine Xs hb9 (Xw fa60_2 rfl ?_)
   have A10 := B2.st p5 rfl
   refine ld' A10 u58 rfl (fbu (fl_of h0_0) rfl rfl rfl rfl rfl func78 rfl rfl xn78 xf78 rfl (fun b11 A11 => ?_))
   refine fz0 A11 rfl rfl rfl rfl rfl rfl rfl (Xb rfl (jy [21, 22, 23, 24, 25] [23, 24, 25, 26, 27, 28, 29, 30, 31, 32, 33, 34, 35, 36, 37, 38, 39, 40, 41] 25 (.bool (((a0.F : Int) == 0) || (a0.Kind == (2 : Int)))) rfl (fun Kg12 => ?_) (fun j12 => ?_)))
   ·
    rcases bft ((a0.F : Int) == 0) with hb12 | hb12
    ·
     exact Xs hb12 (Xf rfl (Xf rfl (Xf rfl (Xb rfl (Kg12 _ (Ag.put ((Ag.put ((Ag.put ((Ag.put (Ag.base rfl) rfl)) rfl)) rfl)) rfl) (by rw [hb12]; rfl))))))
    exact Xs hb12 (Xw fa60_0 rfl (ld' A10 u3 rfl (Xb rfl (Xb rfl (Kg12 _ (Ag.put ((Ag.put ((Ag.put ((Ag.put (Ag.base rfl) rfl)) rfl)) rfl)) rfl) (by rw [hb12]; rfl))))))
   exact Xb rfl (Kg9 _ (Ag.put ((Ag.put ((Ag.ov ((Ag.put ((Ag.put ((Ag.put ((Ag.put ((Ag.put (Ag.base rfl) rfl)) rfl)) rfl)) rfl)) rfl)) rfl)) rfl)) rfl) (by rw [hb9]; rfl))
  exact Xs hb9 (Xf rfl (Xf rfl (Xf rfl (Xf rfl (Xf rfl (Xf rfl (Xf rfl (Xf rfl (Xf rfl (Xb rfl (Kg9 _ (Ag.put ((Ag.put ((Ag.put ((Ag.put ((Ag.put ((Ag.put ((Ag.put ((Ag.put ((Ag.put ((Ag.put (Ag.base rfl) rfl)) rfl)) rfl)) rfl)) rfl)) rfl)) rfl)) rfl)) rfl)) rfl) (by rw [hb9]; rfl))))))))))))
 refine Xb rfl (jy [27, 28, 29, 30, 31, 32, 33, 34, 35, 36, 37, 38, 39, 40, 41, 42, 43] [41] 43 (.bool (((r4 && ((a0.N == (0 : Int)) || (a0.Kind == (1 : Int)))) && (((a0.F : Int) == 0) || (a0.Kind == (2 : Int)))) && (((a0.T.length : Int) == (0 : Int)) || ((a0.Kind == (3 : Int)) && (decide ((a0.T.length : Int) ≤ (40 : Int))))))) rfl (fun Kg13 => ?_) (fun j13 => ?_))
 ·
  rcases bft ((r4 && ((a0.N == (0 : Int)) || (a0.Kind == (1 : Int)))) && (((a0.F : Int) == 0) || (a0.Kind == (2 : Int)))) with hb13 | hb13
  ·
   refine Xs hb13 (Xw fa60_3 rfl ?_)
   have A14 := B2.st p5 rfl
   refine ld' A14 u22 rfl ?_
   have A16 := (z.rd h0_1).kp (kp0.st (Xm p2 p5) rfl)
   refine ln' A16 u22 rfl (Xb rfl (Xb rfl (jy [32, 33, 34, 35, 36, 37, 38, 39, 40, 41, 42] [40, 41] 42 (.bool (((a0.T.length : Int) == (0 : Int)) || ((a0.Kind == (3 : Int)) && (decide ((a0.T.length : Int) ≤ (40 : Int)))))) rfl (fun Kg17 => ?_) (fun j17 => ?_))))
   ·
    rcases bft ((a0.T.length : Int) == (0 : Int)) with hb17 | hb17
    ·
     exact Xs hb17 (Xf rfl (Xf rfl (Xf rfl (Xf rfl (Xf rfl (Xf rfl (Xf rfl (Xf rfl (Xf rfl (Xb rfl (Kg17 _ (Ag.put ((Ag.put ((Ag.put ((Ag.put ((Ag.put ((Ag.put ((Ag.put ((Ag.put ((Ag.put ((Ag.put (Ag.base rfl) rfl)) rfl)) rfl)) rfl)) rfl)) rfl)) rfl)) rfl)) rfl)) rfl) (by rw [hb17]; rfl))))))))))))
    refine Xs hb17 (Xw fa60_0 rfl (ld' A14 u3 rfl (Xb rfl (Xb rfl (jy [36, 37, 38, 39, 40, 41] [39, 40, 41] 41 (.bool ((a0.Kind == (3 : Int)) && (decide ((a0.T.length : Int) ≤ (40 : Int))))) rfl (fun Kg18 => ?_) (fun j18 => ?_))))))
    ·
     rcases bft (a0.Kind == (3 : Int)) with hb18 | hb18
     ·
      exact Xs hb18 (Xw fa60_3 rfl (ld' A14 u22 rfl (ln' A16 u22 rfl (Xb rfl (Xb rfl (Kg18 _ (Ag.put ((Ag.put ((Ag.put ((Ag.put ((Ag.put (Ag.base rfl) rfl)) rfl)) rfl)) rfl)) rfl) (by rw [hb18]; rfl)))))))
     exact Xs hb18 (Xf rfl (Xf rfl (Xf rfl (Xf rfl (Xb rfl (Kg18 _ (Ag.put ((Ag.put ((Ag.put ((Ag.put ((Ag.put (Ag.base rfl) rfl)) rfl)) rfl)) rfl)) rfl) (by rw [hb18]; rfl)))))))
    exact Xb rfl (Kg17 _ (Ag.put ((Ag.put ((Ag.ov ((Ag.put ((Ag.put ((Ag.put ((Ag.put (Ag.base rfl) rfl)) rfl)) rfl)) rfl)) rfl)) rfl)) rfl) (by rw [hb17]; rfl))
   exact Xb rfl (Kg13 _ (Ag.put ((Ag.put ((Ag.ov ((Ag.put ((Ag.put ((Ag.put ((Ag.put ((Ag.put (Ag.base rfl) rfl)) rfl)) rfl)) rfl)) rfl)) rfl)) rfl)) rfl) (by rw [hb13]; rfl))
  refine Xs hb13 (Xf rfl (Xf rfl (Xf rfl (Xf rfl (Xf rfl (Xf rfl (Xf rfl (Xf rfl (Xf rfl (Xf rfl (Xf rfl (Xf rfl (Xf rfl (Xf rfl ?_))))))))))))))
  exact Xf rfl (Xb rfl (Kg13 _ (Ag.put ((Ag.put ((Ag.put ((Ag.put ((Ag.put ((Ag.put ((Ag.put ((Ag.put ((Ag.put ((Ag.put ((Ag.put ((Ag.put ((Ag.put ((Ag.put ((Ag.put ((Ag.put (Ag.base rfl) rfl)) rfl)) rfl)) rfl)) rfl)) rfl)) rfl)) rfl)) rfl)) rfl)) rfl)) rfl)) rfl)) rfl)) rfl)) rfl) (by rw [hb13]; rfl)))
 refine Xb rfl (dn ?_)
 exact re rfl func77 rfl (Xq rfl Xe) rfl ⟨_, rfl, rfl, z.ky (kp0.st (Xm p2 p5) rfl)⟩
def impl_KeyOk.f (a0 : Item) : Option (Bool) :=
 ((impl_ItemOk.f a0).bind fun r6 => (some ((r6 && (a0.Kind != (0 : Int))) && ((fcmp .f64 a0.F (0 : Nat) != some .eq) || ((a0.F : Int) == 0)))))
def impl_KeyOk.Q (w : World) (F : Nat → Prop) (r : Bool) (v : Value) (w' : World) : Prop :=
 v = (.bool r) ∧ Ky [] w w'
theorem impl_KeyOk.calls (a0 : Item) (w : World) (F : Nat → Prop) (w0_0 : Value) (w0_1 : Value) (h0_0 : Kd.flt.rd w [w0_0] a0.F F) (h0_1 : Yd.rd w [w0_1] a0.T F) (r : Bool) (m : impl_KeyOk.f a0 = some r) :
  Calls prog 57 #[(.agg #[(iI a0.Kind), (iI a0.N), w0_0, w0_1])] w (RT (impl_KeyOk.Q w F) r) := by
 obtain ⟨s0, rfl, kp0, z⟩ := Xj w F
 have A0_0 := fl_of h0_0
 refine Xd (args := [(.agg #[(iI a0.Kind), (iI a0.N), w0_0, w0_1])]) func57 ntmps57 rfl rfl m ?_
 unfold impl_KeyOk.f
 refine sr (bx' (cs := [(iI a0.Kind), (iI a0.N), w0_0, w0_1]) 40 rfl rfl (fun b2 s2 p2 B2 => ?_))
 refine Xb rfl (dn (sr (lda' (es := [(iI a0.Kind), (iI a0.N), w0_0, w0_1]) B2 u60 z60 rfl ?_)))
 have K4 := kp0.st p2 rfl
 refine clV 41 rfl func77 rfl (impl_ItemOk.calls a0 s2.w (mm [0] s2) w0_0 w0_1 ((Xl (s := s2) A0_0).sub (D := [0]) rfl) ((z.rd h0_1).kp K4)) (fun r6 s7 p7 n7 => ?_)
 refine Xb rfl (jy [5, 6, 7, 8, 9] [7, 8, 9, 10, 11, 12, 13, 14, 15, 16, 17, 18] 9 (.bool (r6 && (a0.Kind != (0 : Int)))) rfl (fun Kg8 => ?_) (fun j8 => ?_))
 ·
  rcases bft r6 with hb8 | hb8
  ·
   refine Xs hb8 (Xw fa60_0 rfl ?_)
   exact ld' (B2.st p7 rfl) u3 rfl (Xb rfl (Xb rfl (Kg8 _ (Ag.put ((Ag.put ((Ag.put ((Ag.put (Ag.base rfl) rfl)) rfl)) rfl)) rfl) (by rw [hb8]; rfl))))
  exact Xs hb8 (Xf rfl (Xf rfl (Xf rfl (Xb rfl (Kg8 _ (Ag.put ((Ag.put ((Ag.put ((Ag.put (Ag.base rfl) rfl)) rfl)) rfl)) rfl) (by rw [hb8]; rfl))))))
 refine Xb rfl (jy [10, 11, 12, 13, 14, 15, 16, 17, 18, 19, 20] [18] 20 (.bool ((r6 && (a0.Kind != (0 : Int))) && ((fcmp .f64 a0.F (0 : Nat) != some .eq) || ((a0.F : Int) == 0)))) rfl (fun Kg10 => ?_) (fun j10 => ?_))
 ·
  rcases bft (r6 && (a0.Kind != (0 : Int))) with hb10 | hb10
  ·
   refine Xs hb10 (Xw fa60_2 rfl ?_)
   have A11 := B2.st p7 rfl
   refine ld' A11 u58 rfl (fq_ A0_0 (fl_c rfl) rfl rfl rfl rfl rfl rfl rfl rfl (Xb rfl (jy [14, 15, 16, 17, 18, 19] [17, 18] 19 (.bool ((fcmp .f64 a0.F (0 : Nat) != some .eq) || ((a0.F : Int) == 0))) rfl (fun Kg12 => ?_) (fun j12 => ?_))))
   ·
    rcases bft (fcmp .f64 a0.F (0 : Nat) != some .eq) with hb12 | hb12
    ·
     exact Xs hb12 (Xf rfl (Xf rfl (Xf rfl (Xf rfl (Xb rfl (Kg12 _ (Ag.put ((Ag.put ((Ag.put ((Ag.put ((Ag.put (Ag.base rfl) rfl)) rfl)) rfl)) rfl)) rfl) (by rw [hb12]; rfl)))))))
    refine Xs hb12 (Xw fa60_2 rfl (ld' A11 u58 rfl (fbu A0_0 rfl rfl rfl rfl rfl func78 rfl rfl xn78 xf78 rfl (fun b13 A13 => ?_))))
    exact fz0 A13 rfl rfl rfl rfl rfl rfl rfl (Xb rfl (Kg12 _ (Ag.put ((Ag.put ((Ag.put ((Ag.put ((Ag.put (Ag.base rfl) rfl)) rfl)) rfl)) rfl)) rfl) (by rw [hb12]; rfl)))
   exact Xb rfl (Kg10 _ (Ag.put ((Ag.put ((Ag.ov ((Ag.put ((Ag.put ((Ag.put ((Ag.put (Ag.base rfl) rfl)) rfl)) rfl)) rfl)) rfl)) rfl)) rfl) (by rw [hb10]; rfl))
  exact Xs hb10 (Xf rfl (Xf rfl (Xf rfl (Xf rfl (Xf rfl (Xf rfl (Xf rfl (Xf rfl (Xf rfl (Xb rfl (Kg10 _ (Ag.put ((Ag.put ((Ag.put ((Ag.put ((Ag.put ((Ag.put ((Ag.put ((Ag.put ((Ag.put ((Ag.put (Ag.base rfl) rfl)) rfl)) rfl)) rfl)) rfl)) rfl)) rfl)) rfl)) rfl)) rfl) (by rw [hb10]; rfl))))))))))))
 refine Xb rfl (dn ?_)
 exact re rfl func57 rfl (Xq rfl Xe) rfl ⟨_, rfl, rfl, z.ky (K4.st p7 rfl)⟩
def cmp_isNaN_int.f (a0 : Int) : Option (Bool) :=
 (some (a0 != a0))
def cmp_isNaN_int.Q (w : World) (F : Nat → Prop) (r : Bool) (v : Value) (w' : World) : Prop :=
 v = (.bool r) ∧ Ky [] w w'
theorem cmp_isNaN_int.calls (a0 : Int) (w : World) (F : Nat → Prop)   (r : Bool) (m : cmp_isNaN_int.f a0 = some r) :
  Calls prog 92 #[(iI a0)] w (RT (cmp_isNaN_int.Q w F) r) := by
 obtain ⟨s0, rfl, kp0, z⟩ := Xj w F
 refine Xd (args := [(iI a0)]) func92 ntmps92 rfl rfl m ?_
 unfold cmp_isNaN_int.f
 exact sr (Xb rfl (dn (sr (Xb rfl (Xb rfl (Xb rfl (Xb rfl (dn (re rfl func92 rfl (Xq rfl Xe) rfl ⟨_, rfl, rfl, z.ky kp0⟩)))))))))
def cmp_Compare_int.f (a0 : Int) (a1 : Int) : Option (Int) :=
 ((cmp_isNaN_int.f a0).bind fun r1 => ((cmp_isNaN_int.f a1).bind fun r3 => (if r1 = true then (if r3 = true then (some (0 : Int)) else (some (-1 : Int))) else (if r3 = true then (some (1 : Int)) else (if (decide (a0 < a1)) = true then (some (-1 : Int)) else (if (decide (a0 > a1)) = true then (some (1 : Int)) else (some (0 : Int))))))))
def cmp_Compare_int.Q (w : World) (F : Nat → Prop) (r : Int) (v : Value) (w' : World) : Prop :=
 v = (iI r) ∧ Ky [] w w'
theorem cmp_Compare_int.calls (a0 : Int) (a1 : Int) (w : World) (F : Nat → Prop)   (r : Int) (m : cmp_Compare_int.f a0 a1 = some r) :
  Calls prog 87 #[(iI a0), (iI a1)] w (RT (cmp_Compare_int.Q w F) r) := by
 obtain ⟨s0, rfl, kp0, z⟩ := Xj w F
 refine Xd (args := [(iI a0), (iI a1)]) func87 ntmps87 rfl rfl m ?_
 unfold cmp_Compare_int.f
 refine sr (Xb rfl (dn (sr (Xb rfl (clV 40 rfl func92 rfl (cmp_isNaN_int.calls a0 s0.w (mm [] s0)) (fun r1 s2 p2 n2 => ?_))))))
 refine Xb rfl (dn (sr (Xb rfl (clV 41 rfl func92 rfl (cmp_isNaN_int.calls a1 s2.w (mm [] s2)) (fun r3 s4 p4 n4 => ?_)))))
 refine Xb rfl (dn (sq (sr (Xb rfl (dn (cd rfl (fun h5 => ?_) (fun h5 => ?_)))))))
 ·
  refine sq (sr (Xb rfl (dn (cd rfl (fun h6 => ?_) (fun h6 => ?_)))))
  ·
   refine sr (Xb rfl (dn ?_))
   exact re rfl func87 rfl (Xq rfl Xe) rfl ⟨_, rfl, rfl, z.ky (kp0.st (Xm p2 p4) rfl)⟩
  refine sk (sr (Xb rfl (dn ?_)))
  exact re rfl func87 rfl (Xq rfl Xe) rfl ⟨_, rfl, rfl, z.ky (kp0.st (Xm p2 p4) rfl)⟩
 refine sk (sq (sr (Xb rfl (dn (cd rfl (fun h9 => ?_) (fun h9 => ?_))))))
 ·
  refine sr (Xb rfl (dn ?_))
  exact re rfl func87 rfl (Xq rfl Xe) rfl ⟨_, rfl, rfl, z.ky (kp0.st (Xm p2 p4) rfl)⟩
 refine sk (sq (sr (Xb rfl (Xb rfl (Xb rfl (dn (cd rfl (fun h11 => ?_) (fun h11 => ?_))))))))
 ·
  refine sr (Xb rfl (dn ?_))
  exact re rfl func87 rfl (Xq rfl Xe) rfl ⟨_, rfl, rfl, z.ky (kp0.st (Xm p2 p4) rfl)⟩
 refine sk (sq (sr (Xb rfl (Xb rfl (Xb rfl (dn (cd rfl (fun h13 => ?_) (fun h13 => ?_))))))))
 ·
  refine sr (Xb rfl (dn ?_))
  exact re rfl func87 rfl (Xq rfl Xe) rfl ⟨_, rfl, rfl, z.ky (kp0.st (Xm p2 p4) rfl)⟩
 refine sk (sr (Xb rfl (dn ?_)))
 exact re rfl func87 rfl (Xq rfl Xe) rfl ⟨_, rfl, rfl, z.ky (kp0.st (Xm p2 p4) rfl)⟩
def impl_FloatRank.f (a0 : Nat) : Option (Int) :=
 (if (fcmp .f64 a0 a0 != some .eq) = true then (some (18446744073709551615 : Int)) else (if (fcmp .f64 a0 (0 : Nat) == some .eq) = true then (some (9223372036854775808 : Int)) else (if (fcmp .f64 a0 (0 : Nat) == some .gt) = true then (if isN a0 = false then (some (ior .u64 (a0 : Int) (9223372036854775808 : Int))) else none) else (if isN a0 = false then (some (ixor .u64 (IntKind.max .u64) (a0 : Int))) else none))))
def impl_FloatRank.Q (w : World) (F : Nat → Prop) (r : Int) (v : Value) (w' : World) : Prop :=
 v = (.int .u64 r) ∧ Ky [] w w'
theorem impl_FloatRank.calls (a0 : Nat) (w : World) (F : Nat → Prop) (w0_0 : Value) (h0_0 : Kd.flt.rd w [w0_0] a0 F) (r : Int) (m : impl_FloatRank.f a0 = some r) :
  Calls prog 94 #[w0_0] w (RT (impl_FloatRank.Q w F) r) := by
 obtain ⟨s0, rfl, kp0, z⟩ := Xj w F
 have A0_0 := fl_of h0_0
 refine Xd (args := [w0_0]) func94 ntmps94 rfl rfl m ?_
 unfold impl_FloatRank.f
 refine sr (Xb rfl (dn (sq (bl (sr (Xp w0_0 rfl (Xp w0_0 rfl (fq_ A0_0 A0_0 rfl rfl rfl rfl rfl rfl rfl rfl (Xb rfl (dn (cd rfl (fun h1 => ?_) (fun h1 => ?_))))))))))))
 ·
  exact sr (Xb rfl (dn (re rfl func94 rfl (Xq rfl Xe) rfl ⟨_, rfl, rfl, z.ky kp0⟩)))
 refine sr (Xp w0_0 rfl (fq_ A0_0 (fl_c rfl) rfl rfl rfl rfl rfl rfl rfl rfl (Xb rfl (dn (cd rfl (fun h2 => ?_) (fun h2 => ?_))))))
 ·
  exact sr (Xb rfl (dn (re rfl func94 rfl (Xq rfl Xe) rfl ⟨_, rfl, rfl, z.ky kp0⟩)))
 refine sr (Xp w0_0 rfl (fq_ A0_0 (fl_c rfl) rfl rfl rfl rfl rfl rfl rfl rfl (Xb rfl (dn (cd rfl (fun h3 => ?_) (fun h3 => ?_))))))
 ·
  exact sr (Xp w0_0 rfl (fb_ A0_0 rfl rfl rfl rfl rfl func78 rfl rfl xn78 xf78 rfl (Xb rfl (Xb rfl (dn (re rfl func94 rfl (Xq rfl Xe) rfl ⟨_, rfl, rfl, z.ky kp0⟩))))))
 exact sk (ib (sr (Xp w0_0 rfl (fb_ A0_0 rfl rfl rfl rfl rfl func78 rfl rfl xn78 xf78 rfl (Xb rfl (Xb rfl (dn (re rfl func94 rfl (Xq rfl Xe) rfl ⟨_, rfl, rfl, z.ky kp0⟩))))))))
def cmp_isNaN_uint64.f (a0 : Int) : Option (Bool) :=
 (some (a0 != a0))
def cmp_isNaN_uint64.Q (w : World) (F : Nat → Prop) (r : Bool) (v : Value) (w' : World) : Prop :=
 v = (.bool r) ∧ Ky [] w w'
theorem cmp_isNaN_uint64.calls (a0 : Int) (w : World) (F : Nat → Prop)   (r : Bool) (m : cmp_isNaN_uint64.f a0 = some r) :
  Calls prog 96 #[(.int .u64 a0)] w (RT (cmp_isNaN_uint64.Q w F) r) := by
 obtain ⟨s0, rfl, kp0, z⟩ := Xj w F
 refine Xd (args := [(.int .u64 a0)]) func96 ntmps96 rfl rfl m ?_
 unfold cmp_isNaN_uint64.f
 exact sr (Xb rfl (dn (sr (Xb rfl (Xb rfl (Xb rfl (Xb rfl (dn (re rfl func96 rfl (Xq rfl Xe) rfl ⟨_, rfl, rfl, z.ky kp0⟩)))))))))
def cmp_Compare_uint64.f (a0 : Int) (a1 : Int) : Option (Int) :=
 ((cmp_isNaN_uint64.f a0).bind fun r1 => ((cmp_isNaN_uint64.f a1).bind fun r3 => (if r1 = true then (if r3 = true then (some (0 : Int)) else (some (-1 : Int))) else (if r3 = true then (some (1 : Int)) else (if (decide (a0 < a1)) = true then (some (-1 : Int)) else (if (decide (a0 > a1)) = true then (some (1 : Int)) else (some (0 : Int))))))))
def cmp_Compare_uint64.Q (w : World) (F : Nat → Prop) (r : Int) (v : Value) (w' : World) : Prop :=
 v = (iI r) ∧ Ky [] w w'
theorem cmp_Compare_uint64.calls (a0 : Int) (a1 : Int) (w : World) (F : Nat → Prop)   (r : Int) (m : cmp_Compare_uint64.f a0 a1 = some r) :
  Calls prog 93 #[(.int .u64 a0), (.int .u64 a1)] w (RT (cmp_Compare_uint64.Q w F) r) := by
 obtain ⟨s0, rfl, kp0, z⟩ := Xj w F
 refine Xd (args := [(.int .u64 a0), (.int .u64 a1)]) func93 ntmps93 rfl rfl m ?_
 unfold cmp_Compare_uint64.f
 refine sr (Xb rfl (dn (sr (Xb rfl (clV 40 rfl func96 rfl (cmp_isNaN_uint64.calls a0 s0.w (mm [] s0)) (fun r1 s2 p2 n2 => ?_))))))
 refine Xb rfl (dn (sr (Xb rfl (clV 41 rfl func96 rfl (cmp_isNaN_uint64.calls a1 s2.w (mm [] s2)) (fun r3 s4 p4 n4 => ?_)))))
 refine Xb rfl (dn (sq (sr (Xb rfl (dn (cd rfl (fun h5 => ?_) (fun h5 => ?_)))))))
 ·
  refine sq (sr (Xb rfl (dn (cd rfl (fun h6 => ?_) (fun h6 => ?_)))))
  ·
   refine sr (Xb rfl (dn ?_))
   exact re rfl func93 rfl (Xq rfl Xe) rfl ⟨_, rfl, rfl, z.ky (kp0.st (Xm p2 p4) rfl)⟩
  refine sk (sr (Xb rfl (dn ?_)))
  exact re rfl func93 rfl (Xq rfl Xe) rfl ⟨_, rfl, rfl, z.ky (kp0.st (Xm p2 p4) rfl)⟩
 refine sk (sq (sr (Xb rfl (dn (cd rfl (fun h9 => ?_) (fun h9 => ?_))))))
 ·
  refine sr (Xb rfl (dn ?_))
  exact re rfl func93 rfl (Xq rfl Xe) rfl ⟨_, rfl, rfl, z.ky (kp0.st (Xm p2 p4) rfl)⟩
 refine sk (sq (sr (Xb rfl (Xb rfl (Xb rfl (dn (cd rfl (fun h11 => ?_) (fun h11 => ?_))))))))
 ·
  refine sr (Xb rfl (dn ?_))
  exact re rfl func93 rfl (Xq rfl Xe) rfl ⟨_, rfl, rfl, z.ky (kp0.st (Xm p2 p4) rfl)⟩
 refine sk (sq (sr (Xb rfl (Xb rfl (Xb rfl (dn (cd rfl (fun h13 => ?_) (fun h13 => ?_))))))))
 ·
  refine sr (Xb rfl (dn ?_))
  exact re rfl func93 rfl (Xq rfl Xe) rfl ⟨_, rfl, rfl, z.ky (kp0.st (Xm p2 p4) rfl)⟩
 refine sk (sr (Xb rfl (dn ?_)))
 exact re rfl func93 rfl (Xq rfl Xe) rfl ⟨_, rfl, rfl, z.ky (kp0.st (Xm p2 p4) rfl)⟩
def impl_FloatCompare.f (a0 : Nat) (a1 : Nat) : Option (Int) :=
 ((impl_FloatRank.f a0).bind fun r1 => ((impl_FloatRank.f a1).bind fun r3 => ((cmp_Compare_uint64.f r1 r3).bind fun r5 => (some r5))))
def impl_FloatCompare.Q (w : World) (F : Nat → Prop) (r : Int) (v : Value) (w' : World) : Prop :=
 v = (iI r) ∧ Ky [] w w'
theorem impl_FloatCompare.calls (a0 : Nat) (a1 : Nat) (w : World) (F : Nat → Prop) (w0_0 : Value) (w1_0 : Value) (h0_0 : Kd.flt.rd w [w0_0] a0 F) (h1_0 : Kd.flt.rd w [w1_0] a1 F) (r : Int) (m : impl_FloatCompare.f a0 a1 = some r) :
  Calls prog 88 #[w0_0, w1_0] w (RT (impl_FloatCompare.Q w F) r) := by
 obtain ⟨s0, rfl, kp0, z⟩ := Xj w F
 refine Xd (args := [w0_0, w1_0]) func88 ntmps88 rfl rfl m ?_
 unfold impl_FloatCompare.f
 refine sr (Xb rfl (dn (sr (Xp w0_0 rfl (clV 40 rfl func94 rfl (impl_FloatRank.calls a0 s0.w (mm [] s0) w0_0 (Xl (s := s0) (fl_of h0_0))) (fun r1 s2 p2 n2 => ?_))))))
 refine Xp w1_0 rfl (clV 41 rfl func94 rfl (impl_FloatRank.calls a1 s2.w (mm [] s2) w1_0 (Xl (s := s2) (fl_of h1_0))) (fun r3 s4 p4 n4 => ?_))
 refine clV 42 rfl func93 rfl (cmp_Compare_uint64.calls r1 r3 s4.w (mm [] s4)) (fun r5 s6 p6 n6 => ?_)
 refine Xb rfl (dn ?_)
 exact re rfl func88 rfl (Xq rfl Xe) rfl ⟨_, rfl, rfl, z.ky (kp0.st (Yb p2 p4 p6) rfl)⟩
def bytes_Compare.f (a0 : (List Int)) (a1 : (List Int)) : Option (Int) :=
 (some (bcmpS a0 a1))
def bytes_Compare.Q (w : World) (F : Nat → Prop) (r : Int) (v : Value) (w' : World) : Prop :=
 v = (iI r) ∧ Ky [] w w'
theorem bytes_Compare.calls (a0 : (List Int)) (a1 : (List Int)) (w : World) (F : Nat → Prop) (w0_0 : Value) (w1_0 : Value) (h0_0 : Yd.rd w [w0_0] a0 F) (h1_0 : Yd.rd w [w1_0] a1 F) (r : Int) (m : bytes_Compare.f a0 a1 = some r) :
  Calls prog 89 #[w0_0, w1_0] w (RT (bytes_Compare.Q w F) r) := by
 obtain ⟨s0, rfl, kp0, z⟩ := Xj w F
 refine Xd (args := [w0_0, w1_0]) func89 ntmps89 rfl rfl m ?_
 unfold bytes_Compare.f
 exact sr (Xb rfl (dn (sr (Xp w0_0 rfl (Xp w1_0 rfl (bcx (z.rd h0_0) (z.rd h1_0) rfl rfl rfl rfl rfl func95 rfl rfl xn95 xf95 rfl rfl (Xb rfl (dn (re rfl func89 rfl (Xq rfl Xe) rfl ⟨_, rfl, rfl, z.ky kp0⟩)))))))))
def cmp_Or_int.b0 (a0 : (List Int)) (x2 : Int) : Option (Int ⊕ Int) :=
 (if (decide (x2 < (a0.length : Int))) = true then (if 0 ≤ x2 ∧ x2 < (a0.length : Int) then (if ((at_ a0 x2) != (0 : Int)) = true then (some (Sum.inr (at_ a0 x2))) else (some (Sum.inl (IntKind.wrap .i64 (x2 + (1 : Int)))))) else none) else ((some (0 : Int)).bind fun o => some (Sum.inr o)))
def cmp_Or_int.f (a0 : (List Int)) : Option (Int) :=
 (iter (cmp_Or_int.b0 a0) (0 : Int))
def cmp_Or_int.Q (w : World) (F : Nat → Prop) (r : Int) (v : Value) (w' : World) : Prop :=
 v = (iI r) ∧ Ky [] w w'
theorem cmp_Or_int.calls (a0 : (List Int)) (w : World) (F : Nat → Prop) (w0_0 : Value) (h0_0 : (Kd.sl 3 (Kd.int .i64)).rd w [w0_0] a0 F) (r : Int) (m : cmp_Or_int.f a0 = some r) :
  Calls prog 86 #[w0_0] w (RT (cmp_Or_int.Q w F) r) := by
 obtain ⟨s0, rfl, kp0, z⟩ := Xj w F
 have A0_0 := z.rd h0_0
 refine Xd (args := [w0_0]) func86 ntmps86 rfl rfl m ?_
 unfold cmp_Or_int.f
 refine sr (Xb rfl (dn (sr (Xb rfl (dn (sq (sr (Xp w0_0 rfl (ln' A0_0 u67 rfl (Xb rfl (dn (bl (lpI (fun (x2 : Int) e w => ∃ (s : St) (e0 : Env), w = s.w ∧ e = upd (upd (upd (upd e0 3 (iI 0)) 6 w0_0) 7 (iI (a0.length : Int))) 8 (iI x2) ∧ Kp s0 s) ⟨s0, _, rfl, (ue (ue (ue (ue rfl rfl) rfl) rfl) rfl), kp0⟩ (fun g2 ih2 => ?_))))))))))))))
 rintro x2 _ _ ⟨s3, _, rfl, rfl, Kx2⟩
 unfold cmp_Or_int.b0
 refine sr (Xb rfl (dn (sq (cd rfl (fun h4 => ?_) (fun h4 => ?_)))))
 ·
  refine sk (sq (bl (sr ?_)))
  refine ix' (A0_0.kp Kx2) u67 z3 rfl (fun ad6 es6 h0_6 h1_6 he6 ce6 ia6 => ?_)
  obtain rfl := he6
  refine lc0 ce6 u3 rfl rfl rfl rfl rfl rfl rfl rfl (Xb rfl (dn (sr (Xb rfl (Xb rfl (Xb rfl (dn (cd rfl (fun h8 => ?_) (fun h8 => ?_)))))))))
  ·
   exact sr (Xb rfl (Xb rfl (dn (sgi (re rfl func86 rfl (Xq rfl Xe) rfl ⟨_, rfl, rfl, z.ky Kx2⟩)))))
  exact sk (ib (rg (Xb rfl (Xb rfl (dn (lb ih2 ⟨s3, _, rfl, (ue (ue (ue (ue rfl rfl) rfl) rfl) rfl), Kx2⟩))))))
 exact xt rfl (sgb (sr (Xb rfl (Xb rfl (dn (re rfl func86 rfl (Xq rfl Xe) rfl ⟨_, rfl, rfl, z.ky Kx2⟩))))))
def impl_compareItems.f (a0 : Item) (a1 : Item) : Option (Int) :=
 ((cmp_Compare_int.f a0.Kind a1.Kind).bind fun r41 => ((cmp_Compare_int.f a0.N a1.N).bind fun r51 => ((impl_FloatCompare.f a0.F a1.F).bind fun r59 => ((bytes_Compare.f a0.T a1.T).bind fun r67 => ((cmp_Or_int.f ([r41, r51, r59, r67])).bind fun r71 => (some r71))))))
def impl_compareItems.Q (w : World) (F : Nat → Prop) (r : Int) (v : Value) (w' : World) : Prop :=
 v = (iI r) ∧ Ky [] w w'
theorem impl_compareItems.calls (a0 : Item) (a1 : Item) (w : World) (F : Nat → Prop) (w0_0 : Value) (w0_1 : Value) (w1_0 : Value) (w1_1 : Value) (h0_0 : Kd.flt.rd w [w0_0] a0.F F) (h0_1 : Yd.rd w [w0_1] a0.T F) (h1_0 : Kd.flt.rd w [w1_0] a1.F F) (h1_1 : Yd.rd w [w1_1] a1.T F) (r : Int) (m : impl_compareItems.f a0 a1 = some r) :
  Calls prog 74 #[(.agg #[(iI a0.Kind), (iI a0.N), w0_0, w0_1]), (.agg #[(iI a1.Kind), (iI a1.N), w1_0, w1_1])] w (RT (impl_compareItems.Q w F) r) := by
 obtain ⟨s0, rfl, kp0, z⟩ := Xj w F
 refine Xd (args := [(.agg #[(iI a0.Kind), (iI a0.N), w0_0, w0_1]), (.agg #[(iI a1.Kind), (iI a1.N), w1_0, w1_1])]) func74 ntmps74 rfl rfl m ?_
 unfold impl_compareItems.f
 refine sr (bx' (cs := [(iI a0.Kind), (iI a0.N), w0_0, w0_1]) 40 rfl rfl (fun b3 s3 p3 B3 => ?_))
 refine bx' (cs := [(iI a1.Kind), (iI a1.N), w1_0, w1_1]) 41 rfl rfl (fun b5 s5 p5 B5 => ?_)
 refine Xb rfl (dn (sq (zdraw [[], [0], [], [2], [1, 3], [], [5], [], [7], [6, 8, 4], [], [10], [], [12], [11, 13, 9], [], [15], [], [17], [16, 18, 14], [4, 9, 14, 19], [20, 19], [21, 21, 0, 1, 2, 3, 4, 5, 6, 7, 8, 9, 10, 11, 12, 13, 14, 15, 16, 17, 18, 19, 20, 21]] [some 5, some 6, some 7, some 8, some 9, some 10, some 11, some 12, some 13, some 14, some 15, some 16, some 17, some 18, some 19, some 20, some 21, some 22, some 23, some 24, some 25, some 26, some 4] [[2], [5], [3], [7], [6, 8], [2], [10], [3], [12], [11, 13], [2], [15], [3], [17], [16, 18], [2], [20], [3], [22], [21, 23], [9, 14, 19, 24], [25], [26]] [0, 1, 2, 3, 4, 5, 6, 7, 8, 9, 10, 11, 12, 13, 14, 15, 16, 17, 18, 19, 20, 21, 22] ⟨by kernel_rfl, by kernel_rfl, by kernel_rfl⟩ (by kernel_rfl) (fun s7 p7 l7 tb7 zd7 => ?_))))
 have zd10 := (zd7.add 0 5 (pB b3) rfl).add 1 6 (iI a0.Kind) rfl
 refine zstep 4 [some 23, some 22, some 21, some 20, some 18, some 17, some 16, some 15, some 13, some 12, some 11, some 10] tb7 ((((((((((((((zd10.add 2 7 (pB b5) rfl).add 3 8 (iI a1.Kind) rfl).add 5 10 (pO b3 1) rfl).add 6 11 (iI a0.N) rfl).add 7 12 (pO b5 1) rfl).add 8 13 (iI a1.N) rfl).add 10 15 (pO b3 2) rfl).add 11 16 w0_0 rfl).add 12 17 (pO b5 2) rfl).add 13 18 w1_0 rfl).add 15 20 (pO b3 3) rfl).add 16 21 w0_1 rfl).add 17 22 (pO b5 3) rfl).add 18 23 w1_1 rfl) (Xa (Ya (B5.st p7 rfl) u22 rfl) rfl (Xa (Xo fa60_3 rfl) rfl (Xa (Ya (B3.st (Xm p5 p7) rfl) u22 rfl) rfl (Xa (Xo fa60_3 rfl) rfl (Xa (Ya (B5.st p7 rfl) u58 rfl) rfl (Xa (Xo fa60_2 rfl) rfl (Xa (Ya (B3.st (Xm p5 p7) rfl) u58 rfl) rfl (Xa (Xo fa60_2 rfl) rfl (Xa (Ya (B5.st p7 rfl) u3 rfl) rfl (Xa (Xo fa60_1 rfl) rfl (Xa (Ya (B3.st (Xm p5 p7) rfl) u3 rfl) rfl (Xa (Xo fa60_1 rfl) rfl (Xa (Ya (B5.st p7 rfl) u3 rfl) rfl (Xa (Xo fa60_0 rfl) rfl (Xa (Ya (B3.st (Xm p5 p7) rfl) u3 rfl) rfl (Xa (Xo fa60_0 rfl) rfl Xk)))))))))))))))) (by kernel_rfl) rfl (fun l32 e32 zd32 => ?_)
 refine clV 42 rfl func87 rfl (cmp_Compare_int.calls a0.Kind a1.Kind s7.w (mm [] s7)) (fun r41 s42 p42 n42 => ?_)
 refine zdone (L' := [18, 17, 16, 15, 13, 12, 11, 10, 8, 7, 6, 5]) (D' := [0, 2, 1, 3, 4]) zd32 rfl rfl rfl (fun zd43 => ?_)
 refine zstep 9 [some 23, some 22, some 21, some 20, some 18, some 17, some 16, some 15] tb7 zd43 (Xa (Ya (B5.st (Xm p7 p42) rfl) u22 rfl) rfl (Xa (Xo fa60_3 rfl) rfl (Xa (Ya (B3.st (Yb p5 p7 p42) rfl) u22 rfl) rfl (Xa (Xo fa60_3 rfl) rfl (Xa (Ya (B5.st (Xm p7 p42) rfl) u58 rfl) rfl (Xa (Xo fa60_2 rfl) rfl (Xa (Ya (B3.st (Yb p5 p7 p42) rfl) u58 rfl) rfl (Xa (Xo fa60_2 rfl) rfl (Xa (Ya (B5.st (Xm p7 p42) rfl) u3 rfl) rfl (Xa (Xo fa60_1 rfl) rfl (Xa (Ya (B3.st (Yb p5 p7 p42) rfl) u3 rfl) rfl (Xa (Xo fa60_1 rfl) rfl Xk)))))))))))) (by kernel_rfl) rfl (fun l44 e44 zd44 => ?_)
 refine clV 43 rfl func87 rfl (cmp_Compare_int.calls a0.N a1.N s42.w (mm [] s42)) (fun r51 s52 p52 n52 => ?_)
 refine zdone (L' := [18, 17, 16, 15, 13, 12, 11, 10]) (D' := [5, 7, 6, 8, 9, 0, 2, 1, 3, 4]) zd44 rfl rfl rfl (fun zd53 => ?_)
 refine zstep 14 [some 23, some 22, some 21, some 20] tb7 zd53 (Xa (Ya (B5.st (Yb p7 p42 p52) rfl) u22 rfl) rfl (Xa (Xo fa60_3 rfl) rfl (Xa (Ya (B3.st (tr4 p5 p7 p42 p52) rfl) u22 rfl) rfl (Xa (Xo fa60_3 rfl) rfl (Xa (Ya (B5.st (Yb p7 p42 p52) rfl) u58 rfl) rfl (Xa (Xo fa60_2 rfl) rfl (Xa (Ya (B3.st (tr4 p5 p7 p42 p52) rfl) u58 rfl) rfl (Xa (Xo fa60_2 rfl) rfl Xk)))))))) (by kernel_rfl) rfl (fun l54 e54 zd54 => ?_)
 refine clV 44 rfl func88 rfl (impl_FloatCompare.calls a0.F a1.F s52.w (mm [] s52) w0_0 w1_0 (Xl (s := s52) (fl_of h0_0)) (Xl (s := s52) (fl_of h1_0))) (fun r59 s60 p60 n60 => ?_)
 refine zdone (L' := [18, 17, 16, 15]) (D' := [10, 12, 11, 13, 14, 5, 7, 6, 8, 9, 0, 2, 1, 3, 4]) zd54 rfl rfl rfl (fun zd61 => ?_)
 refine zfin [19, 20, 21, 22] tb7 zd61 (Xa (Ya (B5.st (tr4 p7 p42 p52 p60) rfl) u22 rfl) rfl (Xa (Xo fa60_3 rfl) rfl (Xa (Ya (B3.st (tr5 p5 p7 p42 p52 p60) rfl) u22 rfl) rfl (Xa (Xo fa60_3 rfl) rfl Xk)))) (by kernel_rfl) (by decide) ?_
 have K64 := kp0.st (tr6 p3 p5 p7 p42 p52 p60) rfl
 refine clV 45 rfl func89 rfl (bytes_Compare.calls a0.T a1.T s60.w (mm [0] s60) w0_1 w1_1 ((z.rd h0_1).kp K64) ((z.rd h1_1).kp K64)) (fun r67 s68 p68 n68 => ?_)
 refine ltF (K := (Kd.int .i64)) (cells := [(iI r41), (iI r51), (iI r59), (iI r67)]) [r41, r51, r59, r67] 46 fl_int u67 z3 o3 (fun w => (els_flat _ _ _)) rfl rfl rfl rfl rfl rfl rfl rfl rfl rfl (fun v69 s69 p69 A69 => ?_)
 refine clV 47 rfl func86 rfl (cmp_Or_int.calls ([r41, r51, r59, r67]) s69.w (mm [46] s69) v69 A69.rd) (fun r71 s72 p72 n72 => ?_)
 refine Xb rfl (dn ?_)
 exact re rfl func74 rfl (Xq rfl Xe) rfl ⟨_, rfl, rfl, z.ky (K64.st (Yb p68 p69 p72) rfl)⟩
def impl_SpanOk.f (a0 : Span) : Option (Bool) :=
 ((impl_KeyOk.f a0.From).bind fun r7 => ((if r7 = true then ((impl_KeyOk.f a0.To).bind fun r13 => (some r13)) else (some false)).bind fun y9 => ((if y9 = true then ((impl_compareItems.f a0.From a0.To).bind fun r24 => (some (decide (r24 ≤ (0 : Int))))) else (some false)).bind fun y21 => (some y21))))
def impl_SpanOk.Q (w : World) (F : Nat → Prop) (r : Bool) (v : Value) (w' : World) : Prop :=
 v = (.bool r) ∧ Ky [] w w'
theorem impl_SpanOk.calls (a0 : Span) (w : World) (F : Nat → Prop) (w0_0 : Value) (w0_1 : Value) (w0_2 : Value) (w0_3 : Value) (h0_0 : Kd.flt.rd w [w0_0] a0.From.F F) (h0_1 : Yd.rd w [w0_1] a0.From.T F) (h0_2 : Kd.flt.rd w [w0_2] a0.To.F F) (h0_3 : Yd.rd w [w0_3] a0.To.T F) (r : Bool) (m : impl_SpanOk.f a0 = some r) :
  Calls prog 55 #[(.agg #[(iI a0.From.Kind), (iI a0.From.N), w0_0, w0_1, (iI a0.To.Kind), (iI a0.To.N), w0_2, w0_3])] w (RT (impl_SpanOk.Q w F) r) := by
 obtain ⟨s0, rfl, kp0, z⟩ := Xj w F
 have A0_0 := fl_of h0_0
 have A0_1 := z.rd h0_1
 have A0_2 := fl_of h0_2
 have A0_3 := z.rd h0_3
 refine Xd (args := [(.agg #[(iI a0.From.Kind), (iI a0.From.N), w0_0, w0_1, (iI a0.To.Kind), (iI a0.To.N), w0_2, w0_3])]) func55 ntmps55 rfl rfl m ?_
 unfold impl_SpanOk.f
 refine sr (bx' (cs := [(iI a0.From.Kind), (iI a0.From.N), w0_0, w0_1, (iI a0.To.Kind), (iI a0.To.N), w0_2, w0_3]) 40 rfl rfl (fun b3 s3 p3 B3 => ?_))
 refine Xb rfl (dn (sr (Xw fa62_0 rfl (lda' (es := [(iI a0.From.Kind), (iI a0.From.N), w0_0, w0_1]) B3 u60 z60 rfl ?_))))
 have K5 := kp0.st p3 rfl
 refine clV 41 rfl func57 rfl (impl_KeyOk.calls a0.From s3.w (mm [0] s3) w0_0 w0_1 ((Xl (s := s3) A0_0).sub (D := [0]) rfl) (A0_1.kp K5)) (fun r7 s8 p8 n8 => ?_)
 refine Xb rfl (ji [8, 9, 10, 11, 12, 13, 14, 15, 16] (fun (y9 : Bool) e w => ∃ (s : St) (e0 : Env), w = s.w ∧ e = upd (upd e0 1 (pB b3)) 10 (.bool y9) ∧ Kp s0 s ∧ BlF s b3 62 [(iI a0.From.Kind), (iI a0.From.N), w0_0, w0_1, (iI a0.To.Kind), (iI a0.To.N), w0_2, w0_3] 40) (fun Gj9 Kj9 => ?_) ?_)
 ·
  rcases bft r7 with hb9 | hb9
  ·
   refine Xs hb9 ?_
   rw [if_pos hb9]
   refine Xw fa62_1 rfl ?_
   have A10 := B3.st p8 rfl
   refine lda' (es := [(iI a0.To.Kind), (iI a0.To.N), w0_2, w0_3]) A10 u60 z60 rfl ?_
   have K11 := K5.st p8 rfl
   refine clV 42 rfl func57 rfl (impl_KeyOk.calls a0.To s8.w (mm [0] s8) w0_2 w0_3 ((Xl (s := s8) A0_2).sub (D := [0]) rfl) (A0_3.kp K11)) (fun r13 s14 p14 n14 => ?_)
   exact Xb rfl (Kj9 _ _ _ ⟨s14, _, rfl, (ue (ue rfl rfl) rfl), (K11.st p14 rfl), (A10.st p14 rfl)⟩)
  refine Xs hb9 ?_
  rw [if_neg (by rw [hb9]; decide)]
  refine Xf rfl (Xf rfl (Xf rfl (Xb rfl ?_)))
  exact Kj9 _ _ _ ⟨s8, _, rfl, (ue (ue rfl rfl) rfl), (K5.st p8 rfl), (B3.st p8 rfl)⟩
 rintro y9 _ _ ⟨s19, _, rfl, rfl, Ky9, By9_b3⟩
 refine Xb rfl (ji [16] (fun (y21 : Bool) e w => ∃ (s : St) (e0 : Env), w = s.w ∧ e = upd e0 18 (.bool y21) ∧ Kp s0 s) (fun Gj21 Kj21 => ?_) ?_)
 ·
  rcases bft y9 with hb21 | hb21
  ·
   refine Xs hb21 ?_
   rw [if_pos hb21]
   refine Xw fa62_0 rfl (lda' (es := [(iI a0.From.Kind), (iI a0.From.N), w0_0, w0_1]) By9_b3 u60 z60 rfl (Xw fa62_1 rfl (lda' (es := [(iI a0.To.Kind), (iI a0.To.N), w0_2, w0_3]) By9_b3 u60 z60 rfl ?_)))
   refine clV 43 rfl func74 rfl (impl_compareItems.calls a0.From a0.To s19.w (mm [0] s19) w0_0 w0_1 w0_2 w0_3 ((Xl (s := s19) A0_0).sub (D := [0]) rfl) (A0_1.kp Ky9) ((Xl (s := s19) A0_2).sub (D := [0]) rfl) (A0_3.kp Ky9)) (fun r24 s25 p25 n25 => ?_)
   refine Xb rfl (Xb rfl ?_)
   exact Kj21 _ _ _ ⟨s25, _, rfl, (ue rfl rfl), (Ky9.st p25 rfl)⟩
  refine Xs hb21 ?_
  rw [if_neg (by rw [hb21]; decide)]
  exact Xf rfl (Xf rfl (Xf rfl (Xf rfl (Xf rfl (Xf rfl (Xb rfl (Kj21 _ _ _ ⟨s19, _, rfl, (ue rfl rfl), Ky9⟩)))))))
 rintro y21 _ _ ⟨s27, _, rfl, rfl, Ky21⟩
 exact Xb rfl (dn (re rfl func55 rfl (Xq rfl Xe) rfl ⟨_, rfl, rfl, z.ky Ky21⟩))
def impl_areAll_impl_Item_1.f (a0 : Item) (a1 : (Item → Option Bool)) : Option (Bool) :=
 ((a1 a0).bind fun r8 => (some (!r8)))
def impl_areAll_impl_Item_1.Q (w : World) (F : Nat → Prop) (r : Bool) (v : Value) (w' : World) : Prop :=
 v = (.bool r) ∧ Ky [] w w'
theorem impl_areAll_impl_Item_1.calls (a0 : Item) (a1 : (Item → Option Bool)) (w : World) (F : Nat → Prop) (w0_0 : Value) (w0_1 : Value) (c1 : Nat) (f1 : Value) (h0_0 : Kd.flt.rd w [w0_0] a0.F F) (h0_1 : Yd.rd w [w0_1] a0.T F) (hf1 : ∀ (x0 : Item) (u0_0 u0_1 : Value) (w' : World), Ky [] w w' → Kd.flt.rd w' [u0_0] x0.F (fun _ => True) → Yd.rd w' [u0_1] x0.T (fun _ => True) → ∀ r, a1 x0 = some r → CallV prog f1 [(.agg #[(iI x0.Kind), (iI x0.N), u0_0, u0_1])] w' fun en w'' => ∃ v, en = .returned v ∧ v = (.bool r) ∧ Ky [] w' w'') (ho1 : f1.cells = #[f1]) (hb1 : BlW w c1 74 [f1]) (hp1 : F c1) (r : Bool) (m : impl_areAll_impl_Item_1.f a0 a1 = some r) :
  Calls prog 76 #[(.agg #[(iI a0.Kind), (iI a0.N), w0_0, w0_1]), (pB c1)] w (RT (impl_areAll_impl_Item_1.Q w F) r) := by
 obtain ⟨s0, rfl, kp0, z⟩ := Xj w F
 refine Xd (args := [(.agg #[(iI a0.Kind), (iI a0.N), w0_0, w0_1]), (pB c1)]) func76 ntmps76 rfl rfl m ?_
 unfold impl_areAll_impl_Item_1.f
 refine sr (bx' (cs := [(iI a0.Kind), (iI a0.N), w0_0, w0_1]) 40 rfl rfl (fun b3 s3 p3 B3 => ?_))
 refine Xb rfl (dn (sr ?_))
 refine ld' (BlF.st (z.b0 hb1 hp1) p3 rfl) u74 rfl (lda' (es := [(iI a0.Kind), (iI a0.N), w0_0, w0_1]) B3 u60 z60 rfl ?_)
 have K6 := kp0.st p3 rfl
 refine clv rfl rfl rfl rfl rfl rfl rfl (fun r8 m8 => hf1 a0 w0_0 w0_1 s3.w (z.ky K6) (fl_rd (fl_of h0_0)) (RdF.top ((z.rd h0_1).kp K6)) r8 m8) ?_
 rintro r8 _ w8 m8 ⟨rfl, ky8⟩
 obtain ⟨s9, rfl, p9, n9⟩ := nwx s3 w8 41 ky8
 refine Xb rfl (Xb rfl (dn ?_))
 exact re rfl func76 rfl (Xq rfl Xe) rfl ⟨_, rfl, rfl, z.ky (K6.st p9 rfl)⟩
def slices_IndexFunc_impl_Item_impl_Item.b0 (a0 : (List Item)) (a1 : (Item → Option Bool)) (x2 : Int) : Option (Int ⊕ Int) :=
 (if (decide (x2 < (a0.length : Int))) = true then (if 0 ≤ x2 ∧ x2 < (a0.length : Int) then ((a1 (at_ a0 x2)).bind fun r9 => (if r9 = true then (some (Sum.inr x2)) else (some (Sum.inl (IntKind.wrap .i64 (x2 + (1 : Int))))))) else none) else ((some (-1 : Int)).bind fun o => some (Sum.inr o)))
def slices_IndexFunc_impl_Item_impl_Item.f (a0 : (List Item)) (a1 : (Item → Option Bool)) : Option (Int) :=
 (iter (slices_IndexFunc_impl_Item_impl_Item.b0 a0 a1) (0 : Int))
def slices_IndexFunc_impl_Item_impl_Item.Q (w : World) (F : Nat → Prop) (r : Int) (v : Value) (w' : World) : Prop :=
 v = (iI r) ∧ Ky [] w w'
theorem slices_IndexFunc_impl_Item_impl_Item.calls (a0 : (List Item)) (a1 : (Item → Option Bool)) (w : World) (F : Nat → Prop) (w0_0 : Value) (f1 : Value) (h0_0 : Ye.rd w [w0_0] a0 F) (hf1 : ∀ (x0 : Item) (u0_0 u0_1 : Value) (w' : World), Ky [] w w' → Kd.flt.rd w' [u0_0] x0.F (fun _ => True) → Yd.rd w' [u0_1] x0.T (fun _ => True) → ∀ r, a1 x0 = some r → CallV prog f1 [(.agg #[(iI x0.Kind), (iI x0.N), u0_0, u0_1])] w' fun en w'' => ∃ v, en = .returned v ∧ v = (.bool r) ∧ Ky [] w' w'') (ho1 : f1.cells = #[f1]) (r : Int) (m : slices_IndexFunc_impl_Item_impl_Item.f a0 a1 = some r) :
  Calls prog 90 #[w0_0, f1] w (RT (slices_IndexFunc_impl_Item_impl_Item.Q w F) r) := by
 obtain ⟨s0, rfl, kp0, z⟩ := Xj w F
 have A0_0 := z.rd h0_0
 refine Xd (args := [w0_0, f1]) func90 ntmps90 rfl rfl m ?_
 unfold slices_IndexFunc_impl_Item_impl_Item.f
 refine sr (Xb rfl (dn (sq (sr (Xp w0_0 rfl (ln' A0_0 u25 rfl (Xb rfl (dn (bl (lpI (fun (x2 : Int) e w => ∃ (s : St) (e0 : Env), w = s.w ∧ e = upd (upd (upd (upd e0 0 w0_0) 1 f1) 7 (iI (a0.length : Int))) 8 (iI x2) ∧ Kp s0 s) ⟨s0, _, rfl, (ue (ue (ue (ue rfl rfl) rfl) rfl) rfl), kp0⟩ (fun g2 ih2 => ?_)))))))))))
 rintro x2 _ _ ⟨s3, _, rfl, rfl, Kx2⟩
 unfold slices_IndexFunc_impl_Item_impl_Item.b0
 refine sr (Xb rfl (dn (sq (cd rfl (fun h4 => ?_) (fun h4 => ?_)))))
 ·
  refine sk (sq (bl (sr (Xb rfl (Xb rfl (dn (sr (Xp f1 rfl (Xp w0_0 rfl (Xb rfl ?_))))))))))
  refine ix' (A0_0.kp Kx2) u25 z60 rfl (fun ad6 es6 h0_6 h1_6 he6 ce6 ia6 => ?_)
  obtain ⟨v6_0, v6_1, rfl, A6_0, A6_1⟩ := op60 he6
  refine lca ce6 u60 z60 rfl rfl rfl rfl rfl rfl rfl (clv rfl rfl rfl rfl rfl rfl rfl (fun r9 m9 => hf1 (at_ a0 x2) v6_0 v6_1 s3.w (z.ky Kx2) (fl_rd A6_0) (RdF.top A6_1) r9 m9) ?_)
  rintro r9 _ w9 m9 ⟨rfl, ky9⟩
  obtain ⟨s10, rfl, p10, n10⟩ := nwx s3 w9 40 ky9
  refine dn (cd rfl (fun h11 => ?_) (fun h11 => ?_))
  ·
   refine sr (Xb rfl (Xb rfl (dn (sgi ?_))))
   exact re rfl func90 rfl (Xq rfl Xe) rfl ⟨_, rfl, rfl, z.ky (Kx2.st p10 rfl)⟩
  refine sk (ib (rg (Xb rfl (Xb rfl (dn ?_)))))
  exact lb ih2 ⟨s10, _, rfl, (ue (ue (ue (ue rfl rfl) rfl) rfl) rfl), (Kx2.st p10 rfl)⟩
 exact xt rfl (sgb (sr (Xb rfl (dn (re rfl func90 rfl (Xq rfl Xe) rfl ⟨_, rfl, rfl, z.ky Kx2⟩)))))
def slices_ContainsFunc_impl_Item_impl_Item.f (a0 : (List Item)) (a1 : (Item → Option Bool)) : Option (Bool) :=
 ((slices_IndexFunc_impl_Item_impl_Item.f a0 a1).bind fun r2 => (some (decide (r2 ≥ (0 : Int)))))
def slices_ContainsFunc_impl_Item_impl_Item.Q (w : World) (F : Nat → Prop) (r : Bool) (v : Value) (w' : World) : Prop :=
 v = (.bool r) ∧ Ky [] w w'
theorem slices_ContainsFunc_impl_Item_impl_Item.calls (a0 : (List Item)) (a1 : (Item → Option Bool)) (w : World) (F : Nat → Prop) (w0_0 : Value) (f1 : Value) (h0_0 : Ye.rd w [w0_0] a0 F) (hf1 : ∀ (x0 : Item) (u0_0 u0_1 : Value) (w' : World), Ky [] w w' → Kd.flt.rd w' [u0_0] x0.F (fun _ => True) → Yd.rd w' [u0_1] x0.T (fun _ => True) → ∀ r, a1 x0 = some r → CallV prog f1 [(.agg #[(iI x0.Kind), (iI x0.N), u0_0, u0_1])] w' fun en w'' => ∃ v, en = .returned v ∧ v = (.bool r) ∧ Ky [] w' w'') (ho1 : f1.cells = #[f1]) (r : Bool) (m : slices_ContainsFunc_impl_Item_impl_Item.f a0 a1 = some r) :
  Calls prog 75 #[w0_0, f1] w (RT (slices_ContainsFunc_impl_Item_impl_Item.Q w F) r) := by
 obtain ⟨s0, rfl, kp0, z⟩ := Xj w F
 refine Xd (args := [w0_0, f1]) func75 ntmps75 rfl rfl m ?_
 unfold slices_ContainsFunc_impl_Item_impl_Item.f
 refine sr (Xb rfl (dn (sr (Xp w0_0 rfl (Xp f1 rfl (clV 40 rfl func90 rfl (slices_IndexFunc_impl_Item_impl_Item.calls a0 a1 s0.w (mm [0] s0) w0_0 f1 (z.rd h0_0) (fun x0 u0_0 u0_1 w' k h0 h1 r m =>  hf1 x0 u0_0 u0_1 w' (Ky.trans (z.ky kp0) k) h0 h1 r m) ho1) (fun r2 s3 p3 n3 => ?_)))))))
 refine Xb rfl (Xb rfl (dn ?_))
 exact re rfl func75 rfl (Xq rfl Xe) rfl ⟨_, rfl, rfl, z.ky (kp0.st p3 rfl)⟩
def impl_areAll_impl_Item.f (a0 : (List Item)) (a1 : (Item → Option Bool)) : Option (Bool) :=
 ((slices_ContainsFunc_impl_Item_impl_Item.f a0 (fun x0 => impl_areAll_impl_Item_1.f x0 a1)).bind fun r6 => (some (!r6)))
def impl_areAll_impl_Item.Q (w : World) (F : Nat → Prop) (r : Bool) (v : Value) (w' : World) : Prop :=
 v = (.bool r) ∧ Ky [] w w'
theorem impl_areAll_impl_Item.calls (a0 : (List Item)) (a1 : (Item → Option Bool)) (w : World) (F : Nat → Prop) (w0_0 : Value) (f1 : Value) (h0_0 : Ye.rd w [w0_0] a0 F) (hf1 : ∀ (x0 : Item) (u0_0 u0_1 : Value) (w' : World), Ky [] w w' → Kd.flt.rd w' [u0_0] x0.F (fun _ => True) → Yd.rd w' [u0_1] x0.T (fun _ => True) → ∀ r, a1 x0 = some r → CallV prog f1 [(.agg #[(iI x0.Kind), (iI x0.N), u0_0, u0_1])] w' fun en w'' => ∃ v, en = .returned v ∧ v = (.bool r) ∧ Ky [] w' w'') (ho1 : f1.cells = #[f1]) (r : Bool) (m : impl_areAll_impl_Item.f a0 a1 = some r) :
  Calls prog 56 #[w0_0, f1] w (RT (impl_areAll_impl_Item.Q w F) r) := by
 obtain ⟨s0, rfl, kp0, z⟩ := Xj w F
 refine Xd (args := [w0_0, f1]) func56 ntmps56 rfl rfl m ?_
 unfold impl_areAll_impl_Item.f
 refine sr (bx' (cs := [f1]) 40 rfl ho1 (fun b2 s2 p2 B2 => ?_))
 refine Xb rfl (dn (sr (Xp w0_0 rfl (mkf (fs := []) (cs := [(pB b2)]) rfl rfl rfl rfl rfl rfl rfl ?_))))
 have K4 := kp0.st p2 rfl
 refine clV 41 rfl func75 rfl (slices_ContainsFunc_impl_Item_impl_Item.calls a0 (fun x0 => impl_areAll_impl_Item_1.f x0 a1) s2.w (mm [0] s2) w0_0 (.func (.func 76) (List.toArray []) (List.toArray [(pB b2)])) ((z.rd h0_0).kp K4) (fun x0 u0_0 u0_1 w' k h0 h1 r m =>  ⟨76, _, _, [], [(pB b2)], rfl, func76, rfl, rfl, (impl_areAll_impl_Item_1.calls x0 a1 w' (fun _ => True) u0_0 u0_1 b2 f1 h0 h1 (fun x0c u0_0c u0_1c w'c kc h0c h1c r m =>  hf1 x0c u0_0c u0_1c w'c (Ky.trans (z.ky K4) (Ky.trans k kc)) h0c h1c r m) ho1 (B2.ky k) trivial r m).mono fun en w2 hq => by obtain ⟨v, e, q⟩ := hq; exact ⟨v, e, q⟩⟩) rfl) (fun r6 s7 p7 n7 => ?_)
 refine Xb rfl (Xb rfl (dn ?_))
 exact re rfl func56 rfl (Xq rfl Xe) rfl ⟨_, rfl, rfl, z.ky (K4.st p7 rfl)⟩
def impl_isTrack.f (a0 : Track) : Option (Bool) :=
 ((impl_isXid.f a0.Xid).bind fun r5 => ((if (((r5 && (decide (a0.Begun ≥ (1 : Int)))) && ((a0.Ended == (0 : Int)) || (decide (a0.Ended > a0.Begun)))) && (decide ((a0.Reads.length : Int) ≤ (6 : Int)))) = true then ((impl_areAll_impl_Span.f a0.Reads impl_SpanOk.f).bind fun r20 => (some r20)) else (some false)).bind fun y16 => ((if ((y16 && (((a0.Reads.length : Int) == (0 : Int)) || (!a0.All))) && (decide ((a0.Writes.length : Int) ≤ (200 : Int)))) = true then ((impl_areAll_impl_Item.f a0.Writes impl_KeyOk.f).bind fun r35 => (some r35)) else (some false)).bind fun y33 => (some y33))))
def impl_isTrack.Q (w : World) (F : Nat → Prop) (r : Bool) (v : Value) (w' : World) : Prop :=
 v = (.bool r) ∧ Ky [] w w'
theorem impl_isTrack.calls (a0 : Track) (w : World) (F : Nat → Prop) (w0_0 : Value) (w0_1 : Value) (h0_0 : Yf.rd w [w0_0] a0.Reads F) (h0_1 : Ye.rd w [w0_1] a0.Writes F) (r : Bool) (m : impl_isTrack.f a0 = some r) :
  Calls prog 27 #[(.agg #[(iI a0.Xid), (iI a0.Begun), (iI a0.Ended), (.bool a0.All), w0_0, w0_1, (.bool a0.In), (.bool a0.Out)])] w (RT (impl_isTrack.Q w F) r) := by
 obtain ⟨s0, rfl, kp0, z⟩ := Xj w F
 have A0_0 := z.rd h0_0
 have A0_1 := z.rd h0_1
 refine Xd (args := [(.agg #[(iI a0.Xid), (iI a0.Begun), (iI a0.Ended), (.bool a0.All), w0_0, w0_1, (.bool a0.In), (.bool a0.Out)])]) func27 ntmps27 rfl rfl m ?_
 unfold impl_isTrack.f
 refine sr (bx' (cs := [(iI a0.Xid), (iI a0.Begun), (iI a0.Ended), (.bool a0.All), w0_0, w0_1, (.bool a0.In), (.bool a0.Out)]) 40 rfl rfl (fun b3 s3 p3 B3 => ?_))
 refine Xb rfl (dn (sr (Xw fa27_0 rfl (ld' B3 u3 rfl (clV 41 rfl func53 rfl (impl_isXid.calls a0.Xid s3.w (mm [] s3)) (fun r5 s6 p6 n6 => ?_))))))
 refine Xb rfl (jy [6, 7, 8, 9, 10] [8, 9, 10, 11, 12, 13, 14, 15, 16, 17, 18, 19, 20, 21, 22, 23, 24, 25, 26, 27, 28, 29, 30, 31, 32, 33, 34, 35, 36, 37, 38, 39, 40, 41, 42, 43, 44, 45, 46, 47, 48, 49, 50, 51, 52, 53] 10 (.bool (r5 && (decide (a0.Begun ≥ (1 : Int))))) rfl (fun Kg7 => ?_) (fun j7 => ?_))
 ·
  rcases bft r5 with hb7 | hb7
  ·
   refine Xs hb7 (Xw fa27_1 rfl ?_)
   exact ld' (B3.st p6 rfl) u3 rfl (Xb rfl (Xb rfl (Kg7 _ (Ag.put ((Ag.put ((Ag.put ((Ag.put (Ag.base rfl) rfl)) rfl)) rfl)) rfl) (by rw [hb7]; rfl))))
  exact Xs hb7 (Xf rfl (Xf rfl (Xf rfl (Xb rfl (Kg7 _ (Ag.put ((Ag.put ((Ag.put ((Ag.put (Ag.base rfl) rfl)) rfl)) rfl)) rfl) (by rw [hb7]; rfl))))))
 refine Xb rfl (jy [11, 12, 13, 14, 15, 16, 17, 18, 19, 20, 21, 22] [20, 21, 22, 23, 24, 25, 26, 27, 28, 29, 30, 31, 32, 33, 34, 35, 36, 37, 38, 39, 40, 41, 42, 43, 44, 45, 46, 47, 48, 49, 50, 51, 52, 53] 22 (.bool ((r5 && (decide (a0.Begun ≥ (1 : Int)))) && ((a0.Ended == (0 : Int)) || (decide (a0.Ended > a0.Begun))))) rfl (fun Kg9 => ?_) (fun j9 => ?_))
 ·
  rcases bft (r5 && (decide (a0.Begun ≥ (1 : Int)))) with hb9 | hb9
  ·
   refine Xs hb9 (Xw fa27_2 rfl ?_)
   have A10 := B3.st p6 rfl
   refine ld' A10 u3 rfl (Xb rfl (Xb rfl (jy [15, 16, 17, 18, 19, 20, 21] [19, 20, 21, 22, 23, 24, 25, 26, 27, 28, 29, 30, 31, 32, 33, 34, 35, 36, 37, 38, 39, 40, 41, 42, 43, 44, 45, 46, 47, 48, 49, 50, 51, 52, 53] 21 (.bool ((a0.Ended == (0 : Int)) || (decide (a0.Ended > a0.Begun)))) rfl (fun Kg11 => ?_) (fun j11 => ?_))))
   ·
    rcases bft (a0.Ended == (0 : Int)) with hb11 | hb11
    ·
     exact Xs hb11 (Xf rfl (Xf rfl (Xf rfl (Xf rfl (Xf rfl (Xb rfl (Kg11 _ (Ag.put ((Ag.put ((Ag.put ((Ag.put ((Ag.put ((Ag.put (Ag.base rfl) rfl)) rfl)) rfl)) rfl)) rfl)) rfl) (by rw [hb11]; rfl))))))))
    exact Xs hb11 (Xw fa27_2 rfl (ld' A10 u3 rfl (Xw fa27_1 rfl (ld' A10 u3 rfl (Xb rfl (Xb rfl (Kg11 _ (Ag.put ((Ag.put ((Ag.put ((Ag.put ((Ag.put ((Ag.put (Ag.base rfl) rfl)) rfl)) rfl)) rfl)) rfl)) rfl) (by rw [hb11]; rfl))))))))
   exact Xb rfl (Kg9 _ (Ag.put ((Ag.put ((Ag.ov ((Ag.put ((Ag.put ((Ag.put ((Ag.put (Ag.base rfl) rfl)) rfl)) rfl)) rfl)) rfl)) rfl)) rfl) (by rw [hb9]; rfl))
  exact Xs hb9 (Xf rfl (Xf rfl (Xf rfl (Xf rfl (Xf rfl (Xf rfl (Xf rfl (Xf rfl (Xf rfl (Xf rfl (Xb rfl (Kg9 _ (Ag.put ((Ag.put ((Ag.put ((Ag.put ((Ag.put ((Ag.put ((Ag.put ((Ag.put ((Ag.put ((Ag.put ((Ag.put (Ag.base rfl) rfl)) rfl)) rfl)) rfl)) rfl)) rfl)) rfl)) rfl)) rfl)) rfl)) rfl) (by rw [hb9]; rfl)))))))))))))
 refine Xb rfl (jy [23, 24, 25, 26, 27, 28] [26, 27, 28, 29, 30, 31, 32, 33, 34, 35, 36, 37, 38, 39, 40, 41, 42, 43, 44, 45, 46, 47, 48, 49, 50, 51, 52, 53] 28 (.bool (((r5 && (decide (a0.Begun ≥ (1 : Int)))) && ((a0.Ended == (0 : Int)) || (decide (a0.Ended > a0.Begun)))) && (decide ((a0.Reads.length : Int) ≤ (6 : Int))))) rfl (fun Kg12 => ?_) (fun j12 => ?_))
 ·
  rcases bft ((r5 && (decide (a0.Begun ≥ (1 : Int)))) && ((a0.Ended == (0 : Int)) || (decide (a0.Ended > a0.Begun)))) with hb12 | hb12
  ·
   refine Xs hb12 (Xw fa27_4 rfl ?_)
   exact ld' (B3.st p6 rfl) u24 rfl (ln' (A0_0.kp (kp0.st (Xm p3 p6) rfl)) u24 rfl (Xb rfl (Xb rfl (Kg12 _ (Ag.put ((Ag.put ((Ag.put ((Ag.put ((Ag.put (Ag.base rfl) rfl)) rfl)) rfl)) rfl)) rfl) (by rw [hb12]; rfl)))))
  exact Xs hb12 (Xf rfl (Xf rfl (Xf rfl (Xf rfl (Xb rfl (Kg12 _ (Ag.put ((Ag.put ((Ag.put ((Ag.put ((Ag.put (Ag.base rfl) rfl)) rfl)) rfl)) rfl)) rfl) (by rw [hb12]; rfl)))))))
 refine Xb rfl (ji [31, 32, 33, 34, 35, 36, 37, 38, 39, 40, 41, 42, 43, 44, 45, 46, 47, 48, 49, 50, 51, 52, 53] (fun (y16 : Bool) e w => ∃ (s : St) (e0 : Env), w = s.w ∧ e = upd (upd e0 1 (pB b3)) 33 (.bool y16) ∧ Kp s0 s ∧ BlF s b3 27 [(iI a0.Xid), (iI a0.Begun), (iI a0.Ended), (.bool a0.All), w0_0, w0_1, (.bool a0.In), (.bool a0.Out)] 40) (fun Gj16 Kj16 => ?_) ?_)
 ·
  rcases bft (((r5 && (decide (a0.Begun ≥ (1 : Int)))) && ((a0.Ended == (0 : Int)) || (decide (a0.Ended > a0.Begun)))) && (decide ((a0.Reads.length : Int) ≤ (6 : Int)))) with hb16 | hb16
  ·
   refine Xs hb16 ?_
   rw [if_pos hb16]
   refine Xw fa27_4 rfl ?_
   have A17 := B3.st p6 rfl
   refine ld' A17 u24 rfl ?_
   have K18 := kp0.st (Xm p3 p6) rfl
   refine clV 42 rfl func54 rfl (impl_areAll_impl_Span.calls a0.Reads impl_SpanOk.f s6.w (mm [0] s6) w0_0 (.func (.func 55) #[] #[]) (A0_0.kp K18) (fun x0 u0_0 u0_1 u0_2 u0_3 w' k h0 h1 h2 h3 r m =>  ⟨55, _, _, [], [], rfl, func55, rfl, rfl, (impl_SpanOk.calls x0 w' (fun _ => True) u0_0 u0_1 u0_2 u0_3 h0 h1 h2 h3 r m).mono fun en w2 hq => by obtain ⟨v, e, q⟩ := hq; exact ⟨v, e, q⟩⟩) rfl) (fun r20 s21 p21 n21 => ?_)
   exact Xb rfl (Kj16 _ _ _ ⟨s21, _, rfl, (ue (ue rfl rfl) rfl), (K18.st p21 rfl), (A17.st p21 rfl)⟩)
  refine Xs hb16 ?_
  rw [if_neg (by rw [hb16]; decide)]
  refine Xf rfl (Xf rfl (Xf rfl (Xb rfl ?_)))
  exact Kj16 _ _ _ ⟨s6, _, rfl, (ue (ue rfl rfl) rfl), (kp0.st (Xm p3 p6) rfl), (B3.st p6 rfl)⟩
 rintro y16 _ _ ⟨s26, _, rfl, rfl, Ky16, By16_b3⟩
 refine Xb rfl (jy [34, 35, 36, 37, 38, 39, 40, 41, 42, 43, 44] [42, 43, 44, 45, 46, 47, 48, 49, 50, 51, 52, 53] 44 (.bool (y16 && (((a0.Reads.length : Int) == (0 : Int)) || (!a0.All)))) rfl (fun Kg28 => ?_) (fun j28 => ?_))
 ·
  rcases bft y16 with hb28 | hb28
  ·
   refine Xs hb28 (Xw fa27_4 rfl (ld' By16_b3 u24 rfl ?_))
   refine ln' (A0_0.kp Ky16) u24 rfl (Xb rfl (Xb rfl (jy [39, 40, 41, 42, 43] [41, 42, 43, 44, 45, 46, 47, 48, 49, 50, 51, 52, 53] 43 (.bool (((a0.Reads.length : Int) == (0 : Int)) || (!a0.All))) rfl (fun Kg30 => ?_) (fun j30 => ?_))))
   ·
    rcases bft ((a0.Reads.length : Int) == (0 : Int)) with hb30 | hb30
    ·
     exact Xs hb30 (Xf rfl (Xf rfl (Xf rfl (Xb rfl (Kg30 _ (Ag.put ((Ag.put ((Ag.put ((Ag.put (Ag.base rfl) rfl)) rfl)) rfl)) rfl) (by rw [hb30]; rfl))))))
    exact Xs hb30 (Xw fa27_3 rfl (ld' By16_b3 u4 rfl (Xb rfl (Xb rfl (Kg30 _ (Ag.put ((Ag.put ((Ag.put ((Ag.put (Ag.base rfl) rfl)) rfl)) rfl)) rfl) (by rw [hb30]; rfl))))))
   exact Xb rfl (Kg28 _ (Ag.put ((Ag.put ((Ag.ov ((Ag.put ((Ag.put ((Ag.put ((Ag.put ((Ag.put (Ag.base rfl) rfl)) rfl)) rfl)) rfl)) rfl)) rfl)) rfl)) rfl) (by rw [hb28]; rfl))
  exact Xs hb28 (Xf rfl (Xf rfl (Xf rfl (Xf rfl (Xf rfl (Xf rfl (Xf rfl (Xf rfl (Xf rfl (Xb rfl (Kg28 _ (Ag.put ((Ag.put ((Ag.put ((Ag.put ((Ag.put ((Ag.put ((Ag.put ((Ag.put ((Ag.put ((Ag.put (Ag.base rfl) rfl)) rfl)) rfl)) rfl)) rfl)) rfl)) rfl)) rfl)) rfl)) rfl) (by rw [hb28]; rfl))))))))))))
 refine Xb rfl (jy [45, 46, 47, 48, 49, 50] [48, 49, 50, 51, 52, 53] 50 (.bool ((y16 && (((a0.Reads.length : Int) == (0 : Int)) || (!a0.All))) && (decide ((a0.Writes.length : Int) ≤ (200 : Int))))) rfl (fun Kg31 => ?_) (fun j31 => ?_))
 ·
  rcases bft (y16 && (((a0.Reads.length : Int) == (0 : Int)) || (!a0.All))) with hb31 | hb31
  ·
   refine Xs hb31 (Xw fa27_5 rfl (ld' By16_b3 u25 rfl ?_))
   exact ln' (A0_1.kp Ky16) u25 rfl (Xb rfl (Xb rfl (Kg31 _ (Ag.put ((Ag.put ((Ag.put ((Ag.put ((Ag.put (Ag.base rfl) rfl)) rfl)) rfl)) rfl)) rfl) (by rw [hb31]; rfl))))
  exact Xs hb31 (Xf rfl (Xf rfl (Xf rfl (Xf rfl (Xb rfl (Kg31 _ (Ag.put ((Ag.put ((Ag.put ((Ag.put ((Ag.put (Ag.base rfl) rfl)) rfl)) rfl)) rfl)) rfl) (by rw [hb31]; rfl)))))))
 refine Xb rfl (ji [53] (fun (y33 : Bool) e w => ∃ (s : St) (e0 : Env), w = s.w ∧ e = upd e0 55 (.bool y33) ∧ Kp s0 s) (fun Gj33 Kj33 => ?_) ?_)
 ·
  rcases bft ((y16 && (((a0.Reads.length : Int) == (0 : Int)) || (!a0.All))) && (decide ((a0.Writes.length : Int) ≤ (200 : Int)))) with hb33 | hb33
  ·
   refine Xs hb33 ?_
   rw [if_pos hb33]
   refine Xw fa27_5 rfl (ld' By16_b3 u25 rfl ?_)
   refine clV 43 rfl func56 rfl (impl_areAll_impl_Item.calls a0.Writes impl_KeyOk.f s26.w (mm [0] s26) w0_1 (.func (.func 57) #[] #[]) (A0_1.kp Ky16) (fun x0 u0_0 u0_1 w' k h0 h1 r m =>  ⟨57, _, _, [], [], rfl, func57, rfl, rfl, (impl_KeyOk.calls x0 w' (fun _ => True) u0_0 u0_1 h0 h1 r m).mono fun en w2 hq => by obtain ⟨v, e, q⟩ := hq; exact ⟨v, e, q⟩⟩) rfl) (fun r35 s36 p36 n36 => ?_)
   exact Xb rfl (Kj33 _ _ _ ⟨s36, _, rfl, (ue rfl rfl), (Ky16.st p36 rfl)⟩)
  refine Xs hb33 ?_
  rw [if_neg (by rw [hb33]; decide)]
  exact Xf rfl (Xf rfl (Xf rfl (Xb rfl (Kj33 _ _ _ ⟨s26, _, rfl, (ue rfl rfl), Ky16⟩))))
 rintro y33 _ _ ⟨s38, _, rfl, rfl, Ky33⟩
 exact Xb rfl (dn (re rfl func27 rfl (Xq rfl Xe) rfl ⟨_, rfl, rfl, z.ky Ky33⟩))
def impl_areDifferent_impl_Track.b0 (a0 : (List Track)) (a1 : (Track → Option Int)) (x6 : Int × MD) : Option ((Int × MD) ⊕ Bool) :=
 (if (decide (x6.1 < (a0.length : Int))) = true then (if 0 ≤ x6.1 ∧ x6.1 < (a0.length : Int) then ((a1 (at_ a0 x6.1)).bind fun r24 => (if (mget x6.2 r24) = true then (some (Sum.inr false)) else ((a1 (at_ a0 x6.1)).bind fun r33 => (some (Sum.inl ((IntKind.wrap .i64 (x6.1 + (1 : Int))), (mset x6.2 r33 true))))))) else none) else ((some true).bind fun o => some (Sum.inr o)))
def impl_areDifferent_impl_Track.f (a0 : (List Track)) (a1 : (Track → Option Int)) : Option (Bool) :=
 (iter (impl_areDifferent_impl_Track.b0 a0 a1) ((0 : Int), ([] : MD)))
def impl_areDifferent_impl_Track.Q (w : World) (F : Nat → Prop) (r : Bool) (v : Value) (w' : World) : Prop :=
 v = (.bool r) ∧ Ky [] w w'
theorem impl_areDifferent_impl_Track.calls (a0 : (List Track)) (a1 : (Track → Option Int)) (w : World) (F : Nat → Prop) (w0_0 : Value) (f1 : Value) (h0_0 : Yc.rd w [w0_0] a0 F) (hf1 : ∀ (x0 : Track) (u0_0 u0_1 : Value) (w' : World), Ky [] w w' → Yf.rd w' [u0_0] x0.Reads (fun _ => True) → Ye.rd w' [u0_1] x0.Writes (fun _ => True) → ∀ r, a1 x0 = some r → CallV prog f1 [(.agg #[(iI x0.Xid), (iI x0.Begun), (iI x0.Ended), (.bool x0.All), u0_0, u0_1, (.bool x0.In), (.bool x0.Out)])] w' fun en w'' => ∃ v, en = .returned v ∧ v = (iI r) ∧ Ky [] w' w'') (ho1 : f1.cells = #[f1]) (r : Bool) (m : impl_areDifferent_impl_Track.f a0 a1 = some r) :
  Calls prog 28 #[w0_0, f1] w (RT (impl_areDifferent_impl_Track.Q w F) r) := by
 obtain ⟨s0, rfl, kp0, z⟩ := Xj w F
 have A0_0 := z.rd h0_0
 refine Xd (args := [w0_0, f1]) func28 ntmps28 rfl rfl m ?_
 unfold impl_areDifferent_impl_Track.f
 refine sr (Xb rfl (dn (sr (mkm 40 rfl rfl rfl rfl rfl (fun b2 s2 p2 B2 => ?_)))))
 refine Xb rfl (dn (sq (sr (Xp w0_0 rfl ?_))))
 have K4 := kp0.st p2 rfl
 refine ln' (A0_0.kp K4) u30 rfl (Xb rfl (dn (bl (lpI (fun (x6 : Int × MD) e w => ∃ (s : St) (e0 : Env), w = s.w ∧ e = upd (upd (upd (upd (upd e0 1 f1) 5 (.map (some b2))) 9 w0_0) 10 (iI (a0.length : Int))) 11 (iI x6.1) ∧ Kp s0 s ∧ MpF s b2 x6.2 40) ⟨s2, _, rfl, (ue (ue (ue (ue (ue rfl rfl) rfl) rfl) rfl) rfl), K4, B2⟩ (fun g6 ih6 => ?_)))))
 rintro x6 _ _ ⟨s7, _, rfl, rfl, Kx6, Bx6_b2⟩
 unfold impl_areDifferent_impl_Track.b0
 refine sr (Xb rfl (dn (sq (cd rfl (fun h9 => ?_) (fun h9 => ?_)))))
 ·
  refine sk (sq (bl (sr ?_)))
  refine ix' (A0_0.kp Kx6) u30 z27 rfl (fun ad11 es11 h0_11 h1_11 he11 ce11 ia11 => ?_)
  obtain ⟨v11_0, v11_1, rfl, A11_0, A11_1⟩ := op27 he11
  refine lca ce11 u27 z27 rfl rfl rfl rfl rfl rfl rfl (al (cs := [(iI 0), (iI 0), (iI 0), (.bool false), (.slice none 0 0), (.slice none 0 0), (.bool false), (.bool false)]) 41 rfl rfl rfl rfl rfl o27 rfl (fun b15 s15 p15 B15 => ?_))
  have A17 := A11_1.st p15 rfl
  have A18 := A11_0.st p15 rfl
  refine sva' (vs := [(iI ((at_ a0 x6.1).Xid)), (iI ((at_ a0 x6.1).Begun)), (iI ((at_ a0 x6.1).Ended)), (.bool ((at_ a0 x6.1).All)), v11_0, v11_1, (.bool ((at_ a0 x6.1).In)), (.bool ((at_ a0 x6.1).Out))]) B15 z27 rfl (Xc rfl (Xc rfl (Xc rfl (Xc rfl (Xc A18.one (Xc A17.one (Xc rfl (Xc rfl Xx)))))))) rfl (fun s19 p19 B19 => ?_)
  refine dn (sq (sr (Xb rfl (Xp f1 rfl (lda' (es := [(iI ((at_ a0 x6.1).Xid)), (iI ((at_ a0 x6.1).Begun)), (iI ((at_ a0 x6.1).Ended)), (.bool ((at_ a0 x6.1).All)), v11_0, v11_1, (.bool ((at_ a0 x6.1).In)), (.bool ((at_ a0 x6.1).Out))]) B19 u27 z27 rfl ?_)))))
  have A21 := A18.st p19 rfl
  have A22 := A17.st p19 rfl
  have K23 := Kx6.st (Xm p15 p19) rfl
  refine clv rfl rfl rfl rfl rfl rfl rfl (fun r24 m24 => hf1 (at_ a0 x6.1) v11_0 v11_1 s19.w (z.ky K23) (RdF.top A21) (RdF.top A22) r24 m24) ?_
  rintro r24 _ w24 m24 ⟨rfl, ky24⟩
  obtain ⟨s25, rfl, p25, n25⟩ := nwx s19 w24 42 ky24
  have A26 := Bx6_b2.st (Yb p15 p19 p25) rfl
  refine lkm A26 u78 u3 o4 rfl rfl rfl rfl rfl rfl rfl (dn (cd rfl (fun h27 => ?_) (fun h27 => ?_)))
  ·
   refine sr (Xb rfl (dn (sgi ?_)))
   exact re rfl func28 rfl (Xq rfl Xe) rfl ⟨_, rfl, rfl, z.ky (K23.st p25 rfl)⟩
  refine sk (rg (Xb rfl (Xp f1 rfl ?_)))
  refine lda' (es := [(iI ((at_ a0 x6.1).Xid)), (iI ((at_ a0 x6.1).Begun)), (iI ((at_ a0 x6.1).Ended)), (.bool ((at_ a0 x6.1).All)), v11_0, v11_1, (.bool ((at_ a0 x6.1).In)), (.bool ((at_ a0 x6.1).Out))]) (B19.st p25 rfl) u27 z27 rfl ?_
  have K32 := K23.st p25 rfl
  refine clv rfl rfl rfl rfl rfl rfl rfl (fun r33 m33 => hf1 (at_ a0 x6.1) v11_0 v11_1 s25.w (z.ky K32) (RdF.top (A21.st p25 rfl)) (RdF.top (A22.st p25 rfl)) r33 m33) ?_
  rintro r33 _ w33 m33 ⟨rfl, ky33⟩
  obtain ⟨s34, rfl, p34, n34⟩ := nwx s25 w33 43 ky33
  refine upm (A26.st p34 rfl) u78 u3 rfl rfl rfl rfl rfl rfl rfl (fun s36 p36 B36 => ?_)
  refine dn (ib (rg (Xb rfl (Xb rfl (dn ?_)))))
  exact lb ih6 ⟨s36, _, rfl, (ue (ue (ue (ue (ue rfl rfl) rfl) rfl) rfl) rfl), (K32.st (Xm p34 p36) rfl), B36⟩
 exact xt rfl (sgb (sr (Xb rfl (dn (re rfl func28 rfl (Xq rfl Xe) rfl ⟨_, rfl, rfl, z.ky Kx6⟩)))))
def impl_TracksOk_1.f (a0 : Track) : Option (Int) :=
 (some a0.Xid)
def impl_TracksOk_1.Q (w : World) (F : Nat → Prop) (r : Int) (v : Value) (w' : World) : Prop :=
 v = (iI r) ∧ Ky [] w w'
theorem impl_TracksOk_1.calls (a0 : Track) (w : World) (F : Nat → Prop) (w0_0 : Value) (w0_1 : Value) (h0_0 : Yf.rd w [w0_0] a0.Reads F) (h0_1 : Ye.rd w [w0_1] a0.Writes F) (r : Int) (m : impl_TracksOk_1.f a0 = some r) :
  Calls prog 29 #[(.agg #[(iI a0.Xid), (iI a0.Begun), (iI a0.Ended), (.bool a0.All), w0_0, w0_1, (.bool a0.In), (.bool a0.Out)])] w (RT (impl_TracksOk_1.Q w F) r) := by
 obtain ⟨s0, rfl, kp0, z⟩ := Xj w F
 refine Xd (args := [(.agg #[(iI a0.Xid), (iI a0.Begun), (iI a0.Ended), (.bool a0.All), w0_0, w0_1, (.bool a0.In), (.bool a0.Out)])]) func29 ntmps29 rfl rfl m ?_
 unfold impl_TracksOk_1.f
 refine sr (bx' (cs := [(iI a0.Xid), (iI a0.Begun), (iI a0.Ended), (.bool a0.All), w0_0, w0_1, (.bool a0.In), (.bool a0.Out)]) 40 rfl rfl (fun b3 s3 p3 B3 => ?_))
 refine Xb rfl (dn (sr (Xw fa27_0 rfl (ld' B3 u3 rfl (Xb rfl (dn ?_))))))
 exact re rfl func29 rfl (Xq rfl Xe) rfl ⟨_, rfl, rfl, z.ky (kp0.st p3 rfl)⟩
def impl_TracksOk.f (a0 : (List Track)) : Option (Bool) :=
 ((if (decide ((a0.length : Int) ≤ (64 : Int))) = true then ((impl_areAll_impl_Track.f a0 impl_isTrack.f).bind fun r3 => (some r3)) else (some false)).bind fun y2 => ((if y2 = true then ((impl_areDifferent_impl_Track.f a0 impl_TracksOk_1.f).bind fun r9 => (some r9)) else (some false)).bind fun y7 => (some y7)))
def impl_TracksOk.Q (w : World) (F : Nat → Prop) (r : Bool) (v : Value) (w' : World) : Prop :=
 v = (.bool r) ∧ Ky [] w w'
theorem impl_TracksOk.calls (a0 : (List Track)) (w : World) (F : Nat → Prop) (w0_0 : Value) (h0_0 : Yc.rd w [w0_0] a0 F) (r : Bool) (m : impl_TracksOk.f a0 = some r) :
  Calls prog 10 #[w0_0] w (RT (impl_TracksOk.Q w F) r) := by
 obtain ⟨s0, rfl, kp0, z⟩ := Xj w F
 have A0_0 := z.rd h0_0
 refine Xd (args := [w0_0]) func10 ntmps10 rfl rfl m ?_
 unfold impl_TracksOk.f
 refine sr (Xb rfl (dn (sr (Xp w0_0 rfl (ln' A0_0 u30 rfl (Xb rfl (Xb rfl (ji [7, 8, 9, 10, 11] (fun (y2 : Bool) e w => ∃ (s : St) (e0 : Env), w = s.w ∧ e = upd (upd e0 0 w0_0) 9 (.bool y2) ∧ Kp s0 s) (fun Gj2 Kj2 => ?_) ?_))))))))
 ·
  rcases bft (decide ((a0.length : Int) ≤ (64 : Int))) with hb2 | hb2
  ·
   refine Xs hb2 ?_
   rw [if_pos hb2]
   refine Xp w0_0 rfl (clV 40 rfl func26 rfl (impl_areAll_impl_Track.calls a0 impl_isTrack.f s0.w (mm [0] s0) w0_0 (.func (.func 27) #[] #[]) A0_0 (fun x0 u0_0 u0_1 w' k h0 h1 r m =>  ⟨27, _, _, [], [], rfl, func27, rfl, rfl, (impl_isTrack.calls x0 w' (fun _ => True) u0_0 u0_1 h0 h1 r m).mono fun en w2 hq => by obtain ⟨v, e, q⟩ := hq; exact ⟨v, e, q⟩⟩) rfl) (fun r3 s4 p4 n4 => ?_))
   exact Xb rfl (Kj2 _ _ _ ⟨s4, _, rfl, (ue (ue rfl rfl) rfl), (kp0.st p4 rfl)⟩)
  refine Xs hb2 ?_
  rw [if_neg (by rw [hb2]; decide)]
  exact Xf rfl (Xf rfl (Xb rfl (Kj2 _ _ _ ⟨s0, _, rfl, (ue (ue rfl rfl) rfl), kp0⟩)))
 rintro y2 _ _ ⟨s6, _, rfl, rfl, Ky2⟩
 refine Xb rfl (ji [11] (fun (y7 : Bool) e w => ∃ (s : St) (e0 : Env), w = s.w ∧ e = upd e0 13 (.bool y7) ∧ Kp s0 s) (fun Gj7 Kj7 => ?_) ?_)
 ·
  rcases bft y2 with hb7 | hb7
  ·
   refine Xs hb7 ?_
   rw [if_pos hb7]
   refine Xp w0_0 rfl (clV 41 rfl func28 rfl (impl_areDifferent_impl_Track.calls a0 impl_TracksOk_1.f s6.w (mm [0] s6) w0_0 (.func (.func 29) #[] #[]) (A0_0.kp Ky2) (fun x0 u0_0 u0_1 w' k h0 h1 r m =>  ⟨29, _, _, [], [], rfl, func29, rfl, rfl, (impl_TracksOk_1.calls x0 w' (fun _ => True) u0_0 u0_1 h0 h1 r m).mono fun en w2 hq => by obtain ⟨v, e, q⟩ := hq; exact ⟨v, e, q⟩⟩) rfl) (fun r9 s10 p10 n10 => ?_))
   exact Xb rfl (Kj7 _ _ _ ⟨s10, _, rfl, (ue rfl rfl), (Ky2.st p10 rfl)⟩)
  refine Xs hb7 ?_
  rw [if_neg (by rw [hb7]; decide)]
  exact Xf rfl (Xf rfl (Xb rfl (Kj7 _ _ _ ⟨s6, _, rfl, (ue rfl rfl), Ky2⟩)))
 rintro y7 _ _ ⟨s12, _, rfl, rfl, Ky7⟩
 exact Xb rfl (dn (re rfl func10 rfl (Xq rfl Xe) rfl ⟨_, rfl, rfl, z.ky Ky7⟩))
def slices_Clone_byte_byte.f (a0 : (List Int)) : Option ((List Int)) :=
 (if ([] : (List Int)).length + a0.length ≤ Lim then (some (([] : (List Int)) ++ a0)) else none)
def slices_Clone_byte_byte.Q (w : World) (F : Nat → Prop) (r : (List Int)) (v : Value) (w' : World) : Prop :=
 FO Yd w w' [v] r ∧ Ky [] w w'
theorem slices_Clone_byte_byte.calls (a0 : (List Int)) (w : World) (F : Nat → Prop) (w0_0 : Value) (h0_0 : Yd.rd w [w0_0] a0 F) (r : (List Int)) (m : slices_Clone_byte_byte.f a0 = some r) :
  Calls prog 84 #[w0_0] w (RT (slices_Clone_byte_byte.Q w F) r) := by
 obtain ⟨s0, rfl, kp0, z⟩ := Xj w F
 have A0_0 := z.rd h0_0
 refine Xd (args := [w0_0]) func84 ntmps84 rfl rfl m ?_
 unfold slices_Clone_byte_byte.f
 refine sr (Xb rfl (dn (sq (sr (Xp w0_0 rfl (nq A0_0 u22 rfl rfl rfl rfl rfl rfl rfl (fun nb2 hn2 => ?_)))))))
 refine dn (cdb rfl (fun h3 => ?_) (fun h3 => ?_))
 ·
  obtain rfl := hn2 h3
  exact mg fun _ => (sr (Xb rfl (dn (re rfl func84 rfl (Xq rfl Xe) rfl ⟨_, rfl, (ow_nil 5 (Kd.int .u8) s0 40).fo kp0 rfl z.l, z.ky kp0⟩))))
 refine sk (sr (lt0 (K := (Kd.int .u8)) 40 u22 z5 rfl rfl rfl rfl rfl (fun v4 s4 p4 A4 => ?_)))
 refine Xp w0_0 rfl ?_
 have K6 := kp0.st p4 rfl
 refine apF fl_int sl22 A4 (A0_0.kp K6) rfl rfl rfl rfl rfl rfl rfl (fun v8 s8 p8 A8 => ?_)
 refine Xy v8 rfl (dn ?_)
 have K10 := K6.st p8 rfl
 exact re rfl func84 rfl (Xq rfl Xe) rfl ⟨_, rfl, A8.fo K10 rfl z.l, z.ky K10⟩
end Go.Proofs.Ytcgbhldenkeplaa
