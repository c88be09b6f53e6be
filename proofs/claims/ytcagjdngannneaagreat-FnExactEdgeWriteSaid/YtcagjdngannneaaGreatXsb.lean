/- The functions as models, and that the calls come to what the models tell. -/
import Derived.Test.YtcagjdngannneaaGreatXsa
set_option linter.unusedVariables false
set_option linter.unusedSimpArgs false
namespace Go.Proofs.YtcagjdngannneaaGreat
open Go V
noncomputable def spec_EdgeWrite.b0 (a0 : (List Track)) (a2 : Item) (r7 : Int) (r28 : (List Track)) (y47 : (List Track) × (List Span) × (List Item)) (x109 : (List Track) × Int × Int × Bool) : Option (((List Track) × Int × Int × Bool) ⊕ ((List Track) × Int)) :=
 (if (decide (x109.2.2.1 < (x109.1.length : Int))) = true then ((if 0 ≤ x109.2.2.1 ∧ x109.2.2.1 < (x109.1.length : Int) then ((if (x109.2.2.1 == r7) = true then (some true) else ((spec_TrackReads.f (at_ x109.1 x109.2.2.1) a2).bind fun r163 => ((if (!r163) = true then (some (true, true)) else (if 0 ≤ r7 ∧ r7 < (a0.length : Int) then ((spec_Concurrent.f (at_ a0 r7) (at_ x109.1 x109.2.2.1)).bind fun r199 => (some (false, (!r199)))) else none)).bind fun y169 => (some y169.2)))).bind fun y131 => (if y131 = true then (some (x109.1, x109.2.1, x109.2.2.2)) else (if 0 ≤ x109.2.2.1 ∧ x109.2.2.1 < (x109.1.length : Int) then ((some (x109.1.set (x109.2.2.1).toNat (Track.mk ((at_ x109.1 x109.2.2.1).Xid) ((at_ x109.1 x109.2.2.1).Begun) ((at_ x109.1 x109.2.2.1).Ended) ((at_ x109.1 x109.2.2.1).All) ((at_ x109.1 x109.2.2.1).Reads) ((at_ x109.1 x109.2.2.1).Writes) ((at_ x109.1 x109.2.2.1).In) true))).bind fun y234 => ((if ((decide ((at_ x109.1 x109.2.2.1).Ended > (0 : Int))) && (at_ x109.1 x109.2.2.1).In) = true then (some (2 : Int)) else (some x109.2.1)).bind fun y237 => (some (y234, y237, true)))) else none))) else none).bind fun y115 => (some (Sum.inl (y115.1, y115.2.1, (IntKind.wrap .i64 (x109.2.2.1 + (1 : Int))), y115.2.2)))) else ((if 0 ≤ r7 ∧ r7 < (x109.1.length : Int) then ((some (x109.1.set (r7).toNat (Track.mk ((at_ r28 r7).Xid) ((at_ r28 r7).Begun) ((at_ r28 r7).Ended) ((at_ r28 r7).All) y47.2.1 y47.2.2 x109.2.2.2 ((at_ r28 r7).Out)))).bind fun y262 => ((if (x109.2.2.2 && (at_ r28 r7).Out) = true then (some (2 : Int)) else (some x109.2.1)).bind fun y265 => (some (y262, y265)))) else none).bind fun o => some (Sum.inr o)))
noncomputable def spec_EdgeWrite.f (a0 : (List Track)) (a1 : Int) (a2 : Item) : Option ((List Track) × Int) :=
 ((spec_l13at.f a0 a1).bind fun r7 => ((spec_TracksOk.f a0).bind fun r11 => ((if ((!r11) || (decide (r7 < (0 : Int)))) = true then (some true) else ((spec_KeyOk.f a2).bind fun r20 => (some (!r20)))).bind fun y14 => (if y14 = true then (some (([] : (List Track)), (1 : Int))) else ((spec_l13copy.f a0).bind fun r28 => (if 0 ≤ r7 ∧ r7 < (r28.length : Int) then ((spec_l13has.f ((at_ r28 r7).Writes) a2).bind fun r45 => ((if (!r45) = true then ((spec_l3copy.f a2).bind fun r60 => (if ((at_ r28 r7).Writes).length + ([r60]).length ≤ Lim then (some (r28, (at_ r28 r7).Reads, ((at_ r28 r7).Writes ++ [r60]))) else none)) else (some (r28, (at_ r28 r7).Reads, (at_ r28 r7).Writes))).bind fun y47 => (if (decide ((y47.2.2.length : Int) > (200 : Int))) = true then (some (([] : (List Track)), (1 : Int))) else (iter (spec_EdgeWrite.b0 a0 a2 r7 r28 y47) (y47.1, (0 : Int), (0 : Int), (at_ r28 r7).In))))) else none))))))
def spec_EdgeWrite.Q (w : World) (F : Nat → Prop) (r : (List Track) × Int) (v : Value) (w' : World) : Prop :=
 ∃ (v0 : Value), v = .tuple #[v0, (.int .i64 r.2)] ∧ FR (Kd.sl 117 kd117) F w w' [v0] r.1 ∧ Ky [] w w'
set_option maxHeartbeats 4000000 in
set_option maxRecDepth 100000 in
theorem spec_EdgeWrite.calls (a0 : (List Track)) (a1 : Int) (a2 : Item) (w : World) (F : Nat → Prop) (w0_0 : Value) (w2_0 : Value) (w2_1 : Value) (h0_0 : (Kd.sl 117 kd117).rd w [w0_0] a0 F) (h2_0 : Kd.flt.rd w [w2_0] a2.F F) (h2_1 : (Kd.sl 5 (Kd.int .u8)).rd w [w2_1] a2.T F) (r : (List Track) × Int) (m : spec_EdgeWrite.f a0 a1 a2 = some r) :
  Calls Tryz.prog 12 #[w0_0, (.int .i64 a1), (.agg #[(.int .i64 a2.Kind), (.int .i64 a2.N), w2_0, w2_1])] w fun en w' => ∃ v, en = .returned v ∧ spec_EdgeWrite.Q w F r v w' := by
 obtain ⟨s0, rfl, kp0, z⟩ := start0 w F
 have A0_0 := z.rd h0_0
 have A2_0 := fl_of h2_0
 have A2_1 := z.rd h2_1
 refine calls_of_TM (args := [w0_0, (.int .i64 a1), (.agg #[(.int .i64 a2.Kind), (.int .i64 a2.N), w2_0, w2_1])]) (R := fun r en w' => ∃ v, en = .returned v ∧ spec_EdgeWrite.Q s0.w F r v w') Tryz.func12 Tryz.ntmps12 rfl rfl m ?_
 unfold spec_EdgeWrite.f
 refine sr ?_
 refine bx (cs := [(.int .i64 a2.Kind), (.int .i64 a2.N), w2_0, w2_1]) 40 rfl rfl rfl rfl rfl rfl (fun b3 s3 p3 B3 => ?_)
 refine pu rfl rfl rfl rfl rfl ?_
 refine pu rfl rfl rfl rfl rfl ?_
 refine dn ?_
 refine sr ?_
 refine mv w0_0 rfl rfl rfl rfl rfl rfl ?_
 refine pu rfl rfl rfl rfl rfl ?_
 have K5 := (kp0.st p3 rfl)
 have A6 := (A0_0.kp K5)
 refine cl rfl rfl rfl rfl rfl Tryz.func64 rfl rfl rfl (fun r7 m7 => spec_l13at.calls a0 a1 s3.w (fun b => memb [0] (s3.g b) = true) w0_0 A6 r7 m7) ?_
 rintro r7 _ w7 m7 ⟨rfl, ky7⟩
 obtain ⟨s8, rfl, p8, n8⟩ := nwx s3 w7 41 ky7
 refine pu rfl rfl rfl rfl rfl ?_
 refine dn ?_
 refine sq ?_
 refine sr ?_
 refine mv w0_0 rfl rfl rfl rfl rfl rfl ?_
 have K9 := (K5.st p8 rfl)
 have A10 := (A0_0.kp K9)
 refine cl rfl rfl rfl rfl rfl Tryz.func65 rfl rfl rfl (fun r11 m11 => spec_TracksOk.calls a0 s8.w (fun b => memb [0] (s8.g b) = true) w0_0 A10 r11 m11) ?_
 rintro r11 _ w11 m11 ⟨rfl, ky11⟩
 obtain ⟨s12, rfl, p12, n12⟩ := nwx s8 w11 42 ky11
 refine pu rfl rfl rfl rfl rfl ?_
 refine pu rfl rfl rfl rfl rfl ?_
 refine jy [20, 21, 22, 23] [7, 8, 9, 10, 11] 23 (.bool ((!r11) || (decide (r7 < (0 : Int))))) rfl (fun Kg13 => ?_) (fun j13 => ?_)
 ·
  rcases Bool.eq_false_or_eq_true (!r11) with hb13 | hb13
  ·
   refine sbT hb13 ?_
   refine uw rfl rfl rfl rfl ?_
   refine uw rfl rfl rfl rfl ?_
   refine pu rfl rfl rfl rfl rfl ?_
   exact Kg13 _ (Ag.put ((Ag.put ((Ag.put (Ag.base rfl) rfl)) rfl)) rfl) (by rw [hb13]; rfl)
  ·
   refine sbT hb13 ?_
   refine pu rfl rfl rfl rfl rfl ?_
   refine pu rfl rfl rfl rfl rfl ?_
   refine pu rfl rfl rfl rfl rfl ?_
   exact Kg13 _ (Ag.put ((Ag.put ((Ag.put (Ag.base rfl) rfl)) rfl)) rfl) (by rw [hb13]; rfl)
 refine pu rfl rfl rfl rfl rfl ?_
 refine ji [] (fun (y14 : Bool) (e : Env) (w : World) => ∃ (s : St) (e0 : Env), w = s.w ∧ e = upd (upd (upd (upd e0 0 w0_0) 5 (.pointer (some ⟨b3, 0, none⟩))) 8 (.int .i64 r7)) 28 (.bool y14) ∧ Kp s0 s ∧ BlF s b3 33 [(.int .i64 a2.Kind), (.int .i64 a2.N), w2_0, w2_1] 40) (fun Gj14 Kj14 => ?_) ?_
 ·
  rcases Bool.eq_false_or_eq_true ((!r11) || (decide (r7 < (0 : Int)))) with hb14 | hb14
  ·
   refine sbT hb14 ?_
   rw [if_pos hb14]
   refine uw rfl rfl rfl rfl ?_
   refine uw rfl rfl rfl rfl ?_
   refine uw rfl rfl rfl rfl ?_
   refine pu rfl rfl rfl rfl rfl ?_
   have A15 := (BlF.st (BlF.st B3 p8 rfl) p12 rfl)
   have K16 := (K9.st p12 rfl)
   exact Kj14 _ _ _ ⟨s12, _, rfl, (ue (ue (ue (ue rfl rfl) rfl) rfl) rfl), K16, A15⟩
  ·
   refine sbT hb14 ?_
   rw [if_neg (by rw [hb14]; decide)]
   have A17 := (BlF.st (BlF.st B3 p8 rfl) p12 rfl)
   refine lda (es := [(.int .i64 a2.Kind), (.int .i64 a2.N), w2_0, w2_1]) A17 Tryz.underlying33 z33 rfl rfl rfl rfl rfl rfl rfl rfl ?_
   have K18 := (K9.st p12 rfl)
   have A19 := (A2_1.kp K18)
   refine cl rfl rfl rfl rfl rfl Tryz.func66 rfl rfl rfl (fun r20 m20 => spec_KeyOk.calls a2 s12.w (fun b => memb [0] (s12.g b) = true) w2_0 w2_1 ((fl_rdf (s := s12) A2_0).sub (D := [0]) rfl) A19 r20 m20) ?_
   rintro r20 _ w20 m20 ⟨rfl, ky20⟩
   obtain ⟨s21, rfl, p21, n21⟩ := nwx s12 w20 43 ky20
   refine pu rfl rfl rfl rfl rfl ?_
   refine pu rfl rfl rfl rfl rfl ?_
   have A22 := (BlF.st A17 p21 rfl)
   have K23 := (K18.st p21 rfl)
   exact Kj14 _ _ _ ⟨s21, _, rfl, (ue (ue (ue (ue rfl rfl) rfl) rfl) rfl), K23, A22⟩
 rintro y14 _ _ ⟨s24, _, rfl, rfl, Ky14, By14_b3⟩
 refine dn ?_
 refine cd rfl (fun h26 => ?_) (fun h26 => ?_)
 ·
  refine sr ?_
  refine pu rfl rfl rfl rfl rfl ?_
  refine pu rfl rfl rfl rfl rfl ?_
  refine dn ?_
  exact re rfl Tryz.func12 rfl (r_t rfl (r_t rfl r_nil)) rfl ⟨_, rfl, (.slice none 0 0), rfl, z.fr Ky14 (rd_nil 117 kd117 s24 []) rfl, z.ky Ky14⟩
 ·
  refine sk ?_
  refine sr ?_
  refine mv w0_0 rfl rfl rfl rfl rfl rfl ?_
  have A27 := (A0_0.kp Ky14)
  refine cl rfl rfl rfl rfl rfl Tryz.func67 rfl rfl rfl (fun r28 m28 => spec_l13copy.calls a0 s24.w (fun b => memb [0] (s24.g b) = true) w0_0 A27 r28 m28) ?_
  rintro r28 v28_0 w28 m28 ⟨f28_0, ky28⟩
  obtain ⟨s29, rfl, p29, n29⟩ := nwx s24 w28 44 ky28
  have A28_0 := f28_0.c n29
  refine asg v28_0 rfl rfl rfl rfl rfl rfl ?_
  refine dn ?_
  refine sr ?_
  refine mv v28_0 rfl rfl rfl rfl rfl rfl ?_
  refine pu rfl rfl rfl rfl rfl ?_
  refine ix A28_0.rd Tryz.underlying29 z117 rfl rfl rfl rfl rfl rfl rfl rfl (fun ad31 es31 h0_31 h1_31 he31 ce31 ia31 => ?_)
  obtain ⟨v31_0, v31_1, rfl, A31_0, A31_1⟩ := op117 he31
  refine lca ce31 Tryz.underlying117 z117 rfl rfl rfl rfl rfl rfl rfl ?_
  refine al (cs := [(.int .i64 (0 : Int)), (.int .i64 (0 : Int)), (.int .i64 (0 : Int)), (.bool false), (.slice none 0 0), (.slice none 0 0), (.bool false), (.bool false)]) 45 rfl rfl rfl rfl rfl o117 rfl (fun b35 s35 p35 B35 => ?_)
  have A37 := (A31_1.st p35 rfl)
  have A38 := (A31_0.st p35 rfl)
  refine sva (vs := [(.int .i64 ((at_ r28 r7).Xid)), (.int .i64 ((at_ r28 r7).Begun)), (.int .i64 ((at_ r28 r7).Ended)), (.bool ((at_ r28 r7).All)), v31_0, v31_1, (.bool ((at_ r28 r7).In)), (.bool ((at_ r28 r7).Out))]) B35 z117 rfl rfl rfl rfl rfl rfl (on_cons rfl (on_cons rfl (on_cons rfl (on_cons rfl (on_cons A38.one (on_cons A37.one (on_cons rfl (on_cons rfl on_nil)))))))) rfl (fun s39 p39 B39 => ?_)
  refine dn ?_
  refine sq ?_
  refine sr ?_
  refine fa fa117_5 rfl rfl rfl rfl rfl rfl ?_
  refine ld B39 Tryz.underlying115 rfl rfl rfl rfl rfl rfl rfl rfl ?_
  have A41 := (BlF.st (BlF.st (BlF.st By14_b3 p29 rfl) p35 rfl) p39 rfl)
  refine lda (es := [(.int .i64 a2.Kind), (.int .i64 a2.N), w2_0, w2_1]) A41 Tryz.underlying33 z33 rfl rfl rfl rfl rfl rfl rfl rfl ?_
  have A42 := (A37.st p39 rfl)
  have K43 := (((Ky14.st p29 rfl).st p35 rfl).st p39 rfl)
  have A44 := (A2_1.kp K43)
  refine cl rfl rfl rfl rfl rfl Tryz.func68 rfl rfl rfl (fun r45 m45 => spec_l13has.calls ((at_ r28 r7).Writes) a2 s39.w (fun b => memb [44, 0] (s39.g b) = true) v31_1 w2_0 w2_1 (A42.sub (D := [44, 0]) rfl) ((fl_rdf (s := s39) A2_0).sub (D := [44, 0]) rfl) (A44.sub (D := [44, 0]) rfl) r45 m45) ?_
  rintro r45 _ w45 m45 ⟨rfl, ky45⟩
  obtain ⟨s46, rfl, p46, n46⟩ := nwx s39 w45 46 ky45
  refine pu rfl rfl rfl rfl rfl ?_
  refine dn ?_
  refine jc (fun (y47 : (List Track) × (List Span) × (List Item)) (e : Env) (w : World) => ∃ (s : St) (e0 : Env) (vy47_2 : Value), w = s.w ∧ e = upd (upd (upd (upd (upd e0 0 w0_0) 5 (.pointer (some ⟨b3, 0, none⟩))) 8 (.int .i64 r7)) 9 v28_0) 10 (.pointer (some ⟨b35, 0, none⟩)) ∧ Kp s0 s ∧ RwF 117 kd117 s v28_0 y47.1 44 [50, 49, 51] ∧ RdF (Kd.sl 200 kd200) s [v31_0] y47.2.1 [50, 49, 51] ∧ RdF (Kd.sl 33 kd33) s [vy47_2] y47.2.2 [49, 51] ∧ BlF s b35 117 [(.int .i64 ((at_ r28 r7).Xid)), (.int .i64 ((at_ r28 r7).Begun)), (.int .i64 ((at_ r28 r7).Ended)), (.bool ((at_ r28 r7).All)), v31_0, vy47_2, (.bool ((at_ r28 r7).In)), (.bool ((at_ r28 r7).Out))] 45 ∧ BlF s b3 33 [(.int .i64 a2.Kind), (.int .i64 a2.N), w2_0, w2_1] 40) (fun Gj47 Kj47 => ?_) ?_
  ·
   refine cd rfl (fun h48 => ?_) (fun h48 => ?_)
   ·
    refine zdraw [[], [0], [], [2], [3], [1, 4, 3], [0, 1, 2, 3, 4, 5], [6, 5, 5, 0, 1, 2, 3, 4, 5]] [some 40, some 41, some 42, some 43, some 44, some 45, some 46, none] [[10], [40], [5], [42], [43], [41, 44], [10], [46, 45]] [0, 1, 2, 3, 4, 5, 6, 7] ⟨by kernel_rfl, by kernel_rfl, by kernel_rfl⟩ (by kernel_rfl) (fun s49 p49 l49 tb49 zd49 => ?_)
    have zd50 := zd49.add 0 40 (.pointer (some ⟨b35, 5, none⟩)) rfl
    have A51 := (BlF.st (BlF.st B39 p46 rfl) p49 rfl)
    have zd52 := zd50.add 1 41 v31_1 rfl
    have A53 := (BlF.st (BlF.st A41 p46 rfl) p49 rfl)
    have zd54 := zd52.add 2 42 (.agg #[(.int .i64 a2.Kind), (.int .i64 a2.N), w2_0, w2_1]) rfl
    have A56 := (BlF.st (BlF.st B39 p46 rfl) p49 rfl)
    have A57 := (BlF.st (BlF.st A41 p46 rfl) p49 rfl)
    refine zstep 3 [some 41, some 40] tb49 zd54 (pq_cons (lda_q (es := [(.int .i64 a2.Kind), (.int .i64 a2.N), w2_0, w2_1]) A57 Tryz.underlying33 z33 rfl rfl rfl rfl rfl rfl rfl rfl) rfl (pq_cons (ld_q A56 Tryz.underlying115 rfl rfl rfl rfl rfl rfl rfl rfl) rfl (pq_cons (fa_q fa117_5 rfl rfl rfl rfl rfl rfl) rfl pq_nil))) (by kernel_rfl) rfl (fun l55 e55 zd55 => ?_)
    have K58 := ((K43.st p46 rfl).st p49 rfl)
    have A59 := (A2_1.kp K58)
    refine cl rfl rfl rfl rfl rfl Tryz.func69 rfl rfl rfl (fun r60 m60 => spec_l3copy.calls a2 s49.w (fun b => memb [0] (s49.g b) = true) w2_0 w2_1 ((fl_rdf (s := s49) A2_0).sub (D := [0]) rfl) A59 r60 m60) ?_
    rintro r60 _ w60 m60 ⟨v60_0, v60_1, rfl, f60_0, ky60⟩
    obtain ⟨s61, rfl, p61, n61⟩ := nwx s49 w60 47 ky60
    have A60_0 := f60_0.c n61
    obtain ⟨os60_0, ho60_0, hn60_0, hc60_0⟩ := A60_0
    obtain ⟨u60_0_0, u60_0_1, qu60_0_1, e60_0, eo60_0, hu60_0_0, hu60_0_1⟩ := po33 ho60_0
    have yu60_0_0 : v60_0 = u60_0_0 := congrArg (fun l => (List.drop 2 l).headD undef) e60_0
    have yu60_0_1 : v60_1 = u60_0_1 := congrArg (fun l => (List.drop 3 l).headD undef) e60_0
    subst yu60_0_0
    subst yu60_0_1
    subst eo60_0
    have Au60_0_1 : OwF (Kd.sl 5 (Kd.int .u8)) s61 [v60_1] r60.T 47 := sp1 hu60_0_1 hn60_0 hc60_0
    refine zdone (L' := [1, 0]) (D' := [2, 3]) zd55 rfl rfl rfl (fun zd63 => ?_)
    have A65 := (BlF.st (BlF.st (BlF.st B39 p46 rfl) p49 rfl) p61 rfl)
    refine zstep 4 [some 41, some 40] tb49 zd63 (pq_cons (ld_q A65 Tryz.underlying115 rfl rfl rfl rfl rfl rfl rfl rfl) rfl (pq_cons (fa_q fa117_5 rfl rfl rfl rfl rfl rfl) rfl pq_nil)) (by kernel_rfl) rfl (fun l64 e64 zd64 => ?_)
    have A66 : OwF kd33 s61 [(.int .i64 r60.Kind), (.int .i64 r60.N), v60_0, v60_1] r60 47 := (ow_isoz (fun x : Item => (x.Kind, x.N, x.F, x.T)) r60 (ow_l (fz_int .i64 r60.Kind) (ow_l (fz_int .i64 r60.N) (ow_l (fz_flt hu60_0_0) Au60_0_1))))
    have L68 := lo_one A66
    refine ltO (K := kd33) (cells := [(.int .i64 r60.Kind), (.int .i64 r60.N), v60_0, v60_1]) [r60] 47 Tryz.underlying115 z33 o33 L68 rfl rfl rfl rfl rfl rfl rfl rfl rfl rfl (fun v69 s69 p69 A69 => ?_)
    refine zdone (L' := [1, 0]) (D' := [4, 2, 3]) zd64 rfl rfl rfl (fun zd71 => ?_)
    have A72 := (BlF.st (BlF.st (BlF.st (BlF.st B39 p46 rfl) p49 rfl) p61 rfl) p69 rfl)
    refine zfin [5, 6, 7] tb49 zd71 (pq_cons (ld_q A72 Tryz.underlying115 rfl rfl rfl rfl rfl rfl rfl rfl) rfl (pq_cons (fa_q fa117_5 rfl rfl rfl rfl rfl rfl) rfl pq_nil)) (by kernel_rfl) (by decide) ?_
    have ce73 := ((((((ce31.st p35 rfl rfl).st p39 rfl rfl).st p46 rfl rfl).st p49 rfl rfl).st p61 rfl rfl).st p69 rfl rfl)
    have A74 := ((((((A28_0.st p35 rfl).st p39 rfl).st p46 rfl).st p49 rfl).st p61 rfl).st p69 rfl)
    refine apK 49 50 (lg_iso (fun x : Track => (x.Xid, x.Begun, x.Ended, x.All, x.Reads, x.Writes, x.In, x.Out)) (fun x => x.Writes) (fun x y => (Track.mk x.Xid x.Begun x.Ended x.All x.Reads y x.In x.Out)) (lg_right (lg_right (lg_right (lg_right (lg_right (lg_left lg_id)))))) (fun _ => rfl) (fun _ _ => rfl)) (fun _ => rfl) A74 h0_31 h1_31 ia31 ce73 rfl rfl rfl rfl sl115 A69 rfl rfl rfl rfl rfl rfl rfl rfl rfl (fun v75 s75 p75 A75 R75 E75 => ?_)
    obtain ⟨q77_0, q77_1, e77, hq77_0, hq77_1⟩ := op117 E75
    have y77_0 : q77_0 = v31_0 := congrArg (fun l => (List.drop 4 l).headD undef) e77.symm
    have B77_0 : RdF (Kd.sl 200 kd200) s75 [v31_0] ((at_ r28 r7).Reads) [50, 49] := by rw [← y77_0]; exact hq77_0
    have y77_1 : q77_1 = v31_1 := congrArg (fun l => (List.drop 5 l).headD undef) e77.symm
    have B77_1 : RdF (Kd.sl 33 kd33) s75 [v31_1] ((at_ r28 r7).Writes) [50, 49] := by rw [← y77_1]; exact hq77_1
    refine fa fa117_5 rfl rfl rfl rfl rfl rfl ?_
    have A81 := (BlF.st (BlF.st (BlF.st (BlF.st (BlF.st B39 p46 rfl) p49 rfl) p61 rfl) p69 rfl) p75 rfl)
    refine sv A81 z115 rfl rfl rfl rfl rfl rfl A75.rd.one rfl (fun s82 p82 B82 => ?_)
    refine dn ?_
    have A84 := (R75.st p82 rfl rfl)
    have A85 := (B77_0.st p82 rfl)
    have A86 := (A75.st p82 rfl)
    have A87 := (BlF.st (BlF.st (BlF.st (BlF.st (BlF.st (BlF.st A41 p46 rfl) p49 rfl) p61 rfl) p69 rfl) p75 rfl) p82 rfl)
    have K88 := ((((K58.st p61 rfl).st p69 rfl).st p75 rfl).st p82 rfl)
    exact Kj47 _ _ _ ⟨s82, _, v75, rfl, (ue (ue (ue (ue (ue rfl rfl) rfl) rfl) rfl) rfl), K88, (A84.sub rfl), (A85.sub rfl), (A86.rd.sub rfl), B82, A87⟩
   ·
    have ce89 := (((ce31.st p35 rfl rfl).st p39 rfl rfl).st p46 rfl rfl)
    have A90 := ((A38.st p39 rfl).st p46 rfl)
    have A91 := (A42.st p46 rfl)
    have ce92 := ce89
    have rr92 := (mk117 (x := (at_ r28 r7)) A90 A91)
    have A93 := (((A28_0.st p35 rfl).st p39 rfl).st p46 rfl)
    obtain ⟨s94, hw94, p94, A94, L94⟩ := lsn 51 A93 rfl
    rw [hw94]
    have rr92 := L94 _ _ _ _ _ h0_31 h1_31 ia31 ce92 rr92
    obtain ⟨q96_0, q96_1, e96, hq96_0, hq96_1⟩ := op117 rr92
    have y96_0 : q96_0 = v31_0 := congrArg (fun l => (List.drop 4 l).headD undef) e96.symm
    have B96_0 : RdF (Kd.sl 200 kd200) s94 [v31_0] ((at_ r28 r7).Reads) [51] := by rw [← y96_0]; exact hq96_0
    have y96_1 : q96_1 = v31_1 := congrArg (fun l => (List.drop 5 l).headD undef) e96.symm
    have B96_1 : RdF (Kd.sl 33 kd33) s94 [v31_1] ((at_ r28 r7).Writes) [51] := by rw [← y96_1]; exact hq96_1
    refine sk ?_
    have A99 := (BlF.st (BlF.st B39 p46 rfl) p94 rfl)
    have A100 := (BlF.st (BlF.st A41 p46 rfl) p94 rfl)
    have K101 := ((K43.st p46 rfl).st p94 rfl)
    exact Kj47 _ _ _ ⟨s94, _, v31_1, rfl, (ue (ue (ue (ue (ue rfl rfl) rfl) rfl) rfl) rfl), K101, (A94.sub rfl), (B96_0.sub rfl), (B96_1.sub rfl), A99, A100⟩
  rintro y47 _ _ ⟨s102, _, vy47_2, rfl, rfl, Ky47, Ay47_0, Ay47_1, Ay47_2, By47_b35, By47_b3⟩
  refine sq ?_
  refine sr ?_
  refine fa fa117_5 rfl rfl rfl rfl rfl rfl ?_
  refine ld By47_b35 Tryz.underlying115 rfl rfl rfl rfl rfl rfl rfl rfl ?_
  refine ln Ay47_2 Tryz.underlying115 rfl rfl rfl rfl rfl rfl ?_
  refine pu rfl rfl rfl rfl rfl ?_
  refine dn ?_
  refine cd rfl (fun h108 => ?_) (fun h108 => ?_)
  ·
   refine sr ?_
   refine pu rfl rfl rfl rfl rfl ?_
   refine pu rfl rfl rfl rfl rfl ?_
   refine dn ?_
   exact re rfl Tryz.func12 rfl (r_t rfl (r_t rfl r_nil)) rfl ⟨_, rfl, (.slice none 0 0), rfl, z.fr Ky47 (rd_nil 117 kd117 s102 []) rfl, z.ky Ky47⟩
  ·
   refine sk ?_
   refine sr ?_
   refine pu rfl rfl rfl rfl rfl ?_
   refine dn ?_
   refine sq ?_
   refine sr ?_
   refine pu rfl rfl rfl rfl rfl ?_
   refine dn ?_
   refine bl ?_
   refine lpI (fun (x109 : (List Track) × Int × Int × Bool) (e : Env) (w : World) => ∃ (s : St) (e0 : Env), w = s.w ∧ e = upd (upd (upd (upd (upd (upd (upd e0 0 w0_0) 5 (.pointer (some ⟨b3, 0, none⟩))) 8 (.int .i64 r7)) 9 v28_0) 10 (.pointer (some ⟨b35, 0, none⟩))) 11 (.int .i64 x109.2.1)) 12 (.int .i64 x109.2.2.1) ∧ Kp s0 s ∧ RwF 117 kd117 s v28_0 x109.1 44 [50, 49, 51] ∧ BlF s b35 117 [(.int .i64 ((at_ r28 r7).Xid)), (.int .i64 ((at_ r28 r7).Begun)), (.int .i64 ((at_ r28 r7).Ended)), (.bool ((at_ r28 r7).All)), v31_0, vy47_2, (.bool x109.2.2.2), (.bool ((at_ r28 r7).Out))] 45 ∧ BlF s b3 33 [(.int .i64 a2.Kind), (.int .i64 a2.N), w2_0, w2_1] 40 ∧ RdF (Kd.sl 200 kd200) s [v31_0] y47.2.1 [50, 49, 51] ∧ RdF (Kd.sl 33 kd33) s [vy47_2] y47.2.2 [49, 51]) ⟨s102, _, rfl, (ue (ue (ue (ue (ue (ue (ue rfl rfl) rfl) rfl) rfl) rfl) rfl) rfl), Ky47, Ay47_0, By47_b35, By47_b3, Ay47_1, Ay47_2⟩ (fun g109 ih109 => ?_)
   rintro x109 _ _ ⟨s110, _, rfl, rfl, Kx109, Ax109_0, Bx109_b35, Bx109_b3, Cx109_104, Cx109_105⟩
   unfold spec_EdgeWrite.b0
   refine sq ?_
   refine sr ?_
   refine pu rfl rfl rfl rfl rfl ?_
   refine mv v28_0 rfl rfl rfl rfl rfl rfl ?_
   refine ln Ax109_0.rd Tryz.underlying29 rfl rfl rfl rfl rfl rfl ?_
   refine pu rfl rfl rfl rfl rfl ?_
   refine dn ?_
   refine cd rfl (fun h114 => ?_) (fun h114 => ?_)
   ·
    refine sk ?_
    refine sq ?_
    refine jc (fun (y115 : (List Track) × Int × Bool) (e : Env) (w : World) => ∃ (s : St) (e0 : Env), w = s.w ∧ e = upd (upd (upd (upd (upd (upd (upd e0 0 w0_0) 5 (.pointer (some ⟨b3, 0, none⟩))) 8 (.int .i64 r7)) 9 v28_0) 10 (.pointer (some ⟨b35, 0, none⟩))) 11 (.int .i64 y115.2.1)) 12 (.int .i64 x109.2.2.1) ∧ Kp s0 s ∧ RwF 117 kd117 s v28_0 y115.1 44 [50, 49, 51] ∧ BlF s b35 117 [(.int .i64 ((at_ r28 r7).Xid)), (.int .i64 ((at_ r28 r7).Begun)), (.int .i64 ((at_ r28 r7).Ended)), (.bool ((at_ r28 r7).All)), v31_0, vy47_2, (.bool y115.2.2), (.bool ((at_ r28 r7).Out))] 45 ∧ BlF s b3 33 [(.int .i64 a2.Kind), (.int .i64 a2.N), w2_0, w2_1] 40 ∧ RdF (Kd.sl 200 kd200) s [v31_0] y47.2.1 [50, 49, 51] ∧ RdF (Kd.sl 33 kd33) s [vy47_2] y47.2.2 [49, 51]) (fun Gj115 Kj115 => ?_) ?_
    ·
     refine bl ?_
     refine sr ?_
     refine mv v28_0 rfl rfl rfl rfl rfl rfl ?_
     refine pu rfl rfl rfl rfl rfl ?_
     refine ix Ax109_0.rd Tryz.underlying29 z117 rfl rfl rfl rfl rfl rfl rfl rfl (fun ad116 es116 h0_116 h1_116 he116 ce116 ia116 => ?_)
     replace he116 := rw_sharp Ax109_0 h0_116 h1_116 ia116 ce116 he116
     obtain ⟨v116_0, v116_1, rfl, A116_0, A116_1⟩ := op117 he116
     refine lca ce116 Tryz.underlying117 z117 rfl rfl rfl rfl rfl rfl rfl ?_
     refine al (cs := [(.int .i64 (0 : Int)), (.int .i64 (0 : Int)), (.int .i64 (0 : Int)), (.bool false), (.slice none 0 0), (.slice none 0 0), (.bool false), (.bool false)]) 52 rfl rfl rfl rfl rfl o117 rfl (fun b120 s120 p120 B120 => ?_)
     have A122 := (A116_1.st p120 rfl)
     have A123 := (A116_0.st p120 rfl)
     refine sva (vs := [(.int .i64 ((at_ x109.1 x109.2.2.1).Xid)), (.int .i64 ((at_ x109.1 x109.2.2.1).Begun)), (.int .i64 ((at_ x109.1 x109.2.2.1).Ended)), (.bool ((at_ x109.1 x109.2.2.1).All)), v116_0, v116_1, (.bool ((at_ x109.1 x109.2.2.1).In)), (.bool ((at_ x109.1 x109.2.2.1).Out))]) B120 z117 rfl rfl rfl rfl rfl rfl (on_cons rfl (on_cons rfl (on_cons rfl (on_cons rfl (on_cons A123.one (on_cons A122.one (on_cons rfl (on_cons rfl on_nil)))))))) rfl (fun s124 p124 B124 => ?_)
     refine dn ?_
     refine sq ?_
     refine sq ?_
     refine zdraw [[], [], [0, 1], [2], [3], [3], [4, 5, 3, 3], [6, 3], [3, 7], [8, 6], [9], [9], [10, 11, 9], [12, 9], [9], [13, 14, 9, 9], [15, 9], [9, 16]] [some 61, some 62, some 63, some 64, some 65, some 66, some 67, some 68, some 69, some 70, some 71, some 72, some 73, some 74, some 75, some 76, some 77, some 78] [[12], [8], [61, 62], [63], [13, 64], [5, 64], [65, 66, 64], [67, 64], [64, 68], [69], [0, 70], [8, 70], [71, 72, 70], [73, 70], [13, 70], [74, 75, 70], [76, 70], [70, 77]] [0, 1, 2, 3, 4, 5, 6, 7, 8, 9, 10, 11, 12, 13, 14, 15, 16, 17] ⟨by kernel_rfl, by kernel_rfl, by kernel_rfl⟩ (by kernel_rfl) (fun s126 p126 l126 tb126 zd126 => ?_)
     have zd127 := zd126.add 0 61 (.int .i64 x109.2.2.1) rfl
     have zd128 := zd127.add 1 62 (.int .i64 r7) rfl
     have zd129 := zd128.add 2 63 (.bool (x109.2.2.1 == r7)) rfl
     have zd130 := zd129.add 3 64 (.bool (x109.2.2.1 == r7)) rfl
     refine ji [] (fun (y131 : Bool) (e : Env) (w : World) => ∃ (s : St) (e0 : Env), w = s.w ∧ e = upd (upd (upd (upd (upd (upd (upd (upd (upd e0 0 w0_0) 5 (.pointer (some ⟨b3, 0, none⟩))) 8 (.int .i64 r7)) 9 v28_0) 10 (.pointer (some ⟨b35, 0, none⟩))) 11 (.int .i64 x109.2.1)) 12 (.int .i64 x109.2.2.1)) 13 (.pointer (some ⟨b120, 0, none⟩))) 78 (.bool y131) ∧ Kp s0 s ∧ BlF s b120 117 [(.int .i64 ((at_ x109.1 x109.2.2.1).Xid)), (.int .i64 ((at_ x109.1 x109.2.2.1).Begun)), (.int .i64 ((at_ x109.1 x109.2.2.1).Ended)), (.bool ((at_ x109.1 x109.2.2.1).All)), v116_0, v116_1, (.bool ((at_ x109.1 x109.2.2.1).In)), (.bool ((at_ x109.1 x109.2.2.1).Out))] 52 ∧ BlF s b35 117 [(.int .i64 ((at_ r28 r7).Xid)), (.int .i64 ((at_ r28 r7).Begun)), (.int .i64 ((at_ r28 r7).Ended)), (.bool ((at_ r28 r7).All)), v31_0, vy47_2, (.bool x109.2.2.2), (.bool ((at_ r28 r7).Out))] 45 ∧ BlF s b3 33 [(.int .i64 a2.Kind), (.int .i64 a2.N), w2_0, w2_1] 40 ∧ RwF 117 kd117 s v28_0 x109.1 44 [50, 49, 51] ∧ RdF (Kd.sl 200 kd200) s [v116_0] ((at_ x109.1 x109.2.2.1).Reads) [50, 49, 51] ∧ RdF (Kd.sl 33 kd33) s [v116_1] ((at_ x109.1 x109.2.2.1).Writes) [50, 49, 51] ∧ RdF (Kd.sl 200 kd200) s [v31_0] y47.2.1 [50, 49, 51] ∧ RdF (Kd.sl 33 kd33) s [vy47_2] y47.2.2 [49, 51]) (fun Gj131 Kj131 => ?_) ?_
     ·
      rcases Bool.eq_false_or_eq_true (x109.2.2.1 == r7) with hb131 | hb131
      ·
       rw [if_pos hb131]
       rw [hb131] at zd130
       try rw [hb131]
       have zd132 := zd130.add 4 65 undef rfl
       have zd133 := zd132.add 5 66 undef rfl
       have zd134 := zd133.add 6 67 undef rfl
       have zd135 := zd134.add 7 68 undef rfl
       have zd136 := zd135.add 8 69 (.bool true) rfl
       have zd137 := zd136.add 9 70 (.bool true) rfl
       have zd138 := zd137.add 10 71 undef rfl
       have zd139 := zd138.add 11 72 undef rfl
       have zd140 := zd139.add 12 73 undef rfl
       have zd141 := zd140.add 13 74 undef rfl
       have zd142 := zd141.add 14 75 undef rfl
       refine zfin [15, 16, 17] tb126 zd142 (pq_cons (uw_q rfl rfl rfl rfl rfl) rfl (pq_cons (uw_q rfl rfl rfl rfl rfl) rfl (pq_cons (uw_q rfl rfl rfl rfl rfl) rfl (pq_cons (uw_q rfl rfl rfl rfl rfl) rfl (pq_cons (uw_q rfl rfl rfl rfl rfl) rfl (pq_cons (pu_q rfl rfl rfl rfl rfl rfl) rfl (pq_cons (pu_q rfl rfl rfl rfl rfl rfl) rfl (pq_cons (uw_q rfl rfl rfl rfl rfl) rfl (pq_cons (uw_q rfl rfl rfl rfl rfl) rfl (pq_cons (uw_q rfl rfl rfl rfl rfl) rfl (pq_cons (uw_q rfl rfl rfl rfl rfl) rfl (pq_cons (pu_q rfl rfl rfl rfl rfl rfl) rfl (pq_cons (qv_b (pu_q rfl rfl rfl rfl rfl rfl) hb131) rfl (pq_cons (pu_q rfl rfl rfl rfl rfl rfl) rfl (pq_cons (pu_q rfl rfl rfl rfl rfl rfl) rfl pq_nil))))))))))))))) (by kernel_rfl) (by decide) ?_
       refine uw rfl rfl rfl rfl ?_
       refine uw rfl rfl rfl rfl ?_
       refine pu rfl rfl rfl rfl rfl ?_
       have A143 := (BlF.st B124 p126 rfl)
       have A144 := (BlF.st (BlF.st (BlF.st Bx109_b35 p120 rfl) p124 rfl) p126 rfl)
       have A145 := (BlF.st (BlF.st (BlF.st Bx109_b3 p120 rfl) p124 rfl) p126 rfl)
       have A146 := (((Ax109_0.st p120 rfl rfl).st p124 rfl rfl).st p126 rfl rfl)
       have A147 := ((A123.st p124 rfl).st p126 rfl)
       have A148 := ((A122.st p124 rfl).st p126 rfl)
       have A149 := (((Cx109_104.st p120 rfl).st p124 rfl).st p126 rfl)
       have A150 := (((Cx109_105.st p120 rfl).st p124 rfl).st p126 rfl)
       have K151 := (((Kx109.st p120 rfl).st p124 rfl).st p126 rfl)
       exact Kj131 _ _ _ ⟨s126, _, rfl, (ue (ue (ue (ue (ue (ue (ue (ue (ue rfl rfl) rfl) rfl) rfl) rfl) rfl) rfl) rfl) rfl), K151, A143, A144, A145, A146, A147, A148, A149, A150⟩
      ·
       rw [if_neg (by rw [hb131]; decide)]
       rw [hb131] at zd130
       try rw [hb131]
       have A152 := (BlF.st B124 p126 rfl)
       have zd153 := zd130.add 4 65 (.agg #[(.int .i64 ((at_ x109.1 x109.2.2.1).Xid)), (.int .i64 ((at_ x109.1 x109.2.2.1).Begun)), (.int .i64 ((at_ x109.1 x109.2.2.1).Ended)), (.bool ((at_ x109.1 x109.2.2.1).All)), v116_0, v116_1, (.bool ((at_ x109.1 x109.2.2.1).In)), (.bool ((at_ x109.1 x109.2.2.1).Out))]) rfl
       have A154 := (BlF.st (BlF.st (BlF.st Bx109_b3 p120 rfl) p124 rfl) p126 rfl)
       have zd155 := zd153.add 5 66 (.agg #[(.int .i64 a2.Kind), (.int .i64 a2.N), w2_0, w2_1]) rfl
       have A157 := (BlF.st B124 p126 rfl)
       have A158 := (BlF.st (BlF.st (BlF.st Bx109_b3 p120 rfl) p124 rfl) p126 rfl)
       refine zstep 6 [] tb126 zd155 (pq_cons (lda_q (es := [(.int .i64 a2.Kind), (.int .i64 a2.N), w2_0, w2_1]) A158 Tryz.underlying33 z33 rfl rfl rfl rfl rfl rfl rfl rfl) rfl (pq_cons (lda_q (es := [(.int .i64 ((at_ x109.1 x109.2.2.1).Xid)), (.int .i64 ((at_ x109.1 x109.2.2.1).Begun)), (.int .i64 ((at_ x109.1 x109.2.2.1).Ended)), (.bool ((at_ x109.1 x109.2.2.1).All)), v116_0, v116_1, (.bool ((at_ x109.1 x109.2.2.1).In)), (.bool ((at_ x109.1 x109.2.2.1).Out))]) A157 Tryz.underlying117 z117 rfl rfl rfl rfl rfl rfl rfl rfl) rfl (pq_cons (pu_q rfl rfl rfl rfl rfl rfl) rfl (pq_cons (qv_b (pu_q rfl rfl rfl rfl rfl rfl) hb131) rfl (pq_cons (pu_q rfl rfl rfl rfl rfl rfl) rfl (pq_cons (pu_q rfl rfl rfl rfl rfl rfl) rfl pq_nil)))))) (by kernel_rfl) rfl (fun l156 e156 zd156 => ?_)
       have A159 := ((A123.st p124 rfl).st p126 rfl)
       have A160 := ((A122.st p124 rfl).st p126 rfl)
       have K161 := (((Kx109.st p120 rfl).st p124 rfl).st p126 rfl)
       have A162 := (A2_1.kp K161)
       refine cl rfl rfl rfl rfl rfl Tryz.func70 rfl rfl rfl (fun r163 m163 => spec_TrackReads.calls (at_ x109.1 x109.2.2.1) a2 s126.w (fun b => memb [50, 49, 51, 0] (s126.g b) = true) v116_0 v116_1 w2_0 w2_1 (A159.sub (D := [50, 49, 51, 0]) rfl) (A160.sub (D := [50, 49, 51, 0]) rfl) ((fl_rdf (s := s126) A2_0).sub (D := [50, 49, 51, 0]) rfl) (A162.sub (D := [50, 49, 51, 0]) rfl) r163 m163) ?_
       rintro r163 _ w163 m163 ⟨rfl, ky163⟩
       obtain ⟨s164, rfl, p164, n164⟩ := nwx s126 w163 53 ky163
       refine zdone (L' := []) (D' := [0, 1, 2, 4, 5, 3, 3, 6]) zd156 rfl rfl rfl (fun zd165 => ?_)
       have zd166 := zd165.add 7 68 (.bool (!r163)) rfl
       have zd167 := zd166.add 8 69 (.bool (!r163)) rfl
       have zd168 := zd167.add 9 70 (.bool (!r163)) rfl
       refine ji [] (fun (y169 : Bool × Bool) (e : Env) (w : World) => ∃ (s : St) (e0 : Env), w = s.w ∧ e = upd (upd (upd (upd (upd (upd (upd (upd (upd (upd (upd (upd (upd e0 0 w0_0) 5 (.pointer (some ⟨b3, 0, none⟩))) 8 (.int .i64 r7)) 9 v28_0) 10 (.pointer (some ⟨b35, 0, none⟩))) 11 (.int .i64 x109.2.1)) 12 (.int .i64 x109.2.2.1)) 13 (.pointer (some ⟨b120, 0, none⟩))) 65 (.agg #[(.int .i64 ((at_ x109.1 x109.2.2.1).Xid)), (.int .i64 ((at_ x109.1 x109.2.2.1).Begun)), (.int .i64 ((at_ x109.1 x109.2.2.1).Ended)), (.bool ((at_ x109.1 x109.2.2.1).All)), v116_0, v116_1, (.bool ((at_ x109.1 x109.2.2.1).In)), (.bool ((at_ x109.1 x109.2.2.1).Out))])) 66 (.agg #[(.int .i64 a2.Kind), (.int .i64 a2.N), w2_0, w2_1])) 67 (.bool r163)) 68 (.bool y169.1)) 78 (.bool y169.2) ∧ Kp s0 s ∧ BlF s b120 117 [(.int .i64 ((at_ x109.1 x109.2.2.1).Xid)), (.int .i64 ((at_ x109.1 x109.2.2.1).Begun)), (.int .i64 ((at_ x109.1 x109.2.2.1).Ended)), (.bool ((at_ x109.1 x109.2.2.1).All)), v116_0, v116_1, (.bool ((at_ x109.1 x109.2.2.1).In)), (.bool ((at_ x109.1 x109.2.2.1).Out))] 52 ∧ BlF s b35 117 [(.int .i64 ((at_ r28 r7).Xid)), (.int .i64 ((at_ r28 r7).Begun)), (.int .i64 ((at_ r28 r7).Ended)), (.bool ((at_ r28 r7).All)), v31_0, vy47_2, (.bool x109.2.2.2), (.bool ((at_ r28 r7).Out))] 45 ∧ BlF s b3 33 [(.int .i64 a2.Kind), (.int .i64 a2.N), w2_0, w2_1] 40 ∧ RwF 117 kd117 s v28_0 x109.1 44 [50, 49, 51] ∧ RdF (Kd.sl 200 kd200) s [v116_0] ((at_ x109.1 x109.2.2.1).Reads) [50, 49, 51] ∧ RdF (Kd.sl 33 kd33) s [v116_1] ((at_ x109.1 x109.2.2.1).Writes) [50, 49, 51] ∧ RdF (Kd.sl 200 kd200) s [v31_0] y47.2.1 [50, 49, 51] ∧ RdF (Kd.sl 33 kd33) s [vy47_2] y47.2.2 [49, 51]) (fun Gj169 Kj169 => ?_) ?_
       ·
        rcases Bool.eq_false_or_eq_true (!r163) with hb169 | hb169
        ·
         rw [if_pos hb169]
         rw [hb169] at zd168
         try rw [hb169]
         have zd170 := zd168.add 10 71 undef rfl
         have zd171 := zd170.add 11 72 undef rfl
         have zd172 := zd171.add 12 73 undef rfl
         have zd173 := zd172.add 13 74 undef rfl
         have zd174 := zd173.add 14 75 undef rfl
         refine zfin [15, 16, 17] tb126 zd174 (pq_cons (uw_q rfl rfl rfl rfl rfl) rfl (pq_cons (uw_q rfl rfl rfl rfl rfl) rfl (pq_cons (uw_q rfl rfl rfl rfl rfl) rfl (pq_cons (uw_q rfl rfl rfl rfl rfl) rfl (pq_cons (uw_q rfl rfl rfl rfl rfl) rfl (pq_cons (pu_q rfl rfl rfl rfl rfl rfl) rfl (pq_cons (pu_q rfl rfl rfl rfl rfl rfl) rfl (pq_cons (qv_b (pu_q rfl rfl rfl rfl rfl rfl) hb169) rfl pq_nil)))))))) (by kernel_rfl) (by decide) ?_
         refine uw rfl rfl rfl rfl ?_
         refine uw rfl rfl rfl rfl ?_
         refine pu rfl rfl rfl rfl rfl ?_
         have A175 := (BlF.st (BlF.st B124 p126 rfl) p164 rfl)
         have A176 := (BlF.st (BlF.st (BlF.st (BlF.st Bx109_b35 p120 rfl) p124 rfl) p126 rfl) p164 rfl)
         have A177 := (BlF.st (BlF.st (BlF.st (BlF.st Bx109_b3 p120 rfl) p124 rfl) p126 rfl) p164 rfl)
         have A178 := ((((Ax109_0.st p120 rfl rfl).st p124 rfl rfl).st p126 rfl rfl).st p164 rfl rfl)
         have A179 := (A159.st p164 rfl)
         have A180 := (A160.st p164 rfl)
         have A181 := ((((Cx109_104.st p120 rfl).st p124 rfl).st p126 rfl).st p164 rfl)
         have A182 := ((((Cx109_105.st p120 rfl).st p124 rfl).st p126 rfl).st p164 rfl)
         have K183 := (K161.st p164 rfl)
         exact Kj169 _ _ _ ⟨s164, _, rfl, (ue (ue (ue (ue (ue (ue (ue (ue (ue (ue (ue (ue (ue rfl rfl) rfl) rfl) rfl) rfl) rfl) rfl) rfl) rfl) rfl) rfl) rfl) rfl), K183, A175, A176, A177, A178, A179, A180, A181, A182⟩
        ·
         rw [if_neg (by rw [hb169]; decide)]
         rw [hb169] at zd168
         try rw [hb169]
         have zd184 := zd168.add 10 71 w0_0 rfl
         have zd185 := zd184.add 11 72 (.int .i64 r7) rfl
         have K186 := (K161.st p164 rfl)
         have A187 := (A0_0.kp K186)
         refine mg fun hg188 => ?_
         obtain ⟨ad188, es188, he188, ce188, ia188⟩ := ix_e A187 rfl hg188.1 hg188.2
         have h0_188 := hg188.1
         have h1_188 := hg188.2
         obtain ⟨v188_0, v188_1, rfl, A188_0, A188_1⟩ := op117 he188
         have zd192 := zd185.add 12 73 (.pointer (some ad188)) rfl
         have zd193 := zd192.add 13 74 (.agg #[(.int .i64 ((at_ a0 r7).Xid)), (.int .i64 ((at_ a0 r7).Begun)), (.int .i64 ((at_ a0 r7).Ended)), (.bool ((at_ a0 r7).All)), v188_0, v188_1, (.bool ((at_ a0 r7).In)), (.bool ((at_ a0 r7).Out))]) rfl
         have A194 := (BlF.st (BlF.st B124 p126 rfl) p164 rfl)
         have zd195 := zd193.add 14 75 (.agg #[(.int .i64 ((at_ x109.1 x109.2.2.1).Xid)), (.int .i64 ((at_ x109.1 x109.2.2.1).Begun)), (.int .i64 ((at_ x109.1 x109.2.2.1).Ended)), (.bool ((at_ x109.1 x109.2.2.1).All)), v116_0, v116_1, (.bool ((at_ x109.1 x109.2.2.1).In)), (.bool ((at_ x109.1 x109.2.2.1).Out))]) rfl
         have A196 := (BlF.st (BlF.st B124 p126 rfl) p164 rfl)
         refine zfin [15, 16, 17] tb126 zd195 (pq_cons (lda_q (es := [(.int .i64 ((at_ x109.1 x109.2.2.1).Xid)), (.int .i64 ((at_ x109.1 x109.2.2.1).Begun)), (.int .i64 ((at_ x109.1 x109.2.2.1).Ended)), (.bool ((at_ x109.1 x109.2.2.1).All)), v116_0, v116_1, (.bool ((at_ x109.1 x109.2.2.1).In)), (.bool ((at_ x109.1 x109.2.2.1).Out))]) A196 Tryz.underlying117 z117 rfl rfl rfl rfl rfl rfl rfl rfl) rfl (pq_cons (lca_q ce188 Tryz.underlying117 z117 rfl rfl rfl rfl rfl rfl rfl) rfl (pq_cons (ix_q A187 Tryz.underlying29 z117 hg188.1 hg188.2 ia188 rfl rfl rfl rfl rfl rfl rfl) rfl (pq_cons (pu_q rfl rfl rfl rfl rfl rfl) rfl (pq_cons (mv_q w0_0 rfl rfl rfl rfl rfl rfl) rfl (pq_cons (pu_q rfl rfl rfl rfl rfl rfl) rfl (pq_cons (pu_q rfl rfl rfl rfl rfl rfl) rfl (pq_cons (qv_b (pu_q rfl rfl rfl rfl rfl rfl) hb169) rfl pq_nil)))))))) (by kernel_rfl) (by decide) ?_
         have A197 := (A159.st p164 rfl)
         have A198 := (A160.st p164 rfl)
         refine cl rfl rfl rfl rfl rfl Tryz.func71 rfl rfl rfl (fun r199 m199 => spec_Concurrent.calls (at_ a0 r7) (at_ x109.1 x109.2.2.1) s164.w (fun b => memb [0, 50, 49, 51] (s164.g b) = true) v188_0 v188_1 v116_0 v116_1 (A188_0.sub (D := [0, 50, 49, 51]) rfl) (A188_1.sub (D := [0, 50, 49, 51]) rfl) (A197.sub (D := [0, 50, 49, 51]) rfl) (A198.sub (D := [0, 50, 49, 51]) rfl) r199 m199) ?_
         rintro r199 _ w199 m199 ⟨rfl, ky199⟩
         obtain ⟨s200, rfl, p200, n200⟩ := nwx s164 w199 54 ky199
         refine pu rfl rfl rfl rfl rfl ?_
         refine pu rfl rfl rfl rfl rfl ?_
         have A201 := (BlF.st (BlF.st (BlF.st B124 p126 rfl) p164 rfl) p200 rfl)
         have A202 := (BlF.st (BlF.st (BlF.st (BlF.st (BlF.st Bx109_b35 p120 rfl) p124 rfl) p126 rfl) p164 rfl) p200 rfl)
         have A203 := (BlF.st (BlF.st (BlF.st (BlF.st (BlF.st Bx109_b3 p120 rfl) p124 rfl) p126 rfl) p164 rfl) p200 rfl)
         have A204 := (((((Ax109_0.st p120 rfl rfl).st p124 rfl rfl).st p126 rfl rfl).st p164 rfl rfl).st p200 rfl rfl)
         have A205 := (A197.st p200 rfl)
         have A206 := (A198.st p200 rfl)
         have A207 := (((((Cx109_104.st p120 rfl).st p124 rfl).st p126 rfl).st p164 rfl).st p200 rfl)
         have A208 := (((((Cx109_105.st p120 rfl).st p124 rfl).st p126 rfl).st p164 rfl).st p200 rfl)
         have K209 := (K186.st p200 rfl)
         exact Kj169 _ _ _ ⟨s200, _, rfl, (ue (ue (ue (ue (ue (ue (ue (ue (ue (ue (ue (ue (ue rfl rfl) rfl) rfl) rfl) rfl) rfl) rfl) rfl) rfl) rfl) rfl) rfl) rfl), K209, A201, A202, A203, A204, A205, A206, A207, A208⟩
       rintro y169 _ _ ⟨s210, _, rfl, rfl, Ky169, By169_b120, By169_b35, By169_b3, Cy169_111, Cy169_117, Cy169_118, Cy169_104, Cy169_105⟩
       exact Kj131 _ _ _ ⟨s210, _, rfl, (ue (ue (ue (ue (ue (ue (ue (ue (ue rfl rfl) rfl) rfl) rfl) rfl) rfl) rfl) rfl) rfl), Ky169, By169_b120, By169_b35, By169_b3, Cy169_111, Cy169_117, Cy169_118, Cy169_104, Cy169_105⟩
     rintro y131 _ _ ⟨s214, _, rfl, rfl, Ky131, By131_b120, By131_b35, By131_b3, Cy131_111, Cy131_117, Cy131_118, Cy131_104, Cy131_105⟩
     refine dn ?_
     refine cd rfl (fun h218 => ?_) (fun h218 => ?_)
     ·
      refine xt rfl ?_
      exact Kj115 _ _ _ ⟨s214, _, rfl, (ue (ue (ue (ue (ue (ue (ue rfl rfl) rfl) rfl) rfl) rfl) rfl) rfl), Ky131, Cy131_111, By131_b35, By131_b3, Cy131_104, Cy131_105⟩
     ·
      refine sk ?_
      refine sr ?_
      refine fa fa117_7 rfl rfl rfl rfl rfl rfl ?_
      refine sv By131_b120 z4 rfl rfl rfl rfl rfl rfl rfl rfl (fun s219 p219 B219 => ?_)
      refine dn ?_
      refine sr ?_
      refine fa fa117_6 rfl rfl rfl rfl rfl rfl ?_
      have A221 := (BlF.st By131_b35 p219 rfl)
      refine sv A221 z4 rfl rfl rfl rfl rfl rfl rfl rfl (fun s222 p222 B222 => ?_)
      refine dn ?_
      refine sr ?_
      refine mv v28_0 rfl rfl rfl rfl rfl rfl ?_
      refine pu rfl rfl rfl rfl rfl ?_
      have A224 := (BlF.st B219 p222 rfl)
      refine lda (es := [(.int .i64 ((at_ x109.1 x109.2.2.1).Xid)), (.int .i64 ((at_ x109.1 x109.2.2.1).Begun)), (.int .i64 ((at_ x109.1 x109.2.2.1).Ended)), (.bool ((at_ x109.1 x109.2.2.1).All)), v116_0, v116_1, (.bool ((at_ x109.1 x109.2.2.1).In)), (.bool true)]) A224 Tryz.underlying117 z117 rfl rfl rfl rfl rfl rfl rfl rfl ?_
      have A225 := ((Cy131_111.st p219 rfl rfl).st p222 rfl rfl)
      refine ix A225.rd Tryz.underlying29 z117 rfl rfl rfl rfl rfl rfl rfl rfl (fun ad226 es226 h0_226 h1_226 he226 ce226 ia226 => ?_)
      replace he226 := rw_sharp A225 h0_226 h1_226 ia226 ce226 he226
      obtain ⟨v226_0, v226_1, rfl, A226_0, A226_1⟩ := op117 he226
      have A230 := ((Cy131_117.st p219 rfl).st p222 rfl)
      have A231 := ((Cy131_118.st p219 rfl).st p222 rfl)
      refine sor (x' := (Track.mk ((at_ x109.1 x109.2.2.1).Xid) ((at_ x109.1 x109.2.2.1).Begun) ((at_ x109.1 x109.2.2.1).Ended) ((at_ x109.1 x109.2.2.1).All) ((at_ x109.1 x109.2.2.1).Reads) ((at_ x109.1 x109.2.2.1).Writes) ((at_ x109.1 x109.2.2.1).In) true)) A225 ia226 h0_226 h1_226 (mk117 (x := (Track.mk ((at_ x109.1 x109.2.2.1).Xid) ((at_ x109.1 x109.2.2.1).Begun) ((at_ x109.1 x109.2.2.1).Ended) ((at_ x109.1 x109.2.2.1).All) ((at_ x109.1 x109.2.2.1).Reads) ((at_ x109.1 x109.2.2.1).Writes) ((at_ x109.1 x109.2.2.1).In) true)) A230 A231) rfl z117 rfl rfl rfl rfl rfl rfl (fun s232 p232 A232 => ?_)
      have A232_ := A232.sub (D := [50, 49, 51]) rfl
      refine nb (fun y234 h234 => ?_)
      have A234 : RwF 117 kd117 s232 v28_0 y234 44 [50, 49, 51] := by rw [h234]; exact A232_
      refine dn ?_
      refine sr ?_
      refine fa fa117_2 rfl rfl rfl rfl rfl rfl ?_
      have A235 := (BlF.st A224 p232 rfl)
      refine ld A235 Tryz.underlying3 rfl rfl rfl rfl rfl rfl rfl rfl ?_
      refine pu rfl rfl rfl rfl rfl ?_
      refine pu rfl rfl rfl rfl rfl ?_
      refine jy [88, 89, 90, 91] [] 91 (.bool ((decide ((at_ x109.1 x109.2.2.1).Ended > (0 : Int))) && (at_ x109.1 x109.2.2.1).In)) rfl (fun Kg236 => ?_) (fun j236 => ?_)
      ·
       rcases Bool.eq_false_or_eq_true (decide ((at_ x109.1 x109.2.2.1).Ended > (0 : Int))) with hb236 | hb236
       ·
        refine sbT hb236 ?_
        refine fa fa117_6 rfl rfl rfl rfl rfl rfl ?_
        refine ld A235 Tryz.underlying4 rfl rfl rfl rfl rfl rfl rfl rfl ?_
        refine pu rfl rfl rfl rfl rfl ?_
        exact Kg236 _ (Ag.put ((Ag.put ((Ag.put (Ag.base rfl) rfl)) rfl)) rfl) (by rw [hb236]; rfl)
       ·
        refine sbT hb236 ?_
        refine uw rfl rfl rfl rfl ?_
        refine uw rfl rfl rfl rfl ?_
        refine pu rfl rfl rfl rfl rfl ?_
        exact Kg236 _ (Ag.put ((Ag.put ((Ag.put (Ag.base rfl) rfl)) rfl)) rfl) (by rw [hb236]; rfl)
      refine dn ?_
      refine jc (fun (y237 : Int) (e : Env) (w : World) => ∃ (s : St) (e0 : Env), w = s.w ∧ e = upd (upd (upd (upd (upd (upd (upd e0 0 w0_0) 5 (.pointer (some ⟨b3, 0, none⟩))) 8 (.int .i64 r7)) 9 v28_0) 10 (.pointer (some ⟨b35, 0, none⟩))) 11 (.int .i64 y237)) 12 (.int .i64 x109.2.2.1) ∧ Kp s0 s ∧ BlF s b35 117 [(.int .i64 ((at_ r28 r7).Xid)), (.int .i64 ((at_ r28 r7).Begun)), (.int .i64 ((at_ r28 r7).Ended)), (.bool ((at_ r28 r7).All)), v31_0, vy47_2, (.bool true), (.bool ((at_ r28 r7).Out))] 45 ∧ BlF s b3 33 [(.int .i64 a2.Kind), (.int .i64 a2.N), w2_0, w2_1] 40 ∧ RwF 117 kd117 s v28_0 y234 44 [50, 49, 51] ∧ RdF (Kd.sl 200 kd200) s [v31_0] y47.2.1 [50, 49, 51] ∧ RdF (Kd.sl 33 kd33) s [vy47_2] y47.2.2 [49, 51]) (fun Gj237 Kj237 => ?_) ?_
      ·
       refine cd rfl (fun h238 => ?_) (fun h238 => ?_)
       ·
        refine rg ?_
        refine pu rfl rfl rfl rfl rfl ?_
        refine dn ?_
        have A239 := (BlF.st B222 p232 rfl)
        have A240 := (BlF.st (BlF.st (BlF.st By131_b3 p219 rfl) p222 rfl) p232 rfl)
        have A241 := (((Cy131_104.st p219 rfl).st p222 rfl).st p232 rfl)
        have A242 := (((Cy131_105.st p219 rfl).st p222 rfl).st p232 rfl)
        have K243 := (((Ky131.st p219 rfl).st p222 rfl).st p232 rfl)
        exact Kj237 _ _ _ ⟨s232, _, rfl, (ue (ue (ue (ue (ue (ue (ue rfl rfl) rfl) rfl) rfl) rfl) rfl) rfl), K243, A239, A240, A234, A241, A242⟩
       ·
        refine sk ?_
        have A244 := (BlF.st B222 p232 rfl)
        have A245 := (BlF.st (BlF.st (BlF.st By131_b3 p219 rfl) p222 rfl) p232 rfl)
        have A246 := (((Cy131_104.st p219 rfl).st p222 rfl).st p232 rfl)
        have A247 := (((Cy131_105.st p219 rfl).st p222 rfl).st p232 rfl)
        have K248 := (((Ky131.st p219 rfl).st p222 rfl).st p232 rfl)
        exact Kj237 _ _ _ ⟨s232, _, rfl, (ue (ue (ue (ue (ue (ue (ue rfl rfl) rfl) rfl) rfl) rfl) rfl) rfl), K248, A244, A245, A234, A246, A247⟩
      rintro y237 _ _ ⟨s249, _, rfl, rfl, Ky237, By237_b35, By237_b3, Cy237_233, Cy237_104, Cy237_105⟩
      refine ib ?_
      exact Kj115 _ _ _ ⟨s249, _, rfl, (ue (ue (ue (ue (ue (ue (ue rfl rfl) rfl) rfl) rfl) rfl) rfl) rfl), Ky237, Cy237_233, By237_b35, By237_b3, Cy237_104, Cy237_105⟩
    rintro y115 _ _ ⟨s252, _, rfl, rfl, Ky115, Ay115_0, By115_b35, By115_b3, Cy115_104, Cy115_105⟩
    refine rg ?_
    refine pu rfl rfl rfl rfl rfl ?_
    refine pu rfl rfl rfl rfl rfl ?_
    refine pu rfl rfl rfl rfl rfl ?_
    refine dn ?_
    exact lb ih109 ⟨s252, _, rfl, (ue (ue (ue (ue (ue (ue (ue rfl rfl) rfl) rfl) rfl) rfl) rfl) rfl), Ky115, Ay115_0, By115_b35, By115_b3, Cy115_104, Cy115_105⟩
   ·
    refine xt rfl ?_
    refine sgb ?_
    refine sr ?_
    refine mv v28_0 rfl rfl rfl rfl rfl rfl ?_
    refine pu rfl rfl rfl rfl rfl ?_
    refine lda (es := [(.int .i64 ((at_ r28 r7).Xid)), (.int .i64 ((at_ r28 r7).Begun)), (.int .i64 ((at_ r28 r7).Ended)), (.bool ((at_ r28 r7).All)), v31_0, vy47_2, (.bool x109.2.2.2), (.bool ((at_ r28 r7).Out))]) Bx109_b35 Tryz.underlying117 z117 rfl rfl rfl rfl rfl rfl rfl rfl ?_
    refine ix Ax109_0.rd Tryz.underlying29 z117 rfl rfl rfl rfl rfl rfl rfl rfl (fun ad256 es256 h0_256 h1_256 he256 ce256 ia256 => ?_)
    replace he256 := rw_sharp Ax109_0 h0_256 h1_256 ia256 ce256 he256
    obtain ⟨v256_0, v256_1, rfl, A256_0, A256_1⟩ := op117 he256
    refine sor (x' := (Track.mk ((at_ r28 r7).Xid) ((at_ r28 r7).Begun) ((at_ r28 r7).Ended) ((at_ r28 r7).All) y47.2.1 y47.2.2 x109.2.2.2 ((at_ r28 r7).Out))) Ax109_0 ia256 h0_256 h1_256 (mk117 (x := (Track.mk ((at_ r28 r7).Xid) ((at_ r28 r7).Begun) ((at_ r28 r7).Ended) ((at_ r28 r7).All) y47.2.1 y47.2.2 x109.2.2.2 ((at_ r28 r7).Out))) Cx109_104 (RdF.sub (D := [50, 49, 51]) Cx109_105 rfl)) rfl z117 rfl rfl rfl rfl rfl rfl (fun s260 p260 A260 => ?_)
    have A260_ := A260.sub (D := [50, 49, 51]) rfl
    refine nb (fun y262 h262 => ?_)
    have A262 : RwF 117 kd117 s260 v28_0 y262 44 [50, 49, 51] := by rw [h262]; exact A260_
    refine dn ?_
    refine sq ?_
    refine sr ?_
    refine fa fa117_6 rfl rfl rfl rfl rfl rfl ?_
    have A263 := (BlF.st Bx109_b35 p260 rfl)
    refine ld A263 Tryz.underlying4 rfl rfl rfl rfl rfl rfl rfl rfl ?_
    refine pu rfl rfl rfl rfl rfl ?_
    refine jy [98, 99, 100, 101] [] 101 (.bool (x109.2.2.2 && (at_ r28 r7).Out)) rfl (fun Kg264 => ?_) (fun j264 => ?_)
    ·
     rcases Bool.eq_false_or_eq_true x109.2.2.2 with hb264 | hb264
     ·
      refine sbT hb264 ?_
      refine fa fa117_7 rfl rfl rfl rfl rfl rfl ?_
      refine ld A263 Tryz.underlying4 rfl rfl rfl rfl rfl rfl rfl rfl ?_
      refine pu rfl rfl rfl rfl rfl ?_
      exact Kg264 _ (Ag.put ((Ag.put ((Ag.put (Ag.base rfl) rfl)) rfl)) rfl) (by rw [hb264]; rfl)
     ·
      refine sbT hb264 ?_
      refine uw rfl rfl rfl rfl ?_
      refine uw rfl rfl rfl rfl ?_
      refine pu rfl rfl rfl rfl rfl ?_
      exact Kg264 _ (Ag.put ((Ag.put ((Ag.put (Ag.base rfl) rfl)) rfl)) rfl) (by rw [hb264]; rfl)
    refine dn ?_
    refine jc (fun (y265 : Int) (e : Env) (w : World) => ∃ (s : St) (e0 : Env), w = s.w ∧ e = upd (upd e0 9 v28_0) 11 (.int .i64 y265) ∧ Kp s0 s ∧ RwF 117 kd117 s v28_0 y262 44 [50, 49, 51]) (fun Gj265 Kj265 => ?_) ?_
    ·
     refine cd rfl (fun h266 => ?_) (fun h266 => ?_)
     ·
      refine rg ?_
      refine pu rfl rfl rfl rfl rfl ?_
      refine dn ?_
      have K267 := (Kx109.st p260 rfl)
      exact Kj265 _ _ _ ⟨s260, _, rfl, (ue (ue rfl rfl) rfl), K267, A262⟩
     ·
      refine sk ?_
      have K268 := (Kx109.st p260 rfl)
      exact Kj265 _ _ _ ⟨s260, _, rfl, (ue (ue rfl rfl) rfl), K268, A262⟩
    rintro y265 _ _ ⟨s269, _, rfl, rfl, Ky265, Cy265_261⟩
    refine sr ?_
    refine mv v28_0 rfl rfl rfl rfl rfl rfl ?_
    refine pu rfl rfl rfl rfl rfl ?_
    refine asg v28_0 rfl rfl rfl rfl rfl rfl ?_
    refine pu rfl rfl rfl rfl rfl ?_
    refine dn ?_
    exact re rfl Tryz.func12 rfl (r_t rfl (r_t rfl r_nil)) rfl ⟨_, rfl, v28_0, rfl, z.fr Ky265 Cy265_261.rd rfl, z.ky Ky265⟩
noncomputable def cmp_isNaN_int.f (a0 : Int) : Option (Bool) :=
 (some (a0 != a0))
def cmp_isNaN_int.Q (w : World) (F : Nat → Prop) (r : Bool) (v : Value) (w' : World) : Prop :=
 v = (.bool r) ∧ Ky [] w w'
set_option maxHeartbeats 4000000 in
set_option maxRecDepth 100000 in
theorem cmp_isNaN_int.calls (a0 : Int) (w : World) (F : Nat → Prop)   (r : Bool) (m : cmp_isNaN_int.f a0 = some r) :
  Calls Tryz.prog 250 #[(.int .i64 a0)] w fun en w' => ∃ v, en = .returned v ∧ cmp_isNaN_int.Q w F r v w' := by
 obtain ⟨s0, rfl, kp0, z⟩ := start0 w F
 refine calls_of_TM (args := [(.int .i64 a0)]) (R := fun r en w' => ∃ v, en = .returned v ∧ cmp_isNaN_int.Q s0.w F r v w') Tryz.func250 Tryz.ntmps250 rfl rfl m ?_
 unfold cmp_isNaN_int.f
 refine sr ?_
 refine pu rfl rfl rfl rfl rfl ?_
 refine dn ?_
 refine sr ?_
 refine pu rfl rfl rfl rfl rfl ?_
 refine pu rfl rfl rfl rfl rfl ?_
 refine pu rfl rfl rfl rfl rfl ?_
 refine pu rfl rfl rfl rfl rfl ?_
 refine dn ?_
 exact re rfl Tryz.func250 rfl (r_t rfl r_nil) rfl ⟨_, rfl, rfl, z.ky kp0⟩
noncomputable def cmp_Compare_int.f (a0 : Int) (a1 : Int) : Option (Int) :=
 ((cmp_isNaN_int.f a0).bind fun r1 => ((cmp_isNaN_int.f a1).bind fun r3 => (if r1 = true then (if r3 = true then (some (0 : Int)) else (some (-1 : Int))) else (if r3 = true then (some (1 : Int)) else (if (decide (a0 < a1)) = true then (some (-1 : Int)) else (if (decide (a0 > a1)) = true then (some (1 : Int)) else (some (0 : Int))))))))
def cmp_Compare_int.Q (w : World) (F : Nat → Prop) (r : Int) (v : Value) (w' : World) : Prop :=
 v = (.int .i64 r) ∧ Ky [] w w'
set_option maxHeartbeats 4000000 in
set_option maxRecDepth 100000 in
theorem cmp_Compare_int.calls (a0 : Int) (a1 : Int) (w : World) (F : Nat → Prop)   (r : Int) (m : cmp_Compare_int.f a0 a1 = some r) :
  Calls Tryz.prog 171 #[(.int .i64 a0), (.int .i64 a1)] w fun en w' => ∃ v, en = .returned v ∧ cmp_Compare_int.Q w F r v w' := by
 obtain ⟨s0, rfl, kp0, z⟩ := start0 w F
 refine calls_of_TM (args := [(.int .i64 a0), (.int .i64 a1)]) (R := fun r en w' => ∃ v, en = .returned v ∧ cmp_Compare_int.Q s0.w F r v w') Tryz.func171 Tryz.ntmps171 rfl rfl m ?_
 unfold cmp_Compare_int.f
 refine sr ?_
 refine pu rfl rfl rfl rfl rfl ?_
 refine dn ?_
 refine sr ?_
 refine pu rfl rfl rfl rfl rfl ?_
 refine cl rfl rfl rfl rfl rfl Tryz.func250 rfl rfl rfl (fun r1 m1 => cmp_isNaN_int.calls a0 s0.w (fun b => memb [] (s0.g b) = true)  r1 m1) ?_
 rintro r1 _ w1 m1 ⟨rfl, ky1⟩
 obtain ⟨s2, rfl, p2, n2⟩ := nwx s0 w1 40 ky1
 refine pu rfl rfl rfl rfl rfl ?_
 refine dn ?_
 refine sr ?_
 refine pu rfl rfl rfl rfl rfl ?_
 refine cl rfl rfl rfl rfl rfl Tryz.func250 rfl rfl rfl (fun r3 m3 => cmp_isNaN_int.calls a1 s2.w (fun b => memb [] (s2.g b) = true)  r3 m3) ?_
 rintro r3 _ w3 m3 ⟨rfl, ky3⟩
 obtain ⟨s4, rfl, p4, n4⟩ := nwx s2 w3 41 ky3
 refine pu rfl rfl rfl rfl rfl ?_
 refine dn ?_
 refine sq ?_
 refine sr ?_
 refine pu rfl rfl rfl rfl rfl ?_
 refine dn ?_
 refine cd rfl (fun h5 => ?_) (fun h5 => ?_)
 ·
  refine sq ?_
  refine sr ?_
  refine pu rfl rfl rfl rfl rfl ?_
  refine dn ?_
  refine cd rfl (fun h6 => ?_) (fun h6 => ?_)
  ·
   refine sr ?_
   refine pu rfl rfl rfl rfl rfl ?_
   refine dn ?_
   have K7 := ((kp0.st p2 rfl).st p4 rfl)
   exact re rfl Tryz.func171 rfl (r_t rfl r_nil) rfl ⟨_, rfl, rfl, z.ky K7⟩
  ·
   refine sk ?_
   refine sr ?_
   refine pu rfl rfl rfl rfl rfl ?_
   refine dn ?_
   have K8 := ((kp0.st p2 rfl).st p4 rfl)
   exact re rfl Tryz.func171 rfl (r_t rfl r_nil) rfl ⟨_, rfl, rfl, z.ky K8⟩
 ·
  refine sk ?_
  refine sq ?_
  refine sr ?_
  refine pu rfl rfl rfl rfl rfl ?_
  refine dn ?_
  refine cd rfl (fun h9 => ?_) (fun h9 => ?_)
  ·
   refine sr ?_
   refine pu rfl rfl rfl rfl rfl ?_
   refine dn ?_
   have K10 := ((kp0.st p2 rfl).st p4 rfl)
   exact re rfl Tryz.func171 rfl (r_t rfl r_nil) rfl ⟨_, rfl, rfl, z.ky K10⟩
  ·
   refine sk ?_
   refine sq ?_
   refine sr ?_
   refine pu rfl rfl rfl rfl rfl ?_
   refine pu rfl rfl rfl rfl rfl ?_
   refine pu rfl rfl rfl rfl rfl ?_
   refine dn ?_
   refine cd rfl (fun h11 => ?_) (fun h11 => ?_)
   ·
    refine sr ?_
    refine pu rfl rfl rfl rfl rfl ?_
    refine dn ?_
    have K12 := ((kp0.st p2 rfl).st p4 rfl)
    exact re rfl Tryz.func171 rfl (r_t rfl r_nil) rfl ⟨_, rfl, rfl, z.ky K12⟩
   ·
    refine sk ?_
    refine sq ?_
    refine sr ?_
    refine pu rfl rfl rfl rfl rfl ?_
    refine pu rfl rfl rfl rfl rfl ?_
    refine pu rfl rfl rfl rfl rfl ?_
    refine dn ?_
    refine cd rfl (fun h13 => ?_) (fun h13 => ?_)
    ·
     refine sr ?_
     refine pu rfl rfl rfl rfl rfl ?_
     refine dn ?_
     have K14 := ((kp0.st p2 rfl).st p4 rfl)
     exact re rfl Tryz.func171 rfl (r_t rfl r_nil) rfl ⟨_, rfl, rfl, z.ky K14⟩
    ·
     refine sk ?_
     refine sr ?_
     refine pu rfl rfl rfl rfl rfl ?_
     refine dn ?_
     have K15 := ((kp0.st p2 rfl).st p4 rfl)
     exact re rfl Tryz.func171 rfl (r_t rfl r_nil) rfl ⟨_, rfl, rfl, z.ky K15⟩
noncomputable def impl_FloatRank.f (a0 : Nat) : Option (Int) :=
 (if (fcmp .f64 a0 a0 != some .eq) = true then (some (18446744073709551615 : Int)) else (if (fcmp .f64 a0 (0 : Nat) == some .eq) = true then (some (9223372036854775808 : Int)) else (if (fcmp .f64 a0 (0 : Nat) == some .gt) = true then (if isN a0 = false then (some (ior .u64 (a0 : Int) (9223372036854775808 : Int))) else none) else (if isN a0 = false then (some (ixor .u64 (IntKind.max .u64) (a0 : Int))) else none))))
def impl_FloatRank.Q (w : World) (F : Nat → Prop) (r : Int) (v : Value) (w' : World) : Prop :=
 v = (.int .u64 r) ∧ Ky [] w w'
set_option maxHeartbeats 4000000 in
set_option maxRecDepth 100000 in
theorem impl_FloatRank.calls (a0 : Nat) (w : World) (F : Nat → Prop) (w0_0 : Value) (h0_0 : Kd.flt.rd w [w0_0] a0 F) (r : Int) (m : impl_FloatRank.f a0 = some r) :
  Calls Tryz.prog 252 #[w0_0] w fun en w' => ∃ v, en = .returned v ∧ impl_FloatRank.Q w F r v w' := by
 obtain ⟨s0, rfl, kp0, z⟩ := start0 w F
 have A0_0 := fl_of h0_0
 refine calls_of_TM (args := [w0_0]) (R := fun r en w' => ∃ v, en = .returned v ∧ impl_FloatRank.Q s0.w F r v w') Tryz.func252 Tryz.ntmps252 rfl rfl m ?_
 unfold impl_FloatRank.f
 refine sr ?_
 refine pu rfl rfl rfl rfl rfl ?_
 refine dn ?_
 refine sq ?_
 refine bl ?_
 refine sr ?_
 refine mv w0_0 rfl rfl rfl rfl rfl rfl ?_
 refine mv w0_0 rfl rfl rfl rfl rfl rfl ?_
 refine fq_ A0_0 A0_0 rfl rfl rfl rfl rfl rfl rfl rfl ?_
 refine pu rfl rfl rfl rfl rfl ?_
 refine dn ?_
 refine cd rfl (fun h1 => ?_) (fun h1 => ?_)
 ·
  refine sr ?_
  refine pu rfl rfl rfl rfl rfl ?_
  refine dn ?_
  exact re rfl Tryz.func252 rfl (r_t rfl r_nil) rfl ⟨_, rfl, rfl, z.ky kp0⟩
 ·
  refine sr ?_
  refine mv w0_0 rfl rfl rfl rfl rfl rfl ?_
  refine fq_ A0_0 (fl_c rfl) rfl rfl rfl rfl rfl rfl rfl rfl ?_
  refine pu rfl rfl rfl rfl rfl ?_
  refine dn ?_
  refine cd rfl (fun h2 => ?_) (fun h2 => ?_)
  ·
   refine sr ?_
   refine pu rfl rfl rfl rfl rfl ?_
   refine dn ?_
   exact re rfl Tryz.func252 rfl (r_t rfl r_nil) rfl ⟨_, rfl, rfl, z.ky kp0⟩
  ·
   refine sr ?_
   refine mv w0_0 rfl rfl rfl rfl rfl rfl ?_
   refine fq_ A0_0 (fl_c rfl) rfl rfl rfl rfl rfl rfl rfl rfl ?_
   refine pu rfl rfl rfl rfl rfl ?_
   refine dn ?_
   refine cd rfl (fun h3 => ?_) (fun h3 => ?_)
   ·
    refine sr ?_
    refine mv w0_0 rfl rfl rfl rfl rfl rfl ?_
    refine fb_ A0_0 rfl rfl rfl rfl rfl Tryz.func166 rfl rfl xn166 xf166 rfl ?_
    refine pu rfl rfl rfl rfl rfl ?_
    refine pu rfl rfl rfl rfl rfl ?_
    refine dn ?_
    exact re rfl Tryz.func252 rfl (r_t rfl r_nil) rfl ⟨_, rfl, rfl, z.ky kp0⟩
   ·
    refine sk ?_
    refine ib ?_
    refine sr ?_
    refine mv w0_0 rfl rfl rfl rfl rfl rfl ?_
    refine fb_ A0_0 rfl rfl rfl rfl rfl Tryz.func166 rfl rfl xn166 xf166 rfl ?_
    refine pu rfl rfl rfl rfl rfl ?_
    refine pu rfl rfl rfl rfl rfl ?_
    refine dn ?_
    exact re rfl Tryz.func252 rfl (r_t rfl r_nil) rfl ⟨_, rfl, rfl, z.ky kp0⟩
noncomputable def cmp_isNaN_uint64.f (a0 : Int) : Option (Bool) :=
 (some (a0 != a0))
def cmp_isNaN_uint64.Q (w : World) (F : Nat → Prop) (r : Bool) (v : Value) (w' : World) : Prop :=
 v = (.bool r) ∧ Ky [] w w'
set_option maxHeartbeats 4000000 in
set_option maxRecDepth 100000 in
theorem cmp_isNaN_uint64.calls (a0 : Int) (w : World) (F : Nat → Prop)   (r : Bool) (m : cmp_isNaN_uint64.f a0 = some r) :
  Calls Tryz.prog 307 #[(.int .u64 a0)] w fun en w' => ∃ v, en = .returned v ∧ cmp_isNaN_uint64.Q w F r v w' := by
 obtain ⟨s0, rfl, kp0, z⟩ := start0 w F
 refine calls_of_TM (args := [(.int .u64 a0)]) (R := fun r en w' => ∃ v, en = .returned v ∧ cmp_isNaN_uint64.Q s0.w F r v w') Tryz.func307 Tryz.ntmps307 rfl rfl m ?_
 unfold cmp_isNaN_uint64.f
 refine sr ?_
 refine pu rfl rfl rfl rfl rfl ?_
 refine dn ?_
 refine sr ?_
 refine pu rfl rfl rfl rfl rfl ?_
 refine pu rfl rfl rfl rfl rfl ?_
 refine pu rfl rfl rfl rfl rfl ?_
 refine pu rfl rfl rfl rfl rfl ?_
 refine dn ?_
 exact re rfl Tryz.func307 rfl (r_t rfl r_nil) rfl ⟨_, rfl, rfl, z.ky kp0⟩
noncomputable def cmp_Compare_uint64.f (a0 : Int) (a1 : Int) : Option (Int) :=
 ((cmp_isNaN_uint64.f a0).bind fun r1 => ((cmp_isNaN_uint64.f a1).bind fun r3 => (if r1 = true then (if r3 = true then (some (0 : Int)) else (some (-1 : Int))) else (if r3 = true then (some (1 : Int)) else (if (decide (a0 < a1)) = true then (some (-1 : Int)) else (if (decide (a0 > a1)) = true then (some (1 : Int)) else (some (0 : Int))))))))
def cmp_Compare_uint64.Q (w : World) (F : Nat → Prop) (r : Int) (v : Value) (w' : World) : Prop :=
 v = (.int .i64 r) ∧ Ky [] w w'
set_option maxHeartbeats 4000000 in
set_option maxRecDepth 100000 in
theorem cmp_Compare_uint64.calls (a0 : Int) (a1 : Int) (w : World) (F : Nat → Prop)   (r : Int) (m : cmp_Compare_uint64.f a0 a1 = some r) :
  Calls Tryz.prog 251 #[(.int .u64 a0), (.int .u64 a1)] w fun en w' => ∃ v, en = .returned v ∧ cmp_Compare_uint64.Q w F r v w' := by
 obtain ⟨s0, rfl, kp0, z⟩ := start0 w F
 refine calls_of_TM (args := [(.int .u64 a0), (.int .u64 a1)]) (R := fun r en w' => ∃ v, en = .returned v ∧ cmp_Compare_uint64.Q s0.w F r v w') Tryz.func251 Tryz.ntmps251 rfl rfl m ?_
 unfold cmp_Compare_uint64.f
 refine sr ?_
 refine pu rfl rfl rfl rfl rfl ?_
 refine dn ?_
 refine sr ?_
 refine pu rfl rfl rfl rfl rfl ?_
 refine cl rfl rfl rfl rfl rfl Tryz.func307 rfl rfl rfl (fun r1 m1 => cmp_isNaN_uint64.calls a0 s0.w (fun b => memb [] (s0.g b) = true)  r1 m1) ?_
 rintro r1 _ w1 m1 ⟨rfl, ky1⟩
 obtain ⟨s2, rfl, p2, n2⟩ := nwx s0 w1 40 ky1
 refine pu rfl rfl rfl rfl rfl ?_
 refine dn ?_
 refine sr ?_
 refine pu rfl rfl rfl rfl rfl ?_
 refine cl rfl rfl rfl rfl rfl Tryz.func307 rfl rfl rfl (fun r3 m3 => cmp_isNaN_uint64.calls a1 s2.w (fun b => memb [] (s2.g b) = true)  r3 m3) ?_
 rintro r3 _ w3 m3 ⟨rfl, ky3⟩
 obtain ⟨s4, rfl, p4, n4⟩ := nwx s2 w3 41 ky3
 refine pu rfl rfl rfl rfl rfl ?_
 refine dn ?_
 refine sq ?_
 refine sr ?_
 refine pu rfl rfl rfl rfl rfl ?_
 refine dn ?_
 refine cd rfl (fun h5 => ?_) (fun h5 => ?_)
 ·
  refine sq ?_
  refine sr ?_
  refine pu rfl rfl rfl rfl rfl ?_
  refine dn ?_
  refine cd rfl (fun h6 => ?_) (fun h6 => ?_)
  ·
   refine sr ?_
   refine pu rfl rfl rfl rfl rfl ?_
   refine dn ?_
   have K7 := ((kp0.st p2 rfl).st p4 rfl)
   exact re rfl Tryz.func251 rfl (r_t rfl r_nil) rfl ⟨_, rfl, rfl, z.ky K7⟩
  ·
   refine sk ?_
   refine sr ?_
   refine pu rfl rfl rfl rfl rfl ?_
   refine dn ?_
   have K8 := ((kp0.st p2 rfl).st p4 rfl)
   exact re rfl Tryz.func251 rfl (r_t rfl r_nil) rfl ⟨_, rfl, rfl, z.ky K8⟩
 ·
  refine sk ?_
  refine sq ?_
  refine sr ?_
  refine pu rfl rfl rfl rfl rfl ?_
  refine dn ?_
  refine cd rfl (fun h9 => ?_) (fun h9 => ?_)
  ·
   refine sr ?_
   refine pu rfl rfl rfl rfl rfl ?_
   refine dn ?_
   have K10 := ((kp0.st p2 rfl).st p4 rfl)
   exact re rfl Tryz.func251 rfl (r_t rfl r_nil) rfl ⟨_, rfl, rfl, z.ky K10⟩
  ·
   refine sk ?_
   refine sq ?_
   refine sr ?_
   refine pu rfl rfl rfl rfl rfl ?_
   refine pu rfl rfl rfl rfl rfl ?_
   refine pu rfl rfl rfl rfl rfl ?_
   refine dn ?_
   refine cd rfl (fun h11 => ?_) (fun h11 => ?_)
   ·
    refine sr ?_
    refine pu rfl rfl rfl rfl rfl ?_
    refine dn ?_
    have K12 := ((kp0.st p2 rfl).st p4 rfl)
    exact re rfl Tryz.func251 rfl (r_t rfl r_nil) rfl ⟨_, rfl, rfl, z.ky K12⟩
   ·
    refine sk ?_
    refine sq ?_
    refine sr ?_
    refine pu rfl rfl rfl rfl rfl ?_
    refine pu rfl rfl rfl rfl rfl ?_
    refine pu rfl rfl rfl rfl rfl ?_
    refine dn ?_
    refine cd rfl (fun h13 => ?_) (fun h13 => ?_)
    ·
     refine sr ?_
     refine pu rfl rfl rfl rfl rfl ?_
     refine dn ?_
     have K14 := ((kp0.st p2 rfl).st p4 rfl)
     exact re rfl Tryz.func251 rfl (r_t rfl r_nil) rfl ⟨_, rfl, rfl, z.ky K14⟩
    ·
     refine sk ?_
     refine sr ?_
     refine pu rfl rfl rfl rfl rfl ?_
     refine dn ?_
     have K15 := ((kp0.st p2 rfl).st p4 rfl)
     exact re rfl Tryz.func251 rfl (r_t rfl r_nil) rfl ⟨_, rfl, rfl, z.ky K15⟩
noncomputable def impl_FloatCompare.f (a0 : Nat) (a1 : Nat) : Option (Int) :=
 ((impl_FloatRank.f a0).bind fun r1 => ((impl_FloatRank.f a1).bind fun r3 => ((cmp_Compare_uint64.f r1 r3).bind fun r5 => (some r5))))
def impl_FloatCompare.Q (w : World) (F : Nat → Prop) (r : Int) (v : Value) (w' : World) : Prop :=
 v = (.int .i64 r) ∧ Ky [] w w'
set_option maxHeartbeats 4000000 in
set_option maxRecDepth 100000 in
theorem impl_FloatCompare.calls (a0 : Nat) (a1 : Nat) (w : World) (F : Nat → Prop) (w0_0 : Value) (w1_0 : Value) (h0_0 : Kd.flt.rd w [w0_0] a0 F) (h1_0 : Kd.flt.rd w [w1_0] a1 F) (r : Int) (m : impl_FloatCompare.f a0 a1 = some r) :
  Calls Tryz.prog 172 #[w0_0, w1_0] w fun en w' => ∃ v, en = .returned v ∧ impl_FloatCompare.Q w F r v w' := by
 obtain ⟨s0, rfl, kp0, z⟩ := start0 w F
 have A0_0 := fl_of h0_0
 have A1_0 := fl_of h1_0
 refine calls_of_TM (args := [w0_0, w1_0]) (R := fun r en w' => ∃ v, en = .returned v ∧ impl_FloatCompare.Q s0.w F r v w') Tryz.func172 Tryz.ntmps172 rfl rfl m ?_
 unfold impl_FloatCompare.f
 refine sr ?_
 refine pu rfl rfl rfl rfl rfl ?_
 refine dn ?_
 refine sr ?_
 refine mv w0_0 rfl rfl rfl rfl rfl rfl ?_
 refine cl rfl rfl rfl rfl rfl Tryz.func252 rfl rfl rfl (fun r1 m1 => impl_FloatRank.calls a0 s0.w (fun b => memb [] (s0.g b) = true) w0_0 (fl_rdf (s := s0) A0_0) r1 m1) ?_
 rintro r1 _ w1 m1 ⟨rfl, ky1⟩
 obtain ⟨s2, rfl, p2, n2⟩ := nwx s0 w1 40 ky1
 refine mv w1_0 rfl rfl rfl rfl rfl rfl ?_
 refine cl rfl rfl rfl rfl rfl Tryz.func252 rfl rfl rfl (fun r3 m3 => impl_FloatRank.calls a1 s2.w (fun b => memb [] (s2.g b) = true) w1_0 (fl_rdf (s := s2) A1_0) r3 m3) ?_
 rintro r3 _ w3 m3 ⟨rfl, ky3⟩
 obtain ⟨s4, rfl, p4, n4⟩ := nwx s2 w3 41 ky3
 refine cl rfl rfl rfl rfl rfl Tryz.func251 rfl rfl rfl (fun r5 m5 => cmp_Compare_uint64.calls r1 r3 s4.w (fun b => memb [] (s4.g b) = true)  r5 m5) ?_
 rintro r5 _ w5 m5 ⟨rfl, ky5⟩
 obtain ⟨s6, rfl, p6, n6⟩ := nwx s4 w5 42 ky5
 refine pu rfl rfl rfl rfl rfl ?_
 refine dn ?_
 have K7 := (((kp0.st p2 rfl).st p4 rfl).st p6 rfl)
 exact re rfl Tryz.func172 rfl (r_t rfl r_nil) rfl ⟨_, rfl, rfl, z.ky K7⟩
noncomputable def bytes_Compare.f (a0 : (List Int)) (a1 : (List Int)) : Option (Int) :=
 (some (bcmpS a0 a1))
def bytes_Compare.Q (w : World) (F : Nat → Prop) (r : Int) (v : Value) (w' : World) : Prop :=
 v = (.int .i64 r) ∧ Ky [] w w'
set_option maxHeartbeats 4000000 in
set_option maxRecDepth 100000 in
theorem bytes_Compare.calls (a0 : (List Int)) (a1 : (List Int)) (w : World) (F : Nat → Prop) (w0_0 : Value) (w1_0 : Value) (h0_0 : (Kd.sl 5 (Kd.int .u8)).rd w [w0_0] a0 F) (h1_0 : (Kd.sl 5 (Kd.int .u8)).rd w [w1_0] a1 F) (r : Int) (m : bytes_Compare.f a0 a1 = some r) :
  Calls Tryz.prog 173 #[w0_0, w1_0] w fun en w' => ∃ v, en = .returned v ∧ bytes_Compare.Q w F r v w' := by
 obtain ⟨s0, rfl, kp0, z⟩ := start0 w F
 have A0_0 := z.rd h0_0
 have A1_0 := z.rd h1_0
 refine calls_of_TM (args := [w0_0, w1_0]) (R := fun r en w' => ∃ v, en = .returned v ∧ bytes_Compare.Q s0.w F r v w') Tryz.func173 Tryz.ntmps173 rfl rfl m ?_
 unfold bytes_Compare.f
 refine sr ?_
 refine pu rfl rfl rfl rfl rfl ?_
 refine dn ?_
 refine sr ?_
 refine mv w0_0 rfl rfl rfl rfl rfl rfl ?_
 refine mv w1_0 rfl rfl rfl rfl rfl rfl ?_
 refine bcx A0_0 A1_0 rfl rfl rfl rfl rfl Tryz.func253 rfl rfl xn253 xf253 rfl rfl ?_
 refine pu rfl rfl rfl rfl rfl ?_
 refine dn ?_
 exact re rfl Tryz.func173 rfl (r_t rfl r_nil) rfl ⟨_, rfl, rfl, z.ky kp0⟩
noncomputable def cmp_Or_int.b0 (a0 : (List Int)) (x2 : Int) : Option (Int ⊕ Int) :=
 (if (decide (x2 < (a0.length : Int))) = true then (if 0 ≤ x2 ∧ x2 < (a0.length : Int) then (if ((at_ a0 x2) != (0 : Int)) = true then (some (Sum.inr (at_ a0 x2))) else (some (Sum.inl (IntKind.wrap .i64 (x2 + (1 : Int)))))) else none) else ((some (0 : Int)).bind fun o => some (Sum.inr o)))
noncomputable def cmp_Or_int.f (a0 : (List Int)) : Option (Int) :=
 (iter (cmp_Or_int.b0 a0) (0 : Int))
def cmp_Or_int.Q (w : World) (F : Nat → Prop) (r : Int) (v : Value) (w' : World) : Prop :=
 v = (.int .i64 r) ∧ Ky [] w w'
set_option maxHeartbeats 4000000 in
set_option maxRecDepth 100000 in
theorem cmp_Or_int.calls (a0 : (List Int)) (w : World) (F : Nat → Prop) (w0_0 : Value) (h0_0 : (Kd.sl 3 (Kd.int .i64)).rd w [w0_0] a0 F) (r : Int) (m : cmp_Or_int.f a0 = some r) :
  Calls Tryz.prog 170 #[w0_0] w fun en w' => ∃ v, en = .returned v ∧ cmp_Or_int.Q w F r v w' := by
 obtain ⟨s0, rfl, kp0, z⟩ := start0 w F
 have A0_0 := z.rd h0_0
 refine calls_of_TM (args := [w0_0]) (R := fun r en w' => ∃ v, en = .returned v ∧ cmp_Or_int.Q s0.w F r v w') Tryz.func170 Tryz.ntmps170 rfl rfl m ?_
 unfold cmp_Or_int.f
 refine sr ?_
 refine pu rfl rfl rfl rfl rfl ?_
 refine dn ?_
 refine sr ?_
 refine pu rfl rfl rfl rfl rfl ?_
 refine dn ?_
 refine sq ?_
 refine sr ?_
 refine mv w0_0 rfl rfl rfl rfl rfl rfl ?_
 refine ln A0_0 Tryz.underlying166 rfl rfl rfl rfl rfl rfl ?_
 refine pu rfl rfl rfl rfl rfl ?_
 refine dn ?_
 refine bl ?_
 refine lpI (fun (x2 : Int) (e : Env) (w : World) => ∃ (s : St) (e0 : Env), w = s.w ∧ e = upd (upd (upd (upd e0 3 (.int .i64 (0 : Int))) 6 w0_0) 7 (.int .i64 (a0.length : Int))) 8 (.int .i64 x2) ∧ Kp s0 s) ⟨s0, _, rfl, (ue (ue (ue (ue rfl rfl) rfl) rfl) rfl), kp0⟩ (fun g2 ih2 => ?_)
 rintro x2 _ _ ⟨s3, _, rfl, rfl, Kx2⟩
 unfold cmp_Or_int.b0
 refine sr ?_
 refine pu rfl rfl rfl rfl rfl ?_
 refine dn ?_
 refine sq ?_
 refine cd rfl (fun h4 => ?_) (fun h4 => ?_)
 ·
  refine sk ?_
  refine sq ?_
  refine bl ?_
  refine sr ?_
  have A5 := (A0_0.kp Kx2)
  refine ix A5 Tryz.underlying166 z3 rfl rfl rfl rfl rfl rfl rfl rfl (fun ad6 es6 h0_6 h1_6 he6 ce6 ia6 => ?_)
  obtain rfl := he6
  refine lc0 ce6 Tryz.underlying3 rfl rfl rfl rfl rfl rfl rfl rfl ?_
  refine pu rfl rfl rfl rfl rfl ?_
  refine dn ?_
  refine sr ?_
  refine pu rfl rfl rfl rfl rfl ?_
  refine pu rfl rfl rfl rfl rfl ?_
  refine pu rfl rfl rfl rfl rfl ?_
  refine dn ?_
  refine cd rfl (fun h8 => ?_) (fun h8 => ?_)
  ·
   refine sr ?_
   refine pu rfl rfl rfl rfl rfl ?_
   refine pu rfl rfl rfl rfl rfl ?_
   refine dn ?_
   refine sgi ?_
   exact re rfl Tryz.func170 rfl (r_t rfl r_nil) rfl ⟨_, rfl, rfl, z.ky Kx2⟩
  ·
   refine sk ?_
   refine ib ?_
   refine rg ?_
   refine pu rfl rfl rfl rfl rfl ?_
   refine pu rfl rfl rfl rfl rfl ?_
   refine dn ?_
   exact lb ih2 ⟨s3, _, rfl, (ue (ue (ue (ue rfl rfl) rfl) rfl) rfl), Kx2⟩
 ·
  refine xt rfl ?_
  refine sgb ?_
  refine sr ?_
  refine pu rfl rfl rfl rfl rfl ?_
  refine pu rfl rfl rfl rfl rfl ?_
  refine dn ?_
  exact re rfl Tryz.func170 rfl (r_t rfl r_nil) rfl ⟨_, rfl, rfl, z.ky Kx2⟩
noncomputable def impl_compareItems.f (a0 : Item) (a1 : Item) : Option (Int) :=
 ((cmp_Compare_int.f a0.Kind a1.Kind).bind fun r41 => ((cmp_Compare_int.f a0.N a1.N).bind fun r51 => ((impl_FloatCompare.f a0.F a1.F).bind fun r59 => ((bytes_Compare.f a0.T a1.T).bind fun r67 => ((cmp_Or_int.f ([r41, r51, r59, r67])).bind fun r71 => (some r71))))))
def impl_compareItems.Q (w : World) (F : Nat → Prop) (r : Int) (v : Value) (w' : World) : Prop :=
 v = (.int .i64 r) ∧ Ky [] w w'
set_option maxHeartbeats 4000000 in
set_option maxRecDepth 100000 in
theorem impl_compareItems.calls (a0 : Item) (a1 : Item) (w : World) (F : Nat → Prop) (w0_0 : Value) (w0_1 : Value) (w1_0 : Value) (w1_1 : Value) (h0_0 : Kd.flt.rd w [w0_0] a0.F F) (h0_1 : (Kd.sl 5 (Kd.int .u8)).rd w [w0_1] a0.T F) (h1_0 : Kd.flt.rd w [w1_0] a1.F F) (h1_1 : (Kd.sl 5 (Kd.int .u8)).rd w [w1_1] a1.T F) (r : Int) (m : impl_compareItems.f a0 a1 = some r) :
  Calls Tryz.prog 80 #[(.agg #[(.int .i64 a0.Kind), (.int .i64 a0.N), w0_0, w0_1]), (.agg #[(.int .i64 a1.Kind), (.int .i64 a1.N), w1_0, w1_1])] w fun en w' => ∃ v, en = .returned v ∧ impl_compareItems.Q w F r v w' := by
 obtain ⟨s0, rfl, kp0, z⟩ := start0 w F
 have A0_0 := fl_of h0_0
 have A0_1 := z.rd h0_1
 have A1_0 := fl_of h1_0
 have A1_1 := z.rd h1_1
 refine calls_of_TM (args := [(.agg #[(.int .i64 a0.Kind), (.int .i64 a0.N), w0_0, w0_1]), (.agg #[(.int .i64 a1.Kind), (.int .i64 a1.N), w1_0, w1_1])]) (R := fun r en w' => ∃ v, en = .returned v ∧ impl_compareItems.Q s0.w F r v w') Tryz.func80 Tryz.ntmps80 rfl rfl m ?_
 unfold impl_compareItems.f
 refine sr ?_
 refine bx (cs := [(.int .i64 a0.Kind), (.int .i64 a0.N), w0_0, w0_1]) 40 rfl rfl rfl rfl rfl rfl (fun b3 s3 p3 B3 => ?_)
 refine bx (cs := [(.int .i64 a1.Kind), (.int .i64 a1.N), w1_0, w1_1]) 41 rfl rfl rfl rfl rfl rfl (fun b5 s5 p5 B5 => ?_)
 refine pu rfl rfl rfl rfl rfl ?_
 refine dn ?_
 refine sq ?_
 refine zdraw [[], [0], [], [2], [1, 3], [], [5], [], [7], [6, 8, 4], [], [10], [], [12], [11, 13, 9], [], [15], [], [17], [16, 18, 14], [4, 9, 14, 19], [20, 19], [21, 21, 0, 1, 2, 3, 4, 5, 6, 7, 8, 9, 10, 11, 12, 13, 14, 15, 16, 17, 18, 19, 20, 21]] [some 5, some 6, some 7, some 8, some 9, some 10, some 11, some 12, some 13, some 14, some 15, some 16, some 17, some 18, some 19, some 20, some 21, some 22, some 23, some 24, some 25, some 26, some 4] [[2], [5], [3], [7], [6, 8], [2], [10], [3], [12], [11, 13], [2], [15], [3], [17], [16, 18], [2], [20], [3], [22], [21, 23], [9, 14, 19, 24], [25], [26]] [0, 1, 2, 3, 4, 5, 6, 7, 8, 9, 10, 11, 12, 13, 14, 15, 16, 17, 18, 19, 20, 21, 22] ⟨by kernel_rfl, by kernel_rfl, by kernel_rfl⟩ (by kernel_rfl) (fun s7 p7 l7 tb7 zd7 => ?_)
 have zd8 := zd7.add 0 5 (.pointer (some ⟨b3, 0, none⟩)) rfl
 have A9 := (BlF.st (BlF.st B3 p5 rfl) p7 rfl)
 have zd10 := zd8.add 1 6 (.int .i64 a0.Kind) rfl
 have zd11 := zd10.add 2 7 (.pointer (some ⟨b5, 0, none⟩)) rfl
 have A12 := (BlF.st B5 p7 rfl)
 have zd13 := zd11.add 3 8 (.int .i64 a1.Kind) rfl
 have zd14 := zd13.add 5 10 (.pointer (some ⟨b3, 1, none⟩)) rfl
 have A15 := (BlF.st (BlF.st B3 p5 rfl) p7 rfl)
 have zd16 := zd14.add 6 11 (.int .i64 a0.N) rfl
 have zd17 := zd16.add 7 12 (.pointer (some ⟨b5, 1, none⟩)) rfl
 have A18 := (BlF.st B5 p7 rfl)
 have zd19 := zd17.add 8 13 (.int .i64 a1.N) rfl
 have zd20 := zd19.add 10 15 (.pointer (some ⟨b3, 2, none⟩)) rfl
 have A21 := (BlF.st (BlF.st B3 p5 rfl) p7 rfl)
 have zd22 := zd20.add 11 16 w0_0 rfl
 have zd23 := zd22.add 12 17 (.pointer (some ⟨b5, 2, none⟩)) rfl
 have A24 := (BlF.st B5 p7 rfl)
 have zd25 := zd23.add 13 18 w1_0 rfl
 have zd26 := zd25.add 15 20 (.pointer (some ⟨b3, 3, none⟩)) rfl
 have A27 := (BlF.st (BlF.st B3 p5 rfl) p7 rfl)
 have zd28 := zd26.add 16 21 w0_1 rfl
 have zd29 := zd28.add 17 22 (.pointer (some ⟨b5, 3, none⟩)) rfl
 have A30 := (BlF.st B5 p7 rfl)
 have zd31 := zd29.add 18 23 w1_1 rfl
 have A33 := (BlF.st (BlF.st B3 p5 rfl) p7 rfl)
 have A34 := (BlF.st B5 p7 rfl)
 have A35 := (BlF.st (BlF.st B3 p5 rfl) p7 rfl)
 have A36 := (BlF.st B5 p7 rfl)
 have A37 := (BlF.st (BlF.st B3 p5 rfl) p7 rfl)
 have A38 := (BlF.st B5 p7 rfl)
 have A39 := (BlF.st (BlF.st B3 p5 rfl) p7 rfl)
 have A40 := (BlF.st B5 p7 rfl)
 refine zstep 4 [some 23, some 22, some 21, some 20, some 18, some 17, some 16, some 15, some 13, some 12, some 11, some 10] tb7 zd31 (pq_cons (ld_q A40 Tryz.underlying24 rfl rfl rfl rfl rfl rfl rfl rfl) rfl (pq_cons (fa_q fa33_3 rfl rfl rfl rfl rfl rfl) rfl (pq_cons (ld_q A39 Tryz.underlying24 rfl rfl rfl rfl rfl rfl rfl rfl) rfl (pq_cons (fa_q fa33_3 rfl rfl rfl rfl rfl rfl) rfl (pq_cons (ld_q A38 Tryz.underlying23 rfl rfl rfl rfl rfl rfl rfl rfl) rfl (pq_cons (fa_q fa33_2 rfl rfl rfl rfl rfl rfl) rfl (pq_cons (ld_q A37 Tryz.underlying23 rfl rfl rfl rfl rfl rfl rfl rfl) rfl (pq_cons (fa_q fa33_2 rfl rfl rfl rfl rfl rfl) rfl (pq_cons (ld_q A36 Tryz.underlying3 rfl rfl rfl rfl rfl rfl rfl rfl) rfl (pq_cons (fa_q fa33_1 rfl rfl rfl rfl rfl rfl) rfl (pq_cons (ld_q A35 Tryz.underlying3 rfl rfl rfl rfl rfl rfl rfl rfl) rfl (pq_cons (fa_q fa33_1 rfl rfl rfl rfl rfl rfl) rfl (pq_cons (ld_q A34 Tryz.underlying3 rfl rfl rfl rfl rfl rfl rfl rfl) rfl (pq_cons (fa_q fa33_0 rfl rfl rfl rfl rfl rfl) rfl (pq_cons (ld_q A33 Tryz.underlying3 rfl rfl rfl rfl rfl rfl rfl rfl) rfl (pq_cons (fa_q fa33_0 rfl rfl rfl rfl rfl rfl) rfl pq_nil)))))))))))))))) (by kernel_rfl) rfl (fun l32 e32 zd32 => ?_)
 refine cl rfl rfl rfl rfl rfl Tryz.func171 rfl rfl rfl (fun r41 m41 => cmp_Compare_int.calls a0.Kind a1.Kind s7.w (fun b => memb [] (s7.g b) = true)  r41 m41) ?_
 rintro r41 _ w41 m41 ⟨rfl, ky41⟩
 obtain ⟨s42, rfl, p42, n42⟩ := nwx s7 w41 42 ky41
 refine zdone (L' := [18, 17, 16, 15, 13, 12, 11, 10, 8, 7, 6, 5]) (D' := [0, 2, 1, 3, 4]) zd32 rfl rfl rfl (fun zd43 => ?_)
 have A45 := (BlF.st (BlF.st (BlF.st B3 p5 rfl) p7 rfl) p42 rfl)
 have A46 := (BlF.st (BlF.st B5 p7 rfl) p42 rfl)
 have A47 := (BlF.st (BlF.st (BlF.st B3 p5 rfl) p7 rfl) p42 rfl)
 have A48 := (BlF.st (BlF.st B5 p7 rfl) p42 rfl)
 have A49 := (BlF.st (BlF.st (BlF.st B3 p5 rfl) p7 rfl) p42 rfl)
 have A50 := (BlF.st (BlF.st B5 p7 rfl) p42 rfl)
 refine zstep 9 [some 23, some 22, some 21, some 20, some 18, some 17, some 16, some 15] tb7 zd43 (pq_cons (ld_q A50 Tryz.underlying24 rfl rfl rfl rfl rfl rfl rfl rfl) rfl (pq_cons (fa_q fa33_3 rfl rfl rfl rfl rfl rfl) rfl (pq_cons (ld_q A49 Tryz.underlying24 rfl rfl rfl rfl rfl rfl rfl rfl) rfl (pq_cons (fa_q fa33_3 rfl rfl rfl rfl rfl rfl) rfl (pq_cons (ld_q A48 Tryz.underlying23 rfl rfl rfl rfl rfl rfl rfl rfl) rfl (pq_cons (fa_q fa33_2 rfl rfl rfl rfl rfl rfl) rfl (pq_cons (ld_q A47 Tryz.underlying23 rfl rfl rfl rfl rfl rfl rfl rfl) rfl (pq_cons (fa_q fa33_2 rfl rfl rfl rfl rfl rfl) rfl (pq_cons (ld_q A46 Tryz.underlying3 rfl rfl rfl rfl rfl rfl rfl rfl) rfl (pq_cons (fa_q fa33_1 rfl rfl rfl rfl rfl rfl) rfl (pq_cons (ld_q A45 Tryz.underlying3 rfl rfl rfl rfl rfl rfl rfl rfl) rfl (pq_cons (fa_q fa33_1 rfl rfl rfl rfl rfl rfl) rfl pq_nil)))))))))))) (by kernel_rfl) rfl (fun l44 e44 zd44 => ?_)
 refine cl rfl rfl rfl rfl rfl Tryz.func171 rfl rfl rfl (fun r51 m51 => cmp_Compare_int.calls a0.N a1.N s42.w (fun b => memb [] (s42.g b) = true)  r51 m51) ?_
 rintro r51 _ w51 m51 ⟨rfl, ky51⟩
 obtain ⟨s52, rfl, p52, n52⟩ := nwx s42 w51 43 ky51
 refine zdone (L' := [18, 17, 16, 15, 13, 12, 11, 10]) (D' := [5, 7, 6, 8, 9, 0, 2, 1, 3, 4]) zd44 rfl rfl rfl (fun zd53 => ?_)
 have A55 := (BlF.st (BlF.st (BlF.st (BlF.st B3 p5 rfl) p7 rfl) p42 rfl) p52 rfl)
 have A56 := (BlF.st (BlF.st (BlF.st B5 p7 rfl) p42 rfl) p52 rfl)
 have A57 := (BlF.st (BlF.st (BlF.st (BlF.st B3 p5 rfl) p7 rfl) p42 rfl) p52 rfl)
 have A58 := (BlF.st (BlF.st (BlF.st B5 p7 rfl) p42 rfl) p52 rfl)
 refine zstep 14 [some 23, some 22, some 21, some 20] tb7 zd53 (pq_cons (ld_q A58 Tryz.underlying24 rfl rfl rfl rfl rfl rfl rfl rfl) rfl (pq_cons (fa_q fa33_3 rfl rfl rfl rfl rfl rfl) rfl (pq_cons (ld_q A57 Tryz.underlying24 rfl rfl rfl rfl rfl rfl rfl rfl) rfl (pq_cons (fa_q fa33_3 rfl rfl rfl rfl rfl rfl) rfl (pq_cons (ld_q A56 Tryz.underlying23 rfl rfl rfl rfl rfl rfl rfl rfl) rfl (pq_cons (fa_q fa33_2 rfl rfl rfl rfl rfl rfl) rfl (pq_cons (ld_q A55 Tryz.underlying23 rfl rfl rfl rfl rfl rfl rfl rfl) rfl (pq_cons (fa_q fa33_2 rfl rfl rfl rfl rfl rfl) rfl pq_nil)))))))) (by kernel_rfl) rfl (fun l54 e54 zd54 => ?_)
 refine cl rfl rfl rfl rfl rfl Tryz.func172 rfl rfl rfl (fun r59 m59 => impl_FloatCompare.calls a0.F a1.F s52.w (fun b => memb [] (s52.g b) = true) w0_0 w1_0 (fl_rdf (s := s52) A0_0) (fl_rdf (s := s52) A1_0) r59 m59) ?_
 rintro r59 _ w59 m59 ⟨rfl, ky59⟩
 obtain ⟨s60, rfl, p60, n60⟩ := nwx s52 w59 44 ky59
 refine zdone (L' := [18, 17, 16, 15]) (D' := [10, 12, 11, 13, 14, 5, 7, 6, 8, 9, 0, 2, 1, 3, 4]) zd54 rfl rfl rfl (fun zd61 => ?_)
 have A62 := (BlF.st (BlF.st (BlF.st (BlF.st (BlF.st B3 p5 rfl) p7 rfl) p42 rfl) p52 rfl) p60 rfl)
 have A63 := (BlF.st (BlF.st (BlF.st (BlF.st B5 p7 rfl) p42 rfl) p52 rfl) p60 rfl)
 refine zfin [19, 20, 21, 22] tb7 zd61 (pq_cons (ld_q A63 Tryz.underlying24 rfl rfl rfl rfl rfl rfl rfl rfl) rfl (pq_cons (fa_q fa33_3 rfl rfl rfl rfl rfl rfl) rfl (pq_cons (ld_q A62 Tryz.underlying24 rfl rfl rfl rfl rfl rfl rfl rfl) rfl (pq_cons (fa_q fa33_3 rfl rfl rfl rfl rfl rfl) rfl pq_nil)))) (by kernel_rfl) (by decide) ?_
 have K64 := ((((((kp0.st p3 rfl).st p5 rfl).st p7 rfl).st p42 rfl).st p52 rfl).st p60 rfl)
 have A65 := (A0_1.kp K64)
 have A66 := (A1_1.kp K64)
 refine cl rfl rfl rfl rfl rfl Tryz.func173 rfl rfl rfl (fun r67 m67 => bytes_Compare.calls a0.T a1.T s60.w (fun b => memb [0] (s60.g b) = true) w0_1 w1_1 A65 A66 r67 m67) ?_
 rintro r67 _ w67 m67 ⟨rfl, ky67⟩
 obtain ⟨s68, rfl, p68, n68⟩ := nwx s60 w67 45 ky67
 refine ltF (K := (Kd.int .i64)) (cells := [(.int .i64 r41), (.int .i64 r51), (.int .i64 r59), (.int .i64 r67)]) [r41, r51, r59, r67] 46 fl_int Tryz.underlying166 z3 o3 (fun w => (els_flat _ _ _)) rfl rfl rfl rfl rfl rfl rfl rfl rfl rfl (fun v69 s69 p69 A69 => ?_)
 refine cl rfl rfl rfl rfl rfl Tryz.func170 rfl rfl rfl (fun r71 m71 => cmp_Or_int.calls ([r41, r51, r59, r67]) s69.w (fun b => memb [46] (s69.g b) = true) v69 A69.rd r71 m71) ?_
 rintro r71 _ w71 m71 ⟨rfl, ky71⟩
 obtain ⟨s72, rfl, p72, n72⟩ := nwx s69 w71 47 ky71
 refine pu rfl rfl rfl rfl rfl ?_
 refine dn ?_
 have K73 := (((K64.st p68 rfl).st p69 rfl).st p72 rfl)
 exact re rfl Tryz.func80 rfl (r_t rfl r_nil) rfl ⟨_, rfl, rfl, z.ky K73⟩
noncomputable def impl_EdgeWrite_1.f (a0 : Item) (a1 : Item) : Option (Bool) :=
 ((impl_compareItems.f a0 a1).bind fun r10 => (some (r10 == (0 : Int))))
def impl_EdgeWrite_1.Q (w : World) (F : Nat → Prop) (r : Bool) (v : Value) (w' : World) : Prop :=
 v = (.bool r) ∧ Ky [] w w'
set_option maxHeartbeats 4000000 in
set_option maxRecDepth 100000 in
theorem impl_EdgeWrite_1.calls (a0 : Item) (a1 : Item) (w : World) (F : Nat → Prop) (w0_0 : Value) (w0_1 : Value) (c1 : Nat) (w1_0 : Value) (w1_1 : Value) (h0_0 : Kd.flt.rd w [w0_0] a0.F F) (h0_1 : (Kd.sl 5 (Kd.int .u8)).rd w [w0_1] a0.T F) (h1_0 : Kd.flt.rd w [w1_0] a1.F F) (h1_1 : (Kd.sl 5 (Kd.int .u8)).rd w [w1_1] a1.T F) (hb1 : BlW w c1 33 [(.int .i64 a1.Kind), (.int .i64 a1.N), w1_0, w1_1]) (hp1 : F c1) (r : Bool) (m : impl_EdgeWrite_1.f a0 a1 = some r) :
  Calls Tryz.prog 79 #[(.agg #[(.int .i64 a0.Kind), (.int .i64 a0.N), w0_0, w0_1]), (.pointer (some ⟨c1, 0, none⟩))] w fun en w' => ∃ v, en = .returned v ∧ impl_EdgeWrite_1.Q w F r v w' := by
 obtain ⟨s0, rfl, kp0, z⟩ := start0 w F
 have A0_0 := fl_of h0_0
 have A0_1 := z.rd h0_1
 have B1 := z.b0 hb1 hp1
 have A1_0 := fl_of h1_0
 have A1_1 := z.rd h1_1
 refine calls_of_TM (args := [(.agg #[(.int .i64 a0.Kind), (.int .i64 a0.N), w0_0, w0_1]), (.pointer (some ⟨c1, 0, none⟩))]) (R := fun r en w' => ∃ v, en = .returned v ∧ impl_EdgeWrite_1.Q s0.w F r v w') Tryz.func79 Tryz.ntmps79 rfl rfl m ?_
 unfold impl_EdgeWrite_1.f
 refine sr ?_
 refine bx (cs := [(.int .i64 a0.Kind), (.int .i64 a0.N), w0_0, w0_1]) 40 rfl rfl rfl rfl rfl rfl (fun b4 s4 p4 B4 => ?_)
 refine pu rfl rfl rfl rfl rfl ?_
 refine dn ?_
 refine sr ?_
 refine lda (es := [(.int .i64 a0.Kind), (.int .i64 a0.N), w0_0, w0_1]) B4 Tryz.underlying33 z33 rfl rfl rfl rfl rfl rfl rfl rfl ?_
 have A6 := (BlF.st B1 p4 rfl)
 refine lda (es := [(.int .i64 a1.Kind), (.int .i64 a1.N), w1_0, w1_1]) A6 Tryz.underlying33 z33 rfl rfl rfl rfl rfl rfl rfl rfl ?_
 have K7 := (kp0.st p4 rfl)
 have A8 := (A0_1.kp K7)
 have A9 := (A1_1.kp K7)
 refine cl rfl rfl rfl rfl rfl Tryz.func80 rfl rfl rfl (fun r10 m10 => impl_compareItems.calls a0 a1 s4.w (fun b => memb [0] (s4.g b) = true) w0_0 w0_1 w1_0 w1_1 ((fl_rdf (s := s4) A0_0).sub (D := [0]) rfl) A8 ((fl_rdf (s := s4) A1_0).sub (D := [0]) rfl) A9 r10 m10) ?_
 rintro r10 _ w10 m10 ⟨rfl, ky10⟩
 obtain ⟨s11, rfl, p11, n11⟩ := nwx s4 w10 41 ky10
 refine pu rfl rfl rfl rfl rfl ?_
 refine pu rfl rfl rfl rfl rfl ?_
 refine dn ?_
 have K12 := (K7.st p11 rfl)
 exact re rfl Tryz.func79 rfl (r_t rfl r_nil) rfl ⟨_, rfl, rfl, z.ky K12⟩
noncomputable def impl_within.f (a0 : Int) (a1 : Int) (a2 : Int) : Option (Bool) :=
 (some ((decide (a1 ≤ a0)) && (decide (a0 ≤ a2))))
def impl_within.Q (w : World) (F : Nat → Prop) (r : Bool) (v : Value) (w' : World) : Prop :=
 v = (.bool r) ∧ Ky [] w w'
set_option maxHeartbeats 4000000 in
set_option maxRecDepth 100000 in
theorem impl_within.calls (a0 : Int) (a1 : Int) (a2 : Int) (w : World) (F : Nat → Prop)   (r : Bool) (m : impl_within.f a0 a1 a2 = some r) :
  Calls Tryz.prog 102 #[(.int .i64 a0), (.int .i64 a1), (.int .i64 a2)] w fun en w' => ∃ v, en = .returned v ∧ impl_within.Q w F r v w' := by
 obtain ⟨s0, rfl, kp0, z⟩ := start0 w F
 refine calls_of_TM (args := [(.int .i64 a0), (.int .i64 a1), (.int .i64 a2)]) (R := fun r en w' => ∃ v, en = .returned v ∧ impl_within.Q s0.w F r v w') Tryz.func102 Tryz.ntmps102 rfl rfl m ?_
 unfold impl_within.f
 refine sr ?_
 refine pu rfl rfl rfl rfl rfl ?_
 refine dn ?_
 refine sr ?_
 refine pu rfl rfl rfl rfl rfl ?_
 refine pu rfl rfl rfl rfl rfl ?_
 refine pu rfl rfl rfl rfl rfl ?_
 refine pu rfl rfl rfl rfl rfl ?_
 refine jy [10, 11, 12, 13, 14] [8] 14 (.bool ((decide (a1 ≤ a0)) && (decide (a0 ≤ a2)))) rfl (fun Kg1 => ?_) (fun j1 => ?_)
 ·
  rcases Bool.eq_false_or_eq_true (decide (a1 ≤ a0)) with hb1 | hb1
  ·
   refine sbT hb1 ?_
   refine pu rfl rfl rfl rfl rfl ?_
   refine pu rfl rfl rfl rfl rfl ?_
   refine pu rfl rfl rfl rfl rfl ?_
   refine pu rfl rfl rfl rfl rfl ?_
   exact Kg1 _ (Ag.put ((Ag.put ((Ag.put ((Ag.put (Ag.base rfl) rfl)) rfl)) rfl)) rfl) (by rw [hb1]; rfl)
  ·
   refine sbT hb1 ?_
   refine uw rfl rfl rfl rfl ?_
   refine uw rfl rfl rfl rfl ?_
   refine uw rfl rfl rfl rfl ?_
   refine pu rfl rfl rfl rfl rfl ?_
   exact Kg1 _ (Ag.put ((Ag.put ((Ag.put ((Ag.put (Ag.base rfl) rfl)) rfl)) rfl)) rfl) (by rw [hb1]; rfl)
 refine pu rfl rfl rfl rfl rfl ?_
 refine dn ?_
 exact re rfl Tryz.func102 rfl (r_t rfl r_nil) rfl ⟨_, rfl, rfl, z.ky kp0⟩
noncomputable def impl_ItemOk.f (a0 : Item) : Option (Bool) :=
 ((impl_within.f a0.Kind (0 : Int) (3 : Int)).bind fun r4 => (some (((r4 && ((a0.N == (0 : Int)) || (a0.Kind == (1 : Int)))) && (((a0.F : Int) == 0) || (a0.Kind == (2 : Int)))) && (((a0.T.length : Int) == (0 : Int)) || ((a0.Kind == (3 : Int)) && (decide ((a0.T.length : Int) ≤ (40 : Int))))))))
def impl_ItemOk.Q (w : World) (F : Nat → Prop) (r : Bool) (v : Value) (w' : World) : Prop :=
 v = (.bool r) ∧ Ky [] w w'
set_option maxHeartbeats 4000000 in
set_option maxRecDepth 100000 in
theorem impl_ItemOk.calls (a0 : Item) (w : World) (F : Nat → Prop) (w0_0 : Value) (w0_1 : Value) (h0_0 : Kd.flt.rd w [w0_0] a0.F F) (h0_1 : (Kd.sl 5 (Kd.int .u8)).rd w [w0_1] a0.T F) (r : Bool) (m : impl_ItemOk.f a0 = some r) :
  Calls Tryz.prog 165 #[(.agg #[(.int .i64 a0.Kind), (.int .i64 a0.N), w0_0, w0_1])] w fun en w' => ∃ v, en = .returned v ∧ impl_ItemOk.Q w F r v w' := by
 obtain ⟨s0, rfl, kp0, z⟩ := start0 w F
 have A0_0 := fl_of h0_0
 have A0_1 := z.rd h0_1
 refine calls_of_TM (args := [(.agg #[(.int .i64 a0.Kind), (.int .i64 a0.N), w0_0, w0_1])]) (R := fun r en w' => ∃ v, en = .returned v ∧ impl_ItemOk.Q s0.w F r v w') Tryz.func165 Tryz.ntmps165 rfl rfl m ?_
 unfold impl_ItemOk.f
 refine sr ?_
 refine bx (cs := [(.int .i64 a0.Kind), (.int .i64 a0.N), w0_0, w0_1]) 40 rfl rfl rfl rfl rfl rfl (fun b2 s2 p2 B2 => ?_)
 refine pu rfl rfl rfl rfl rfl ?_
 refine dn ?_
 refine sr ?_
 refine fa fa33_0 rfl rfl rfl rfl rfl rfl ?_
 refine ld B2 Tryz.underlying3 rfl rfl rfl rfl rfl rfl rfl rfl ?_
 refine cl rfl rfl rfl rfl rfl Tryz.func102 rfl rfl rfl (fun r4 m4 => impl_within.calls a0.Kind (0 : Int) (3 : Int) s2.w (fun b => memb [] (s2.g b) = true)  r4 m4) ?_
 rintro r4 _ w4 m4 ⟨rfl, ky4⟩
 obtain ⟨s5, rfl, p5, n5⟩ := nwx s2 w4 41 ky4
 refine pu rfl rfl rfl rfl rfl ?_
 refine jy [6, 7, 8, 9, 10, 11, 12, 13, 14, 15] [13, 14, 15, 16, 17, 18, 19, 20, 21, 22, 23, 24, 25, 26, 27, 28, 29, 30, 31, 32, 33, 34, 35, 36, 37, 38, 39, 40, 41] 15 (.bool (r4 && ((a0.N == (0 : Int)) || (a0.Kind == (1 : Int))))) rfl (fun Kg6 => ?_) (fun j6 => ?_)
 ·
  rcases Bool.eq_false_or_eq_true r4 with hb6 | hb6
  ·
   refine sbT hb6 ?_
   refine fa fa33_1 rfl rfl rfl rfl rfl rfl ?_
   have A7 := (BlF.st B2 p5 rfl)
   refine ld A7 Tryz.underlying3 rfl rfl rfl rfl rfl rfl rfl rfl ?_
   refine pu rfl rfl rfl rfl rfl ?_
   refine pu rfl rfl rfl rfl rfl ?_
   refine jy [10, 11, 12, 13, 14] [12, 13, 14, 15, 16, 17, 18, 19, 20, 21, 22, 23, 24, 25, 26, 27, 28, 29, 30, 31, 32, 33, 34, 35, 36, 37, 38, 39, 40, 41] 14 (.bool ((a0.N == (0 : Int)) || (a0.Kind == (1 : Int)))) rfl (fun Kg8 => ?_) (fun j8 => ?_)
   ·
    rcases Bool.eq_false_or_eq_true (a0.N == (0 : Int)) with hb8 | hb8
    ·
     refine sbT hb8 ?_
     refine uw rfl rfl rfl rfl ?_
     refine uw rfl rfl rfl rfl ?_
     refine uw rfl rfl rfl rfl ?_
     refine pu rfl rfl rfl rfl rfl ?_
     exact Kg8 _ (Ag.put ((Ag.put ((Ag.put ((Ag.put (Ag.base rfl) rfl)) rfl)) rfl)) rfl) (by rw [hb8]; rfl)
    ·
     refine sbT hb8 ?_
     refine fa fa33_0 rfl rfl rfl rfl rfl rfl ?_
     refine ld A7 Tryz.underlying3 rfl rfl rfl rfl rfl rfl rfl rfl ?_
     refine pu rfl rfl rfl rfl rfl ?_
     refine pu rfl rfl rfl rfl rfl ?_
     exact Kg8 _ (Ag.put ((Ag.put ((Ag.put ((Ag.put (Ag.base rfl) rfl)) rfl)) rfl)) rfl) (by rw [hb8]; rfl)
   refine pu rfl rfl rfl rfl rfl ?_
   exact Kg6 _ (Ag.put ((Ag.put ((Ag.ov ((Ag.put ((Ag.put ((Ag.put ((Ag.put (Ag.base rfl) rfl)) rfl)) rfl)) rfl)) rfl)) rfl)) rfl) (by rw [hb6]; rfl)
  ·
   refine sbT hb6 ?_
   refine uw rfl rfl rfl rfl ?_
   refine uw rfl rfl rfl rfl ?_
   refine uw rfl rfl rfl rfl ?_
   refine uw rfl rfl rfl rfl ?_
   refine uw rfl rfl rfl rfl ?_
   refine uw rfl rfl rfl rfl ?_
   refine uw rfl rfl rfl rfl ?_
   refine uw rfl rfl rfl rfl ?_
   refine pu rfl rfl rfl rfl rfl ?_
   exact Kg6 _ (Ag.put ((Ag.put ((Ag.put ((Ag.put ((Ag.put ((Ag.put ((Ag.put ((Ag.put ((Ag.put (Ag.base rfl) rfl)) rfl)) rfl)) rfl)) rfl)) rfl)) rfl)) rfl)) rfl) (by rw [hb6]; rfl)
 refine pu rfl rfl rfl rfl rfl ?_
 refine jy [16, 17, 18, 19, 20, 21, 22, 23, 24, 25, 26] [24, 25, 26, 27, 28, 29, 30, 31, 32, 33, 34, 35, 36, 37, 38, 39, 40, 41] 26 (.bool ((r4 && ((a0.N == (0 : Int)) || (a0.Kind == (1 : Int)))) && (((a0.F : Int) == 0) || (a0.Kind == (2 : Int))))) rfl (fun Kg9 => ?_) (fun j9 => ?_)
 ·
  rcases Bool.eq_false_or_eq_true (r4 && ((a0.N == (0 : Int)) || (a0.Kind == (1 : Int)))) with hb9 | hb9
  ·
   refine sbT hb9 ?_
   refine fa fa33_2 rfl rfl rfl rfl rfl rfl ?_
   have A10 := (BlF.st B2 p5 rfl)
   refine ld A10 Tryz.underlying23 rfl rfl rfl rfl rfl rfl rfl rfl ?_
   refine fbu A0_0 rfl rfl rfl rfl rfl Tryz.func166 rfl rfl xn166 xf166 rfl (fun b11 A11 => ?_)
   refine fz0 A11 rfl rfl rfl rfl rfl rfl rfl ?_
   refine pu rfl rfl rfl rfl rfl ?_
   refine jy [21, 22, 23, 24, 25] [23, 24, 25, 26, 27, 28, 29, 30, 31, 32, 33, 34, 35, 36, 37, 38, 39, 40, 41] 25 (.bool (((a0.F : Int) == 0) || (a0.Kind == (2 : Int)))) rfl (fun Kg12 => ?_) (fun j12 => ?_)
   ·
    rcases Bool.eq_false_or_eq_true ((a0.F : Int) == 0) with hb12 | hb12
    ·
     refine sbT hb12 ?_
     refine uw rfl rfl rfl rfl ?_
     refine uw rfl rfl rfl rfl ?_
     refine uw rfl rfl rfl rfl ?_
     refine pu rfl rfl rfl rfl rfl ?_
     exact Kg12 _ (Ag.put ((Ag.put ((Ag.put ((Ag.put (Ag.base rfl) rfl)) rfl)) rfl)) rfl) (by rw [hb12]; rfl)
    ·
     refine sbT hb12 ?_
     refine fa fa33_0 rfl rfl rfl rfl rfl rfl ?_
     refine ld A10 Tryz.underlying3 rfl rfl rfl rfl rfl rfl rfl rfl ?_
     refine pu rfl rfl rfl rfl rfl ?_
     refine pu rfl rfl rfl rfl rfl ?_
     exact Kg12 _ (Ag.put ((Ag.put ((Ag.put ((Ag.put (Ag.base rfl) rfl)) rfl)) rfl)) rfl) (by rw [hb12]; rfl)
   refine pu rfl rfl rfl rfl rfl ?_
   exact Kg9 _ (Ag.put ((Ag.put ((Ag.ov ((Ag.put ((Ag.put ((Ag.put ((Ag.put ((Ag.put (Ag.base rfl) rfl)) rfl)) rfl)) rfl)) rfl)) rfl)) rfl)) rfl) (by rw [hb9]; rfl)
  ·
   refine sbT hb9 ?_
   refine uw rfl rfl rfl rfl ?_
   refine uw rfl rfl rfl rfl ?_
   refine uw rfl rfl rfl rfl ?_
   refine uw rfl rfl rfl rfl ?_
   refine uw rfl rfl rfl rfl ?_
   refine uw rfl rfl rfl rfl ?_
   refine uw rfl rfl rfl rfl ?_
   refine uw rfl rfl rfl rfl ?_
   refine uw rfl rfl rfl rfl ?_
   refine pu rfl rfl rfl rfl rfl ?_
   exact Kg9 _ (Ag.put ((Ag.put ((Ag.put ((Ag.put ((Ag.put ((Ag.put ((Ag.put ((Ag.put ((Ag.put ((Ag.put (Ag.base rfl) rfl)) rfl)) rfl)) rfl)) rfl)) rfl)) rfl)) rfl)) rfl)) rfl) (by rw [hb9]; rfl)
 refine pu rfl rfl rfl rfl rfl ?_
 refine jy [27, 28, 29, 30, 31, 32, 33, 34, 35, 36, 37, 38, 39, 40, 41, 42, 43] [41] 43 (.bool (((r4 && ((a0.N == (0 : Int)) || (a0.Kind == (1 : Int)))) && (((a0.F : Int) == 0) || (a0.Kind == (2 : Int)))) && (((a0.T.length : Int) == (0 : Int)) || ((a0.Kind == (3 : Int)) && (decide ((a0.T.length : Int) ≤ (40 : Int))))))) rfl (fun Kg13 => ?_) (fun j13 => ?_)
 ·
  rcases Bool.eq_false_or_eq_true ((r4 && ((a0.N == (0 : Int)) || (a0.Kind == (1 : Int)))) && (((a0.F : Int) == 0) || (a0.Kind == (2 : Int)))) with hb13 | hb13
  ·
   refine sbT hb13 ?_
   refine fa fa33_3 rfl rfl rfl rfl rfl rfl ?_
   have A14 := (BlF.st B2 p5 rfl)
   refine ld A14 Tryz.underlying24 rfl rfl rfl rfl rfl rfl rfl rfl ?_
   have K15 := ((kp0.st p2 rfl).st p5 rfl)
   have A16 := (A0_1.kp K15)
   refine ln A16 Tryz.underlying24 rfl rfl rfl rfl rfl rfl ?_
   refine pu rfl rfl rfl rfl rfl ?_
   refine pu rfl rfl rfl rfl rfl ?_
   refine jy [32, 33, 34, 35, 36, 37, 38, 39, 40, 41, 42] [40, 41] 42 (.bool (((a0.T.length : Int) == (0 : Int)) || ((a0.Kind == (3 : Int)) && (decide ((a0.T.length : Int) ≤ (40 : Int)))))) rfl (fun Kg17 => ?_) (fun j17 => ?_)
   ·
    rcases Bool.eq_false_or_eq_true ((a0.T.length : Int) == (0 : Int)) with hb17 | hb17
    ·
     refine sbT hb17 ?_
     refine uw rfl rfl rfl rfl ?_
     refine uw rfl rfl rfl rfl ?_
     refine uw rfl rfl rfl rfl ?_
     refine uw rfl rfl rfl rfl ?_
     refine uw rfl rfl rfl rfl ?_
     refine uw rfl rfl rfl rfl ?_
     refine uw rfl rfl rfl rfl ?_
     refine uw rfl rfl rfl rfl ?_
     refine uw rfl rfl rfl rfl ?_
     refine pu rfl rfl rfl rfl rfl ?_
     exact Kg17 _ (Ag.put ((Ag.put ((Ag.put ((Ag.put ((Ag.put ((Ag.put ((Ag.put ((Ag.put ((Ag.put ((Ag.put (Ag.base rfl) rfl)) rfl)) rfl)) rfl)) rfl)) rfl)) rfl)) rfl)) rfl)) rfl) (by rw [hb17]; rfl)
    ·
     refine sbT hb17 ?_
     refine fa fa33_0 rfl rfl rfl rfl rfl rfl ?_
     refine ld A14 Tryz.underlying3 rfl rfl rfl rfl rfl rfl rfl rfl ?_
     refine pu rfl rfl rfl rfl rfl ?_
     refine pu rfl rfl rfl rfl rfl ?_
     refine jy [36, 37, 38, 39, 40, 41] [39, 40, 41] 41 (.bool ((a0.Kind == (3 : Int)) && (decide ((a0.T.length : Int) ≤ (40 : Int))))) rfl (fun Kg18 => ?_) (fun j18 => ?_)
     ·
      rcases Bool.eq_false_or_eq_true (a0.Kind == (3 : Int)) with hb18 | hb18
      ·
       refine sbT hb18 ?_
       refine fa fa33_3 rfl rfl rfl rfl rfl rfl ?_
       refine ld A14 Tryz.underlying24 rfl rfl rfl rfl rfl rfl rfl rfl ?_
       refine ln A16 Tryz.underlying24 rfl rfl rfl rfl rfl rfl ?_
       refine pu rfl rfl rfl rfl rfl ?_
       refine pu rfl rfl rfl rfl rfl ?_
       exact Kg18 _ (Ag.put ((Ag.put ((Ag.put ((Ag.put ((Ag.put (Ag.base rfl) rfl)) rfl)) rfl)) rfl)) rfl) (by rw [hb18]; rfl)
      ·
       refine sbT hb18 ?_
       refine uw rfl rfl rfl rfl ?_
       refine uw rfl rfl rfl rfl ?_
       refine uw rfl rfl rfl rfl ?_
       refine uw rfl rfl rfl rfl ?_
       refine pu rfl rfl rfl rfl rfl ?_
       exact Kg18 _ (Ag.put ((Ag.put ((Ag.put ((Ag.put ((Ag.put (Ag.base rfl) rfl)) rfl)) rfl)) rfl)) rfl) (by rw [hb18]; rfl)
     refine pu rfl rfl rfl rfl rfl ?_
     exact Kg17 _ (Ag.put ((Ag.put ((Ag.ov ((Ag.put ((Ag.put ((Ag.put ((Ag.put (Ag.base rfl) rfl)) rfl)) rfl)) rfl)) rfl)) rfl)) rfl) (by rw [hb17]; rfl)
   refine pu rfl rfl rfl rfl rfl ?_
   exact Kg13 _ (Ag.put ((Ag.put ((Ag.ov ((Ag.put ((Ag.put ((Ag.put ((Ag.put ((Ag.put (Ag.base rfl) rfl)) rfl)) rfl)) rfl)) rfl)) rfl)) rfl)) rfl) (by rw [hb13]; rfl)
  ·
   refine sbT hb13 ?_
   refine uw rfl rfl rfl rfl ?_
   refine uw rfl rfl rfl rfl ?_
   refine uw rfl rfl rfl rfl ?_
   refine uw rfl rfl rfl rfl ?_
   refine uw rfl rfl rfl rfl ?_
   refine uw rfl rfl rfl rfl ?_
   refine uw rfl rfl rfl rfl ?_
   refine uw rfl rfl rfl rfl ?_
   refine uw rfl rfl rfl rfl ?_
   refine uw rfl rfl rfl rfl ?_
   refine uw rfl rfl rfl rfl ?_
   refine uw rfl rfl rfl rfl ?_
   refine uw rfl rfl rfl rfl ?_
   refine uw rfl rfl rfl rfl ?_
   refine uw rfl rfl rfl rfl ?_
   refine pu rfl rfl rfl rfl rfl ?_
   exact Kg13 _ (Ag.put ((Ag.put ((Ag.put ((Ag.put ((Ag.put ((Ag.put ((Ag.put ((Ag.put ((Ag.put ((Ag.put ((Ag.put ((Ag.put ((Ag.put ((Ag.put ((Ag.put ((Ag.put (Ag.base rfl) rfl)) rfl)) rfl)) rfl)) rfl)) rfl)) rfl)) rfl)) rfl)) rfl)) rfl)) rfl)) rfl)) rfl)) rfl)) rfl) (by rw [hb13]; rfl)
 refine pu rfl rfl rfl rfl rfl ?_
 refine dn ?_
 have K19 := ((kp0.st p2 rfl).st p5 rfl)
 exact re rfl Tryz.func165 rfl (r_t rfl r_nil) rfl ⟨_, rfl, rfl, z.ky K19⟩
noncomputable def impl_KeyOk.f (a0 : Item) : Option (Bool) :=
 ((impl_ItemOk.f a0).bind fun r6 => (some ((r6 && (a0.Kind != (0 : Int))) && ((fcmp .f64 a0.F (0 : Nat) != some .eq) || ((a0.F : Int) == 0)))))
def impl_KeyOk.Q (w : World) (F : Nat → Prop) (r : Bool) (v : Value) (w' : World) : Prop :=
 v = (.bool r) ∧ Ky [] w w'
set_option maxHeartbeats 4000000 in
set_option maxRecDepth 100000 in
theorem impl_KeyOk.calls (a0 : Item) (w : World) (F : Nat → Prop) (w0_0 : Value) (w0_1 : Value) (h0_0 : Kd.flt.rd w [w0_0] a0.F F) (h0_1 : (Kd.sl 5 (Kd.int .u8)).rd w [w0_1] a0.T F) (r : Bool) (m : impl_KeyOk.f a0 = some r) :
  Calls Tryz.prog 76 #[(.agg #[(.int .i64 a0.Kind), (.int .i64 a0.N), w0_0, w0_1])] w fun en w' => ∃ v, en = .returned v ∧ impl_KeyOk.Q w F r v w' := by
 obtain ⟨s0, rfl, kp0, z⟩ := start0 w F
 have A0_0 := fl_of h0_0
 have A0_1 := z.rd h0_1
 refine calls_of_TM (args := [(.agg #[(.int .i64 a0.Kind), (.int .i64 a0.N), w0_0, w0_1])]) (R := fun r en w' => ∃ v, en = .returned v ∧ impl_KeyOk.Q s0.w F r v w') Tryz.func76 Tryz.ntmps76 rfl rfl m ?_
 unfold impl_KeyOk.f
 refine sr ?_
 refine bx (cs := [(.int .i64 a0.Kind), (.int .i64 a0.N), w0_0, w0_1]) 40 rfl rfl rfl rfl rfl rfl (fun b2 s2 p2 B2 => ?_)
 refine pu rfl rfl rfl rfl rfl ?_
 refine dn ?_
 refine sr ?_
 refine lda (es := [(.int .i64 a0.Kind), (.int .i64 a0.N), w0_0, w0_1]) B2 Tryz.underlying33 z33 rfl rfl rfl rfl rfl rfl rfl rfl ?_
 have K4 := (kp0.st p2 rfl)
 have A5 := (A0_1.kp K4)
 refine cl rfl rfl rfl rfl rfl Tryz.func165 rfl rfl rfl (fun r6 m6 => impl_ItemOk.calls a0 s2.w (fun b => memb [0] (s2.g b) = true) w0_0 w0_1 ((fl_rdf (s := s2) A0_0).sub (D := [0]) rfl) A5 r6 m6) ?_
 rintro r6 _ w6 m6 ⟨rfl, ky6⟩
 obtain ⟨s7, rfl, p7, n7⟩ := nwx s2 w6 41 ky6
 refine pu rfl rfl rfl rfl rfl ?_
 refine jy [5, 6, 7, 8, 9] [7, 8, 9, 10, 11, 12, 13, 14, 15, 16, 17, 18] 9 (.bool (r6 && (a0.Kind != (0 : Int)))) rfl (fun Kg8 => ?_) (fun j8 => ?_)
 ·
  rcases Bool.eq_false_or_eq_true r6 with hb8 | hb8
  ·
   refine sbT hb8 ?_
   refine fa fa33_0 rfl rfl rfl rfl rfl rfl ?_
   have A9 := (BlF.st B2 p7 rfl)
   refine ld A9 Tryz.underlying3 rfl rfl rfl rfl rfl rfl rfl rfl ?_
   refine pu rfl rfl rfl rfl rfl ?_
   refine pu rfl rfl rfl rfl rfl ?_
   exact Kg8 _ (Ag.put ((Ag.put ((Ag.put ((Ag.put (Ag.base rfl) rfl)) rfl)) rfl)) rfl) (by rw [hb8]; rfl)
  ·
   refine sbT hb8 ?_
   refine uw rfl rfl rfl rfl ?_
   refine uw rfl rfl rfl rfl ?_
   refine uw rfl rfl rfl rfl ?_
   refine pu rfl rfl rfl rfl rfl ?_
   exact Kg8 _ (Ag.put ((Ag.put ((Ag.put ((Ag.put (Ag.base rfl) rfl)) rfl)) rfl)) rfl) (by rw [hb8]; rfl)
 refine pu rfl rfl rfl rfl rfl ?_
 refine jy [10, 11, 12, 13, 14, 15, 16, 17, 18, 19, 20] [18] 20 (.bool ((r6 && (a0.Kind != (0 : Int))) && ((fcmp .f64 a0.F (0 : Nat) != some .eq) || ((a0.F : Int) == 0)))) rfl (fun Kg10 => ?_) (fun j10 => ?_)
 ·
  rcases Bool.eq_false_or_eq_true (r6 && (a0.Kind != (0 : Int))) with hb10 | hb10
  ·
   refine sbT hb10 ?_
   refine fa fa33_2 rfl rfl rfl rfl rfl rfl ?_
   have A11 := (BlF.st B2 p7 rfl)
   refine ld A11 Tryz.underlying23 rfl rfl rfl rfl rfl rfl rfl rfl ?_
   refine fq_ A0_0 (fl_c rfl) rfl rfl rfl rfl rfl rfl rfl rfl ?_
   refine pu rfl rfl rfl rfl rfl ?_
   refine jy [14, 15, 16, 17, 18, 19] [17, 18] 19 (.bool ((fcmp .f64 a0.F (0 : Nat) != some .eq) || ((a0.F : Int) == 0))) rfl (fun Kg12 => ?_) (fun j12 => ?_)
   ·
    rcases Bool.eq_false_or_eq_true (fcmp .f64 a0.F (0 : Nat) != some .eq) with hb12 | hb12
    ·
     refine sbT hb12 ?_
     refine uw rfl rfl rfl rfl ?_
     refine uw rfl rfl rfl rfl ?_
     refine uw rfl rfl rfl rfl ?_
     refine uw rfl rfl rfl rfl ?_
     refine pu rfl rfl rfl rfl rfl ?_
     exact Kg12 _ (Ag.put ((Ag.put ((Ag.put ((Ag.put ((Ag.put (Ag.base rfl) rfl)) rfl)) rfl)) rfl)) rfl) (by rw [hb12]; rfl)
    ·
     refine sbT hb12 ?_
     refine fa fa33_2 rfl rfl rfl rfl rfl rfl ?_
     refine ld A11 Tryz.underlying23 rfl rfl rfl rfl rfl rfl rfl rfl ?_
     refine fbu A0_0 rfl rfl rfl rfl rfl Tryz.func166 rfl rfl xn166 xf166 rfl (fun b13 A13 => ?_)
     refine fz0 A13 rfl rfl rfl rfl rfl rfl rfl ?_
     refine pu rfl rfl rfl rfl rfl ?_
     exact Kg12 _ (Ag.put ((Ag.put ((Ag.put ((Ag.put ((Ag.put (Ag.base rfl) rfl)) rfl)) rfl)) rfl)) rfl) (by rw [hb12]; rfl)
   refine pu rfl rfl rfl rfl rfl ?_
   exact Kg10 _ (Ag.put ((Ag.put ((Ag.ov ((Ag.put ((Ag.put ((Ag.put ((Ag.put (Ag.base rfl) rfl)) rfl)) rfl)) rfl)) rfl)) rfl)) rfl) (by rw [hb10]; rfl)
  ·
   refine sbT hb10 ?_
   refine uw rfl rfl rfl rfl ?_
   refine uw rfl rfl rfl rfl ?_
   refine uw rfl rfl rfl rfl ?_
   refine uw rfl rfl rfl rfl ?_
   refine uw rfl rfl rfl rfl ?_
   refine uw rfl rfl rfl rfl ?_
   refine uw rfl rfl rfl rfl ?_
   refine uw rfl rfl rfl rfl ?_
   refine uw rfl rfl rfl rfl ?_
   refine pu rfl rfl rfl rfl rfl ?_
   exact Kg10 _ (Ag.put ((Ag.put ((Ag.put ((Ag.put ((Ag.put ((Ag.put ((Ag.put ((Ag.put ((Ag.put ((Ag.put (Ag.base rfl) rfl)) rfl)) rfl)) rfl)) rfl)) rfl)) rfl)) rfl)) rfl)) rfl) (by rw [hb10]; rfl)
 refine pu rfl rfl rfl rfl rfl ?_
 refine dn ?_
 have K14 := (K4.st p7 rfl)
 exact re rfl Tryz.func76 rfl (r_t rfl r_nil) rfl ⟨_, rfl, rfl, z.ky K14⟩
noncomputable def impl_InSpan.f (a0 : Item) (a1 : Item) (a2 : Item) : Option (Bool) :=
 ((impl_KeyOk.f a0).bind fun r13 => ((if r13 = true then ((impl_KeyOk.f a1).bind fun r19 => (some r19)) else (some false)).bind fun y15 => ((if y15 = true then ((impl_KeyOk.f a2).bind fun r35 => (some r35)) else (some false)).bind fun y33 => ((if y33 = true then ((impl_compareItems.f a0 a2).bind fun r48 => (some (decide (r48 ≤ (0 : Int))))) else (some false)).bind fun y45 => ((if y45 = true then ((impl_compareItems.f a2 a1).bind fun r59 => (some (decide (r59 ≤ (0 : Int))))) else (some false)).bind fun y56 => (some y56))))))
def impl_InSpan.Q (w : World) (F : Nat → Prop) (r : Bool) (v : Value) (w' : World) : Prop :=
 v = (.bool r) ∧ Ky [] w w'
set_option maxHeartbeats 4000000 in
set_option maxRecDepth 100000 in
theorem impl_InSpan.calls (a0 : Item) (a1 : Item) (a2 : Item) (w : World) (F : Nat → Prop) (w0_0 : Value) (w0_1 : Value) (w1_0 : Value) (w1_1 : Value) (w2_0 : Value) (w2_1 : Value) (h0_0 : Kd.flt.rd w [w0_0] a0.F F) (h0_1 : (Kd.sl 5 (Kd.int .u8)).rd w [w0_1] a0.T F) (h1_0 : Kd.flt.rd w [w1_0] a1.F F) (h1_1 : (Kd.sl 5 (Kd.int .u8)).rd w [w1_1] a1.T F) (h2_0 : Kd.flt.rd w [w2_0] a2.F F) (h2_1 : (Kd.sl 5 (Kd.int .u8)).rd w [w2_1] a2.T F) (r : Bool) (m : impl_InSpan.f a0 a1 a2 = some r) :
  Calls Tryz.prog 255 #[(.agg #[(.int .i64 a0.Kind), (.int .i64 a0.N), w0_0, w0_1]), (.agg #[(.int .i64 a1.Kind), (.int .i64 a1.N), w1_0, w1_1]), (.agg #[(.int .i64 a2.Kind), (.int .i64 a2.N), w2_0, w2_1])] w fun en w' => ∃ v, en = .returned v ∧ impl_InSpan.Q w F r v w' := by
 obtain ⟨s0, rfl, kp0, z⟩ := start0 w F
 have A0_0 := fl_of h0_0
 have A0_1 := z.rd h0_1
 have A1_0 := fl_of h1_0
 have A1_1 := z.rd h1_1
 have A2_0 := fl_of h2_0
 have A2_1 := z.rd h2_1
 refine calls_of_TM (args := [(.agg #[(.int .i64 a0.Kind), (.int .i64 a0.N), w0_0, w0_1]), (.agg #[(.int .i64 a1.Kind), (.int .i64 a1.N), w1_0, w1_1]), (.agg #[(.int .i64 a2.Kind), (.int .i64 a2.N), w2_0, w2_1])]) (R := fun r en w' => ∃ v, en = .returned v ∧ impl_InSpan.Q s0.w F r v w') Tryz.func255 Tryz.ntmps255 rfl rfl m ?_
 unfold impl_InSpan.f
 refine sr ?_
 refine bx (cs := [(.int .i64 a0.Kind), (.int .i64 a0.N), w0_0, w0_1]) 40 rfl rfl rfl rfl rfl rfl (fun b4 s4 p4 B4 => ?_)
 refine bx (cs := [(.int .i64 a1.Kind), (.int .i64 a1.N), w1_0, w1_1]) 41 rfl rfl rfl rfl rfl rfl (fun b6 s6 p6 B6 => ?_)
 refine bx (cs := [(.int .i64 a2.Kind), (.int .i64 a2.N), w2_0, w2_1]) 42 rfl rfl rfl rfl rfl rfl (fun b8 s8 p8 B8 => ?_)
 refine pu rfl rfl rfl rfl rfl ?_
 refine dn ?_
 refine sr ?_
 have A10 := (BlF.st (BlF.st B4 p6 rfl) p8 rfl)
 refine lda (es := [(.int .i64 a0.Kind), (.int .i64 a0.N), w0_0, w0_1]) A10 Tryz.underlying33 z33 rfl rfl rfl rfl rfl rfl rfl rfl ?_
 have K11 := (((kp0.st p4 rfl).st p6 rfl).st p8 rfl)
 have A12 := (A0_1.kp K11)
 refine cl rfl rfl rfl rfl rfl Tryz.func76 rfl rfl rfl (fun r13 m13 => impl_KeyOk.calls a0 s8.w (fun b => memb [0] (s8.g b) = true) w0_0 w0_1 ((fl_rdf (s := s8) A0_0).sub (D := [0]) rfl) A12 r13 m13) ?_
 rintro r13 _ w13 m13 ⟨rfl, ky13⟩
 obtain ⟨s14, rfl, p14, n14⟩ := nwx s8 w13 43 ky13
 refine pu rfl rfl rfl rfl rfl ?_
 refine ji [6, 7, 8, 9, 10, 11, 12, 13, 14, 15, 16, 17, 18, 19, 20, 21, 22] (fun (y15 : Bool) (e : Env) (w : World) => ∃ (s : St) (e0 : Env), w = s.w ∧ e = upd (upd (upd (upd e0 3 (.pointer (some ⟨b4, 0, none⟩))) 4 (.pointer (some ⟨b6, 0, none⟩))) 5 (.pointer (some ⟨b8, 0, none⟩))) 12 (.bool y15) ∧ Kp s0 s ∧ BlF s b8 33 [(.int .i64 a2.Kind), (.int .i64 a2.N), w2_0, w2_1] 42 ∧ BlF s b6 33 [(.int .i64 a1.Kind), (.int .i64 a1.N), w1_0, w1_1] 41 ∧ BlF s b4 33 [(.int .i64 a0.Kind), (.int .i64 a0.N), w0_0, w0_1] 40) (fun Gj15 Kj15 => ?_) ?_
 ·
  rcases Bool.eq_false_or_eq_true r13 with hb15 | hb15
  ·
   refine sbT hb15 ?_
   rw [if_pos hb15]
   have A16 := (BlF.st (BlF.st B6 p8 rfl) p14 rfl)
   refine lda (es := [(.int .i64 a1.Kind), (.int .i64 a1.N), w1_0, w1_1]) A16 Tryz.underlying33 z33 rfl rfl rfl rfl rfl rfl rfl rfl ?_
   have K17 := (K11.st p14 rfl)
   have A18 := (A1_1.kp K17)
   refine cl rfl rfl rfl rfl rfl Tryz.func76 rfl rfl rfl (fun r19 m19 => impl_KeyOk.calls a1 s14.w (fun b => memb [0] (s14.g b) = true) w1_0 w1_1 ((fl_rdf (s := s14) A1_0).sub (D := [0]) rfl) A18 r19 m19) ?_
   rintro r19 _ w19 m19 ⟨rfl, ky19⟩
   obtain ⟨s20, rfl, p20, n20⟩ := nwx s14 w19 44 ky19
   refine pu rfl rfl rfl rfl rfl ?_
   have A21 := (BlF.st (BlF.st B8 p14 rfl) p20 rfl)
   have A22 := (BlF.st A16 p20 rfl)
   have A23 := (BlF.st (BlF.st A10 p14 rfl) p20 rfl)
   have K24 := (K17.st p20 rfl)
   exact Kj15 _ _ _ ⟨s20, _, rfl, (ue (ue (ue (ue rfl rfl) rfl) rfl) rfl), K24, A21, A22, A23⟩
  ·
   refine sbT hb15 ?_
   rw [if_neg (by rw [hb15]; decide)]
   refine uw rfl rfl rfl rfl ?_
   refine uw rfl rfl rfl rfl ?_
   refine pu rfl rfl rfl rfl rfl ?_
   have A25 := (BlF.st B8 p14 rfl)
   have A26 := (BlF.st (BlF.st B6 p8 rfl) p14 rfl)
   have A27 := (BlF.st A10 p14 rfl)
   have K28 := (K11.st p14 rfl)
   exact Kj15 _ _ _ ⟨s14, _, rfl, (ue (ue (ue (ue rfl rfl) rfl) rfl) rfl), K28, A25, A26, A27⟩
 rintro y15 _ _ ⟨s29, _, rfl, rfl, Ky15, By15_b8, By15_b6, By15_b4⟩
 refine pu rfl rfl rfl rfl rfl ?_
 refine ji [10, 11, 12, 13, 14, 15, 16, 17, 18, 19, 20, 21, 22] (fun (y33 : Bool) (e : Env) (w : World) => ∃ (s : St) (e0 : Env), w = s.w ∧ e = upd (upd (upd (upd e0 3 (.pointer (some ⟨b4, 0, none⟩))) 4 (.pointer (some ⟨b6, 0, none⟩))) 5 (.pointer (some ⟨b8, 0, none⟩))) 16 (.bool y33) ∧ Kp s0 s ∧ BlF s b8 33 [(.int .i64 a2.Kind), (.int .i64 a2.N), w2_0, w2_1] 42 ∧ BlF s b6 33 [(.int .i64 a1.Kind), (.int .i64 a1.N), w1_0, w1_1] 41 ∧ BlF s b4 33 [(.int .i64 a0.Kind), (.int .i64 a0.N), w0_0, w0_1] 40) (fun Gj33 Kj33 => ?_) ?_
 ·
  rcases Bool.eq_false_or_eq_true y15 with hb33 | hb33
  ·
   refine sbT hb33 ?_
   rw [if_pos hb33]
   refine lda (es := [(.int .i64 a2.Kind), (.int .i64 a2.N), w2_0, w2_1]) By15_b8 Tryz.underlying33 z33 rfl rfl rfl rfl rfl rfl rfl rfl ?_
   have A34 := (A2_1.kp Ky15)
   refine cl rfl rfl rfl rfl rfl Tryz.func76 rfl rfl rfl (fun r35 m35 => impl_KeyOk.calls a2 s29.w (fun b => memb [0] (s29.g b) = true) w2_0 w2_1 ((fl_rdf (s := s29) A2_0).sub (D := [0]) rfl) A34 r35 m35) ?_
   rintro r35 _ w35 m35 ⟨rfl, ky35⟩
   obtain ⟨s36, rfl, p36, n36⟩ := nwx s29 w35 45 ky35
   refine pu rfl rfl rfl rfl rfl ?_
   have A37 := (BlF.st By15_b8 p36 rfl)
   have A38 := (BlF.st By15_b6 p36 rfl)
   have A39 := (BlF.st By15_b4 p36 rfl)
   have K40 := (Ky15.st p36 rfl)
   exact Kj33 _ _ _ ⟨s36, _, rfl, (ue (ue (ue (ue rfl rfl) rfl) rfl) rfl), K40, A37, A38, A39⟩
  ·
   refine sbT hb33 ?_
   rw [if_neg (by rw [hb33]; decide)]
   refine uw rfl rfl rfl rfl ?_
   refine uw rfl rfl rfl rfl ?_
   refine pu rfl rfl rfl rfl rfl ?_
   exact Kj33 _ _ _ ⟨s29, _, rfl, (ue (ue (ue (ue rfl rfl) rfl) rfl) rfl), Ky15, By15_b8, By15_b6, By15_b4⟩
 rintro y33 _ _ ⟨s41, _, rfl, rfl, Ky33, By33_b8, By33_b6, By33_b4⟩
 refine pu rfl rfl rfl rfl rfl ?_
 refine ji [16, 17, 18, 19, 20, 21, 22] (fun (y45 : Bool) (e : Env) (w : World) => ∃ (s : St) (e0 : Env), w = s.w ∧ e = upd (upd (upd e0 4 (.pointer (some ⟨b6, 0, none⟩))) 5 (.pointer (some ⟨b8, 0, none⟩))) 22 (.bool y45) ∧ Kp s0 s ∧ BlF s b8 33 [(.int .i64 a2.Kind), (.int .i64 a2.N), w2_0, w2_1] 42 ∧ BlF s b6 33 [(.int .i64 a1.Kind), (.int .i64 a1.N), w1_0, w1_1] 41) (fun Gj45 Kj45 => ?_) ?_
 ·
  rcases Bool.eq_false_or_eq_true y33 with hb45 | hb45
  ·
   refine sbT hb45 ?_
   rw [if_pos hb45]
   refine lda (es := [(.int .i64 a0.Kind), (.int .i64 a0.N), w0_0, w0_1]) By33_b4 Tryz.underlying33 z33 rfl rfl rfl rfl rfl rfl rfl rfl ?_
   refine lda (es := [(.int .i64 a2.Kind), (.int .i64 a2.N), w2_0, w2_1]) By33_b8 Tryz.underlying33 z33 rfl rfl rfl rfl rfl rfl rfl rfl ?_
   have A46 := (A0_1.kp Ky33)
   have A47 := (A2_1.kp Ky33)
   refine cl rfl rfl rfl rfl rfl Tryz.func80 rfl rfl rfl (fun r48 m48 => impl_compareItems.calls a0 a2 s41.w (fun b => memb [0] (s41.g b) = true) w0_0 w0_1 w2_0 w2_1 ((fl_rdf (s := s41) A0_0).sub (D := [0]) rfl) A46 ((fl_rdf (s := s41) A2_0).sub (D := [0]) rfl) A47 r48 m48) ?_
   rintro r48 _ w48 m48 ⟨rfl, ky48⟩
   obtain ⟨s49, rfl, p49, n49⟩ := nwx s41 w48 46 ky48
   refine pu rfl rfl rfl rfl rfl ?_
   refine pu rfl rfl rfl rfl rfl ?_
   have A50 := (BlF.st By33_b8 p49 rfl)
   have A51 := (BlF.st By33_b6 p49 rfl)
   have K52 := (Ky33.st p49 rfl)
   exact Kj45 _ _ _ ⟨s49, _, rfl, (ue (ue (ue rfl rfl) rfl) rfl), K52, A50, A51⟩
  ·
   refine sbT hb45 ?_
   rw [if_neg (by rw [hb45]; decide)]
   refine uw rfl rfl rfl rfl ?_
   refine uw rfl rfl rfl rfl ?_
   refine uw rfl rfl rfl rfl ?_
   refine uw rfl rfl rfl rfl ?_
   refine pu rfl rfl rfl rfl rfl ?_
   exact Kj45 _ _ _ ⟨s41, _, rfl, (ue (ue (ue rfl rfl) rfl) rfl), Ky33, By33_b8, By33_b6⟩
 rintro y45 _ _ ⟨s53, _, rfl, rfl, Ky45, By45_b8, By45_b6⟩
 refine pu rfl rfl rfl rfl rfl ?_
 refine ji [22] (fun (y56 : Bool) (e : Env) (w : World) => ∃ (s : St) (e0 : Env), w = s.w ∧ e = upd e0 28 (.bool y56) ∧ Kp s0 s) (fun Gj56 Kj56 => ?_) ?_
 ·
  rcases Bool.eq_false_or_eq_true y45 with hb56 | hb56
  ·
   refine sbT hb56 ?_
   rw [if_pos hb56]
   refine lda (es := [(.int .i64 a2.Kind), (.int .i64 a2.N), w2_0, w2_1]) By45_b8 Tryz.underlying33 z33 rfl rfl rfl rfl rfl rfl rfl rfl ?_
   refine lda (es := [(.int .i64 a1.Kind), (.int .i64 a1.N), w1_0, w1_1]) By45_b6 Tryz.underlying33 z33 rfl rfl rfl rfl rfl rfl rfl rfl ?_
   have A57 := (A2_1.kp Ky45)
   have A58 := (A1_1.kp Ky45)
   refine cl rfl rfl rfl rfl rfl Tryz.func80 rfl rfl rfl (fun r59 m59 => impl_compareItems.calls a2 a1 s53.w (fun b => memb [0] (s53.g b) = true) w2_0 w2_1 w1_0 w1_1 ((fl_rdf (s := s53) A2_0).sub (D := [0]) rfl) A57 ((fl_rdf (s := s53) A1_0).sub (D := [0]) rfl) A58 r59 m59) ?_
   rintro r59 _ w59 m59 ⟨rfl, ky59⟩
   obtain ⟨s60, rfl, p60, n60⟩ := nwx s53 w59 47 ky59
   refine pu rfl rfl rfl rfl rfl ?_
   refine pu rfl rfl rfl rfl rfl ?_
   have K61 := (Ky45.st p60 rfl)
   exact Kj56 _ _ _ ⟨s60, _, rfl, (ue rfl rfl), K61⟩
  ·
   refine sbT hb56 ?_
   rw [if_neg (by rw [hb56]; decide)]
   refine uw rfl rfl rfl rfl ?_
   refine uw rfl rfl rfl rfl ?_
   refine uw rfl rfl rfl rfl ?_
   refine uw rfl rfl rfl rfl ?_
   refine pu rfl rfl rfl rfl rfl ?_
   exact Kj56 _ _ _ ⟨s53, _, rfl, (ue rfl rfl), Ky45⟩
 rintro y56 _ _ ⟨s62, _, rfl, rfl, Ky56⟩
 refine pu rfl rfl rfl rfl rfl ?_
 refine dn ?_
 exact re rfl Tryz.func255 rfl (r_t rfl r_nil) rfl ⟨_, rfl, rfl, z.ky Ky56⟩
noncomputable def impl_Span_has.f (a0 : Span) (a1 : Item) : Option (Bool) :=
 ((impl_InSpan.f a0.From a0.To a1).bind fun r13 => (some r13))
def impl_Span_has.Q (w : World) (F : Nat → Prop) (r : Bool) (v : Value) (w' : World) : Prop :=
 v = (.bool r) ∧ Ky [] w w'
set_option maxHeartbeats 4000000 in
set_option maxRecDepth 100000 in
theorem impl_Span_has.calls (a0 : Span) (a1 : Item) (w : World) (F : Nat → Prop) (w0_0 : Value) (w0_1 : Value) (w0_2 : Value) (w0_3 : Value) (w1_0 : Value) (w1_1 : Value) (h0_0 : Kd.flt.rd w [w0_0] a0.From.F F) (h0_1 : (Kd.sl 5 (Kd.int .u8)).rd w [w0_1] a0.From.T F) (h0_2 : Kd.flt.rd w [w0_2] a0.To.F F) (h0_3 : (Kd.sl 5 (Kd.int .u8)).rd w [w0_3] a0.To.T F) (h1_0 : Kd.flt.rd w [w1_0] a1.F F) (h1_1 : (Kd.sl 5 (Kd.int .u8)).rd w [w1_1] a1.T F) (r : Bool) (m : impl_Span_has.f a0 a1 = some r) :
  Calls Tryz.prog 178 #[(.agg #[(.int .i64 a0.From.Kind), (.int .i64 a0.From.N), w0_0, w0_1, (.int .i64 a0.To.Kind), (.int .i64 a0.To.N), w0_2, w0_3]), (.agg #[(.int .i64 a1.Kind), (.int .i64 a1.N), w1_0, w1_1])] w fun en w' => ∃ v, en = .returned v ∧ impl_Span_has.Q w F r v w' := by
 obtain ⟨s0, rfl, kp0, z⟩ := start0 w F
 have A0_0 := fl_of h0_0
 have A0_1 := z.rd h0_1
 have A0_2 := fl_of h0_2
 have A0_3 := z.rd h0_3
 have A1_0 := fl_of h1_0
 have A1_1 := z.rd h1_1
 refine calls_of_TM (args := [(.agg #[(.int .i64 a0.From.Kind), (.int .i64 a0.From.N), w0_0, w0_1, (.int .i64 a0.To.Kind), (.int .i64 a0.To.N), w0_2, w0_3]), (.agg #[(.int .i64 a1.Kind), (.int .i64 a1.N), w1_0, w1_1])]) (R := fun r en w' => ∃ v, en = .returned v ∧ impl_Span_has.Q s0.w F r v w') Tryz.func178 Tryz.ntmps178 rfl rfl m ?_
 unfold impl_Span_has.f
 refine sr ?_
 refine bx (cs := [(.int .i64 a0.From.Kind), (.int .i64 a0.From.N), w0_0, w0_1, (.int .i64 a0.To.Kind), (.int .i64 a0.To.N), w0_2, w0_3]) 40 rfl rfl rfl rfl rfl rfl (fun b4 s4 p4 B4 => ?_)
 refine bx (cs := [(.int .i64 a1.Kind), (.int .i64 a1.N), w1_0, w1_1]) 41 rfl rfl rfl rfl rfl rfl (fun b6 s6 p6 B6 => ?_)
 refine pu rfl rfl rfl rfl rfl ?_
 refine dn ?_
 refine sr ?_
 refine fa fa200_0 rfl rfl rfl rfl rfl rfl ?_
 have A8 := (BlF.st B4 p6 rfl)
 refine lda (es := [(.int .i64 a0.From.Kind), (.int .i64 a0.From.N), w0_0, w0_1]) A8 Tryz.underlying33 z33 rfl rfl rfl rfl rfl rfl rfl rfl ?_
 refine fa fa200_1 rfl rfl rfl rfl rfl rfl ?_
 refine lda (es := [(.int .i64 a0.To.Kind), (.int .i64 a0.To.N), w0_2, w0_3]) A8 Tryz.underlying33 z33 rfl rfl rfl rfl rfl rfl rfl rfl ?_
 refine lda (es := [(.int .i64 a1.Kind), (.int .i64 a1.N), w1_0, w1_1]) B6 Tryz.underlying33 z33 rfl rfl rfl rfl rfl rfl rfl rfl ?_
 have K9 := ((kp0.st p4 rfl).st p6 rfl)
 have A10 := (A0_1.kp K9)
 have A11 := (A0_3.kp K9)
 have A12 := (A1_1.kp K9)
 refine cl rfl rfl rfl rfl rfl Tryz.func255 rfl rfl rfl (fun r13 m13 => impl_InSpan.calls a0.From a0.To a1 s6.w (fun b => memb [0] (s6.g b) = true) w0_0 w0_1 w0_2 w0_3 w1_0 w1_1 ((fl_rdf (s := s6) A0_0).sub (D := [0]) rfl) A10 ((fl_rdf (s := s6) A0_2).sub (D := [0]) rfl) A11 ((fl_rdf (s := s6) A1_0).sub (D := [0]) rfl) A12 r13 m13) ?_
 rintro r13 _ w13 m13 ⟨rfl, ky13⟩
 obtain ⟨s14, rfl, p14, n14⟩ := nwx s6 w13 42 ky13
 refine pu rfl rfl rfl rfl rfl ?_
 refine dn ?_
 have K15 := (K9.st p14 rfl)
 exact re rfl Tryz.func178 rfl (r_t rfl r_nil) rfl ⟨_, rfl, rfl, z.ky K15⟩
noncomputable def impl_TrackReads_1.f (a0 : Span) (a1 : Item) : Option (Bool) :=
 ((impl_Span_has.f a0 a1).bind fun r12 => (some r12))
def impl_TrackReads_1.Q (w : World) (F : Nat → Prop) (r : Bool) (v : Value) (w' : World) : Prop :=
 v = (.bool r) ∧ Ky [] w w'
set_option maxHeartbeats 4000000 in
set_option maxRecDepth 100000 in
theorem impl_TrackReads_1.calls (a0 : Span) (a1 : Item) (w : World) (F : Nat → Prop) (w0_0 : Value) (w0_1 : Value) (w0_2 : Value) (w0_3 : Value) (c1 : Nat) (w1_0 : Value) (w1_1 : Value) (h0_0 : Kd.flt.rd w [w0_0] a0.From.F F) (h0_1 : (Kd.sl 5 (Kd.int .u8)).rd w [w0_1] a0.From.T F) (h0_2 : Kd.flt.rd w [w0_2] a0.To.F F) (h0_3 : (Kd.sl 5 (Kd.int .u8)).rd w [w0_3] a0.To.T F) (h1_0 : Kd.flt.rd w [w1_0] a1.F F) (h1_1 : (Kd.sl 5 (Kd.int .u8)).rd w [w1_1] a1.T F) (hb1 : BlW w c1 33 [(.int .i64 a1.Kind), (.int .i64 a1.N), w1_0, w1_1]) (hp1 : F c1) (r : Bool) (m : impl_TrackReads_1.f a0 a1 = some r) :
  Calls Tryz.prog 177 #[(.agg #[(.int .i64 a0.From.Kind), (.int .i64 a0.From.N), w0_0, w0_1, (.int .i64 a0.To.Kind), (.int .i64 a0.To.N), w0_2, w0_3]), (.pointer (some ⟨c1, 0, none⟩))] w fun en w' => ∃ v, en = .returned v ∧ impl_TrackReads_1.Q w F r v w' := by
 obtain ⟨s0, rfl, kp0, z⟩ := start0 w F
 have A0_0 := fl_of h0_0
 have A0_1 := z.rd h0_1
 have A0_2 := fl_of h0_2
 have A0_3 := z.rd h0_3
 have B1 := z.b0 hb1 hp1
 have A1_0 := fl_of h1_0
 have A1_1 := z.rd h1_1
 refine calls_of_TM (args := [(.agg #[(.int .i64 a0.From.Kind), (.int .i64 a0.From.N), w0_0, w0_1, (.int .i64 a0.To.Kind), (.int .i64 a0.To.N), w0_2, w0_3]), (.pointer (some ⟨c1, 0, none⟩))]) (R := fun r en w' => ∃ v, en = .returned v ∧ impl_TrackReads_1.Q s0.w F r v w') Tryz.func177 Tryz.ntmps177 rfl rfl m ?_
 unfold impl_TrackReads_1.f
 refine sr ?_
 refine bx (cs := [(.int .i64 a0.From.Kind), (.int .i64 a0.From.N), w0_0, w0_1, (.int .i64 a0.To.Kind), (.int .i64 a0.To.N), w0_2, w0_3]) 40 rfl rfl rfl rfl rfl rfl (fun b5 s5 p5 B5 => ?_)
 refine pu rfl rfl rfl rfl rfl ?_
 refine dn ?_
 refine sr ?_
 refine lda (es := [(.int .i64 a0.From.Kind), (.int .i64 a0.From.N), w0_0, w0_1, (.int .i64 a0.To.Kind), (.int .i64 a0.To.N), w0_2, w0_3]) B5 Tryz.underlying200 z200 rfl rfl rfl rfl rfl rfl rfl rfl ?_
 have A7 := (BlF.st B1 p5 rfl)
 refine lda (es := [(.int .i64 a1.Kind), (.int .i64 a1.N), w1_0, w1_1]) A7 Tryz.underlying33 z33 rfl rfl rfl rfl rfl rfl rfl rfl ?_
 have K8 := (kp0.st p5 rfl)
 have A9 := (A0_1.kp K8)
 have A10 := (A0_3.kp K8)
 have A11 := (A1_1.kp K8)
 refine cl rfl rfl rfl rfl rfl Tryz.func178 rfl rfl rfl (fun r12 m12 => impl_Span_has.calls a0 a1 s5.w (fun b => memb [0] (s5.g b) = true) w0_0 w0_1 w0_2 w0_3 w1_0 w1_1 ((fl_rdf (s := s5) A0_0).sub (D := [0]) rfl) A9 ((fl_rdf (s := s5) A0_2).sub (D := [0]) rfl) A10 ((fl_rdf (s := s5) A1_0).sub (D := [0]) rfl) A11 r12 m12) ?_
 rintro r12 _ w12 m12 ⟨rfl, ky12⟩
 obtain ⟨s13, rfl, p13, n13⟩ := nwx s5 w12 41 ky12
 refine pu rfl rfl rfl rfl rfl ?_
 refine dn ?_
 have K14 := (K8.st p13 rfl)
 exact re rfl Tryz.func177 rfl (r_t rfl r_nil) rfl ⟨_, rfl, rfl, z.ky K14⟩
noncomputable def slices_IndexFunc_impl_Span_impl_Span.b0 (a0 : (List Span)) (a1 : (Span → Option Bool)) (x2 : Int) : Option (Int ⊕ Int) :=
 (if (decide (x2 < (a0.length : Int))) = true then (if 0 ≤ x2 ∧ x2 < (a0.length : Int) then ((a1 (Span.mk ((at_ a0 x2).From) ((at_ a0 x2).To))).bind fun r10 => (if r10 = true then (some (Sum.inr x2)) else (some (Sum.inl (IntKind.wrap .i64 (x2 + (1 : Int))))))) else none) else ((some (-1 : Int)).bind fun o => some (Sum.inr o)))
noncomputable def slices_IndexFunc_impl_Span_impl_Span.f (a0 : (List Span)) (a1 : (Span → Option Bool)) : Option (Int) :=
 (iter (slices_IndexFunc_impl_Span_impl_Span.b0 a0 a1) (0 : Int))
def slices_IndexFunc_impl_Span_impl_Span.Q (w : World) (F : Nat → Prop) (r : Int) (v : Value) (w' : World) : Prop :=
 v = (.int .i64 r) ∧ Ky [] w w'
set_option maxHeartbeats 4000000 in
set_option maxRecDepth 100000 in
theorem slices_IndexFunc_impl_Span_impl_Span.calls (a0 : (List Span)) (a1 : (Span → Option Bool)) (w : World) (F : Nat → Prop) (w0_0 : Value) (f1 : Value) (h0_0 : (Kd.sl 200 kd200).rd w [w0_0] a0 F) (hf1 : ∀ (x0 : Span) (u0_0 u0_1 u0_2 u0_3 : Value) (w' : World), Ky [] w w' → Kd.flt.rd w' [u0_0] x0.From.F (fun _ => True) → (Kd.sl 5 (Kd.int .u8)).rd w' [u0_1] x0.From.T (fun _ => True) → Kd.flt.rd w' [u0_2] x0.To.F (fun _ => True) → (Kd.sl 5 (Kd.int .u8)).rd w' [u0_3] x0.To.T (fun _ => True) → ∀ r, a1 x0 = some r → CallV Tryz.prog f1 [(.agg #[(.int .i64 x0.From.Kind), (.int .i64 x0.From.N), u0_0, u0_1, (.int .i64 x0.To.Kind), (.int .i64 x0.To.N), u0_2, u0_3])] w' fun en w'' => ∃ v, en = .returned v ∧ v = (.bool r) ∧ Ky [] w' w'') (ho1 : f1.cells = #[f1]) (r : Int) (m : slices_IndexFunc_impl_Span_impl_Span.f a0 a1 = some r) :
  Calls Tryz.prog 254 #[w0_0, f1] w fun en w' => ∃ v, en = .returned v ∧ slices_IndexFunc_impl_Span_impl_Span.Q w F r v w' := by
 obtain ⟨s0, rfl, kp0, z⟩ := start0 w F
 have A0_0 := z.rd h0_0
 refine calls_of_TM (args := [w0_0, f1]) (R := fun r en w' => ∃ v, en = .returned v ∧ slices_IndexFunc_impl_Span_impl_Span.Q s0.w F r v w') Tryz.func254 Tryz.ntmps254 rfl rfl m ?_
 unfold slices_IndexFunc_impl_Span_impl_Span.f
 refine sr ?_
 refine pu rfl rfl rfl rfl rfl ?_
 refine dn ?_
 refine sq ?_
 refine sr ?_
 refine mv w0_0 rfl rfl rfl rfl rfl rfl ?_
 refine ln A0_0 Tryz.underlying114 rfl rfl rfl rfl rfl rfl ?_
 refine pu rfl rfl rfl rfl rfl ?_
 refine dn ?_
 refine bl ?_
 refine lpI (fun (x2 : Int) (e : Env) (w : World) => ∃ (s : St) (e0 : Env), w = s.w ∧ e = upd (upd (upd (upd e0 0 w0_0) 1 f1) 7 (.int .i64 (a0.length : Int))) 8 (.int .i64 x2) ∧ Kp s0 s) ⟨s0, _, rfl, (ue (ue (ue (ue rfl rfl) rfl) rfl) rfl), kp0⟩ (fun g2 ih2 => ?_)
 rintro x2 _ _ ⟨s3, _, rfl, rfl, Kx2⟩
 unfold slices_IndexFunc_impl_Span_impl_Span.b0
 refine sr ?_
 refine pu rfl rfl rfl rfl rfl ?_
 refine dn ?_
 refine sq ?_
 refine cd rfl (fun h4 => ?_) (fun h4 => ?_)
 ·
  refine sk ?_
  refine sq ?_
  refine bl ?_
  refine sr ?_
  refine pu rfl rfl rfl rfl rfl ?_
  refine pu rfl rfl rfl rfl rfl ?_
  refine dn ?_
  refine sr ?_
  refine mv f1 rfl rfl rfl rfl rfl rfl ?_
  refine mv w0_0 rfl rfl rfl rfl rfl rfl ?_
  refine pu rfl rfl rfl rfl rfl ?_
  have A5 := (A0_0.kp Kx2)
  refine ix A5 Tryz.underlying114 z200 rfl rfl rfl rfl rfl rfl rfl rfl (fun ad6 es6 h0_6 h1_6 he6 ce6 ia6 => ?_)
  obtain ⟨v6_0, v6_1, v6_2, v6_3, rfl, A6_0, A6_1, A6_2, A6_3⟩ := op200 he6
  refine lca ce6 Tryz.underlying200 z200 rfl rfl rfl rfl rfl rfl rfl ?_
  refine clv rfl rfl rfl rfl rfl rfl rfl (fun r10 m10 => hf1 (Span.mk ((at_ a0 x2).From) ((at_ a0 x2).To)) v6_0 v6_1 v6_2 v6_3 s3.w (z.ky Kx2) (fl_rd A6_0) (RdF.top A6_1) (fl_rd A6_2) (RdF.top A6_3) r10 m10) ?_
  rintro r10 _ w10 m10 ⟨rfl, ky10⟩
  obtain ⟨s11, rfl, p11, n11⟩ := nwx s3 w10 40 ky10
  refine dn ?_
  refine cd rfl (fun h12 => ?_) (fun h12 => ?_)
  ·
   refine sr ?_
   refine pu rfl rfl rfl rfl rfl ?_
   refine pu rfl rfl rfl rfl rfl ?_
   refine dn ?_
   refine sgi ?_
   have K13 := (Kx2.st p11 rfl)
   exact re rfl Tryz.func254 rfl (r_t rfl r_nil) rfl ⟨_, rfl, rfl, z.ky K13⟩
  ·
   refine sk ?_
   refine ib ?_
   refine rg ?_
   refine pu rfl rfl rfl rfl rfl ?_
   refine pu rfl rfl rfl rfl rfl ?_
   refine dn ?_
   have K14 := (Kx2.st p11 rfl)
   exact lb ih2 ⟨s11, _, rfl, (ue (ue (ue (ue rfl rfl) rfl) rfl) rfl), K14⟩
 ·
  refine xt rfl ?_
  refine sgb ?_
  refine sr ?_
  refine pu rfl rfl rfl rfl rfl ?_
  refine dn ?_
  exact re rfl Tryz.func254 rfl (r_t rfl r_nil) rfl ⟨_, rfl, rfl, z.ky Kx2⟩
noncomputable def slices_ContainsFunc_impl_Span_impl_Span.f (a0 : (List Span)) (a1 : (Span → Option Bool)) : Option (Bool) :=
 ((slices_IndexFunc_impl_Span_impl_Span.f a0 a1).bind fun r2 => (some (decide (r2 ≥ (0 : Int)))))
def slices_ContainsFunc_impl_Span_impl_Span.Q (w : World) (F : Nat → Prop) (r : Bool) (v : Value) (w' : World) : Prop :=
 v = (.bool r) ∧ Ky [] w w'
set_option maxHeartbeats 4000000 in
set_option maxRecDepth 100000 in
theorem slices_ContainsFunc_impl_Span_impl_Span.calls (a0 : (List Span)) (a1 : (Span → Option Bool)) (w : World) (F : Nat → Prop) (w0_0 : Value) (f1 : Value) (h0_0 : (Kd.sl 200 kd200).rd w [w0_0] a0 F) (hf1 : ∀ (x0 : Span) (u0_0 u0_1 u0_2 u0_3 : Value) (w' : World), Ky [] w w' → Kd.flt.rd w' [u0_0] x0.From.F (fun _ => True) → (Kd.sl 5 (Kd.int .u8)).rd w' [u0_1] x0.From.T (fun _ => True) → Kd.flt.rd w' [u0_2] x0.To.F (fun _ => True) → (Kd.sl 5 (Kd.int .u8)).rd w' [u0_3] x0.To.T (fun _ => True) → ∀ r, a1 x0 = some r → CallV Tryz.prog f1 [(.agg #[(.int .i64 x0.From.Kind), (.int .i64 x0.From.N), u0_0, u0_1, (.int .i64 x0.To.Kind), (.int .i64 x0.To.N), u0_2, u0_3])] w' fun en w'' => ∃ v, en = .returned v ∧ v = (.bool r) ∧ Ky [] w' w'') (ho1 : f1.cells = #[f1]) (r : Bool) (m : slices_ContainsFunc_impl_Span_impl_Span.f a0 a1 = some r) :
  Calls Tryz.prog 176 #[w0_0, f1] w fun en w' => ∃ v, en = .returned v ∧ slices_ContainsFunc_impl_Span_impl_Span.Q w F r v w' := by
 obtain ⟨s0, rfl, kp0, z⟩ := start0 w F
 have A0_0 := z.rd h0_0
 refine calls_of_TM (args := [w0_0, f1]) (R := fun r en w' => ∃ v, en = .returned v ∧ slices_ContainsFunc_impl_Span_impl_Span.Q s0.w F r v w') Tryz.func176 Tryz.ntmps176 rfl rfl m ?_
 unfold slices_ContainsFunc_impl_Span_impl_Span.f
 refine sr ?_
 refine pu rfl rfl rfl rfl rfl ?_
 refine dn ?_
 refine sr ?_
 refine mv w0_0 rfl rfl rfl rfl rfl rfl ?_
 refine mv f1 rfl rfl rfl rfl rfl rfl ?_
 refine cl rfl rfl rfl rfl rfl Tryz.func254 rfl rfl rfl (fun r2 m2 => slices_IndexFunc_impl_Span_impl_Span.calls a0 a1 s0.w (fun b => memb [0] (s0.g b) = true) w0_0 f1 A0_0 (fun x0 u0_0 u0_1 u0_2 u0_3 w' k h0 h1 h2 h3 r m =>  hf1 x0 u0_0 u0_1 u0_2 u0_3 w' (Ky.trans (z.ky kp0) k) h0 h1 h2 h3 r m) ho1 r2 m2) ?_
 rintro r2 _ w2 m2 ⟨rfl, ky2⟩
 obtain ⟨s3, rfl, p3, n3⟩ := nwx s0 w2 40 ky2
 refine pu rfl rfl rfl rfl rfl ?_
 refine pu rfl rfl rfl rfl rfl ?_
 refine dn ?_
 have K4 := (kp0.st p3 rfl)
 exact re rfl Tryz.func176 rfl (r_t rfl r_nil) rfl ⟨_, rfl, rfl, z.ky K4⟩
noncomputable def impl_TrackReads.f (a0 : Track) (a1 : Item) : Option (Bool) :=
 ((impl_KeyOk.f a1).bind fun r10 => ((if r10 = true then ((if a0.All = true then (some true) else ((slices_ContainsFunc_impl_Span_impl_Span.f a0.Reads (fun x0 => impl_TrackReads_1.f x0 a1)).bind fun r20 => (some r20))).bind fun y14 => (some y14)) else (some false)).bind fun y12 => (some y12)))
def impl_TrackReads.Q (w : World) (F : Nat → Prop) (r : Bool) (v : Value) (w' : World) : Prop :=
 v = (.bool r) ∧ Ky [] w w'
set_option maxHeartbeats 4000000 in
set_option maxRecDepth 100000 in
theorem impl_TrackReads.calls (a0 : Track) (a1 : Item) (w : World) (F : Nat → Prop) (w0_0 : Value) (w0_1 : Value) (w1_0 : Value) (w1_1 : Value) (h0_0 : (Kd.sl 200 kd200).rd w [w0_0] a0.Reads F) (h0_1 : (Kd.sl 33 kd33).rd w [w0_1] a0.Writes F) (h1_0 : Kd.flt.rd w [w1_0] a1.F F) (h1_1 : (Kd.sl 5 (Kd.int .u8)).rd w [w1_1] a1.T F) (r : Bool) (m : impl_TrackReads.f a0 a1 = some r) :
  Calls Tryz.prog 84 #[(.agg #[(.int .i64 a0.Xid), (.int .i64 a0.Begun), (.int .i64 a0.Ended), (.bool a0.All), w0_0, w0_1, (.bool a0.In), (.bool a0.Out)]), (.agg #[(.int .i64 a1.Kind), (.int .i64 a1.N), w1_0, w1_1])] w fun en w' => ∃ v, en = .returned v ∧ impl_TrackReads.Q w F r v w' := by
 obtain ⟨s0, rfl, kp0, z⟩ := start0 w F
 have A0_0 := z.rd h0_0
 have A0_1 := z.rd h0_1
 have A1_0 := fl_of h1_0
 have A1_1 := z.rd h1_1
 refine calls_of_TM (args := [(.agg #[(.int .i64 a0.Xid), (.int .i64 a0.Begun), (.int .i64 a0.Ended), (.bool a0.All), w0_0, w0_1, (.bool a0.In), (.bool a0.Out)]), (.agg #[(.int .i64 a1.Kind), (.int .i64 a1.N), w1_0, w1_1])]) (R := fun r en w' => ∃ v, en = .returned v ∧ impl_TrackReads.Q s0.w F r v w') Tryz.func84 Tryz.ntmps84 rfl rfl m ?_
 unfold impl_TrackReads.f
 refine sr ?_
 refine bx (cs := [(.int .i64 a0.Xid), (.int .i64 a0.Begun), (.int .i64 a0.Ended), (.bool a0.All), w0_0, w0_1, (.bool a0.In), (.bool a0.Out)]) 40 rfl rfl rfl rfl rfl rfl (fun b4 s4 p4 B4 => ?_)
 refine bx (cs := [(.int .i64 a1.Kind), (.int .i64 a1.N), w1_0, w1_1]) 41 rfl rfl rfl rfl rfl rfl (fun b6 s6 p6 B6 => ?_)
 refine pu rfl rfl rfl rfl rfl ?_
 refine dn ?_
 refine sr ?_
 refine lda (es := [(.int .i64 a1.Kind), (.int .i64 a1.N), w1_0, w1_1]) B6 Tryz.underlying33 z33 rfl rfl rfl rfl rfl rfl rfl rfl ?_
 have K8 := ((kp0.st p4 rfl).st p6 rfl)
 have A9 := (A1_1.kp K8)
 refine cl rfl rfl rfl rfl rfl Tryz.func76 rfl rfl rfl (fun r10 m10 => impl_KeyOk.calls a1 s6.w (fun b => memb [0] (s6.g b) = true) w1_0 w1_1 ((fl_rdf (s := s6) A1_0).sub (D := [0]) rfl) A9 r10 m10) ?_
 rintro r10 _ w10 m10 ⟨rfl, ky10⟩
 obtain ⟨s11, rfl, p11, n11⟩ := nwx s6 w10 42 ky10
 refine pu rfl rfl rfl rfl rfl ?_
 refine ji [12] (fun (y12 : Bool) (e : Env) (w : World) => ∃ (s : St) (e0 : Env), w = s.w ∧ e = upd e0 16 (.bool y12) ∧ Kp s0 s) (fun Gj12 Kj12 => ?_) ?_
 ·
  rcases Bool.eq_false_or_eq_true r10 with hb12 | hb12
  ·
   refine sbT hb12 ?_
   rw [if_pos hb12]
   refine fa fa117_3 rfl rfl rfl rfl rfl rfl ?_
   have A13 := (BlF.st (BlF.st B4 p6 rfl) p11 rfl)
   refine ld A13 Tryz.underlying4 rfl rfl rfl rfl rfl rfl rfl rfl ?_
   refine pu rfl rfl rfl rfl rfl ?_
   refine ji [11, 12] (fun (y14 : Bool) (e : Env) (w : World) => ∃ (s : St) (e0 : Env), w = s.w ∧ e = upd (upd e0 7 (.bool true)) 15 (.bool y14) ∧ Kp s0 s) (fun Gj14 Kj14 => ?_) ?_
   ·
    rcases Bool.eq_false_or_eq_true a0.All with hb14 | hb14
    ·
     refine sbT hb14 ?_
     rw [if_pos hb14]
     refine uw rfl rfl rfl rfl ?_
     refine uw rfl rfl rfl rfl ?_
     refine uw rfl rfl rfl rfl ?_
     refine uw rfl rfl rfl rfl ?_
     refine pu rfl rfl rfl rfl rfl ?_
     have K15 := (K8.st p11 rfl)
     exact Kj14 _ _ _ ⟨s11, _, rfl, (ue (ue rfl rfl) rfl), K15⟩
    ·
     refine sbT hb14 ?_
     rw [if_neg (by rw [hb14]; decide)]
     refine fa fa117_4 rfl rfl rfl rfl rfl rfl ?_
     refine ld A13 Tryz.underlying114 rfl rfl rfl rfl rfl rfl rfl rfl ?_
     refine mkf (fs := []) (cs := [(.pointer (some ⟨b6, 0, none⟩))]) rfl rfl rfl rfl rfl rfl rfl ?_
     have K16 := (K8.st p11 rfl)
     have A17 := (A0_0.kp K16)
     have A18 := (A1_1.kp K16)
     have A19 := (BlF.st B6 p11 rfl)
     refine cl rfl rfl rfl rfl rfl Tryz.func176 rfl rfl rfl (fun r20 m20 => slices_ContainsFunc_impl_Span_impl_Span.calls a0.Reads (fun x0 => impl_TrackReads_1.f x0 a1) s11.w (fun b => memb [0] (s11.g b) = true) w0_0 (.func (.func 177) (List.toArray []) (List.toArray [(.pointer (some ⟨b6, 0, none⟩))])) A17 (fun x0 u0_0 u0_1 u0_2 u0_3 w' k h0 h1 h2 h3 r m =>  ⟨177, _, _, [], [(.pointer (some ⟨b6, 0, none⟩))], rfl, Tryz.func177, rfl, rfl, (impl_TrackReads_1.calls x0 a1 w' (fun _ => True) u0_0 u0_1 u0_2 u0_3 b6 w1_0 w1_1 h0 h1 h2 h3 (fl_rd A1_0) (RdF.ky A18 k) (BlF.ky A19 k) trivial r m).mono fun en w2 hq => by obtain ⟨v, e, q⟩ := hq; exact ⟨v, e, q⟩⟩) rfl r20 m20) ?_
     rintro r20 _ w20 m20 ⟨rfl, ky20⟩
     obtain ⟨s21, rfl, p21, n21⟩ := nwx s11 w20 43 ky20
     refine pu rfl rfl rfl rfl rfl ?_
     have K22 := (K16.st p21 rfl)
     exact Kj14 _ _ _ ⟨s21, _, rfl, (ue (ue rfl rfl) rfl), K22⟩
   rintro y14 _ _ ⟨s23, _, rfl, rfl, Ky14⟩
   refine pu rfl rfl rfl rfl rfl ?_
   exact Kj12 _ _ _ ⟨s23, _, rfl, (ue rfl rfl), Ky14⟩
  ·
   refine sbT hb12 ?_
   rw [if_neg (by rw [hb12]; decide)]
   refine uw rfl rfl rfl rfl ?_
   refine uw rfl rfl rfl rfl ?_
   refine uw rfl rfl rfl rfl ?_
   refine uw rfl rfl rfl rfl ?_
   refine uw rfl rfl rfl rfl ?_
   refine uw rfl rfl rfl rfl ?_
   refine uw rfl rfl rfl rfl ?_
   refine uw rfl rfl rfl rfl ?_
   refine pu rfl rfl rfl rfl rfl ?_
   have K24 := (K8.st p11 rfl)
   exact Kj12 _ _ _ ⟨s11, _, rfl, (ue rfl rfl), K24⟩
 rintro y12 _ _ ⟨s25, _, rfl, rfl, Ky12⟩
 refine pu rfl rfl rfl rfl rfl ?_
 refine dn ?_
 exact re rfl Tryz.func84 rfl (r_t rfl r_nil) rfl ⟨_, rfl, rfl, z.ky Ky12⟩
noncomputable def impl_EdgeWrite_2.f (a0 : Track) (a1 : Item) : Option (Bool) :=
 ((impl_TrackReads.f a0 a1).bind fun r12 => (some r12))
def impl_EdgeWrite_2.Q (w : World) (F : Nat → Prop) (r : Bool) (v : Value) (w' : World) : Prop :=
 v = (.bool r) ∧ Ky [] w w'
set_option maxHeartbeats 4000000 in
set_option maxRecDepth 100000 in
theorem impl_EdgeWrite_2.calls (a0 : Track) (a1 : Item) (w : World) (F : Nat → Prop) (w0_0 : Value) (w0_1 : Value) (c1 : Nat) (w1_0 : Value) (w1_1 : Value) (h0_0 : (Kd.sl 200 kd200).rd w [w0_0] a0.Reads F) (h0_1 : (Kd.sl 33 kd33).rd w [w0_1] a0.Writes F) (h1_0 : Kd.flt.rd w [w1_0] a1.F F) (h1_1 : (Kd.sl 5 (Kd.int .u8)).rd w [w1_1] a1.T F) (hb1 : BlW w c1 33 [(.int .i64 a1.Kind), (.int .i64 a1.N), w1_0, w1_1]) (hp1 : F c1) (r : Bool) (m : impl_EdgeWrite_2.f a0 a1 = some r) :
  Calls Tryz.prog 83 #[(.agg #[(.int .i64 a0.Xid), (.int .i64 a0.Begun), (.int .i64 a0.Ended), (.bool a0.All), w0_0, w0_1, (.bool a0.In), (.bool a0.Out)]), (.pointer (some ⟨c1, 0, none⟩))] w fun en w' => ∃ v, en = .returned v ∧ impl_EdgeWrite_2.Q w F r v w' := by
 obtain ⟨s0, rfl, kp0, z⟩ := start0 w F
 have A0_0 := z.rd h0_0
 have A0_1 := z.rd h0_1
 have B1 := z.b0 hb1 hp1
 have A1_0 := fl_of h1_0
 have A1_1 := z.rd h1_1
 refine calls_of_TM (args := [(.agg #[(.int .i64 a0.Xid), (.int .i64 a0.Begun), (.int .i64 a0.Ended), (.bool a0.All), w0_0, w0_1, (.bool a0.In), (.bool a0.Out)]), (.pointer (some ⟨c1, 0, none⟩))]) (R := fun r en w' => ∃ v, en = .returned v ∧ impl_EdgeWrite_2.Q s0.w F r v w') Tryz.func83 Tryz.ntmps83 rfl rfl m ?_
 unfold impl_EdgeWrite_2.f
 refine sr ?_
 refine bx (cs := [(.int .i64 a0.Xid), (.int .i64 a0.Begun), (.int .i64 a0.Ended), (.bool a0.All), w0_0, w0_1, (.bool a0.In), (.bool a0.Out)]) 40 rfl rfl rfl rfl rfl rfl (fun b5 s5 p5 B5 => ?_)
 refine pu rfl rfl rfl rfl rfl ?_
 refine dn ?_
 refine sr ?_
 refine lda (es := [(.int .i64 a0.Xid), (.int .i64 a0.Begun), (.int .i64 a0.Ended), (.bool a0.All), w0_0, w0_1, (.bool a0.In), (.bool a0.Out)]) B5 Tryz.underlying117 z117 rfl rfl rfl rfl rfl rfl rfl rfl ?_
 have A7 := (BlF.st B1 p5 rfl)
 refine lda (es := [(.int .i64 a1.Kind), (.int .i64 a1.N), w1_0, w1_1]) A7 Tryz.underlying33 z33 rfl rfl rfl rfl rfl rfl rfl rfl ?_
 have K8 := (kp0.st p5 rfl)
 have A9 := (A0_0.kp K8)
 have A10 := (A0_1.kp K8)
 have A11 := (A1_1.kp K8)
 refine cl rfl rfl rfl rfl rfl Tryz.func84 rfl rfl rfl (fun r12 m12 => impl_TrackReads.calls a0 a1 s5.w (fun b => memb [0] (s5.g b) = true) w0_0 w0_1 w1_0 w1_1 A9 A10 ((fl_rdf (s := s5) A1_0).sub (D := [0]) rfl) A11 r12 m12) ?_
 rintro r12 _ w12 m12 ⟨rfl, ky12⟩
 obtain ⟨s13, rfl, p13, n13⟩ := nwx s5 w12 41 ky12
 refine pu rfl rfl rfl rfl rfl ?_
 refine dn ?_
 have K14 := (K8.st p13 rfl)
 exact re rfl Tryz.func83 rfl (r_t rfl r_nil) rfl ⟨_, rfl, rfl, z.ky K14⟩
noncomputable def impl_Track_isActive.f (a0 : Track) : Option (Bool) :=
 (some (a0.Ended == (0 : Int)))
def impl_Track_isActive.Q (w : World) (F : Nat → Prop) (r : Bool) (v : Value) (w' : World) : Prop :=
 v = (.bool r) ∧ Ky [] w w'
set_option maxHeartbeats 4000000 in
set_option maxRecDepth 100000 in
theorem impl_Track_isActive.calls (a0 : Track) (w : World) (F : Nat → Prop) (w0_0 : Value) (w0_1 : Value) (h0_0 : (Kd.sl 200 kd200).rd w [w0_0] a0.Reads F) (h0_1 : (Kd.sl 33 kd33).rd w [w0_1] a0.Writes F) (r : Bool) (m : impl_Track_isActive.f a0 = some r) :
  Calls Tryz.prog 160 #[(.agg #[(.int .i64 a0.Xid), (.int .i64 a0.Begun), (.int .i64 a0.Ended), (.bool a0.All), w0_0, w0_1, (.bool a0.In), (.bool a0.Out)])] w fun en w' => ∃ v, en = .returned v ∧ impl_Track_isActive.Q w F r v w' := by
 obtain ⟨s0, rfl, kp0, z⟩ := start0 w F
 have A0_0 := z.rd h0_0
 have A0_1 := z.rd h0_1
 refine calls_of_TM (args := [(.agg #[(.int .i64 a0.Xid), (.int .i64 a0.Begun), (.int .i64 a0.Ended), (.bool a0.All), w0_0, w0_1, (.bool a0.In), (.bool a0.Out)])]) (R := fun r en w' => ∃ v, en = .returned v ∧ impl_Track_isActive.Q s0.w F r v w') Tryz.func160 Tryz.ntmps160 rfl rfl m ?_
 unfold impl_Track_isActive.f
 refine sr ?_
 refine bx (cs := [(.int .i64 a0.Xid), (.int .i64 a0.Begun), (.int .i64 a0.Ended), (.bool a0.All), w0_0, w0_1, (.bool a0.In), (.bool a0.Out)]) 40 rfl rfl rfl rfl rfl rfl (fun b3 s3 p3 B3 => ?_)
 refine pu rfl rfl rfl rfl rfl ?_
 refine dn ?_
 refine sr ?_
 refine fa fa117_2 rfl rfl rfl rfl rfl rfl ?_
 refine ld B3 Tryz.underlying3 rfl rfl rfl rfl rfl rfl rfl rfl ?_
 refine pu rfl rfl rfl rfl rfl ?_
 refine pu rfl rfl rfl rfl rfl ?_
 refine dn ?_
 have K5 := (kp0.st p3 rfl)
 exact re rfl Tryz.func160 rfl (r_t rfl r_nil) rfl ⟨_, rfl, rfl, z.ky K5⟩
noncomputable def impl_active_1.f (a0 : Track) (a1 : Int) : Option (Bool) :=
 ((if (a0.Xid == a1) = true then ((impl_Track_isActive.f a0).bind fun r11 => (some r11)) else (some false)).bind fun y7 => (some y7))
def impl_active_1.Q (w : World) (F : Nat → Prop) (r : Bool) (v : Value) (w' : World) : Prop :=
 v = (.bool r) ∧ Ky [] w w'
set_option maxHeartbeats 4000000 in
set_option maxRecDepth 100000 in
theorem impl_active_1.calls (a0 : Track) (a1 : Int) (w : World) (F : Nat → Prop) (w0_0 : Value) (w0_1 : Value) (c1 : Nat) (h0_0 : (Kd.sl 200 kd200).rd w [w0_0] a0.Reads F) (h0_1 : (Kd.sl 33 kd33).rd w [w0_1] a0.Writes F) (hb1 : BlW w c1 3 [(.int .i64 a1)]) (hp1 : F c1) (r : Bool) (m : impl_active_1.f a0 a1 = some r) :
  Calls Tryz.prog 159 #[(.agg #[(.int .i64 a0.Xid), (.int .i64 a0.Begun), (.int .i64 a0.Ended), (.bool a0.All), w0_0, w0_1, (.bool a0.In), (.bool a0.Out)]), (.pointer (some ⟨c1, 0, none⟩))] w fun en w' => ∃ v, en = .returned v ∧ impl_active_1.Q w F r v w' := by
 obtain ⟨s0, rfl, kp0, z⟩ := start0 w F
 have A0_0 := z.rd h0_0
 have A0_1 := z.rd h0_1
 have B1 := z.b0 hb1 hp1
 refine calls_of_TM (args := [(.agg #[(.int .i64 a0.Xid), (.int .i64 a0.Begun), (.int .i64 a0.Ended), (.bool a0.All), w0_0, w0_1, (.bool a0.In), (.bool a0.Out)]), (.pointer (some ⟨c1, 0, none⟩))]) (R := fun r en w' => ∃ v, en = .returned v ∧ impl_active_1.Q s0.w F r v w') Tryz.func159 Tryz.ntmps159 rfl rfl m ?_
 unfold impl_active_1.f
 refine sr ?_
 refine bx (cs := [(.int .i64 a0.Xid), (.int .i64 a0.Begun), (.int .i64 a0.Ended), (.bool a0.All), w0_0, w0_1, (.bool a0.In), (.bool a0.Out)]) 40 rfl rfl rfl rfl rfl rfl (fun b4 s4 p4 B4 => ?_)
 refine pu rfl rfl rfl rfl rfl ?_
 refine dn ?_
 refine sr ?_
 refine fa fa117_0 rfl rfl rfl rfl rfl rfl ?_
 refine ld B4 Tryz.underlying3 rfl rfl rfl rfl rfl rfl rfl rfl ?_
 have A6 := (BlF.st B1 p4 rfl)
 refine ld A6 Tryz.underlying3 rfl rfl rfl rfl rfl rfl rfl rfl ?_
 refine pu rfl rfl rfl rfl rfl ?_
 refine pu rfl rfl rfl rfl rfl ?_
 refine ji [8] (fun (y7 : Bool) (e : Env) (w : World) => ∃ (s : St) (e0 : Env), w = s.w ∧ e = upd e0 11 (.bool y7) ∧ Kp s0 s) (fun Gj7 Kj7 => ?_) ?_
 ·
  rcases Bool.eq_false_or_eq_true (a0.Xid == a1) with hb7 | hb7
  ·
   refine sbT hb7 ?_
   rw [if_pos hb7]
   refine lda (es := [(.int .i64 a0.Xid), (.int .i64 a0.Begun), (.int .i64 a0.Ended), (.bool a0.All), w0_0, w0_1, (.bool a0.In), (.bool a0.Out)]) B4 Tryz.underlying117 z117 rfl rfl rfl rfl rfl rfl rfl rfl ?_
   have K8 := (kp0.st p4 rfl)
   have A9 := (A0_0.kp K8)
   have A10 := (A0_1.kp K8)
   refine cl rfl rfl rfl rfl rfl Tryz.func160 rfl rfl rfl (fun r11 m11 => impl_Track_isActive.calls a0 s4.w (fun b => memb [0] (s4.g b) = true) w0_0 w0_1 A9 A10 r11 m11) ?_
   rintro r11 _ w11 m11 ⟨rfl, ky11⟩
   obtain ⟨s12, rfl, p12, n12⟩ := nwx s4 w11 41 ky11
   refine pu rfl rfl rfl rfl rfl ?_
   have K13 := (K8.st p12 rfl)
   exact Kj7 _ _ _ ⟨s12, _, rfl, (ue rfl rfl), K13⟩
  ·
   refine sbT hb7 ?_
   rw [if_neg (by rw [hb7]; decide)]
   refine uw rfl rfl rfl rfl ?_
   refine uw rfl rfl rfl rfl ?_
   refine pu rfl rfl rfl rfl rfl ?_
   have K14 := (kp0.st p4 rfl)
   exact Kj7 _ _ _ ⟨s4, _, rfl, (ue rfl rfl), K14⟩
 rintro y7 _ _ ⟨s15, _, rfl, rfl, Ky7⟩
 refine pu rfl rfl rfl rfl rfl ?_
 refine dn ?_
 exact re rfl Tryz.func159 rfl (r_t rfl r_nil) rfl ⟨_, rfl, rfl, z.ky Ky7⟩
noncomputable def slices_IndexFunc_impl_Track_impl_Track.b0 (a0 : (List Track)) (a1 : (Track → Option Bool)) (x2 : Int) : Option (Int ⊕ Int) :=
 (if (decide (x2 < (a0.length : Int))) = true then (if 0 ≤ x2 ∧ x2 < (a0.length : Int) then ((a1 (at_ a0 x2)).bind fun r10 => (if r10 = true then (some (Sum.inr x2)) else (some (Sum.inl (IntKind.wrap .i64 (x2 + (1 : Int))))))) else none) else ((some (-1 : Int)).bind fun o => some (Sum.inr o)))
noncomputable def slices_IndexFunc_impl_Track_impl_Track.f (a0 : (List Track)) (a1 : (Track → Option Bool)) : Option (Int) :=
 (iter (slices_IndexFunc_impl_Track_impl_Track.b0 a0 a1) (0 : Int))
def slices_IndexFunc_impl_Track_impl_Track.Q (w : World) (F : Nat → Prop) (r : Int) (v : Value) (w' : World) : Prop :=
 v = (.int .i64 r) ∧ Ky [] w w'
set_option maxHeartbeats 4000000 in
set_option maxRecDepth 100000 in
theorem slices_IndexFunc_impl_Track_impl_Track.calls (a0 : (List Track)) (a1 : (Track → Option Bool)) (w : World) (F : Nat → Prop) (w0_0 : Value) (f1 : Value) (h0_0 : (Kd.sl 117 kd117).rd w [w0_0] a0 F) (hf1 : ∀ (x0 : Track) (u0_0 u0_1 : Value) (w' : World), Ky [] w w' → (Kd.sl 200 kd200).rd w' [u0_0] x0.Reads (fun _ => True) → (Kd.sl 33 kd33).rd w' [u0_1] x0.Writes (fun _ => True) → ∀ r, a1 x0 = some r → CallV Tryz.prog f1 [(.agg #[(.int .i64 x0.Xid), (.int .i64 x0.Begun), (.int .i64 x0.Ended), (.bool x0.All), u0_0, u0_1, (.bool x0.In), (.bool x0.Out)])] w' fun en w'' => ∃ v, en = .returned v ∧ v = (.bool r) ∧ Ky [] w' w'') (ho1 : f1.cells = #[f1]) (r : Int) (m : slices_IndexFunc_impl_Track_impl_Track.f a0 a1 = some r) :
  Calls Tryz.prog 158 #[w0_0, f1] w fun en w' => ∃ v, en = .returned v ∧ slices_IndexFunc_impl_Track_impl_Track.Q w F r v w' := by
 obtain ⟨s0, rfl, kp0, z⟩ := start0 w F
 have A0_0 := z.rd h0_0
 refine calls_of_TM (args := [w0_0, f1]) (R := fun r en w' => ∃ v, en = .returned v ∧ slices_IndexFunc_impl_Track_impl_Track.Q s0.w F r v w') Tryz.func158 Tryz.ntmps158 rfl rfl m ?_
 unfold slices_IndexFunc_impl_Track_impl_Track.f
 refine sr ?_
 refine pu rfl rfl rfl rfl rfl ?_
 refine dn ?_
 refine sq ?_
 refine sr ?_
 refine mv w0_0 rfl rfl rfl rfl rfl rfl ?_
 refine ln A0_0 Tryz.underlying29 rfl rfl rfl rfl rfl rfl ?_
 refine pu rfl rfl rfl rfl rfl ?_
 refine dn ?_
 refine bl ?_
 refine lpI (fun (x2 : Int) (e : Env) (w : World) => ∃ (s : St) (e0 : Env), w = s.w ∧ e = upd (upd (upd (upd e0 0 w0_0) 1 f1) 7 (.int .i64 (a0.length : Int))) 8 (.int .i64 x2) ∧ Kp s0 s) ⟨s0, _, rfl, (ue (ue (ue (ue rfl rfl) rfl) rfl) rfl), kp0⟩ (fun g2 ih2 => ?_)
 rintro x2 _ _ ⟨s3, _, rfl, rfl, Kx2⟩
 unfold slices_IndexFunc_impl_Track_impl_Track.b0
 refine sr ?_
 refine pu rfl rfl rfl rfl rfl ?_
 refine dn ?_
 refine sq ?_
 refine cd rfl (fun h4 => ?_) (fun h4 => ?_)
 ·
  refine sk ?_
  refine sq ?_
  refine bl ?_
  refine sr ?_
  refine pu rfl rfl rfl rfl rfl ?_
  refine pu rfl rfl rfl rfl rfl ?_
  refine dn ?_
  refine sr ?_
  refine mv f1 rfl rfl rfl rfl rfl rfl ?_
  refine mv w0_0 rfl rfl rfl rfl rfl rfl ?_
  refine pu rfl rfl rfl rfl rfl ?_
  have A5 := (A0_0.kp Kx2)
  refine ix A5 Tryz.underlying29 z117 rfl rfl rfl rfl rfl rfl rfl rfl (fun ad6 es6 h0_6 h1_6 he6 ce6 ia6 => ?_)
  obtain ⟨v6_0, v6_1, rfl, A6_0, A6_1⟩ := op117 he6
  refine lca ce6 Tryz.underlying117 z117 rfl rfl rfl rfl rfl rfl rfl ?_
  refine clv rfl rfl rfl rfl rfl rfl rfl (fun r10 m10 => hf1 (at_ a0 x2) v6_0 v6_1 s3.w (z.ky Kx2) (RdF.top A6_0) (RdF.top A6_1) r10 m10) ?_
  rintro r10 _ w10 m10 ⟨rfl, ky10⟩
  obtain ⟨s11, rfl, p11, n11⟩ := nwx s3 w10 40 ky10
  refine dn ?_
  refine cd rfl (fun h12 => ?_) (fun h12 => ?_)
  ·
   refine sr ?_
   refine pu rfl rfl rfl rfl rfl ?_
   refine pu rfl rfl rfl rfl rfl ?_
   refine dn ?_
   refine sgi ?_
   have K13 := (Kx2.st p11 rfl)
   exact re rfl Tryz.func158 rfl (r_t rfl r_nil) rfl ⟨_, rfl, rfl, z.ky K13⟩
  ·
   refine sk ?_
   refine ib ?_
   refine rg ?_
   refine pu rfl rfl rfl rfl rfl ?_
   refine pu rfl rfl rfl rfl rfl ?_
   refine dn ?_
   have K14 := (Kx2.st p11 rfl)
   exact lb ih2 ⟨s11, _, rfl, (ue (ue (ue (ue rfl rfl) rfl) rfl) rfl), K14⟩
 ·
  refine xt rfl ?_
  refine sgb ?_
  refine sr ?_
  refine pu rfl rfl rfl rfl rfl ?_
  refine dn ?_
  exact re rfl Tryz.func158 rfl (r_t rfl r_nil) rfl ⟨_, rfl, rfl, z.ky Kx2⟩
noncomputable def impl_active.f (a0 : (List Track)) (a1 : Int) : Option (Int) :=
 ((slices_IndexFunc_impl_Track_impl_Track.f a0 (fun x0 => impl_active_1.f x0 a1)).bind fun r6 => (some r6))
def impl_active.Q (w : World) (F : Nat → Prop) (r : Int) (v : Value) (w' : World) : Prop :=
 v = (.int .i64 r) ∧ Ky [] w w'
set_option maxHeartbeats 4000000 in
set_option maxRecDepth 100000 in
theorem impl_active.calls (a0 : (List Track)) (a1 : Int) (w : World) (F : Nat → Prop) (w0_0 : Value) (h0_0 : (Kd.sl 117 kd117).rd w [w0_0] a0 F) (r : Int) (m : impl_active.f a0 a1 = some r) :
  Calls Tryz.prog 74 #[w0_0, (.int .i64 a1)] w fun en w' => ∃ v, en = .returned v ∧ impl_active.Q w F r v w' := by
 obtain ⟨s0, rfl, kp0, z⟩ := start0 w F
 have A0_0 := z.rd h0_0
 refine calls_of_TM (args := [w0_0, (.int .i64 a1)]) (R := fun r en w' => ∃ v, en = .returned v ∧ impl_active.Q s0.w F r v w') Tryz.func74 Tryz.ntmps74 rfl rfl m ?_
 unfold impl_active.f
 refine sr ?_
 refine bx (cs := [(.int .i64 a1)]) 40 rfl rfl rfl rfl rfl rfl (fun b2 s2 p2 B2 => ?_)
 refine pu rfl rfl rfl rfl rfl ?_
 refine dn ?_
 refine sr ?_
 refine mv w0_0 rfl rfl rfl rfl rfl rfl ?_
 refine mkf (fs := []) (cs := [(.pointer (some ⟨b2, 0, none⟩))]) rfl rfl rfl rfl rfl rfl rfl ?_
 have K4 := (kp0.st p2 rfl)
 have A5 := (A0_0.kp K4)
 refine cl rfl rfl rfl rfl rfl Tryz.func158 rfl rfl rfl (fun r6 m6 => slices_IndexFunc_impl_Track_impl_Track.calls a0 (fun x0 => impl_active_1.f x0 a1) s2.w (fun b => memb [0] (s2.g b) = true) w0_0 (.func (.func 159) (List.toArray []) (List.toArray [(.pointer (some ⟨b2, 0, none⟩))])) A5 (fun x0 u0_0 u0_1 w' k h0 h1 r m =>  ⟨159, _, _, [], [(.pointer (some ⟨b2, 0, none⟩))], rfl, Tryz.func159, rfl, rfl, (impl_active_1.calls x0 a1 w' (fun _ => True) u0_0 u0_1 b2 h0 h1 (BlF.ky B2 k) trivial r m).mono fun en w2 hq => by obtain ⟨v, e, q⟩ := hq; exact ⟨v, e, q⟩⟩) rfl r6 m6) ?_
 rintro r6 _ w6 m6 ⟨rfl, ky6⟩
 obtain ⟨s7, rfl, p7, n7⟩ := nwx s2 w6 41 ky6
 refine pu rfl rfl rfl rfl rfl ?_
 refine dn ?_
 have K8 := (K4.st p7 rfl)
 exact re rfl Tryz.func74 rfl (r_t rfl r_nil) rfl ⟨_, rfl, rfl, z.ky K8⟩
noncomputable def impl_areAll_impl_Track_1.f (a0 : Track) (a1 : (Track → Option Bool)) : Option (Bool) :=
 ((a1 a0).bind fun r10 => (some (!r10)))
def impl_areAll_impl_Track_1.Q (w : World) (F : Nat → Prop) (r : Bool) (v : Value) (w' : World) : Prop :=
 v = (.bool r) ∧ Ky [] w w'
set_option maxHeartbeats 4000000 in
set_option maxRecDepth 100000 in
theorem impl_areAll_impl_Track_1.calls (a0 : Track) (a1 : (Track → Option Bool)) (w : World) (F : Nat → Prop) (w0_0 : Value) (w0_1 : Value) (c1 : Nat) (f1 : Value) (h0_0 : (Kd.sl 200 kd200).rd w [w0_0] a0.Reads F) (h0_1 : (Kd.sl 33 kd33).rd w [w0_1] a0.Writes F) (hf1 : ∀ (x0 : Track) (u0_0 u0_1 : Value) (w' : World), Ky [] w w' → (Kd.sl 200 kd200).rd w' [u0_0] x0.Reads (fun _ => True) → (Kd.sl 33 kd33).rd w' [u0_1] x0.Writes (fun _ => True) → ∀ r, a1 x0 = some r → CallV Tryz.prog f1 [(.agg #[(.int .i64 x0.Xid), (.int .i64 x0.Begun), (.int .i64 x0.Ended), (.bool x0.All), u0_0, u0_1, (.bool x0.In), (.bool x0.Out)])] w' fun en w'' => ∃ v, en = .returned v ∧ v = (.bool r) ∧ Ky [] w' w'') (ho1 : f1.cells = #[f1]) (hb1 : BlW w c1 129 [f1]) (hp1 : F c1) (r : Bool) (m : impl_areAll_impl_Track_1.f a0 a1 = some r) :
  Calls Tryz.prog 246 #[(.agg #[(.int .i64 a0.Xid), (.int .i64 a0.Begun), (.int .i64 a0.Ended), (.bool a0.All), w0_0, w0_1, (.bool a0.In), (.bool a0.Out)]), (.pointer (some ⟨c1, 0, none⟩))] w fun en w' => ∃ v, en = .returned v ∧ impl_areAll_impl_Track_1.Q w F r v w' := by
 obtain ⟨s0, rfl, kp0, z⟩ := start0 w F
 have A0_0 := z.rd h0_0
 have A0_1 := z.rd h0_1
 have B1 := z.b0 hb1 hp1
 refine calls_of_TM (args := [(.agg #[(.int .i64 a0.Xid), (.int .i64 a0.Begun), (.int .i64 a0.Ended), (.bool a0.All), w0_0, w0_1, (.bool a0.In), (.bool a0.Out)]), (.pointer (some ⟨c1, 0, none⟩))]) (R := fun r en w' => ∃ v, en = .returned v ∧ impl_areAll_impl_Track_1.Q s0.w F r v w') Tryz.func246 Tryz.ntmps246 rfl rfl m ?_
 unfold impl_areAll_impl_Track_1.f
 refine sr ?_
 refine bx (cs := [(.int .i64 a0.Xid), (.int .i64 a0.Begun), (.int .i64 a0.Ended), (.bool a0.All), w0_0, w0_1, (.bool a0.In), (.bool a0.Out)]) 40 rfl rfl rfl rfl rfl rfl (fun b4 s4 p4 B4 => ?_)
 refine pu rfl rfl rfl rfl rfl ?_
 refine dn ?_
 refine sr ?_
 have A6 := (BlF.st B1 p4 rfl)
 refine ld A6 Tryz.underlying129 rfl rfl rfl rfl rfl rfl rfl rfl ?_
 refine lda (es := [(.int .i64 a0.Xid), (.int .i64 a0.Begun), (.int .i64 a0.Ended), (.bool a0.All), w0_0, w0_1, (.bool a0.In), (.bool a0.Out)]) B4 Tryz.underlying117 z117 rfl rfl rfl rfl rfl rfl rfl rfl ?_
 have K7 := (kp0.st p4 rfl)
 have A8 := (A0_0.kp K7)
 have A9 := (A0_1.kp K7)
 refine clv rfl rfl rfl rfl rfl rfl rfl (fun r10 m10 => hf1 a0 w0_0 w0_1 s4.w (z.ky K7) (RdF.top A8) (RdF.top A9) r10 m10) ?_
 rintro r10 _ w10 m10 ⟨rfl, ky10⟩
 obtain ⟨s11, rfl, p11, n11⟩ := nwx s4 w10 41 ky10
 refine pu rfl rfl rfl rfl rfl ?_
 refine pu rfl rfl rfl rfl rfl ?_
 refine dn ?_
 have K12 := (K7.st p11 rfl)
 exact re rfl Tryz.func246 rfl (r_t rfl r_nil) rfl ⟨_, rfl, rfl, z.ky K12⟩
noncomputable def slices_ContainsFunc_impl_Track_impl_Track.f (a0 : (List Track)) (a1 : (Track → Option Bool)) : Option (Bool) :=
 ((slices_IndexFunc_impl_Track_impl_Track.f a0 a1).bind fun r2 => (some (decide (r2 ≥ (0 : Int)))))
def slices_ContainsFunc_impl_Track_impl_Track.Q (w : World) (F : Nat → Prop) (r : Bool) (v : Value) (w' : World) : Prop :=
 v = (.bool r) ∧ Ky [] w w'
set_option maxHeartbeats 4000000 in
set_option maxRecDepth 100000 in
theorem slices_ContainsFunc_impl_Track_impl_Track.calls (a0 : (List Track)) (a1 : (Track → Option Bool)) (w : World) (F : Nat → Prop) (w0_0 : Value) (f1 : Value) (h0_0 : (Kd.sl 117 kd117).rd w [w0_0] a0 F) (hf1 : ∀ (x0 : Track) (u0_0 u0_1 : Value) (w' : World), Ky [] w w' → (Kd.sl 200 kd200).rd w' [u0_0] x0.Reads (fun _ => True) → (Kd.sl 33 kd33).rd w' [u0_1] x0.Writes (fun _ => True) → ∀ r, a1 x0 = some r → CallV Tryz.prog f1 [(.agg #[(.int .i64 x0.Xid), (.int .i64 x0.Begun), (.int .i64 x0.Ended), (.bool x0.All), u0_0, u0_1, (.bool x0.In), (.bool x0.Out)])] w' fun en w'' => ∃ v, en = .returned v ∧ v = (.bool r) ∧ Ky [] w' w'') (ho1 : f1.cells = #[f1]) (r : Bool) (m : slices_ContainsFunc_impl_Track_impl_Track.f a0 a1 = some r) :
  Calls Tryz.prog 245 #[w0_0, f1] w fun en w' => ∃ v, en = .returned v ∧ slices_ContainsFunc_impl_Track_impl_Track.Q w F r v w' := by
 obtain ⟨s0, rfl, kp0, z⟩ := start0 w F
 have A0_0 := z.rd h0_0
 refine calls_of_TM (args := [w0_0, f1]) (R := fun r en w' => ∃ v, en = .returned v ∧ slices_ContainsFunc_impl_Track_impl_Track.Q s0.w F r v w') Tryz.func245 Tryz.ntmps245 rfl rfl m ?_
 unfold slices_ContainsFunc_impl_Track_impl_Track.f
 refine sr ?_
 refine pu rfl rfl rfl rfl rfl ?_
 refine dn ?_
 refine sr ?_
 refine mv w0_0 rfl rfl rfl rfl rfl rfl ?_
 refine mv f1 rfl rfl rfl rfl rfl rfl ?_
 refine cl rfl rfl rfl rfl rfl Tryz.func158 rfl rfl rfl (fun r2 m2 => slices_IndexFunc_impl_Track_impl_Track.calls a0 a1 s0.w (fun b => memb [0] (s0.g b) = true) w0_0 f1 A0_0 (fun x0 u0_0 u0_1 w' k h0 h1 r m =>  hf1 x0 u0_0 u0_1 w' (Ky.trans (z.ky kp0) k) h0 h1 r m) ho1 r2 m2) ?_
 rintro r2 _ w2 m2 ⟨rfl, ky2⟩
 obtain ⟨s3, rfl, p3, n3⟩ := nwx s0 w2 40 ky2
 refine pu rfl rfl rfl rfl rfl ?_
 refine pu rfl rfl rfl rfl rfl ?_
 refine dn ?_
 have K4 := (kp0.st p3 rfl)
 exact re rfl Tryz.func245 rfl (r_t rfl r_nil) rfl ⟨_, rfl, rfl, z.ky K4⟩
noncomputable def impl_areAll_impl_Track.f (a0 : (List Track)) (a1 : (Track → Option Bool)) : Option (Bool) :=
 ((slices_ContainsFunc_impl_Track_impl_Track.f a0 (fun x0 => impl_areAll_impl_Track_1.f x0 a1)).bind fun r6 => (some (!r6)))
def impl_areAll_impl_Track.Q (w : World) (F : Nat → Prop) (r : Bool) (v : Value) (w' : World) : Prop :=
 v = (.bool r) ∧ Ky [] w w'
set_option maxHeartbeats 4000000 in
set_option maxRecDepth 100000 in
theorem impl_areAll_impl_Track.calls (a0 : (List Track)) (a1 : (Track → Option Bool)) (w : World) (F : Nat → Prop) (w0_0 : Value) (f1 : Value) (h0_0 : (Kd.sl 117 kd117).rd w [w0_0] a0 F) (hf1 : ∀ (x0 : Track) (u0_0 u0_1 : Value) (w' : World), Ky [] w w' → (Kd.sl 200 kd200).rd w' [u0_0] x0.Reads (fun _ => True) → (Kd.sl 33 kd33).rd w' [u0_1] x0.Writes (fun _ => True) → ∀ r, a1 x0 = some r → CallV Tryz.prog f1 [(.agg #[(.int .i64 x0.Xid), (.int .i64 x0.Begun), (.int .i64 x0.Ended), (.bool x0.All), u0_0, u0_1, (.bool x0.In), (.bool x0.Out)])] w' fun en w'' => ∃ v, en = .returned v ∧ v = (.bool r) ∧ Ky [] w' w'') (ho1 : f1.cells = #[f1]) (r : Bool) (m : impl_areAll_impl_Track.f a0 a1 = some r) :
  Calls Tryz.prog 161 #[w0_0, f1] w fun en w' => ∃ v, en = .returned v ∧ impl_areAll_impl_Track.Q w F r v w' := by
 obtain ⟨s0, rfl, kp0, z⟩ := start0 w F
 have A0_0 := z.rd h0_0
 refine calls_of_TM (args := [w0_0, f1]) (R := fun r en w' => ∃ v, en = .returned v ∧ impl_areAll_impl_Track.Q s0.w F r v w') Tryz.func161 Tryz.ntmps161 rfl rfl m ?_
 unfold impl_areAll_impl_Track.f
 refine sr ?_
 refine bx (cs := [f1]) 40 rfl rfl rfl rfl rfl ho1 (fun b2 s2 p2 B2 => ?_)
 refine pu rfl rfl rfl rfl rfl ?_
 refine dn ?_
 refine sr ?_
 refine mv w0_0 rfl rfl rfl rfl rfl rfl ?_
 refine mkf (fs := []) (cs := [(.pointer (some ⟨b2, 0, none⟩))]) rfl rfl rfl rfl rfl rfl rfl ?_
 have K4 := (kp0.st p2 rfl)
 have A5 := (A0_0.kp K4)
 refine cl rfl rfl rfl rfl rfl Tryz.func245 rfl rfl rfl (fun r6 m6 => slices_ContainsFunc_impl_Track_impl_Track.calls a0 (fun x0 => impl_areAll_impl_Track_1.f x0 a1) s2.w (fun b => memb [0] (s2.g b) = true) w0_0 (.func (.func 246) (List.toArray []) (List.toArray [(.pointer (some ⟨b2, 0, none⟩))])) A5 (fun x0 u0_0 u0_1 w' k h0 h1 r m =>  ⟨246, _, _, [], [(.pointer (some ⟨b2, 0, none⟩))], rfl, Tryz.func246, rfl, rfl, (impl_areAll_impl_Track_1.calls x0 a1 w' (fun _ => True) u0_0 u0_1 b2 f1 h0 h1 (fun x0c u0_0c u0_1c w'c kc h0c h1c r m =>  hf1 x0c u0_0c u0_1c w'c (Ky.trans (z.ky K4) (Ky.trans k kc)) h0c h1c r m) ho1 (BlF.ky B2 k) trivial r m).mono fun en w2 hq => by obtain ⟨v, e, q⟩ := hq; exact ⟨v, e, q⟩⟩) rfl r6 m6) ?_
 rintro r6 _ w6 m6 ⟨rfl, ky6⟩
 obtain ⟨s7, rfl, p7, n7⟩ := nwx s2 w6 41 ky6
 refine pu rfl rfl rfl rfl rfl ?_
 refine pu rfl rfl rfl rfl rfl ?_
 refine dn ?_
 have K8 := (K4.st p7 rfl)
 exact re rfl Tryz.func161 rfl (r_t rfl r_nil) rfl ⟨_, rfl, rfl, z.ky K8⟩
noncomputable def impl_isXid.f (a0 : Int) : Option (Bool) :=
 ((impl_within.f a0 (1 : Int) (400 : Int)).bind fun r1 => (some r1))
def impl_isXid.Q (w : World) (F : Nat → Prop) (r : Bool) (v : Value) (w' : World) : Prop :=
 v = (.bool r) ∧ Ky [] w w'
set_option maxHeartbeats 4000000 in
set_option maxRecDepth 100000 in
theorem impl_isXid.calls (a0 : Int) (w : World) (F : Nat → Prop)   (r : Bool) (m : impl_isXid.f a0 = some r) :
  Calls Tryz.prog 205 #[(.int .i64 a0)] w fun en w' => ∃ v, en = .returned v ∧ impl_isXid.Q w F r v w' := by
 obtain ⟨s0, rfl, kp0, z⟩ := start0 w F
 refine calls_of_TM (args := [(.int .i64 a0)]) (R := fun r en w' => ∃ v, en = .returned v ∧ impl_isXid.Q s0.w F r v w') Tryz.func205 Tryz.ntmps205 rfl rfl m ?_
 unfold impl_isXid.f
 refine sr ?_
 refine pu rfl rfl rfl rfl rfl ?_
 refine dn ?_
 refine sr ?_
 refine pu rfl rfl rfl rfl rfl ?_
 refine cl rfl rfl rfl rfl rfl Tryz.func102 rfl rfl rfl (fun r1 m1 => impl_within.calls a0 (1 : Int) (400 : Int) s0.w (fun b => memb [] (s0.g b) = true)  r1 m1) ?_
 rintro r1 _ w1 m1 ⟨rfl, ky1⟩
 obtain ⟨s2, rfl, p2, n2⟩ := nwx s0 w1 40 ky1
 refine pu rfl rfl rfl rfl rfl ?_
 refine dn ?_
 have K3 := (kp0.st p2 rfl)
 exact re rfl Tryz.func205 rfl (r_t rfl r_nil) rfl ⟨_, rfl, rfl, z.ky K3⟩
noncomputable def impl_areAll_impl_Span_1.f (a0 : Span) (a1 : (Span → Option Bool)) : Option (Bool) :=
 ((a1 a0).bind fun r10 => (some (!r10)))
def impl_areAll_impl_Span_1.Q (w : World) (F : Nat → Prop) (r : Bool) (v : Value) (w' : World) : Prop :=
 v = (.bool r) ∧ Ky [] w w'
set_option maxHeartbeats 4000000 in
set_option maxRecDepth 100000 in
theorem impl_areAll_impl_Span_1.calls (a0 : Span) (a1 : (Span → Option Bool)) (w : World) (F : Nat → Prop) (w0_0 : Value) (w0_1 : Value) (w0_2 : Value) (w0_3 : Value) (c1 : Nat) (f1 : Value) (h0_0 : Kd.flt.rd w [w0_0] a0.From.F F) (h0_1 : (Kd.sl 5 (Kd.int .u8)).rd w [w0_1] a0.From.T F) (h0_2 : Kd.flt.rd w [w0_2] a0.To.F F) (h0_3 : (Kd.sl 5 (Kd.int .u8)).rd w [w0_3] a0.To.T F) (hf1 : ∀ (x0 : Span) (u0_0 u0_1 u0_2 u0_3 : Value) (w' : World), Ky [] w w' → Kd.flt.rd w' [u0_0] x0.From.F (fun _ => True) → (Kd.sl 5 (Kd.int .u8)).rd w' [u0_1] x0.From.T (fun _ => True) → Kd.flt.rd w' [u0_2] x0.To.F (fun _ => True) → (Kd.sl 5 (Kd.int .u8)).rd w' [u0_3] x0.To.T (fun _ => True) → ∀ r, a1 x0 = some r → CallV Tryz.prog f1 [(.agg #[(.int .i64 x0.From.Kind), (.int .i64 x0.From.N), u0_0, u0_1, (.int .i64 x0.To.Kind), (.int .i64 x0.To.N), u0_2, u0_3])] w' fun en w'' => ∃ v, en = .returned v ∧ v = (.bool r) ∧ Ky [] w' w'') (ho1 : f1.cells = #[f1]) (hb1 : BlW w c1 198 [f1]) (hp1 : F c1) (r : Bool) (m : impl_areAll_impl_Span_1.f a0 a1 = some r) :
  Calls Tryz.prog 305 #[(.agg #[(.int .i64 a0.From.Kind), (.int .i64 a0.From.N), w0_0, w0_1, (.int .i64 a0.To.Kind), (.int .i64 a0.To.N), w0_2, w0_3]), (.pointer (some ⟨c1, 0, none⟩))] w fun en w' => ∃ v, en = .returned v ∧ impl_areAll_impl_Span_1.Q w F r v w' := by
 obtain ⟨s0, rfl, kp0, z⟩ := start0 w F
 have A0_0 := fl_of h0_0
 have A0_1 := z.rd h0_1
 have A0_2 := fl_of h0_2
 have A0_3 := z.rd h0_3
 have B1 := z.b0 hb1 hp1
 refine calls_of_TM (args := [(.agg #[(.int .i64 a0.From.Kind), (.int .i64 a0.From.N), w0_0, w0_1, (.int .i64 a0.To.Kind), (.int .i64 a0.To.N), w0_2, w0_3]), (.pointer (some ⟨c1, 0, none⟩))]) (R := fun r en w' => ∃ v, en = .returned v ∧ impl_areAll_impl_Span_1.Q s0.w F r v w') Tryz.func305 Tryz.ntmps305 rfl rfl m ?_
 unfold impl_areAll_impl_Span_1.f
 refine sr ?_
 refine bx (cs := [(.int .i64 a0.From.Kind), (.int .i64 a0.From.N), w0_0, w0_1, (.int .i64 a0.To.Kind), (.int .i64 a0.To.N), w0_2, w0_3]) 40 rfl rfl rfl rfl rfl rfl (fun b4 s4 p4 B4 => ?_)
 refine pu rfl rfl rfl rfl rfl ?_
 refine dn ?_
 refine sr ?_
 have A6 := (BlF.st B1 p4 rfl)
 refine ld A6 Tryz.underlying198 rfl rfl rfl rfl rfl rfl rfl rfl ?_
 refine lda (es := [(.int .i64 a0.From.Kind), (.int .i64 a0.From.N), w0_0, w0_1, (.int .i64 a0.To.Kind), (.int .i64 a0.To.N), w0_2, w0_3]) B4 Tryz.underlying200 z200 rfl rfl rfl rfl rfl rfl rfl rfl ?_
 have K7 := (kp0.st p4 rfl)
 have A8 := (A0_1.kp K7)
 have A9 := (A0_3.kp K7)
 refine clv rfl rfl rfl rfl rfl rfl rfl (fun r10 m10 => hf1 a0 w0_0 w0_1 w0_2 w0_3 s4.w (z.ky K7) (fl_rd A0_0) (RdF.top A8) (fl_rd A0_2) (RdF.top A9) r10 m10) ?_
 rintro r10 _ w10 m10 ⟨rfl, ky10⟩
 obtain ⟨s11, rfl, p11, n11⟩ := nwx s4 w10 41 ky10
 refine pu rfl rfl rfl rfl rfl ?_
 refine pu rfl rfl rfl rfl rfl ?_
 refine dn ?_
 have K12 := (K7.st p11 rfl)
 exact re rfl Tryz.func305 rfl (r_t rfl r_nil) rfl ⟨_, rfl, rfl, z.ky K12⟩
noncomputable def impl_areAll_impl_Span.f (a0 : (List Span)) (a1 : (Span → Option Bool)) : Option (Bool) :=
 ((slices_ContainsFunc_impl_Span_impl_Span.f a0 (fun x0 => impl_areAll_impl_Span_1.f x0 a1)).bind fun r6 => (some (!r6)))
def impl_areAll_impl_Span.Q (w : World) (F : Nat → Prop) (r : Bool) (v : Value) (w' : World) : Prop :=
 v = (.bool r) ∧ Ky [] w w'
set_option maxHeartbeats 4000000 in
set_option maxRecDepth 100000 in
theorem impl_areAll_impl_Span.calls (a0 : (List Span)) (a1 : (Span → Option Bool)) (w : World) (F : Nat → Prop) (w0_0 : Value) (f1 : Value) (h0_0 : (Kd.sl 200 kd200).rd w [w0_0] a0 F) (hf1 : ∀ (x0 : Span) (u0_0 u0_1 u0_2 u0_3 : Value) (w' : World), Ky [] w w' → Kd.flt.rd w' [u0_0] x0.From.F (fun _ => True) → (Kd.sl 5 (Kd.int .u8)).rd w' [u0_1] x0.From.T (fun _ => True) → Kd.flt.rd w' [u0_2] x0.To.F (fun _ => True) → (Kd.sl 5 (Kd.int .u8)).rd w' [u0_3] x0.To.T (fun _ => True) → ∀ r, a1 x0 = some r → CallV Tryz.prog f1 [(.agg #[(.int .i64 x0.From.Kind), (.int .i64 x0.From.N), u0_0, u0_1, (.int .i64 x0.To.Kind), (.int .i64 x0.To.N), u0_2, u0_3])] w' fun en w'' => ∃ v, en = .returned v ∧ v = (.bool r) ∧ Ky [] w' w'') (ho1 : f1.cells = #[f1]) (r : Bool) (m : impl_areAll_impl_Span.f a0 a1 = some r) :
  Calls Tryz.prog 247 #[w0_0, f1] w fun en w' => ∃ v, en = .returned v ∧ impl_areAll_impl_Span.Q w F r v w' := by
 obtain ⟨s0, rfl, kp0, z⟩ := start0 w F
 have A0_0 := z.rd h0_0
 refine calls_of_TM (args := [w0_0, f1]) (R := fun r en w' => ∃ v, en = .returned v ∧ impl_areAll_impl_Span.Q s0.w F r v w') Tryz.func247 Tryz.ntmps247 rfl rfl m ?_
 unfold impl_areAll_impl_Span.f
 refine sr ?_
 refine bx (cs := [f1]) 40 rfl rfl rfl rfl rfl ho1 (fun b2 s2 p2 B2 => ?_)
 refine pu rfl rfl rfl rfl rfl ?_
 refine dn ?_
 refine sr ?_
 refine mv w0_0 rfl rfl rfl rfl rfl rfl ?_
 refine mkf (fs := []) (cs := [(.pointer (some ⟨b2, 0, none⟩))]) rfl rfl rfl rfl rfl rfl rfl ?_
 have K4 := (kp0.st p2 rfl)
 have A5 := (A0_0.kp K4)
 refine cl rfl rfl rfl rfl rfl Tryz.func176 rfl rfl rfl (fun r6 m6 => slices_ContainsFunc_impl_Span_impl_Span.calls a0 (fun x0 => impl_areAll_impl_Span_1.f x0 a1) s2.w (fun b => memb [0] (s2.g b) = true) w0_0 (.func (.func 305) (List.toArray []) (List.toArray [(.pointer (some ⟨b2, 0, none⟩))])) A5 (fun x0 u0_0 u0_1 u0_2 u0_3 w' k h0 h1 h2 h3 r m =>  ⟨305, _, _, [], [(.pointer (some ⟨b2, 0, none⟩))], rfl, Tryz.func305, rfl, rfl, (impl_areAll_impl_Span_1.calls x0 a1 w' (fun _ => True) u0_0 u0_1 u0_2 u0_3 b2 f1 h0 h1 h2 h3 (fun x0c u0_0c u0_1c u0_2c u0_3c w'c kc h0c h1c h2c h3c r m =>  hf1 x0c u0_0c u0_1c u0_2c u0_3c w'c (Ky.trans (z.ky K4) (Ky.trans k kc)) h0c h1c h2c h3c r m) ho1 (BlF.ky B2 k) trivial r m).mono fun en w2 hq => by obtain ⟨v, e, q⟩ := hq; exact ⟨v, e, q⟩⟩) rfl r6 m6) ?_
 rintro r6 _ w6 m6 ⟨rfl, ky6⟩
 obtain ⟨s7, rfl, p7, n7⟩ := nwx s2 w6 41 ky6
 refine pu rfl rfl rfl rfl rfl ?_
 refine pu rfl rfl rfl rfl rfl ?_
 refine dn ?_
 have K8 := (K4.st p7 rfl)
 exact re rfl Tryz.func247 rfl (r_t rfl r_nil) rfl ⟨_, rfl, rfl, z.ky K8⟩
noncomputable def impl_SpanOk.f (a0 : Span) : Option (Bool) :=
 ((impl_KeyOk.f a0.From).bind fun r7 => ((if r7 = true then ((impl_KeyOk.f a0.To).bind fun r13 => (some r13)) else (some false)).bind fun y9 => ((if y9 = true then ((impl_compareItems.f a0.From a0.To).bind fun r24 => (some (decide (r24 ≤ (0 : Int))))) else (some false)).bind fun y21 => (some y21))))
def impl_SpanOk.Q (w : World) (F : Nat → Prop) (r : Bool) (v : Value) (w' : World) : Prop :=
 v = (.bool r) ∧ Ky [] w w'
set_option maxHeartbeats 4000000 in
set_option maxRecDepth 100000 in
theorem impl_SpanOk.calls (a0 : Span) (w : World) (F : Nat → Prop) (w0_0 : Value) (w0_1 : Value) (w0_2 : Value) (w0_3 : Value) (h0_0 : Kd.flt.rd w [w0_0] a0.From.F F) (h0_1 : (Kd.sl 5 (Kd.int .u8)).rd w [w0_1] a0.From.T F) (h0_2 : Kd.flt.rd w [w0_2] a0.To.F F) (h0_3 : (Kd.sl 5 (Kd.int .u8)).rd w [w0_3] a0.To.T F) (r : Bool) (m : impl_SpanOk.f a0 = some r) :
  Calls Tryz.prog 248 #[(.agg #[(.int .i64 a0.From.Kind), (.int .i64 a0.From.N), w0_0, w0_1, (.int .i64 a0.To.Kind), (.int .i64 a0.To.N), w0_2, w0_3])] w fun en w' => ∃ v, en = .returned v ∧ impl_SpanOk.Q w F r v w' := by
 obtain ⟨s0, rfl, kp0, z⟩ := start0 w F
 have A0_0 := fl_of h0_0
 have A0_1 := z.rd h0_1
 have A0_2 := fl_of h0_2
 have A0_3 := z.rd h0_3
 refine calls_of_TM (args := [(.agg #[(.int .i64 a0.From.Kind), (.int .i64 a0.From.N), w0_0, w0_1, (.int .i64 a0.To.Kind), (.int .i64 a0.To.N), w0_2, w0_3])]) (R := fun r en w' => ∃ v, en = .returned v ∧ impl_SpanOk.Q s0.w F r v w') Tryz.func248 Tryz.ntmps248 rfl rfl m ?_
 unfold impl_SpanOk.f
 refine sr ?_
 refine bx (cs := [(.int .i64 a0.From.Kind), (.int .i64 a0.From.N), w0_0, w0_1, (.int .i64 a0.To.Kind), (.int .i64 a0.To.N), w0_2, w0_3]) 40 rfl rfl rfl rfl rfl rfl (fun b3 s3 p3 B3 => ?_)
 refine pu rfl rfl rfl rfl rfl ?_
 refine dn ?_
 refine sr ?_
 refine fa fa200_0 rfl rfl rfl rfl rfl rfl ?_
 refine lda (es := [(.int .i64 a0.From.Kind), (.int .i64 a0.From.N), w0_0, w0_1]) B3 Tryz.underlying33 z33 rfl rfl rfl rfl rfl rfl rfl rfl ?_
 have K5 := (kp0.st p3 rfl)
 have A6 := (A0_1.kp K5)
 refine cl rfl rfl rfl rfl rfl Tryz.func76 rfl rfl rfl (fun r7 m7 => impl_KeyOk.calls a0.From s3.w (fun b => memb [0] (s3.g b) = true) w0_0 w0_1 ((fl_rdf (s := s3) A0_0).sub (D := [0]) rfl) A6 r7 m7) ?_
 rintro r7 _ w7 m7 ⟨rfl, ky7⟩
 obtain ⟨s8, rfl, p8, n8⟩ := nwx s3 w7 41 ky7
 refine pu rfl rfl rfl rfl rfl ?_
 refine ji [8, 9, 10, 11, 12, 13, 14, 15, 16] (fun (y9 : Bool) (e : Env) (w : World) => ∃ (s : St) (e0 : Env), w = s.w ∧ e = upd (upd e0 1 (.pointer (some ⟨b3, 0, none⟩))) 10 (.bool y9) ∧ Kp s0 s ∧ BlF s b3 200 [(.int .i64 a0.From.Kind), (.int .i64 a0.From.N), w0_0, w0_1, (.int .i64 a0.To.Kind), (.int .i64 a0.To.N), w0_2, w0_3] 40) (fun Gj9 Kj9 => ?_) ?_
 ·
  rcases Bool.eq_false_or_eq_true r7 with hb9 | hb9
  ·
   refine sbT hb9 ?_
   rw [if_pos hb9]
   refine fa fa200_1 rfl rfl rfl rfl rfl rfl ?_
   have A10 := (BlF.st B3 p8 rfl)
   refine lda (es := [(.int .i64 a0.To.Kind), (.int .i64 a0.To.N), w0_2, w0_3]) A10 Tryz.underlying33 z33 rfl rfl rfl rfl rfl rfl rfl rfl ?_
   have K11 := (K5.st p8 rfl)
   have A12 := (A0_3.kp K11)
   refine cl rfl rfl rfl rfl rfl Tryz.func76 rfl rfl rfl (fun r13 m13 => impl_KeyOk.calls a0.To s8.w (fun b => memb [0] (s8.g b) = true) w0_2 w0_3 ((fl_rdf (s := s8) A0_2).sub (D := [0]) rfl) A12 r13 m13) ?_
   rintro r13 _ w13 m13 ⟨rfl, ky13⟩
   obtain ⟨s14, rfl, p14, n14⟩ := nwx s8 w13 42 ky13
   refine pu rfl rfl rfl rfl rfl ?_
   have A15 := (BlF.st A10 p14 rfl)
   have K16 := (K11.st p14 rfl)
   exact Kj9 _ _ _ ⟨s14, _, rfl, (ue (ue rfl rfl) rfl), K16, A15⟩
  ·
   refine sbT hb9 ?_
   rw [if_neg (by rw [hb9]; decide)]
   refine uw rfl rfl rfl rfl ?_
   refine uw rfl rfl rfl rfl ?_
   refine uw rfl rfl rfl rfl ?_
   refine pu rfl rfl rfl rfl rfl ?_
   have A17 := (BlF.st B3 p8 rfl)
   have K18 := (K5.st p8 rfl)
   exact Kj9 _ _ _ ⟨s8, _, rfl, (ue (ue rfl rfl) rfl), K18, A17⟩
 rintro y9 _ _ ⟨s19, _, rfl, rfl, Ky9, By9_b3⟩
 refine pu rfl rfl rfl rfl rfl ?_
 refine ji [16] (fun (y21 : Bool) (e : Env) (w : World) => ∃ (s : St) (e0 : Env), w = s.w ∧ e = upd e0 18 (.bool y21) ∧ Kp s0 s) (fun Gj21 Kj21 => ?_) ?_
 ·
  rcases Bool.eq_false_or_eq_true y9 with hb21 | hb21
  ·
   refine sbT hb21 ?_
   rw [if_pos hb21]
   refine fa fa200_0 rfl rfl rfl rfl rfl rfl ?_
   refine lda (es := [(.int .i64 a0.From.Kind), (.int .i64 a0.From.N), w0_0, w0_1]) By9_b3 Tryz.underlying33 z33 rfl rfl rfl rfl rfl rfl rfl rfl ?_
   refine fa fa200_1 rfl rfl rfl rfl rfl rfl ?_
   refine lda (es := [(.int .i64 a0.To.Kind), (.int .i64 a0.To.N), w0_2, w0_3]) By9_b3 Tryz.underlying33 z33 rfl rfl rfl rfl rfl rfl rfl rfl ?_
   have A22 := (A0_1.kp Ky9)
   have A23 := (A0_3.kp Ky9)
   refine cl rfl rfl rfl rfl rfl Tryz.func80 rfl rfl rfl (fun r24 m24 => impl_compareItems.calls a0.From a0.To s19.w (fun b => memb [0] (s19.g b) = true) w0_0 w0_1 w0_2 w0_3 ((fl_rdf (s := s19) A0_0).sub (D := [0]) rfl) A22 ((fl_rdf (s := s19) A0_2).sub (D := [0]) rfl) A23 r24 m24) ?_
   rintro r24 _ w24 m24 ⟨rfl, ky24⟩
   obtain ⟨s25, rfl, p25, n25⟩ := nwx s19 w24 43 ky24
   refine pu rfl rfl rfl rfl rfl ?_
   refine pu rfl rfl rfl rfl rfl ?_
   have K26 := (Ky9.st p25 rfl)
   exact Kj21 _ _ _ ⟨s25, _, rfl, (ue rfl rfl), K26⟩
  ·
   refine sbT hb21 ?_
   rw [if_neg (by rw [hb21]; decide)]
   refine uw rfl rfl rfl rfl ?_
   refine uw rfl rfl rfl rfl ?_
   refine uw rfl rfl rfl rfl ?_
   refine uw rfl rfl rfl rfl ?_
   refine uw rfl rfl rfl rfl ?_
   refine uw rfl rfl rfl rfl ?_
   refine pu rfl rfl rfl rfl rfl ?_
   exact Kj21 _ _ _ ⟨s19, _, rfl, (ue rfl rfl), Ky9⟩
 rintro y21 _ _ ⟨s27, _, rfl, rfl, Ky21⟩
 refine pu rfl rfl rfl rfl rfl ?_
 refine dn ?_
 exact re rfl Tryz.func248 rfl (r_t rfl r_nil) rfl ⟨_, rfl, rfl, z.ky Ky21⟩
noncomputable def impl_areAll_impl_Item_1.f (a0 : Item) (a1 : (Item → Option Bool)) : Option (Bool) :=
 ((a1 a0).bind fun r8 => (some (!r8)))
def impl_areAll_impl_Item_1.Q (w : World) (F : Nat → Prop) (r : Bool) (v : Value) (w' : World) : Prop :=
 v = (.bool r) ∧ Ky [] w w'
set_option maxHeartbeats 4000000 in
set_option maxRecDepth 100000 in
theorem impl_areAll_impl_Item_1.calls (a0 : Item) (a1 : (Item → Option Bool)) (w : World) (F : Nat → Prop) (w0_0 : Value) (w0_1 : Value) (c1 : Nat) (f1 : Value) (h0_0 : Kd.flt.rd w [w0_0] a0.F F) (h0_1 : (Kd.sl 5 (Kd.int .u8)).rd w [w0_1] a0.T F) (hf1 : ∀ (x0 : Item) (u0_0 u0_1 : Value) (w' : World), Ky [] w w' → Kd.flt.rd w' [u0_0] x0.F (fun _ => True) → (Kd.sl 5 (Kd.int .u8)).rd w' [u0_1] x0.T (fun _ => True) → ∀ r, a1 x0 = some r → CallV Tryz.prog f1 [(.agg #[(.int .i64 x0.Kind), (.int .i64 x0.N), u0_0, u0_1])] w' fun en w'' => ∃ v, en = .returned v ∧ v = (.bool r) ∧ Ky [] w' w'') (ho1 : f1.cells = #[f1]) (hb1 : BlW w c1 112 [f1]) (hp1 : F c1) (r : Bool) (m : impl_areAll_impl_Item_1.f a0 a1 = some r) :
  Calls Tryz.prog 306 #[(.agg #[(.int .i64 a0.Kind), (.int .i64 a0.N), w0_0, w0_1]), (.pointer (some ⟨c1, 0, none⟩))] w fun en w' => ∃ v, en = .returned v ∧ impl_areAll_impl_Item_1.Q w F r v w' := by
 obtain ⟨s0, rfl, kp0, z⟩ := start0 w F
 have A0_0 := fl_of h0_0
 have A0_1 := z.rd h0_1
 have B1 := z.b0 hb1 hp1
 refine calls_of_TM (args := [(.agg #[(.int .i64 a0.Kind), (.int .i64 a0.N), w0_0, w0_1]), (.pointer (some ⟨c1, 0, none⟩))]) (R := fun r en w' => ∃ v, en = .returned v ∧ impl_areAll_impl_Item_1.Q s0.w F r v w') Tryz.func306 Tryz.ntmps306 rfl rfl m ?_
 unfold impl_areAll_impl_Item_1.f
 refine sr ?_
 refine bx (cs := [(.int .i64 a0.Kind), (.int .i64 a0.N), w0_0, w0_1]) 40 rfl rfl rfl rfl rfl rfl (fun b3 s3 p3 B3 => ?_)
 refine pu rfl rfl rfl rfl rfl ?_
 refine dn ?_
 refine sr ?_
 have A5 := (BlF.st B1 p3 rfl)
 refine ld A5 Tryz.underlying112 rfl rfl rfl rfl rfl rfl rfl rfl ?_
 refine lda (es := [(.int .i64 a0.Kind), (.int .i64 a0.N), w0_0, w0_1]) B3 Tryz.underlying33 z33 rfl rfl rfl rfl rfl rfl rfl rfl ?_
 have K6 := (kp0.st p3 rfl)
 have A7 := (A0_1.kp K6)
 refine clv rfl rfl rfl rfl rfl rfl rfl (fun r8 m8 => hf1 a0 w0_0 w0_1 s3.w (z.ky K6) (fl_rd A0_0) (RdF.top A7) r8 m8) ?_
 rintro r8 _ w8 m8 ⟨rfl, ky8⟩
 obtain ⟨s9, rfl, p9, n9⟩ := nwx s3 w8 41 ky8
 refine pu rfl rfl rfl rfl rfl ?_
 refine pu rfl rfl rfl rfl rfl ?_
 refine dn ?_
 have K10 := (K6.st p9 rfl)
 exact re rfl Tryz.func306 rfl (r_t rfl r_nil) rfl ⟨_, rfl, rfl, z.ky K10⟩
noncomputable def slices_IndexFunc_impl_Item_impl_Item.b0 (a0 : (List Item)) (a1 : (Item → Option Bool)) (x2 : Int) : Option (Int ⊕ Int) :=
 (if (decide (x2 < (a0.length : Int))) = true then (if 0 ≤ x2 ∧ x2 < (a0.length : Int) then ((a1 (at_ a0 x2)).bind fun r9 => (if r9 = true then (some (Sum.inr x2)) else (some (Sum.inl (IntKind.wrap .i64 (x2 + (1 : Int))))))) else none) else ((some (-1 : Int)).bind fun o => some (Sum.inr o)))
noncomputable def slices_IndexFunc_impl_Item_impl_Item.f (a0 : (List Item)) (a1 : (Item → Option Bool)) : Option (Int) :=
 (iter (slices_IndexFunc_impl_Item_impl_Item.b0 a0 a1) (0 : Int))
def slices_IndexFunc_impl_Item_impl_Item.Q (w : World) (F : Nat → Prop) (r : Int) (v : Value) (w' : World) : Prop :=
 v = (.int .i64 r) ∧ Ky [] w w'
set_option maxHeartbeats 4000000 in
set_option maxRecDepth 100000 in
theorem slices_IndexFunc_impl_Item_impl_Item.calls (a0 : (List Item)) (a1 : (Item → Option Bool)) (w : World) (F : Nat → Prop) (w0_0 : Value) (f1 : Value) (h0_0 : (Kd.sl 33 kd33).rd w [w0_0] a0 F) (hf1 : ∀ (x0 : Item) (u0_0 u0_1 : Value) (w' : World), Ky [] w w' → Kd.flt.rd w' [u0_0] x0.F (fun _ => True) → (Kd.sl 5 (Kd.int .u8)).rd w' [u0_1] x0.T (fun _ => True) → ∀ r, a1 x0 = some r → CallV Tryz.prog f1 [(.agg #[(.int .i64 x0.Kind), (.int .i64 x0.N), u0_0, u0_1])] w' fun en w'' => ∃ v, en = .returned v ∧ v = (.bool r) ∧ Ky [] w' w'') (ho1 : f1.cells = #[f1]) (r : Int) (m : slices_IndexFunc_impl_Item_impl_Item.f a0 a1 = some r) :
  Calls Tryz.prog 169 #[w0_0, f1] w fun en w' => ∃ v, en = .returned v ∧ slices_IndexFunc_impl_Item_impl_Item.Q w F r v w' := by
 obtain ⟨s0, rfl, kp0, z⟩ := start0 w F
 have A0_0 := z.rd h0_0
 refine calls_of_TM (args := [w0_0, f1]) (R := fun r en w' => ∃ v, en = .returned v ∧ slices_IndexFunc_impl_Item_impl_Item.Q s0.w F r v w') Tryz.func169 Tryz.ntmps169 rfl rfl m ?_
 unfold slices_IndexFunc_impl_Item_impl_Item.f
 refine sr ?_
 refine pu rfl rfl rfl rfl rfl ?_
 refine dn ?_
 refine sq ?_
 refine sr ?_
 refine mv w0_0 rfl rfl rfl rfl rfl rfl ?_
 refine ln A0_0 Tryz.underlying115 rfl rfl rfl rfl rfl rfl ?_
 refine pu rfl rfl rfl rfl rfl ?_
 refine dn ?_
 refine bl ?_
 refine lpI (fun (x2 : Int) (e : Env) (w : World) => ∃ (s : St) (e0 : Env), w = s.w ∧ e = upd (upd (upd (upd e0 0 w0_0) 1 f1) 7 (.int .i64 (a0.length : Int))) 8 (.int .i64 x2) ∧ Kp s0 s) ⟨s0, _, rfl, (ue (ue (ue (ue rfl rfl) rfl) rfl) rfl), kp0⟩ (fun g2 ih2 => ?_)
 rintro x2 _ _ ⟨s3, _, rfl, rfl, Kx2⟩
 unfold slices_IndexFunc_impl_Item_impl_Item.b0
 refine sr ?_
 refine pu rfl rfl rfl rfl rfl ?_
 refine dn ?_
 refine sq ?_
 refine cd rfl (fun h4 => ?_) (fun h4 => ?_)
 ·
  refine sk ?_
  refine sq ?_
  refine bl ?_
  refine sr ?_
  refine pu rfl rfl rfl rfl rfl ?_
  refine pu rfl rfl rfl rfl rfl ?_
  refine dn ?_
  refine sr ?_
  refine mv f1 rfl rfl rfl rfl rfl rfl ?_
  refine mv w0_0 rfl rfl rfl rfl rfl rfl ?_
  refine pu rfl rfl rfl rfl rfl ?_
  have A5 := (A0_0.kp Kx2)
  refine ix A5 Tryz.underlying115 z33 rfl rfl rfl rfl rfl rfl rfl rfl (fun ad6 es6 h0_6 h1_6 he6 ce6 ia6 => ?_)
  obtain ⟨v6_0, v6_1, rfl, A6_0, A6_1⟩ := op33 he6
  refine lca ce6 Tryz.underlying33 z33 rfl rfl rfl rfl rfl rfl rfl ?_
  refine clv rfl rfl rfl rfl rfl rfl rfl (fun r9 m9 => hf1 (at_ a0 x2) v6_0 v6_1 s3.w (z.ky Kx2) (fl_rd A6_0) (RdF.top A6_1) r9 m9) ?_
  rintro r9 _ w9 m9 ⟨rfl, ky9⟩
  obtain ⟨s10, rfl, p10, n10⟩ := nwx s3 w9 40 ky9
  refine dn ?_
  refine cd rfl (fun h11 => ?_) (fun h11 => ?_)
  ·
   refine sr ?_
   refine pu rfl rfl rfl rfl rfl ?_
   refine pu rfl rfl rfl rfl rfl ?_
   refine dn ?_
   refine sgi ?_
   have K12 := (Kx2.st p10 rfl)
   exact re rfl Tryz.func169 rfl (r_t rfl r_nil) rfl ⟨_, rfl, rfl, z.ky K12⟩
  ·
   refine sk ?_
   refine ib ?_
   refine rg ?_
   refine pu rfl rfl rfl rfl rfl ?_
   refine pu rfl rfl rfl rfl rfl ?_
   refine dn ?_
   have K13 := (Kx2.st p10 rfl)
   exact lb ih2 ⟨s10, _, rfl, (ue (ue (ue (ue rfl rfl) rfl) rfl) rfl), K13⟩
 ·
  refine xt rfl ?_
  refine sgb ?_
  refine sr ?_
  refine pu rfl rfl rfl rfl rfl ?_
  refine dn ?_
  exact re rfl Tryz.func169 rfl (r_t rfl r_nil) rfl ⟨_, rfl, rfl, z.ky Kx2⟩
noncomputable def slices_ContainsFunc_impl_Item_impl_Item.f (a0 : (List Item)) (a1 : (Item → Option Bool)) : Option (Bool) :=
 ((slices_IndexFunc_impl_Item_impl_Item.f a0 a1).bind fun r2 => (some (decide (r2 ≥ (0 : Int)))))
def slices_ContainsFunc_impl_Item_impl_Item.Q (w : World) (F : Nat → Prop) (r : Bool) (v : Value) (w' : World) : Prop :=
 v = (.bool r) ∧ Ky [] w w'
set_option maxHeartbeats 4000000 in
set_option maxRecDepth 100000 in
theorem slices_ContainsFunc_impl_Item_impl_Item.calls (a0 : (List Item)) (a1 : (Item → Option Bool)) (w : World) (F : Nat → Prop) (w0_0 : Value) (f1 : Value) (h0_0 : (Kd.sl 33 kd33).rd w [w0_0] a0 F) (hf1 : ∀ (x0 : Item) (u0_0 u0_1 : Value) (w' : World), Ky [] w w' → Kd.flt.rd w' [u0_0] x0.F (fun _ => True) → (Kd.sl 5 (Kd.int .u8)).rd w' [u0_1] x0.T (fun _ => True) → ∀ r, a1 x0 = some r → CallV Tryz.prog f1 [(.agg #[(.int .i64 x0.Kind), (.int .i64 x0.N), u0_0, u0_1])] w' fun en w'' => ∃ v, en = .returned v ∧ v = (.bool r) ∧ Ky [] w' w'') (ho1 : f1.cells = #[f1]) (r : Bool) (m : slices_ContainsFunc_impl_Item_impl_Item.f a0 a1 = some r) :
  Calls Tryz.prog 78 #[w0_0, f1] w fun en w' => ∃ v, en = .returned v ∧ slices_ContainsFunc_impl_Item_impl_Item.Q w F r v w' := by
 obtain ⟨s0, rfl, kp0, z⟩ := start0 w F
 have A0_0 := z.rd h0_0
 refine calls_of_TM (args := [w0_0, f1]) (R := fun r en w' => ∃ v, en = .returned v ∧ slices_ContainsFunc_impl_Item_impl_Item.Q s0.w F r v w') Tryz.func78 Tryz.ntmps78 rfl rfl m ?_
 unfold slices_ContainsFunc_impl_Item_impl_Item.f
 refine sr ?_
 refine pu rfl rfl rfl rfl rfl ?_
 refine dn ?_
 refine sr ?_
 refine mv w0_0 rfl rfl rfl rfl rfl rfl ?_
 refine mv f1 rfl rfl rfl rfl rfl rfl ?_
 refine cl rfl rfl rfl rfl rfl Tryz.func169 rfl rfl rfl (fun r2 m2 => slices_IndexFunc_impl_Item_impl_Item.calls a0 a1 s0.w (fun b => memb [0] (s0.g b) = true) w0_0 f1 A0_0 (fun x0 u0_0 u0_1 w' k h0 h1 r m =>  hf1 x0 u0_0 u0_1 w' (Ky.trans (z.ky kp0) k) h0 h1 r m) ho1 r2 m2) ?_
 rintro r2 _ w2 m2 ⟨rfl, ky2⟩
 obtain ⟨s3, rfl, p3, n3⟩ := nwx s0 w2 40 ky2
 refine pu rfl rfl rfl rfl rfl ?_
 refine pu rfl rfl rfl rfl rfl ?_
 refine dn ?_
 have K4 := (kp0.st p3 rfl)
 exact re rfl Tryz.func78 rfl (r_t rfl r_nil) rfl ⟨_, rfl, rfl, z.ky K4⟩
noncomputable def impl_areAll_impl_Item.f (a0 : (List Item)) (a1 : (Item → Option Bool)) : Option (Bool) :=
 ((slices_ContainsFunc_impl_Item_impl_Item.f a0 (fun x0 => impl_areAll_impl_Item_1.f x0 a1)).bind fun r6 => (some (!r6)))
def impl_areAll_impl_Item.Q (w : World) (F : Nat → Prop) (r : Bool) (v : Value) (w' : World) : Prop :=
 v = (.bool r) ∧ Ky [] w w'
set_option maxHeartbeats 4000000 in
set_option maxRecDepth 100000 in
theorem impl_areAll_impl_Item.calls (a0 : (List Item)) (a1 : (Item → Option Bool)) (w : World) (F : Nat → Prop) (w0_0 : Value) (f1 : Value) (h0_0 : (Kd.sl 33 kd33).rd w [w0_0] a0 F) (hf1 : ∀ (x0 : Item) (u0_0 u0_1 : Value) (w' : World), Ky [] w w' → Kd.flt.rd w' [u0_0] x0.F (fun _ => True) → (Kd.sl 5 (Kd.int .u8)).rd w' [u0_1] x0.T (fun _ => True) → ∀ r, a1 x0 = some r → CallV Tryz.prog f1 [(.agg #[(.int .i64 x0.Kind), (.int .i64 x0.N), u0_0, u0_1])] w' fun en w'' => ∃ v, en = .returned v ∧ v = (.bool r) ∧ Ky [] w' w'') (ho1 : f1.cells = #[f1]) (r : Bool) (m : impl_areAll_impl_Item.f a0 a1 = some r) :
  Calls Tryz.prog 249 #[w0_0, f1] w fun en w' => ∃ v, en = .returned v ∧ impl_areAll_impl_Item.Q w F r v w' := by
 obtain ⟨s0, rfl, kp0, z⟩ := start0 w F
 have A0_0 := z.rd h0_0
 refine calls_of_TM (args := [w0_0, f1]) (R := fun r en w' => ∃ v, en = .returned v ∧ impl_areAll_impl_Item.Q s0.w F r v w') Tryz.func249 Tryz.ntmps249 rfl rfl m ?_
 unfold impl_areAll_impl_Item.f
 refine sr ?_
 refine bx (cs := [f1]) 40 rfl rfl rfl rfl rfl ho1 (fun b2 s2 p2 B2 => ?_)
 refine pu rfl rfl rfl rfl rfl ?_
 refine dn ?_
 refine sr ?_
 refine mv w0_0 rfl rfl rfl rfl rfl rfl ?_
 refine mkf (fs := []) (cs := [(.pointer (some ⟨b2, 0, none⟩))]) rfl rfl rfl rfl rfl rfl rfl ?_
 have K4 := (kp0.st p2 rfl)
 have A5 := (A0_0.kp K4)
 refine cl rfl rfl rfl rfl rfl Tryz.func78 rfl rfl rfl (fun r6 m6 => slices_ContainsFunc_impl_Item_impl_Item.calls a0 (fun x0 => impl_areAll_impl_Item_1.f x0 a1) s2.w (fun b => memb [0] (s2.g b) = true) w0_0 (.func (.func 306) (List.toArray []) (List.toArray [(.pointer (some ⟨b2, 0, none⟩))])) A5 (fun x0 u0_0 u0_1 w' k h0 h1 r m =>  ⟨306, _, _, [], [(.pointer (some ⟨b2, 0, none⟩))], rfl, Tryz.func306, rfl, rfl, (impl_areAll_impl_Item_1.calls x0 a1 w' (fun _ => True) u0_0 u0_1 b2 f1 h0 h1 (fun x0c u0_0c u0_1c w'c kc h0c h1c r m =>  hf1 x0c u0_0c u0_1c w'c (Ky.trans (z.ky K4) (Ky.trans k kc)) h0c h1c r m) ho1 (BlF.ky B2 k) trivial r m).mono fun en w2 hq => by obtain ⟨v, e, q⟩ := hq; exact ⟨v, e, q⟩⟩) rfl r6 m6) ?_
 rintro r6 _ w6 m6 ⟨rfl, ky6⟩
 obtain ⟨s7, rfl, p7, n7⟩ := nwx s2 w6 41 ky6
 refine pu rfl rfl rfl rfl rfl ?_
 refine pu rfl rfl rfl rfl rfl ?_
 refine dn ?_
 have K8 := (K4.st p7 rfl)
 exact re rfl Tryz.func249 rfl (r_t rfl r_nil) rfl ⟨_, rfl, rfl, z.ky K8⟩
noncomputable def impl_isTrack.f (a0 : Track) : Option (Bool) :=
 ((impl_isXid.f a0.Xid).bind fun r5 => ((if (((r5 && (decide (a0.Begun ≥ (1 : Int)))) && ((a0.Ended == (0 : Int)) || (decide (a0.Ended > a0.Begun)))) && (decide ((a0.Reads.length : Int) ≤ (6 : Int)))) = true then ((impl_areAll_impl_Span.f a0.Reads impl_SpanOk.f).bind fun r20 => (some r20)) else (some false)).bind fun y16 => ((if ((y16 && (((a0.Reads.length : Int) == (0 : Int)) || (!a0.All))) && (decide ((a0.Writes.length : Int) ≤ (200 : Int)))) = true then ((impl_areAll_impl_Item.f a0.Writes impl_KeyOk.f).bind fun r35 => (some r35)) else (some false)).bind fun y33 => (some y33))))
def impl_isTrack.Q (w : World) (F : Nat → Prop) (r : Bool) (v : Value) (w' : World) : Prop :=
 v = (.bool r) ∧ Ky [] w w'
set_option maxHeartbeats 4000000 in
set_option maxRecDepth 100000 in
theorem impl_isTrack.calls (a0 : Track) (w : World) (F : Nat → Prop) (w0_0 : Value) (w0_1 : Value) (h0_0 : (Kd.sl 200 kd200).rd w [w0_0] a0.Reads F) (h0_1 : (Kd.sl 33 kd33).rd w [w0_1] a0.Writes F) (r : Bool) (m : impl_isTrack.f a0 = some r) :
  Calls Tryz.prog 162 #[(.agg #[(.int .i64 a0.Xid), (.int .i64 a0.Begun), (.int .i64 a0.Ended), (.bool a0.All), w0_0, w0_1, (.bool a0.In), (.bool a0.Out)])] w fun en w' => ∃ v, en = .returned v ∧ impl_isTrack.Q w F r v w' := by
 obtain ⟨s0, rfl, kp0, z⟩ := start0 w F
 have A0_0 := z.rd h0_0
 have A0_1 := z.rd h0_1
 refine calls_of_TM (args := [(.agg #[(.int .i64 a0.Xid), (.int .i64 a0.Begun), (.int .i64 a0.Ended), (.bool a0.All), w0_0, w0_1, (.bool a0.In), (.bool a0.Out)])]) (R := fun r en w' => ∃ v, en = .returned v ∧ impl_isTrack.Q s0.w F r v w') Tryz.func162 Tryz.ntmps162 rfl rfl m ?_
 unfold impl_isTrack.f
 refine sr ?_
 refine bx (cs := [(.int .i64 a0.Xid), (.int .i64 a0.Begun), (.int .i64 a0.Ended), (.bool a0.All), w0_0, w0_1, (.bool a0.In), (.bool a0.Out)]) 40 rfl rfl rfl rfl rfl rfl (fun b3 s3 p3 B3 => ?_)
 refine pu rfl rfl rfl rfl rfl ?_
 refine dn ?_
 refine sr ?_
 refine fa fa117_0 rfl rfl rfl rfl rfl rfl ?_
 refine ld B3 Tryz.underlying3 rfl rfl rfl rfl rfl rfl rfl rfl ?_
 refine cl rfl rfl rfl rfl rfl Tryz.func205 rfl rfl rfl (fun r5 m5 => impl_isXid.calls a0.Xid s3.w (fun b => memb [] (s3.g b) = true)  r5 m5) ?_
 rintro r5 _ w5 m5 ⟨rfl, ky5⟩
 obtain ⟨s6, rfl, p6, n6⟩ := nwx s3 w5 41 ky5
 refine pu rfl rfl rfl rfl rfl ?_
 refine jy [6, 7, 8, 9, 10] [8, 9, 10, 11, 12, 13, 14, 15, 16, 17, 18, 19, 20, 21, 22, 23, 24, 25, 26, 27, 28, 29, 30, 31, 32, 33, 34, 35, 36, 37, 38, 39, 40, 41, 42, 43, 44, 45, 46, 47, 48, 49, 50, 51, 52, 53] 10 (.bool (r5 && (decide (a0.Begun ≥ (1 : Int))))) rfl (fun Kg7 => ?_) (fun j7 => ?_)
 ·
  rcases Bool.eq_false_or_eq_true r5 with hb7 | hb7
  ·
   refine sbT hb7 ?_
   refine fa fa117_1 rfl rfl rfl rfl rfl rfl ?_
   have A8 := (BlF.st B3 p6 rfl)
   refine ld A8 Tryz.underlying3 rfl rfl rfl rfl rfl rfl rfl rfl ?_
   refine pu rfl rfl rfl rfl rfl ?_
   refine pu rfl rfl rfl rfl rfl ?_
   exact Kg7 _ (Ag.put ((Ag.put ((Ag.put ((Ag.put (Ag.base rfl) rfl)) rfl)) rfl)) rfl) (by rw [hb7]; rfl)
  ·
   refine sbT hb7 ?_
   refine uw rfl rfl rfl rfl ?_
   refine uw rfl rfl rfl rfl ?_
   refine uw rfl rfl rfl rfl ?_
   refine pu rfl rfl rfl rfl rfl ?_
   exact Kg7 _ (Ag.put ((Ag.put ((Ag.put ((Ag.put (Ag.base rfl) rfl)) rfl)) rfl)) rfl) (by rw [hb7]; rfl)
 refine pu rfl rfl rfl rfl rfl ?_
 refine jy [11, 12, 13, 14, 15, 16, 17, 18, 19, 20, 21, 22] [20, 21, 22, 23, 24, 25, 26, 27, 28, 29, 30, 31, 32, 33, 34, 35, 36, 37, 38, 39, 40, 41, 42, 43, 44, 45, 46, 47, 48, 49, 50, 51, 52, 53] 22 (.bool ((r5 && (decide (a0.Begun ≥ (1 : Int)))) && ((a0.Ended == (0 : Int)) || (decide (a0.Ended > a0.Begun))))) rfl (fun Kg9 => ?_) (fun j9 => ?_)
 ·
  rcases Bool.eq_false_or_eq_true (r5 && (decide (a0.Begun ≥ (1 : Int)))) with hb9 | hb9
  ·
   refine sbT hb9 ?_
   refine fa fa117_2 rfl rfl rfl rfl rfl rfl ?_
   have A10 := (BlF.st B3 p6 rfl)
   refine ld A10 Tryz.underlying3 rfl rfl rfl rfl rfl rfl rfl rfl ?_
   refine pu rfl rfl rfl rfl rfl ?_
   refine pu rfl rfl rfl rfl rfl ?_
   refine jy [15, 16, 17, 18, 19, 20, 21] [19, 20, 21, 22, 23, 24, 25, 26, 27, 28, 29, 30, 31, 32, 33, 34, 35, 36, 37, 38, 39, 40, 41, 42, 43, 44, 45, 46, 47, 48, 49, 50, 51, 52, 53] 21 (.bool ((a0.Ended == (0 : Int)) || (decide (a0.Ended > a0.Begun)))) rfl (fun Kg11 => ?_) (fun j11 => ?_)
   ·
    rcases Bool.eq_false_or_eq_true (a0.Ended == (0 : Int)) with hb11 | hb11
    ·
     refine sbT hb11 ?_
     refine uw rfl rfl rfl rfl ?_
     refine uw rfl rfl rfl rfl ?_
     refine uw rfl rfl rfl rfl ?_
     refine uw rfl rfl rfl rfl ?_
     refine uw rfl rfl rfl rfl ?_
     refine pu rfl rfl rfl rfl rfl ?_
     exact Kg11 _ (Ag.put ((Ag.put ((Ag.put ((Ag.put ((Ag.put ((Ag.put (Ag.base rfl) rfl)) rfl)) rfl)) rfl)) rfl)) rfl) (by rw [hb11]; rfl)
    ·
     refine sbT hb11 ?_
     refine fa fa117_2 rfl rfl rfl rfl rfl rfl ?_
     refine ld A10 Tryz.underlying3 rfl rfl rfl rfl rfl rfl rfl rfl ?_
     refine fa fa117_1 rfl rfl rfl rfl rfl rfl ?_
     refine ld A10 Tryz.underlying3 rfl rfl rfl rfl rfl rfl rfl rfl ?_
     refine pu rfl rfl rfl rfl rfl ?_
     refine pu rfl rfl rfl rfl rfl ?_
     exact Kg11 _ (Ag.put ((Ag.put ((Ag.put ((Ag.put ((Ag.put ((Ag.put (Ag.base rfl) rfl)) rfl)) rfl)) rfl)) rfl)) rfl) (by rw [hb11]; rfl)
   refine pu rfl rfl rfl rfl rfl ?_
   exact Kg9 _ (Ag.put ((Ag.put ((Ag.ov ((Ag.put ((Ag.put ((Ag.put ((Ag.put (Ag.base rfl) rfl)) rfl)) rfl)) rfl)) rfl)) rfl)) rfl) (by rw [hb9]; rfl)
  ·
   refine sbT hb9 ?_
   refine uw rfl rfl rfl rfl ?_
   refine uw rfl rfl rfl rfl ?_
   refine uw rfl rfl rfl rfl ?_
   refine uw rfl rfl rfl rfl ?_
   refine uw rfl rfl rfl rfl ?_
   refine uw rfl rfl rfl rfl ?_
   refine uw rfl rfl rfl rfl ?_
   refine uw rfl rfl rfl rfl ?_
   refine uw rfl rfl rfl rfl ?_
   refine uw rfl rfl rfl rfl ?_
   refine pu rfl rfl rfl rfl rfl ?_
   exact Kg9 _ (Ag.put ((Ag.put ((Ag.put ((Ag.put ((Ag.put ((Ag.put ((Ag.put ((Ag.put ((Ag.put ((Ag.put ((Ag.put (Ag.base rfl) rfl)) rfl)) rfl)) rfl)) rfl)) rfl)) rfl)) rfl)) rfl)) rfl)) rfl) (by rw [hb9]; rfl)
 refine pu rfl rfl rfl rfl rfl ?_
 refine jy [23, 24, 25, 26, 27, 28] [26, 27, 28, 29, 30, 31, 32, 33, 34, 35, 36, 37, 38, 39, 40, 41, 42, 43, 44, 45, 46, 47, 48, 49, 50, 51, 52, 53] 28 (.bool (((r5 && (decide (a0.Begun ≥ (1 : Int)))) && ((a0.Ended == (0 : Int)) || (decide (a0.Ended > a0.Begun)))) && (decide ((a0.Reads.length : Int) ≤ (6 : Int))))) rfl (fun Kg12 => ?_) (fun j12 => ?_)
 ·
  rcases Bool.eq_false_or_eq_true ((r5 && (decide (a0.Begun ≥ (1 : Int)))) && ((a0.Ended == (0 : Int)) || (decide (a0.Ended > a0.Begun)))) with hb12 | hb12
  ·
   refine sbT hb12 ?_
   refine fa fa117_4 rfl rfl rfl rfl rfl rfl ?_
   have A13 := (BlF.st B3 p6 rfl)
   refine ld A13 Tryz.underlying114 rfl rfl rfl rfl rfl rfl rfl rfl ?_
   have K14 := ((kp0.st p3 rfl).st p6 rfl)
   have A15 := (A0_0.kp K14)
   refine ln A15 Tryz.underlying114 rfl rfl rfl rfl rfl rfl ?_
   refine pu rfl rfl rfl rfl rfl ?_
   refine pu rfl rfl rfl rfl rfl ?_
   exact Kg12 _ (Ag.put ((Ag.put ((Ag.put ((Ag.put ((Ag.put (Ag.base rfl) rfl)) rfl)) rfl)) rfl)) rfl) (by rw [hb12]; rfl)
  ·
   refine sbT hb12 ?_
   refine uw rfl rfl rfl rfl ?_
   refine uw rfl rfl rfl rfl ?_
   refine uw rfl rfl rfl rfl ?_
   refine uw rfl rfl rfl rfl ?_
   refine pu rfl rfl rfl rfl rfl ?_
   exact Kg12 _ (Ag.put ((Ag.put ((Ag.put ((Ag.put ((Ag.put (Ag.base rfl) rfl)) rfl)) rfl)) rfl)) rfl) (by rw [hb12]; rfl)
 refine pu rfl rfl rfl rfl rfl ?_
 refine ji [31, 32, 33, 34, 35, 36, 37, 38, 39, 40, 41, 42, 43, 44, 45, 46, 47, 48, 49, 50, 51, 52, 53] (fun (y16 : Bool) (e : Env) (w : World) => ∃ (s : St) (e0 : Env), w = s.w ∧ e = upd (upd e0 1 (.pointer (some ⟨b3, 0, none⟩))) 33 (.bool y16) ∧ Kp s0 s ∧ BlF s b3 117 [(.int .i64 a0.Xid), (.int .i64 a0.Begun), (.int .i64 a0.Ended), (.bool a0.All), w0_0, w0_1, (.bool a0.In), (.bool a0.Out)] 40) (fun Gj16 Kj16 => ?_) ?_
 ·
  rcases Bool.eq_false_or_eq_true (((r5 && (decide (a0.Begun ≥ (1 : Int)))) && ((a0.Ended == (0 : Int)) || (decide (a0.Ended > a0.Begun)))) && (decide ((a0.Reads.length : Int) ≤ (6 : Int)))) with hb16 | hb16
  ·
   refine sbT hb16 ?_
   rw [if_pos hb16]
   refine fa fa117_4 rfl rfl rfl rfl rfl rfl ?_
   have A17 := (BlF.st B3 p6 rfl)
   refine ld A17 Tryz.underlying114 rfl rfl rfl rfl rfl rfl rfl rfl ?_
   have K18 := ((kp0.st p3 rfl).st p6 rfl)
   have A19 := (A0_0.kp K18)
   refine cl rfl rfl rfl rfl rfl Tryz.func247 rfl rfl rfl (fun r20 m20 => impl_areAll_impl_Span.calls a0.Reads impl_SpanOk.f s6.w (fun b => memb [0] (s6.g b) = true) w0_0 (.func (.func 248) #[] #[]) A19 (fun x0 u0_0 u0_1 u0_2 u0_3 w' k h0 h1 h2 h3 r m =>  ⟨248, _, _, [], [], rfl, Tryz.func248, rfl, rfl, (impl_SpanOk.calls x0 w' (fun _ => True) u0_0 u0_1 u0_2 u0_3 h0 h1 h2 h3 r m).mono fun en w2 hq => by obtain ⟨v, e, q⟩ := hq; exact ⟨v, e, q⟩⟩) rfl r20 m20) ?_
   rintro r20 _ w20 m20 ⟨rfl, ky20⟩
   obtain ⟨s21, rfl, p21, n21⟩ := nwx s6 w20 42 ky20
   refine pu rfl rfl rfl rfl rfl ?_
   have A22 := (BlF.st A17 p21 rfl)
   have K23 := (K18.st p21 rfl)
   exact Kj16 _ _ _ ⟨s21, _, rfl, (ue (ue rfl rfl) rfl), K23, A22⟩
  ·
   refine sbT hb16 ?_
   rw [if_neg (by rw [hb16]; decide)]
   refine uw rfl rfl rfl rfl ?_
   refine uw rfl rfl rfl rfl ?_
   refine uw rfl rfl rfl rfl ?_
   refine pu rfl rfl rfl rfl rfl ?_
   have A24 := (BlF.st B3 p6 rfl)
   have K25 := ((kp0.st p3 rfl).st p6 rfl)
   exact Kj16 _ _ _ ⟨s6, _, rfl, (ue (ue rfl rfl) rfl), K25, A24⟩
 rintro y16 _ _ ⟨s26, _, rfl, rfl, Ky16, By16_b3⟩
 refine pu rfl rfl rfl rfl rfl ?_
 refine jy [34, 35, 36, 37, 38, 39, 40, 41, 42, 43, 44] [42, 43, 44, 45, 46, 47, 48, 49, 50, 51, 52, 53] 44 (.bool (y16 && (((a0.Reads.length : Int) == (0 : Int)) || (!a0.All)))) rfl (fun Kg28 => ?_) (fun j28 => ?_)
 ·
  rcases Bool.eq_false_or_eq_true y16 with hb28 | hb28
  ·
   refine sbT hb28 ?_
   refine fa fa117_4 rfl rfl rfl rfl rfl rfl ?_
   refine ld By16_b3 Tryz.underlying114 rfl rfl rfl rfl rfl rfl rfl rfl ?_
   have A29 := (A0_0.kp Ky16)
   refine ln A29 Tryz.underlying114 rfl rfl rfl rfl rfl rfl ?_
   refine pu rfl rfl rfl rfl rfl ?_
   refine pu rfl rfl rfl rfl rfl ?_
   refine jy [39, 40, 41, 42, 43] [41, 42, 43, 44, 45, 46, 47, 48, 49, 50, 51, 52, 53] 43 (.bool (((a0.Reads.length : Int) == (0 : Int)) || (!a0.All))) rfl (fun Kg30 => ?_) (fun j30 => ?_)
   ·
    rcases Bool.eq_false_or_eq_true ((a0.Reads.length : Int) == (0 : Int)) with hb30 | hb30
    ·
     refine sbT hb30 ?_
     refine uw rfl rfl rfl rfl ?_
     refine uw rfl rfl rfl rfl ?_
     refine uw rfl rfl rfl rfl ?_
     refine pu rfl rfl rfl rfl rfl ?_
     exact Kg30 _ (Ag.put ((Ag.put ((Ag.put ((Ag.put (Ag.base rfl) rfl)) rfl)) rfl)) rfl) (by rw [hb30]; rfl)
    ·
     refine sbT hb30 ?_
     refine fa fa117_3 rfl rfl rfl rfl rfl rfl ?_
     refine ld By16_b3 Tryz.underlying4 rfl rfl rfl rfl rfl rfl rfl rfl ?_
     refine pu rfl rfl rfl rfl rfl ?_
     refine pu rfl rfl rfl rfl rfl ?_
     exact Kg30 _ (Ag.put ((Ag.put ((Ag.put ((Ag.put (Ag.base rfl) rfl)) rfl)) rfl)) rfl) (by rw [hb30]; rfl)
   refine pu rfl rfl rfl rfl rfl ?_
   exact Kg28 _ (Ag.put ((Ag.put ((Ag.ov ((Ag.put ((Ag.put ((Ag.put ((Ag.put ((Ag.put (Ag.base rfl) rfl)) rfl)) rfl)) rfl)) rfl)) rfl)) rfl)) rfl) (by rw [hb28]; rfl)
  ·
   refine sbT hb28 ?_
   refine uw rfl rfl rfl rfl ?_
   refine uw rfl rfl rfl rfl ?_
   refine uw rfl rfl rfl rfl ?_
   refine uw rfl rfl rfl rfl ?_
   refine uw rfl rfl rfl rfl ?_
   refine uw rfl rfl rfl rfl ?_
   refine uw rfl rfl rfl rfl ?_
   refine uw rfl rfl rfl rfl ?_
   refine uw rfl rfl rfl rfl ?_
   refine pu rfl rfl rfl rfl rfl ?_
   exact Kg28 _ (Ag.put ((Ag.put ((Ag.put ((Ag.put ((Ag.put ((Ag.put ((Ag.put ((Ag.put ((Ag.put ((Ag.put (Ag.base rfl) rfl)) rfl)) rfl)) rfl)) rfl)) rfl)) rfl)) rfl)) rfl)) rfl) (by rw [hb28]; rfl)
 refine pu rfl rfl rfl rfl rfl ?_
 refine jy [45, 46, 47, 48, 49, 50] [48, 49, 50, 51, 52, 53] 50 (.bool ((y16 && (((a0.Reads.length : Int) == (0 : Int)) || (!a0.All))) && (decide ((a0.Writes.length : Int) ≤ (200 : Int))))) rfl (fun Kg31 => ?_) (fun j31 => ?_)
 ·
  rcases Bool.eq_false_or_eq_true (y16 && (((a0.Reads.length : Int) == (0 : Int)) || (!a0.All))) with hb31 | hb31
  ·
   refine sbT hb31 ?_
   refine fa fa117_5 rfl rfl rfl rfl rfl rfl ?_
   refine ld By16_b3 Tryz.underlying115 rfl rfl rfl rfl rfl rfl rfl rfl ?_
   have A32 := (A0_1.kp Ky16)
   refine ln A32 Tryz.underlying115 rfl rfl rfl rfl rfl rfl ?_
   refine pu rfl rfl rfl rfl rfl ?_
   refine pu rfl rfl rfl rfl rfl ?_
   exact Kg31 _ (Ag.put ((Ag.put ((Ag.put ((Ag.put ((Ag.put (Ag.base rfl) rfl)) rfl)) rfl)) rfl)) rfl) (by rw [hb31]; rfl)
  ·
   refine sbT hb31 ?_
   refine uw rfl rfl rfl rfl ?_
   refine uw rfl rfl rfl rfl ?_
   refine uw rfl rfl rfl rfl ?_
   refine uw rfl rfl rfl rfl ?_
   refine pu rfl rfl rfl rfl rfl ?_
   exact Kg31 _ (Ag.put ((Ag.put ((Ag.put ((Ag.put ((Ag.put (Ag.base rfl) rfl)) rfl)) rfl)) rfl)) rfl) (by rw [hb31]; rfl)
 refine pu rfl rfl rfl rfl rfl ?_
 refine ji [53] (fun (y33 : Bool) (e : Env) (w : World) => ∃ (s : St) (e0 : Env), w = s.w ∧ e = upd e0 55 (.bool y33) ∧ Kp s0 s) (fun Gj33 Kj33 => ?_) ?_
 ·
  rcases Bool.eq_false_or_eq_true ((y16 && (((a0.Reads.length : Int) == (0 : Int)) || (!a0.All))) && (decide ((a0.Writes.length : Int) ≤ (200 : Int)))) with hb33 | hb33
  ·
   refine sbT hb33 ?_
   rw [if_pos hb33]
   refine fa fa117_5 rfl rfl rfl rfl rfl rfl ?_
   refine ld By16_b3 Tryz.underlying115 rfl rfl rfl rfl rfl rfl rfl rfl ?_
   have A34 := (A0_1.kp Ky16)
   refine cl rfl rfl rfl rfl rfl Tryz.func249 rfl rfl rfl (fun r35 m35 => impl_areAll_impl_Item.calls a0.Writes impl_KeyOk.f s26.w (fun b => memb [0] (s26.g b) = true) w0_1 (.func (.func 76) #[] #[]) A34 (fun x0 u0_0 u0_1 w' k h0 h1 r m =>  ⟨76, _, _, [], [], rfl, Tryz.func76, rfl, rfl, (impl_KeyOk.calls x0 w' (fun _ => True) u0_0 u0_1 h0 h1 r m).mono fun en w2 hq => by obtain ⟨v, e, q⟩ := hq; exact ⟨v, e, q⟩⟩) rfl r35 m35) ?_
   rintro r35 _ w35 m35 ⟨rfl, ky35⟩
   obtain ⟨s36, rfl, p36, n36⟩ := nwx s26 w35 43 ky35
   refine pu rfl rfl rfl rfl rfl ?_
   have K37 := (Ky16.st p36 rfl)
   exact Kj33 _ _ _ ⟨s36, _, rfl, (ue rfl rfl), K37⟩
  ·
   refine sbT hb33 ?_
   rw [if_neg (by rw [hb33]; decide)]
   refine uw rfl rfl rfl rfl ?_
   refine uw rfl rfl rfl rfl ?_
   refine uw rfl rfl rfl rfl ?_
   refine pu rfl rfl rfl rfl rfl ?_
   exact Kj33 _ _ _ ⟨s26, _, rfl, (ue rfl rfl), Ky16⟩
 rintro y33 _ _ ⟨s38, _, rfl, rfl, Ky33⟩
 refine pu rfl rfl rfl rfl rfl ?_
 refine dn ?_
 exact re rfl Tryz.func162 rfl (r_t rfl r_nil) rfl ⟨_, rfl, rfl, z.ky Ky33⟩
noncomputable def impl_areDifferent_impl_Track.b0 (a0 : (List Track)) (a1 : (Track → Option Int)) (x6 : Int × MD) : Option ((Int × MD) ⊕ Bool) :=
 (if (decide (x6.1 < (a0.length : Int))) = true then (if 0 ≤ x6.1 ∧ x6.1 < (a0.length : Int) then ((a1 (at_ a0 x6.1)).bind fun r24 => (if (mget x6.2 r24) = true then (some (Sum.inr false)) else ((a1 (at_ a0 x6.1)).bind fun r33 => (some (Sum.inl ((IntKind.wrap .i64 (x6.1 + (1 : Int))), (mset x6.2 r33 true))))))) else none) else ((some true).bind fun o => some (Sum.inr o)))
noncomputable def impl_areDifferent_impl_Track.f (a0 : (List Track)) (a1 : (Track → Option Int)) : Option (Bool) :=
 (iter (impl_areDifferent_impl_Track.b0 a0 a1) ((0 : Int), ([] : MD)))
def impl_areDifferent_impl_Track.Q (w : World) (F : Nat → Prop) (r : Bool) (v : Value) (w' : World) : Prop :=
 v = (.bool r) ∧ Ky [] w w'
set_option maxHeartbeats 4000000 in
set_option maxRecDepth 100000 in
theorem impl_areDifferent_impl_Track.calls (a0 : (List Track)) (a1 : (Track → Option Int)) (w : World) (F : Nat → Prop) (w0_0 : Value) (f1 : Value) (h0_0 : (Kd.sl 117 kd117).rd w [w0_0] a0 F) (hf1 : ∀ (x0 : Track) (u0_0 u0_1 : Value) (w' : World), Ky [] w w' → (Kd.sl 200 kd200).rd w' [u0_0] x0.Reads (fun _ => True) → (Kd.sl 33 kd33).rd w' [u0_1] x0.Writes (fun _ => True) → ∀ r, a1 x0 = some r → CallV Tryz.prog f1 [(.agg #[(.int .i64 x0.Xid), (.int .i64 x0.Begun), (.int .i64 x0.Ended), (.bool x0.All), u0_0, u0_1, (.bool x0.In), (.bool x0.Out)])] w' fun en w'' => ∃ v, en = .returned v ∧ v = (.int .i64 r) ∧ Ky [] w' w'') (ho1 : f1.cells = #[f1]) (r : Bool) (m : impl_areDifferent_impl_Track.f a0 a1 = some r) :
  Calls Tryz.prog 163 #[w0_0, f1] w fun en w' => ∃ v, en = .returned v ∧ impl_areDifferent_impl_Track.Q w F r v w' := by
 obtain ⟨s0, rfl, kp0, z⟩ := start0 w F
 have A0_0 := z.rd h0_0
 refine calls_of_TM (args := [w0_0, f1]) (R := fun r en w' => ∃ v, en = .returned v ∧ impl_areDifferent_impl_Track.Q s0.w F r v w') Tryz.func163 Tryz.ntmps163 rfl rfl m ?_
 unfold impl_areDifferent_impl_Track.f
 refine sr ?_
 refine pu rfl rfl rfl rfl rfl ?_
 refine dn ?_
 refine sr ?_
 refine mkm 40 rfl rfl rfl rfl rfl (fun b2 s2 p2 B2 => ?_)
 refine pu rfl rfl rfl rfl rfl ?_
 refine dn ?_
 refine sq ?_
 refine sr ?_
 refine mv w0_0 rfl rfl rfl rfl rfl rfl ?_
 have K4 := (kp0.st p2 rfl)
 have A5 := (A0_0.kp K4)
 refine ln A5 Tryz.underlying29 rfl rfl rfl rfl rfl rfl ?_
 refine pu rfl rfl rfl rfl rfl ?_
 refine dn ?_
 refine bl ?_
 refine lpI (fun (x6 : Int × MD) (e : Env) (w : World) => ∃ (s : St) (e0 : Env), w = s.w ∧ e = upd (upd (upd (upd (upd e0 1 f1) 5 (.map (some b2))) 9 w0_0) 10 (.int .i64 (a0.length : Int))) 11 (.int .i64 x6.1) ∧ Kp s0 s ∧ MpF s b2 x6.2 40) ⟨s2, _, rfl, (ue (ue (ue (ue (ue rfl rfl) rfl) rfl) rfl) rfl), K4, B2⟩ (fun g6 ih6 => ?_)
 rintro x6 _ _ ⟨s7, _, rfl, rfl, Kx6, Bx6_b2⟩
 unfold impl_areDifferent_impl_Track.b0
 refine sr ?_
 refine pu rfl rfl rfl rfl rfl ?_
 refine dn ?_
 refine sq ?_
 refine cd rfl (fun h9 => ?_) (fun h9 => ?_)
 ·
  refine sk ?_
  refine sq ?_
  refine bl ?_
  refine sr ?_
  have A10 := (A0_0.kp Kx6)
  refine ix A10 Tryz.underlying29 z117 rfl rfl rfl rfl rfl rfl rfl rfl (fun ad11 es11 h0_11 h1_11 he11 ce11 ia11 => ?_)
  obtain ⟨v11_0, v11_1, rfl, A11_0, A11_1⟩ := op117 he11
  refine lca ce11 Tryz.underlying117 z117 rfl rfl rfl rfl rfl rfl rfl ?_
  refine al (cs := [(.int .i64 (0 : Int)), (.int .i64 (0 : Int)), (.int .i64 (0 : Int)), (.bool false), (.slice none 0 0), (.slice none 0 0), (.bool false), (.bool false)]) 41 rfl rfl rfl rfl rfl o117 rfl (fun b15 s15 p15 B15 => ?_)
  have A17 := (A11_1.st p15 rfl)
  have A18 := (A11_0.st p15 rfl)
  refine sva (vs := [(.int .i64 ((at_ a0 x6.1).Xid)), (.int .i64 ((at_ a0 x6.1).Begun)), (.int .i64 ((at_ a0 x6.1).Ended)), (.bool ((at_ a0 x6.1).All)), v11_0, v11_1, (.bool ((at_ a0 x6.1).In)), (.bool ((at_ a0 x6.1).Out))]) B15 z117 rfl rfl rfl rfl rfl rfl (on_cons rfl (on_cons rfl (on_cons rfl (on_cons rfl (on_cons A18.one (on_cons A17.one (on_cons rfl (on_cons rfl on_nil)))))))) rfl (fun s19 p19 B19 => ?_)
  refine dn ?_
  refine sq ?_
  refine sr ?_
  refine pu rfl rfl rfl rfl rfl ?_
  refine mv f1 rfl rfl rfl rfl rfl rfl ?_
  refine lda (es := [(.int .i64 ((at_ a0 x6.1).Xid)), (.int .i64 ((at_ a0 x6.1).Begun)), (.int .i64 ((at_ a0 x6.1).Ended)), (.bool ((at_ a0 x6.1).All)), v11_0, v11_1, (.bool ((at_ a0 x6.1).In)), (.bool ((at_ a0 x6.1).Out))]) B19 Tryz.underlying117 z117 rfl rfl rfl rfl rfl rfl rfl rfl ?_
  have A21 := (A18.st p19 rfl)
  have A22 := (A17.st p19 rfl)
  have K23 := ((Kx6.st p15 rfl).st p19 rfl)
  refine clv rfl rfl rfl rfl rfl rfl rfl (fun r24 m24 => hf1 (at_ a0 x6.1) v11_0 v11_1 s19.w (z.ky K23) (RdF.top A21) (RdF.top A22) r24 m24) ?_
  rintro r24 _ w24 m24 ⟨rfl, ky24⟩
  obtain ⟨s25, rfl, p25, n25⟩ := nwx s19 w24 42 ky24
  have A26 := (MpF.st (MpF.st (MpF.st Bx6_b2 p15 rfl) p19 rfl) p25 rfl)
  refine lkm A26 Tryz.underlying253 Tryz.underlying3 o4 rfl rfl rfl rfl rfl rfl rfl ?_
  refine dn ?_
  refine cd rfl (fun h27 => ?_) (fun h27 => ?_)
  ·
   refine sr ?_
   refine pu rfl rfl rfl rfl rfl ?_
   refine dn ?_
   refine sgi ?_
   have K28 := (K23.st p25 rfl)
   exact re rfl Tryz.func163 rfl (r_t rfl r_nil) rfl ⟨_, rfl, rfl, z.ky K28⟩
  ·
   refine sk ?_
   refine rg ?_
   refine pu rfl rfl rfl rfl rfl ?_
   refine mv f1 rfl rfl rfl rfl rfl rfl ?_
   have A29 := (BlF.st B19 p25 rfl)
   refine lda (es := [(.int .i64 ((at_ a0 x6.1).Xid)), (.int .i64 ((at_ a0 x6.1).Begun)), (.int .i64 ((at_ a0 x6.1).Ended)), (.bool ((at_ a0 x6.1).All)), v11_0, v11_1, (.bool ((at_ a0 x6.1).In)), (.bool ((at_ a0 x6.1).Out))]) A29 Tryz.underlying117 z117 rfl rfl rfl rfl rfl rfl rfl rfl ?_
   have A30 := (A21.st p25 rfl)
   have A31 := (A22.st p25 rfl)
   have K32 := (K23.st p25 rfl)
   refine clv rfl rfl rfl rfl rfl rfl rfl (fun r33 m33 => hf1 (at_ a0 x6.1) v11_0 v11_1 s25.w (z.ky K32) (RdF.top A30) (RdF.top A31) r33 m33) ?_
   rintro r33 _ w33 m33 ⟨rfl, ky33⟩
   obtain ⟨s34, rfl, p34, n34⟩ := nwx s25 w33 43 ky33
   have A35 := (MpF.st A26 p34 rfl)
   refine upm A35 Tryz.underlying253 Tryz.underlying3 rfl rfl rfl rfl rfl rfl rfl (fun s36 p36 B36 => ?_)
   refine dn ?_
   refine ib ?_
   refine rg ?_
   refine pu rfl rfl rfl rfl rfl ?_
   refine pu rfl rfl rfl rfl rfl ?_
   refine dn ?_
   have K38 := ((K32.st p34 rfl).st p36 rfl)
   exact lb ih6 ⟨s36, _, rfl, (ue (ue (ue (ue (ue rfl rfl) rfl) rfl) rfl) rfl), K38, B36⟩
 ·
  refine xt rfl ?_
  refine sgb ?_
  refine sr ?_
  refine pu rfl rfl rfl rfl rfl ?_
  refine dn ?_
  exact re rfl Tryz.func163 rfl (r_t rfl r_nil) rfl ⟨_, rfl, rfl, z.ky Kx6⟩
noncomputable def impl_TracksOk_1.f (a0 : Track) : Option (Int) :=
 (some a0.Xid)
def impl_TracksOk_1.Q (w : World) (F : Nat → Prop) (r : Int) (v : Value) (w' : World) : Prop :=
 v = (.int .i64 r) ∧ Ky [] w w'
set_option maxHeartbeats 4000000 in
set_option maxRecDepth 100000 in
theorem impl_TracksOk_1.calls (a0 : Track) (w : World) (F : Nat → Prop) (w0_0 : Value) (w0_1 : Value) (h0_0 : (Kd.sl 200 kd200).rd w [w0_0] a0.Reads F) (h0_1 : (Kd.sl 33 kd33).rd w [w0_1] a0.Writes F) (r : Int) (m : impl_TracksOk_1.f a0 = some r) :
  Calls Tryz.prog 164 #[(.agg #[(.int .i64 a0.Xid), (.int .i64 a0.Begun), (.int .i64 a0.Ended), (.bool a0.All), w0_0, w0_1, (.bool a0.In), (.bool a0.Out)])] w fun en w' => ∃ v, en = .returned v ∧ impl_TracksOk_1.Q w F r v w' := by
 obtain ⟨s0, rfl, kp0, z⟩ := start0 w F
 have A0_0 := z.rd h0_0
 have A0_1 := z.rd h0_1
 refine calls_of_TM (args := [(.agg #[(.int .i64 a0.Xid), (.int .i64 a0.Begun), (.int .i64 a0.Ended), (.bool a0.All), w0_0, w0_1, (.bool a0.In), (.bool a0.Out)])]) (R := fun r en w' => ∃ v, en = .returned v ∧ impl_TracksOk_1.Q s0.w F r v w') Tryz.func164 Tryz.ntmps164 rfl rfl m ?_
 unfold impl_TracksOk_1.f
 refine sr ?_
 refine bx (cs := [(.int .i64 a0.Xid), (.int .i64 a0.Begun), (.int .i64 a0.Ended), (.bool a0.All), w0_0, w0_1, (.bool a0.In), (.bool a0.Out)]) 40 rfl rfl rfl rfl rfl rfl (fun b3 s3 p3 B3 => ?_)
 refine pu rfl rfl rfl rfl rfl ?_
 refine dn ?_
 refine sr ?_
 refine fa fa117_0 rfl rfl rfl rfl rfl rfl ?_
 refine ld B3 Tryz.underlying3 rfl rfl rfl rfl rfl rfl rfl rfl ?_
 refine pu rfl rfl rfl rfl rfl ?_
 refine dn ?_
 have K5 := (kp0.st p3 rfl)
 exact re rfl Tryz.func164 rfl (r_t rfl r_nil) rfl ⟨_, rfl, rfl, z.ky K5⟩
noncomputable def impl_TracksOk.f (a0 : (List Track)) : Option (Bool) :=
 ((if (decide ((a0.length : Int) ≤ (64 : Int))) = true then ((impl_areAll_impl_Track.f a0 impl_isTrack.f).bind fun r3 => (some r3)) else (some false)).bind fun y2 => ((if y2 = true then ((impl_areDifferent_impl_Track.f a0 impl_TracksOk_1.f).bind fun r9 => (some r9)) else (some false)).bind fun y7 => (some y7)))
def impl_TracksOk.Q (w : World) (F : Nat → Prop) (r : Bool) (v : Value) (w' : World) : Prop :=
 v = (.bool r) ∧ Ky [] w w'
set_option maxHeartbeats 4000000 in
set_option maxRecDepth 100000 in
theorem impl_TracksOk.calls (a0 : (List Track)) (w : World) (F : Nat → Prop) (w0_0 : Value) (h0_0 : (Kd.sl 117 kd117).rd w [w0_0] a0 F) (r : Bool) (m : impl_TracksOk.f a0 = some r) :
  Calls Tryz.prog 75 #[w0_0] w fun en w' => ∃ v, en = .returned v ∧ impl_TracksOk.Q w F r v w' := by
 obtain ⟨s0, rfl, kp0, z⟩ := start0 w F
 have A0_0 := z.rd h0_0
 refine calls_of_TM (args := [w0_0]) (R := fun r en w' => ∃ v, en = .returned v ∧ impl_TracksOk.Q s0.w F r v w') Tryz.func75 Tryz.ntmps75 rfl rfl m ?_
 unfold impl_TracksOk.f
 refine sr ?_
 refine pu rfl rfl rfl rfl rfl ?_
 refine dn ?_
 refine sr ?_
 refine mv w0_0 rfl rfl rfl rfl rfl rfl ?_
 refine ln A0_0 Tryz.underlying29 rfl rfl rfl rfl rfl rfl ?_
 refine pu rfl rfl rfl rfl rfl ?_
 refine pu rfl rfl rfl rfl rfl ?_
 refine ji [7, 8, 9, 10, 11] (fun (y2 : Bool) (e : Env) (w : World) => ∃ (s : St) (e0 : Env), w = s.w ∧ e = upd (upd e0 0 w0_0) 9 (.bool y2) ∧ Kp s0 s) (fun Gj2 Kj2 => ?_) ?_
 ·
  rcases Bool.eq_false_or_eq_true (decide ((a0.length : Int) ≤ (64 : Int))) with hb2 | hb2
  ·
   refine sbT hb2 ?_
   rw [if_pos hb2]
   refine mv w0_0 rfl rfl rfl rfl rfl rfl ?_
   refine cl rfl rfl rfl rfl rfl Tryz.func161 rfl rfl rfl (fun r3 m3 => impl_areAll_impl_Track.calls a0 impl_isTrack.f s0.w (fun b => memb [0] (s0.g b) = true) w0_0 (.func (.func 162) #[] #[]) A0_0 (fun x0 u0_0 u0_1 w' k h0 h1 r m =>  ⟨162, _, _, [], [], rfl, Tryz.func162, rfl, rfl, (impl_isTrack.calls x0 w' (fun _ => True) u0_0 u0_1 h0 h1 r m).mono fun en w2 hq => by obtain ⟨v, e, q⟩ := hq; exact ⟨v, e, q⟩⟩) rfl r3 m3) ?_
   rintro r3 _ w3 m3 ⟨rfl, ky3⟩
   obtain ⟨s4, rfl, p4, n4⟩ := nwx s0 w3 40 ky3
   refine pu rfl rfl rfl rfl rfl ?_
   have K5 := (kp0.st p4 rfl)
   exact Kj2 _ _ _ ⟨s4, _, rfl, (ue (ue rfl rfl) rfl), K5⟩
  ·
   refine sbT hb2 ?_
   rw [if_neg (by rw [hb2]; decide)]
   refine uw rfl rfl rfl rfl ?_
   refine uw rfl rfl rfl rfl ?_
   refine pu rfl rfl rfl rfl rfl ?_
   exact Kj2 _ _ _ ⟨s0, _, rfl, (ue (ue rfl rfl) rfl), kp0⟩
 rintro y2 _ _ ⟨s6, _, rfl, rfl, Ky2⟩
 refine pu rfl rfl rfl rfl rfl ?_
 refine ji [11] (fun (y7 : Bool) (e : Env) (w : World) => ∃ (s : St) (e0 : Env), w = s.w ∧ e = upd e0 13 (.bool y7) ∧ Kp s0 s) (fun Gj7 Kj7 => ?_) ?_
 ·
  rcases Bool.eq_false_or_eq_true y2 with hb7 | hb7
  ·
   refine sbT hb7 ?_
   rw [if_pos hb7]
   refine mv w0_0 rfl rfl rfl rfl rfl rfl ?_
   have A8 := (A0_0.kp Ky2)
   refine cl rfl rfl rfl rfl rfl Tryz.func163 rfl rfl rfl (fun r9 m9 => impl_areDifferent_impl_Track.calls a0 impl_TracksOk_1.f s6.w (fun b => memb [0] (s6.g b) = true) w0_0 (.func (.func 164) #[] #[]) A8 (fun x0 u0_0 u0_1 w' k h0 h1 r m =>  ⟨164, _, _, [], [], rfl, Tryz.func164, rfl, rfl, (impl_TracksOk_1.calls x0 w' (fun _ => True) u0_0 u0_1 h0 h1 r m).mono fun en w2 hq => by obtain ⟨v, e, q⟩ := hq; exact ⟨v, e, q⟩⟩) rfl r9 m9) ?_
   rintro r9 _ w9 m9 ⟨rfl, ky9⟩
   obtain ⟨s10, rfl, p10, n10⟩ := nwx s6 w9 41 ky9
   refine pu rfl rfl rfl rfl rfl ?_
   have K11 := (Ky2.st p10 rfl)
   exact Kj7 _ _ _ ⟨s10, _, rfl, (ue rfl rfl), K11⟩
  ·
   refine sbT hb7 ?_
   rw [if_neg (by rw [hb7]; decide)]
   refine uw rfl rfl rfl rfl ?_
   refine uw rfl rfl rfl rfl ?_
   refine pu rfl rfl rfl rfl rfl ?_
   exact Kj7 _ _ _ ⟨s6, _, rfl, (ue rfl rfl), Ky2⟩
 rintro y7 _ _ ⟨s12, _, rfl, rfl, Ky7⟩
 refine pu rfl rfl rfl rfl rfl ?_
 refine dn ?_
 exact re rfl Tryz.func75 rfl (r_t rfl r_nil) rfl ⟨_, rfl, rfl, z.ky Ky7⟩
noncomputable def slices_Clone_byte_byte.f (a0 : (List Int)) : Option ((List Int)) :=
 (if ([] : (List Int)).length + a0.length ≤ Lim then (some (([] : (List Int)) ++ a0)) else none)
def slices_Clone_byte_byte.Q (w : World) (F : Nat → Prop) (r : (List Int)) (v : Value) (w' : World) : Prop :=
 FO (Kd.sl 5 (Kd.int .u8)) w w' [v] r ∧ Ky [] w w'
set_option maxHeartbeats 4000000 in
set_option maxRecDepth 100000 in
theorem slices_Clone_byte_byte.calls (a0 : (List Int)) (w : World) (F : Nat → Prop) (w0_0 : Value) (h0_0 : (Kd.sl 5 (Kd.int .u8)).rd w [w0_0] a0 F) (r : (List Int)) (m : slices_Clone_byte_byte.f a0 = some r) :
  Calls Tryz.prog 174 #[w0_0] w fun en w' => ∃ v, en = .returned v ∧ slices_Clone_byte_byte.Q w F r v w' := by
 obtain ⟨s0, rfl, kp0, z⟩ := start0 w F
 have A0_0 := z.rd h0_0
 refine calls_of_TM (args := [w0_0]) (R := fun r en w' => ∃ v, en = .returned v ∧ slices_Clone_byte_byte.Q s0.w F r v w') Tryz.func174 Tryz.ntmps174 rfl rfl m ?_
 unfold slices_Clone_byte_byte.f
 refine sr ?_
 refine pu rfl rfl rfl rfl rfl ?_
 refine dn ?_
 refine sq ?_
 refine sr ?_
 refine mv w0_0 rfl rfl rfl rfl rfl rfl ?_
 refine nq A0_0 Tryz.underlying24 rfl rfl rfl rfl rfl rfl rfl (fun nb2 hn2 => ?_)
 refine dn ?_
 refine cdb rfl (fun h3 => ?_) (fun h3 => ?_)
 ·
  obtain rfl := hn2 h3
  refine mg fun _ => ?_
  refine sr ?_
  refine pu rfl rfl rfl rfl rfl ?_
  refine dn ?_
  exact re rfl Tryz.func174 rfl (r_t rfl r_nil) rfl ⟨_, rfl, (ow_nil 5 (Kd.int .u8) s0 40).fo kp0 rfl z.l, z.ky kp0⟩
 ·
  refine sk ?_
  refine sr ?_
  refine lt0 (K := (Kd.int .u8)) 40 Tryz.underlying24 z5 rfl rfl rfl rfl rfl (fun v4 s4 p4 A4 => ?_)
  refine mv w0_0 rfl rfl rfl rfl rfl rfl ?_
  have K6 := (kp0.st p4 rfl)
  have A7 := (A0_0.kp K6)
  refine apF fl_int sl24 A4 A7 rfl rfl rfl rfl rfl rfl rfl (fun v8 s8 p8 A8 => ?_)
  refine asg v8 rfl rfl rfl rfl rfl rfl ?_
  refine dn ?_
  have K10 := (K6.st p8 rfl)
  exact re rfl Tryz.func174 rfl (r_t rfl r_nil) rfl ⟨_, rfl, A8.fo K10 rfl z.l, z.ky K10⟩
noncomputable def impl_Item_own.f (a0 : Item) : Option (Item) :=
 ((slices_Clone_byte_byte.f a0.T).bind fun r9 => (some (Item.mk a0.Kind a0.N a0.F r9)))
def impl_Item_own.Q (w : World) (F : Nat → Prop) (r : Item) (v : Value) (w' : World) : Prop :=
 ∃ (v0 : Value) (v1 : Value), v = (.agg #[(.int .i64 r.Kind), (.int .i64 r.N), v0, v1]) ∧ FO kd33 w w' [(.int .i64 r.Kind), (.int .i64 r.N), v0, v1] r ∧ Ky [] w w'
set_option maxHeartbeats 4000000 in
set_option maxRecDepth 100000 in
theorem impl_Item_own.calls (a0 : Item) (w : World) (F : Nat → Prop) (w0_0 : Value) (w0_1 : Value) (h0_0 : Kd.flt.rd w [w0_0] a0.F F) (h0_1 : (Kd.sl 5 (Kd.int .u8)).rd w [w0_1] a0.T F) (r : Item) (m : impl_Item_own.f a0 = some r) :
  Calls Tryz.prog 81 #[(.agg #[(.int .i64 a0.Kind), (.int .i64 a0.N), w0_0, w0_1])] w fun en w' => ∃ v, en = .returned v ∧ impl_Item_own.Q w F r v w' := by
 obtain ⟨s0, rfl, kp0, z⟩ := start0 w F
 have A0_0 := fl_of h0_0
 have A0_1 := z.rd h0_1
 refine calls_of_TM (args := [(.agg #[(.int .i64 a0.Kind), (.int .i64 a0.N), w0_0, w0_1])]) (R := fun r en w' => ∃ v, en = .returned v ∧ impl_Item_own.Q s0.w F r v w') Tryz.func81 Tryz.ntmps81 rfl rfl m ?_
 unfold impl_Item_own.f
 refine sr ?_
 refine bx (cs := [(.int .i64 a0.Kind), (.int .i64 a0.N), w0_0, w0_1]) 40 rfl rfl rfl rfl rfl rfl (fun b2 s2 p2 B2 => ?_)
 refine al (cs := [(.int .i64 (0 : Int)), (.int .i64 (0 : Int)), (.float .f64 0), (.slice none 0 0)]) 41 rfl rfl rfl rfl rfl o33 rfl (fun b4 s4 p4 B4 => ?_)
 refine dn ?_
 refine sr ?_
 refine fa fa33_3 rfl rfl rfl rfl rfl rfl ?_
 have A6 := (BlF.st B2 p4 rfl)
 refine ld A6 Tryz.underlying24 rfl rfl rfl rfl rfl rfl rfl rfl ?_
 have K7 := ((kp0.st p2 rfl).st p4 rfl)
 have A8 := (A0_1.kp K7)
 refine cl rfl rfl rfl rfl rfl Tryz.func174 rfl rfl rfl (fun r9 m9 => slices_Clone_byte_byte.calls a0.T s4.w (fun b => memb [0] (s4.g b) = true) w0_1 A8 r9 m9) ?_
 rintro r9 v9_0 w9 m9 ⟨f9_0, ky9⟩
 obtain ⟨s10, rfl, p10, n10⟩ := nwx s4 w9 42 ky9
 have A9_0 := f9_0.c n10
 refine fa fa33_3 rfl rfl rfl rfl rfl rfl ?_
 have A12 := (BlF.st A6 p10 rfl)
 refine sv A12 z24 rfl rfl rfl rfl rfl rfl A9_0.rd.one rfl (fun s13 p13 B13 => ?_)
 refine dn ?_
 refine sr ?_
 refine lda (es := [(.int .i64 a0.Kind), (.int .i64 a0.N), w0_0, v9_0]) B13 Tryz.underlying33 z33 rfl rfl rfl rfl rfl rfl rfl rfl ?_
 have A15 := (BlF.st (BlF.st B4 p10 rfl) p13 rfl)
 have A16 := (A9_0.st p13 rfl)
 refine sva (vs := [(.int .i64 a0.Kind), (.int .i64 a0.N), w0_0, v9_0]) A15 z33 rfl rfl rfl rfl rfl rfl (on_cons rfl (on_cons rfl (on_cons (FL.one A0_0) (on_cons A16.rd.one on_nil)))) rfl (fun s17 p17 B17 => ?_)
 refine dn ?_
 have A20 := (A16.st p17 rfl)
 have A19 : OwF kd33 s17 [(.int .i64 a0.Kind), (.int .i64 a0.N), w0_0, v9_0] (Item.mk a0.Kind a0.N a0.F r9) 42 := (ow_isoz (fun x : Item => (x.Kind, x.N, x.F, x.T)) (Item.mk a0.Kind a0.N a0.F r9) (ow_l (fz_int .i64 a0.Kind) (ow_l (fz_int .i64 a0.N) (ow_l (fz_flt A0_0) A20))))
 have K22 := (((K7.st p10 rfl).st p13 rfl).st p17 rfl)
 exact re rfl Tryz.func81 rfl (r_b B17 Tryz.underlying33 rfl z33 rfl r_nil) rfl ⟨_, rfl, w0_0, v9_0, rfl, A19.fo K22 rfl z.l, z.ky K22⟩
noncomputable def impl_ownSpans.b0 (a0 : (List Span)) (x2 : (List Span) × Int) : Option (((List Span) × Int) ⊕ (List Span)) :=
 (if (decide (x2.2 < (a0.length : Int))) = true then (if 0 ≤ x2.2 ∧ x2.2 < (a0.length : Int) then ((impl_Item_own.f ((at_ a0 x2.2).From)).bind fun r29 => ((impl_Item_own.f ((at_ a0 x2.2).To)).bind fun r36 => (if x2.1.length + ([(Span.mk r29 r36)]).length ≤ Lim then (some (Sum.inl ((x2.1 ++ [(Span.mk r29 r36)]), (IntKind.wrap .i64 (x2.2 + (1 : Int)))))) else none))) else none) else ((some x2.1).bind fun o => some (Sum.inr o)))
noncomputable def impl_ownSpans.f (a0 : (List Span)) : Option ((List Span)) :=
 (iter (impl_ownSpans.b0 a0) (([] : (List Span)), (0 : Int)))
def impl_ownSpans.Q (w : World) (F : Nat → Prop) (r : (List Span)) (v : Value) (w' : World) : Prop :=
 FO (Kd.sl 200 kd200) w w' [v] r ∧ Ky [] w w'
set_option maxHeartbeats 4000000 in
set_option maxRecDepth 100000 in
theorem impl_ownSpans.calls (a0 : (List Span)) (w : World) (F : Nat → Prop) (w0_0 : Value) (h0_0 : (Kd.sl 200 kd200).rd w [w0_0] a0 F) (r : (List Span)) (m : impl_ownSpans.f a0 = some r) :
  Calls Tryz.prog 167 #[w0_0] w fun en w' => ∃ v, en = .returned v ∧ impl_ownSpans.Q w F r v w' := by
 obtain ⟨s0, rfl, kp0, z⟩ := start0 w F
 have A0_0 := z.rd h0_0
 refine calls_of_TM (args := [w0_0]) (R := fun r en w' => ∃ v, en = .returned v ∧ impl_ownSpans.Q s0.w F r v w') Tryz.func167 Tryz.ntmps167 rfl rfl m ?_
 unfold impl_ownSpans.f
 refine sr ?_
 refine pu rfl rfl rfl rfl rfl ?_
 refine dn ?_
 refine sr ?_
 refine pu rfl rfl rfl rfl rfl ?_
 refine dn ?_
 refine sq ?_
 refine sr ?_
 refine mv w0_0 rfl rfl rfl rfl rfl rfl ?_
 refine ln A0_0 Tryz.underlying114 rfl rfl rfl rfl rfl rfl ?_
 refine pu rfl rfl rfl rfl rfl ?_
 refine dn ?_
 refine bl ?_
 refine lpI (fun (x2 : (List Span) × Int) (e : Env) (w : World) => ∃ (s : St) (e0 : Env) (vx2_0 : Value), w = s.w ∧ e = upd (upd (upd (upd e0 3 vx2_0) 6 w0_0) 7 (.int .i64 (a0.length : Int))) 8 (.int .i64 x2.2) ∧ Kp s0 s ∧ OwF (Kd.sl 200 kd200) s [vx2_0] x2.1 41) ⟨s0, _, (.slice none 0 0), rfl, (ue (ue (ue (ue rfl rfl) rfl) rfl) rfl), kp0, (ow_nil 200 kd200 _ 41)⟩ (fun g2 ih2 => ?_)
 rintro x2 _ _ ⟨s3, _, vx2_0, rfl, rfl, Kx2, Ax2_0⟩
 unfold impl_ownSpans.b0
 refine sr ?_
 refine pu rfl rfl rfl rfl rfl ?_
 refine dn ?_
 refine sq ?_
 refine cd rfl (fun h5 => ?_) (fun h5 => ?_)
 ·
  refine sk ?_
  refine sq ?_
  refine bl ?_
  refine sr ?_
  have A6 := (A0_0.kp Kx2)
  refine ix A6 Tryz.underlying114 z200 rfl rfl rfl rfl rfl rfl rfl rfl (fun ad7 es7 h0_7 h1_7 he7 ce7 ia7 => ?_)
  obtain ⟨v7_0, v7_1, v7_2, v7_3, rfl, A7_0, A7_1, A7_2, A7_3⟩ := op200 he7
  refine lca ce7 Tryz.underlying200 z200 rfl rfl rfl rfl rfl rfl rfl ?_
  refine al (cs := [(.int .i64 (0 : Int)), (.int .i64 (0 : Int)), (.float .f64 0), (.slice none 0 0), (.int .i64 (0 : Int)), (.int .i64 (0 : Int)), (.float .f64 0), (.slice none 0 0)]) 42 rfl rfl rfl rfl rfl o200 rfl (fun b11 s11 p11 B11 => ?_)
  have A13 := (A7_3.st p11 rfl)
  have A14 := (A7_1.st p11 rfl)
  refine sva (vs := [(.int .i64 (((at_ a0 x2.2).From).Kind)), (.int .i64 (((at_ a0 x2.2).From).N)), v7_0, v7_1, (.int .i64 (((at_ a0 x2.2).To).Kind)), (.int .i64 (((at_ a0 x2.2).To).N)), v7_2, v7_3]) B11 z200 rfl rfl rfl rfl rfl rfl (on_cons rfl (on_cons rfl (on_cons (FL.one A7_0) (on_cons A14.one (on_cons rfl (on_cons rfl (on_cons (FL.one A7_2) (on_cons A13.one on_nil)))))))) rfl (fun s15 p15 B15 => ?_)
  refine dn ?_
  refine zdraw [[], [], [1], [2], [], [4], [5, 3], [3, 6], [7], [0, 8, 6], [9, 9, 0, 1, 2, 3, 4, 5, 6, 7, 8, 9]] [some 12, some 13, some 14, some 15, some 16, some 17, some 18, some 19, some 20, some 21, some 3] [[3], [5], [13], [14], [5], [16], [17], [15, 18], [19], [12, 20], [21]] [0, 1, 2, 3, 4, 5, 6, 7, 8, 9, 10] ⟨by kernel_rfl, by kernel_rfl, by kernel_rfl⟩ (by kernel_rfl) (fun s17 p17 l17 tb17 zd17 => ?_)
  have zd18 := zd17.add 0 12 vx2_0 rfl
  have zd19 := zd18.add 1 13 (.pointer (some ⟨b11, 0, none⟩)) rfl
  have A20 := (BlF.st B15 p17 rfl)
  have zd21 := zd19.add 2 14 (.agg #[(.int .i64 (((at_ a0 x2.2).From).Kind)), (.int .i64 (((at_ a0 x2.2).From).N)), v7_0, v7_1]) rfl
  have zd22 := zd21.add 4 16 (.pointer (some ⟨b11, 4, none⟩)) rfl
  have A23 := (BlF.st B15 p17 rfl)
  have zd24 := zd22.add 5 17 (.agg #[(.int .i64 (((at_ a0 x2.2).To).Kind)), (.int .i64 (((at_ a0 x2.2).To).N)), v7_2, v7_3]) rfl
  have A26 := (BlF.st B15 p17 rfl)
  have A27 := (BlF.st B15 p17 rfl)
  refine zstep 3 [some 17, some 16, some 12] tb17 zd24 (pq_cons (lda_q (es := [(.int .i64 (((at_ a0 x2.2).To).Kind)), (.int .i64 (((at_ a0 x2.2).To).N)), v7_2, v7_3]) A27 Tryz.underlying33 z33 rfl rfl rfl rfl rfl rfl rfl rfl) rfl (pq_cons (fa_q fa200_1 rfl rfl rfl rfl rfl rfl) rfl (pq_cons (lda_q (es := [(.int .i64 (((at_ a0 x2.2).From).Kind)), (.int .i64 (((at_ a0 x2.2).From).N)), v7_0, v7_1]) A26 Tryz.underlying33 z33 rfl rfl rfl rfl rfl rfl rfl rfl) rfl (pq_cons (fa_q fa200_0 rfl rfl rfl rfl rfl rfl) rfl (pq_cons (mv_q vx2_0 rfl rfl rfl rfl rfl rfl) rfl pq_nil))))) (by kernel_rfl) rfl (fun l25 e25 zd25 => ?_)
  have A28 := ((A14.st p15 rfl).st p17 rfl)
  refine cl rfl rfl rfl rfl rfl Tryz.func81 rfl rfl rfl (fun r29 m29 => impl_Item_own.calls ((at_ a0 x2.2).From) s17.w (fun b => memb [0] (s17.g b) = true) v7_0 v7_1 ((fl_rdf (s := s17) A7_0).sub (D := [0]) rfl) A28 r29 m29) ?_
  rintro r29 _ w29 m29 ⟨v29_0, v29_1, rfl, f29_0, ky29⟩
  obtain ⟨s30, rfl, p30, n30⟩ := nwx s17 w29 43 ky29
  have A29_0 := f29_0.c n30
  obtain ⟨os29_0, ho29_0, hn29_0, hc29_0⟩ := A29_0
  obtain ⟨u29_0_0, u29_0_1, qu29_0_1, e29_0, eo29_0, hu29_0_0, hu29_0_1⟩ := po33 ho29_0
  have yu29_0_0 : v29_0 = u29_0_0 := congrArg (fun l => (List.drop 2 l).headD undef) e29_0
  have yu29_0_1 : v29_1 = u29_0_1 := congrArg (fun l => (List.drop 3 l).headD undef) e29_0
  subst yu29_0_0
  subst yu29_0_1
  subst eo29_0
  have Au29_0_1 : OwF (Kd.sl 5 (Kd.int .u8)) s30 [v29_1] r29.T 43 := sp1 hu29_0_1 hn29_0 hc29_0
  refine zdone (L' := [5, 4, 0]) (D' := [1, 2, 3]) zd25 rfl rfl rfl (fun zd32 => ?_)
  have A34 := (BlF.st (BlF.st B15 p17 rfl) p30 rfl)
  refine zstep 6 [some 12] tb17 zd32 (pq_cons (lda_q (es := [(.int .i64 (((at_ a0 x2.2).To).Kind)), (.int .i64 (((at_ a0 x2.2).To).N)), v7_2, v7_3]) A34 Tryz.underlying33 z33 rfl rfl rfl rfl rfl rfl rfl rfl) rfl (pq_cons (fa_q fa200_1 rfl rfl rfl rfl rfl rfl) rfl (pq_cons (mv_q vx2_0 rfl rfl rfl rfl rfl rfl) rfl pq_nil))) (by kernel_rfl) rfl (fun l33 e33 zd33 => ?_)
  have A35 := (((A13.st p15 rfl).st p17 rfl).st p30 rfl)
  refine cl rfl rfl rfl rfl rfl Tryz.func81 rfl rfl rfl (fun r36 m36 => impl_Item_own.calls ((at_ a0 x2.2).To) s30.w (fun b => memb [0] (s30.g b) = true) v7_2 v7_3 ((fl_rdf (s := s30) A7_2).sub (D := [0]) rfl) A35 r36 m36) ?_
  rintro r36 _ w36 m36 ⟨v36_0, v36_1, rfl, f36_0, ky36⟩
  obtain ⟨s37, rfl, p37, n37⟩ := nwx s30 w36 44 ky36
  have A36_0 := f36_0.c n37
  obtain ⟨os36_0, ho36_0, hn36_0, hc36_0⟩ := A36_0
  obtain ⟨u36_0_0, u36_0_1, qu36_0_1, e36_0, eo36_0, hu36_0_0, hu36_0_1⟩ := po33 ho36_0
  have yu36_0_0 : v36_0 = u36_0_0 := congrArg (fun l => (List.drop 2 l).headD undef) e36_0
  have yu36_0_1 : v36_1 = u36_0_1 := congrArg (fun l => (List.drop 3 l).headD undef) e36_0
  subst yu36_0_0
  subst yu36_0_1
  subst eo36_0
  have Au36_0_1 : OwF (Kd.sl 5 (Kd.int .u8)) s37 [v36_1] r36.T 44 := sp1 hu36_0_1 hn36_0 hc36_0
  refine zdone (L' := [0]) (D' := [4, 5, 6, 1, 2, 3]) zd33 rfl rfl rfl (fun zd39 => ?_)
  have zd40 := zd39.add 7 19 (.agg #[(.int .i64 r29.Kind), (.int .i64 r29.N), v29_0, v29_1, (.int .i64 r36.Kind), (.int .i64 r36.N), v36_0, v36_1]) rfl
  refine zstep 8 [some 12] tb17 zd40 (pq_cons (bd_q (cells := [(.int .i64 r29.Kind), (.int .i64 r29.N), v29_0, v29_1, (.int .i64 r36.Kind), (.int .i64 r36.N), v36_0, v36_1]) pl200 o200 rfl rfl rfl rfl rfl rfl) rfl (pq_cons (mv_q vx2_0 rfl rfl rfl rfl rfl rfl) rfl pq_nil)) (by kernel_rfl) rfl (fun l41 e41 zd41 => ?_)
  have A42 := (Au29_0_1.st p37 rfl)
  obtain ⟨s43, hw43, p43, A43⟩ := ow_2 (ow_isoz (fun x : Item => (x.Kind, x.N, x.F, x.T)) r29 (ow_l (fz_int .i64 r29.Kind) (ow_l (fz_int .i64 r29.N) (ow_l (fz_flt hu29_0_0) A42)))) (ow_isoz (fun x : Item => (x.Kind, x.N, x.F, x.T)) r36 (ow_l (fz_int .i64 r36.Kind) (ow_l (fz_int .i64 r36.N) (ow_l (fz_flt hu36_0_0) Au36_0_1)))) rfl rfl
  rw [hw43]
  have A45 : OwF kd200 s43 [(.int .i64 r29.Kind), (.int .i64 r29.N), v29_0, v29_1, (.int .i64 r36.Kind), (.int .i64 r36.N), v36_0, v36_1] (Span.mk r29 r36) 43 := (ow_isoz (fun x : Span => (x.From, x.To)) (Span.mk r29 r36) A43)
  have L47 := lo_one A45
  refine ltO (K := kd200) (cells := [(.int .i64 r29.Kind), (.int .i64 r29.N), v29_0, v29_1, (.int .i64 r36.Kind), (.int .i64 r36.N), v36_0, v36_1]) [(Span.mk r29 r36)] 43 Tryz.underlying114 z200 o200 L47 rfl rfl rfl rfl rfl rfl rfl rfl rfl rfl (fun v48 s48 p48 A48 => ?_)
  refine zdone (L' := [0]) (D' := [7, 8, 4, 5, 6, 1, 2, 3]) zd41 rfl rfl rfl (fun zd50 => ?_)
  refine zfin [9, 10] tb17 zd50 (pq_cons (mv_q vx2_0 rfl rfl rfl rfl rfl rfl) rfl pq_nil) (by kernel_rfl) (by decide) ?_
  have A51 := (((((((Ax2_0.st p11 rfl).st p15 rfl).st p17 rfl).st p30 rfl).st p37 rfl).st p43 rfl).st p48 rfl)
  refine apO sl114 A51 A48 rfl rfl rfl rfl rfl rfl rfl rfl rfl (fun v52 s52 p52 A52 => ?_)
  refine asg v52 rfl rfl rfl rfl rfl rfl ?_
  refine dn ?_
  refine ib ?_
  refine rg ?_
  refine pu rfl rfl rfl rfl rfl ?_
  refine pu rfl rfl rfl rfl rfl ?_
  refine dn ?_
  have K54 := ((((((((Kx2.st p11 rfl).st p15 rfl).st p17 rfl).st p30 rfl).st p37 rfl).st p43 rfl).st p48 rfl).st p52 rfl)
  exact lb ih2 ⟨s52, _, v52, rfl, (ue (ue (ue (ue rfl rfl) rfl) rfl) rfl), K54, A52⟩
 ·
  refine xt rfl ?_
  refine sgb ?_
  refine sr ?_
  refine mv vx2_0 rfl rfl rfl rfl rfl rfl ?_
  refine asg vx2_0 rfl rfl rfl rfl rfl rfl ?_
  refine dn ?_
  exact re rfl Tryz.func167 rfl (r_t rfl r_nil) rfl ⟨_, rfl, Ax2_0.fo Kx2 rfl z.l, z.ky Kx2⟩
noncomputable def impl_ownItems.b0 (a0 : (List Item)) (x2 : (List Item) × Int) : Option (((List Item) × Int) ⊕ (List Item)) :=
 (if (decide (x2.2 < (a0.length : Int))) = true then (if 0 ≤ x2.2 ∧ x2.2 < (a0.length : Int) then ((impl_Item_own.f (at_ a0 x2.2)).bind fun r16 => (if x2.1.length + ([r16]).length ≤ Lim then (some (Sum.inl ((x2.1 ++ [r16]), (IntKind.wrap .i64 (x2.2 + (1 : Int)))))) else none)) else none) else ((some x2.1).bind fun o => some (Sum.inr o)))
noncomputable def impl_ownItems.f (a0 : (List Item)) : Option ((List Item)) :=
 (iter (impl_ownItems.b0 a0) (([] : (List Item)), (0 : Int)))
def impl_ownItems.Q (w : World) (F : Nat → Prop) (r : (List Item)) (v : Value) (w' : World) : Prop :=
 FO (Kd.sl 33 kd33) w w' [v] r ∧ Ky [] w w'
set_option maxHeartbeats 4000000 in
set_option maxRecDepth 100000 in
theorem impl_ownItems.calls (a0 : (List Item)) (w : World) (F : Nat → Prop) (w0_0 : Value) (h0_0 : (Kd.sl 33 kd33).rd w [w0_0] a0 F) (r : (List Item)) (m : impl_ownItems.f a0 = some r) :
  Calls Tryz.prog 168 #[w0_0] w fun en w' => ∃ v, en = .returned v ∧ impl_ownItems.Q w F r v w' := by
 obtain ⟨s0, rfl, kp0, z⟩ := start0 w F
 have A0_0 := z.rd h0_0
 refine calls_of_TM (args := [w0_0]) (R := fun r en w' => ∃ v, en = .returned v ∧ impl_ownItems.Q s0.w F r v w') Tryz.func168 Tryz.ntmps168 rfl rfl m ?_
 unfold impl_ownItems.f
 refine sr ?_
 refine pu rfl rfl rfl rfl rfl ?_
 refine dn ?_
 refine sr ?_
 refine pu rfl rfl rfl rfl rfl ?_
 refine dn ?_
 refine sq ?_
 refine sr ?_
 refine mv w0_0 rfl rfl rfl rfl rfl rfl ?_
 refine ln A0_0 Tryz.underlying115 rfl rfl rfl rfl rfl rfl ?_
 refine pu rfl rfl rfl rfl rfl ?_
 refine dn ?_
 refine bl ?_
 refine lpI (fun (x2 : (List Item) × Int) (e : Env) (w : World) => ∃ (s : St) (e0 : Env) (vx2_0 : Value), w = s.w ∧ e = upd (upd (upd (upd e0 3 vx2_0) 6 w0_0) 7 (.int .i64 (a0.length : Int))) 8 (.int .i64 x2.2) ∧ Kp s0 s ∧ OwF (Kd.sl 33 kd33) s [vx2_0] x2.1 41) ⟨s0, _, (.slice none 0 0), rfl, (ue (ue (ue (ue rfl rfl) rfl) rfl) rfl), kp0, (ow_nil 33 kd33 _ 41)⟩ (fun g2 ih2 => ?_)
 rintro x2 _ _ ⟨s3, _, vx2_0, rfl, rfl, Kx2, Ax2_0⟩
 unfold impl_ownItems.b0
 refine sr ?_
 refine pu rfl rfl rfl rfl rfl ?_
 refine dn ?_
 refine sq ?_
 refine cd rfl (fun h5 => ?_) (fun h5 => ?_)
 ·
  refine sk ?_
  refine sq ?_
  refine bl ?_
  refine sr ?_
  have A6 := (A0_0.kp Kx2)
  refine ix A6 Tryz.underlying115 z33 rfl rfl rfl rfl rfl rfl rfl rfl (fun ad7 es7 h0_7 h1_7 he7 ce7 ia7 => ?_)
  obtain ⟨v7_0, v7_1, rfl, A7_0, A7_1⟩ := op33 he7
  refine lca ce7 Tryz.underlying33 z33 rfl rfl rfl rfl rfl rfl rfl ?_
  refine al (cs := [(.int .i64 (0 : Int)), (.int .i64 (0 : Int)), (.float .f64 0), (.slice none 0 0)]) 42 rfl rfl rfl rfl rfl o33 rfl (fun b10 s10 p10 B10 => ?_)
  have A12 := (A7_1.st p10 rfl)
  refine sva (vs := [(.int .i64 ((at_ a0 x2.2).Kind)), (.int .i64 ((at_ a0 x2.2).N)), v7_0, v7_1]) B10 z33 rfl rfl rfl rfl rfl rfl (on_cons rfl (on_cons rfl (on_cons (FL.one A7_0) (on_cons A12.one on_nil)))) rfl (fun s13 p13 B13 => ?_)
  refine dn ?_
  refine rg ?_
  refine mv vx2_0 rfl rfl rfl rfl rfl rfl ?_
  refine lda (es := [(.int .i64 ((at_ a0 x2.2).Kind)), (.int .i64 ((at_ a0 x2.2).N)), v7_0, v7_1]) B13 Tryz.underlying33 z33 rfl rfl rfl rfl rfl rfl rfl rfl ?_
  have A15 := (A12.st p13 rfl)
  refine cl rfl rfl rfl rfl rfl Tryz.func81 rfl rfl rfl (fun r16 m16 => impl_Item_own.calls (at_ a0 x2.2) s13.w (fun b => memb [0] (s13.g b) = true) v7_0 v7_1 ((fl_rdf (s := s13) A7_0).sub (D := [0]) rfl) A15 r16 m16) ?_
  rintro r16 _ w16 m16 ⟨v16_0, v16_1, rfl, f16_0, ky16⟩
  obtain ⟨s17, rfl, p17, n17⟩ := nwx s13 w16 43 ky16
  have A16_0 := f16_0.c n17
  obtain ⟨os16_0, ho16_0, hn16_0, hc16_0⟩ := A16_0
  obtain ⟨u16_0_0, u16_0_1, qu16_0_1, e16_0, eo16_0, hu16_0_0, hu16_0_1⟩ := po33 ho16_0
  have yu16_0_0 : v16_0 = u16_0_0 := congrArg (fun l => (List.drop 2 l).headD undef) e16_0
  have yu16_0_1 : v16_1 = u16_0_1 := congrArg (fun l => (List.drop 3 l).headD undef) e16_0
  subst yu16_0_0
  subst yu16_0_1
  subst eo16_0
  have Au16_0_1 : OwF (Kd.sl 5 (Kd.int .u8)) s17 [v16_1] r16.T 43 := sp1 hu16_0_1 hn16_0 hc16_0
  have A19 : OwF kd33 s17 [(.int .i64 r16.Kind), (.int .i64 r16.N), v16_0, v16_1] r16 43 := (ow_isoz (fun x : Item => (x.Kind, x.N, x.F, x.T)) r16 (ow_l (fz_int .i64 r16.Kind) (ow_l (fz_int .i64 r16.N) (ow_l (fz_flt hu16_0_0) Au16_0_1))))
  have L21 := lo_one A19
  refine ltO (K := kd33) (cells := [(.int .i64 r16.Kind), (.int .i64 r16.N), v16_0, v16_1]) [r16] 43 Tryz.underlying115 z33 o33 L21 rfl rfl rfl rfl rfl rfl rfl rfl rfl rfl (fun v22 s22 p22 A22 => ?_)
  have A24 := ((((Ax2_0.st p10 rfl).st p13 rfl).st p17 rfl).st p22 rfl)
  refine apO sl115 A24 A22 rfl rfl rfl rfl rfl rfl rfl rfl rfl (fun v25 s25 p25 A25 => ?_)
  refine asg v25 rfl rfl rfl rfl rfl rfl ?_
  refine dn ?_
  refine ib ?_
  refine rg ?_
  refine pu rfl rfl rfl rfl rfl ?_
  refine pu rfl rfl rfl rfl rfl ?_
  refine dn ?_
  have K27 := (((((Kx2.st p10 rfl).st p13 rfl).st p17 rfl).st p22 rfl).st p25 rfl)
  exact lb ih2 ⟨s25, _, v25, rfl, (ue (ue (ue (ue rfl rfl) rfl) rfl) rfl), K27, A25⟩
 ·
  refine xt rfl ?_
  refine sgb ?_
  refine sr ?_
  refine mv vx2_0 rfl rfl rfl rfl rfl rfl ?_
  refine asg vx2_0 rfl rfl rfl rfl rfl rfl ?_
  refine dn ?_
  exact re rfl Tryz.func168 rfl (r_t rfl r_nil) rfl ⟨_, rfl, Ax2_0.fo Kx2 rfl z.l, z.ky Kx2⟩
noncomputable def impl_ownTracks.b0 (a0 : (List Track)) (x2 : (List Track) × Int) : Option (((List Track) × Int) ⊕ (List Track)) :=
 (if (decide (x2.2 < (a0.length : Int))) = true then (if 0 ≤ x2.2 ∧ x2.2 < (a0.length : Int) then ((impl_ownSpans.f ((at_ a0 x2.2).Reads)).bind fun r28 => ((impl_ownItems.f ((at_ a0 x2.2).Writes)).bind fun r36 => (if x2.1.length + ([(Track.mk ((at_ a0 x2.2).Xid) ((at_ a0 x2.2).Begun) ((at_ a0 x2.2).Ended) ((at_ a0 x2.2).All) r28 r36 ((at_ a0 x2.2).In) ((at_ a0 x2.2).Out))]).length ≤ Lim then (some (Sum.inl ((x2.1 ++ [(Track.mk ((at_ a0 x2.2).Xid) ((at_ a0 x2.2).Begun) ((at_ a0 x2.2).Ended) ((at_ a0 x2.2).All) r28 r36 ((at_ a0 x2.2).In) ((at_ a0 x2.2).Out))]), (IntKind.wrap .i64 (x2.2 + (1 : Int)))))) else none))) else none) else ((some x2.1).bind fun o => some (Sum.inr o)))
noncomputable def impl_ownTracks.f (a0 : (List Track)) : Option ((List Track)) :=
 (iter (impl_ownTracks.b0 a0) (([] : (List Track)), (0 : Int)))
def impl_ownTracks.Q (w : World) (F : Nat → Prop) (r : (List Track)) (v : Value) (w' : World) : Prop :=
 FO (Kd.sl 117 kd117) w w' [v] r ∧ Ky [] w w'
set_option maxHeartbeats 4000000 in
set_option maxRecDepth 100000 in
theorem impl_ownTracks.calls (a0 : (List Track)) (w : World) (F : Nat → Prop) (w0_0 : Value) (h0_0 : (Kd.sl 117 kd117).rd w [w0_0] a0 F) (r : (List Track)) (m : impl_ownTracks.f a0 = some r) :
  Calls Tryz.prog 77 #[w0_0] w fun en w' => ∃ v, en = .returned v ∧ impl_ownTracks.Q w F r v w' := by
 obtain ⟨s0, rfl, kp0, z⟩ := start0 w F
 have A0_0 := z.rd h0_0
 refine calls_of_TM (args := [w0_0]) (R := fun r en w' => ∃ v, en = .returned v ∧ impl_ownTracks.Q s0.w F r v w') Tryz.func77 Tryz.ntmps77 rfl rfl m ?_
 unfold impl_ownTracks.f
 refine sr ?_
 refine pu rfl rfl rfl rfl rfl ?_
 refine dn ?_
 refine sr ?_
 refine pu rfl rfl rfl rfl rfl ?_
 refine dn ?_
 refine sq ?_
 refine sr ?_
 refine mv w0_0 rfl rfl rfl rfl rfl rfl ?_
 refine ln A0_0 Tryz.underlying29 rfl rfl rfl rfl rfl rfl ?_
 refine pu rfl rfl rfl rfl rfl ?_
 refine dn ?_
 refine bl ?_
 refine lpI (fun (x2 : (List Track) × Int) (e : Env) (w : World) => ∃ (s : St) (e0 : Env) (vx2_0 : Value), w = s.w ∧ e = upd (upd (upd (upd e0 3 vx2_0) 6 w0_0) 7 (.int .i64 (a0.length : Int))) 8 (.int .i64 x2.2) ∧ Kp s0 s ∧ OwF (Kd.sl 117 kd117) s [vx2_0] x2.1 41) ⟨s0, _, (.slice none 0 0), rfl, (ue (ue (ue (ue rfl rfl) rfl) rfl) rfl), kp0, (ow_nil 117 kd117 _ 41)⟩ (fun g2 ih2 => ?_)
 rintro x2 _ _ ⟨s3, _, vx2_0, rfl, rfl, Kx2, Ax2_0⟩
 unfold impl_ownTracks.b0
 refine sr ?_
 refine pu rfl rfl rfl rfl rfl ?_
 refine dn ?_
 refine sq ?_
 refine cd rfl (fun h5 => ?_) (fun h5 => ?_)
 ·
  refine sk ?_
  refine sq ?_
  refine bl ?_
  refine sr ?_
  have A6 := (A0_0.kp Kx2)
  refine ix A6 Tryz.underlying29 z117 rfl rfl rfl rfl rfl rfl rfl rfl (fun ad7 es7 h0_7 h1_7 he7 ce7 ia7 => ?_)
  obtain ⟨v7_0, v7_1, rfl, A7_0, A7_1⟩ := op117 he7
  refine lca ce7 Tryz.underlying117 z117 rfl rfl rfl rfl rfl rfl rfl ?_
  refine al (cs := [(.int .i64 (0 : Int)), (.int .i64 (0 : Int)), (.int .i64 (0 : Int)), (.bool false), (.slice none 0 0), (.slice none 0 0), (.bool false), (.bool false)]) 42 rfl rfl rfl rfl rfl o117 rfl (fun b11 s11 p11 B11 => ?_)
  have A13 := (A7_1.st p11 rfl)
  have A14 := (A7_0.st p11 rfl)
  refine sva (vs := [(.int .i64 ((at_ a0 x2.2).Xid)), (.int .i64 ((at_ a0 x2.2).Begun)), (.int .i64 ((at_ a0 x2.2).Ended)), (.bool ((at_ a0 x2.2).All)), v7_0, v7_1, (.bool ((at_ a0 x2.2).In)), (.bool ((at_ a0 x2.2).Out))]) B11 z117 rfl rfl rfl rfl rfl rfl (on_cons rfl (on_cons rfl (on_cons rfl (on_cons rfl (on_cons A14.one (on_cons A13.one (on_cons rfl (on_cons rfl on_nil)))))))) rfl (fun s15 p15 B15 => ?_)
  refine dn ?_
  refine sq ?_
  refine zdraw [[], [0], [1], [], [3], [4, 2], [0, 1, 2, 3, 4], [6, 2, 5, 0, 1, 2, 3, 4], [0, 1, 2, 3, 4, 5, 6, 7], [8, 5, 7, 0, 1, 2, 3, 4, 5, 6, 7]] [some 12, some 13, some 14, some 15, some 16, some 17, some 18, none, some 19, none] [[5], [12], [13], [5], [15], [16], [5], [18, 14], [5], [19, 17]] [0, 1, 2, 3, 4, 5, 6, 7, 8, 9] ⟨by kernel_rfl, by kernel_rfl, by kernel_rfl⟩ (by kernel_rfl) (fun s17 p17 l17 tb17 zd17 => ?_)
  have zd18 := zd17.add 0 12 (.pointer (some ⟨b11, 4, none⟩)) rfl
  have A19 := (BlF.st B15 p17 rfl)
  have zd20 := zd18.add 1 13 v7_0 rfl
  have zd21 := zd20.add 3 15 (.pointer (some ⟨b11, 5, none⟩)) rfl
  have A22 := (BlF.st B15 p17 rfl)
  have zd23 := zd21.add 4 16 v7_1 rfl
  have A25 := (BlF.st B15 p17 rfl)
  have A26 := (BlF.st B15 p17 rfl)
  refine zstep 2 [some 16, some 15] tb17 zd23 (pq_cons (ld_q A26 Tryz.underlying115 rfl rfl rfl rfl rfl rfl rfl rfl) rfl (pq_cons (fa_q fa117_5 rfl rfl rfl rfl rfl rfl) rfl (pq_cons (ld_q A25 Tryz.underlying114 rfl rfl rfl rfl rfl rfl rfl rfl) rfl (pq_cons (fa_q fa117_4 rfl rfl rfl rfl rfl rfl) rfl pq_nil)))) (by kernel_rfl) rfl (fun l24 e24 zd24 => ?_)
  have A27 := ((A14.st p15 rfl).st p17 rfl)
  refine cl rfl rfl rfl rfl rfl Tryz.func167 rfl rfl rfl (fun r28 m28 => impl_ownSpans.calls ((at_ a0 x2.2).Reads) s17.w (fun b => memb [0] (s17.g b) = true) v7_0 A27 r28 m28) ?_
  rintro r28 v28_0 w28 m28 ⟨f28_0, ky28⟩
  obtain ⟨s29, rfl, p29, n29⟩ := nwx s17 w28 43 ky28
  have A28_0 := f28_0.c n29
  refine zdone (L' := [4, 3]) (D' := [0, 1, 2]) zd24 rfl rfl rfl (fun zd31 => ?_)
  have zd32 := zd31.add 6 18 (.pointer (some ⟨b11, 4, none⟩)) rfl
  have A34 := (BlF.st (BlF.st B15 p17 rfl) p29 rfl)
  refine zstep 5 [some 18] tb17 zd32 (pq_cons (fa_q fa117_4 rfl rfl rfl rfl rfl rfl) rfl (pq_cons (ld_q A34 Tryz.underlying115 rfl rfl rfl rfl rfl rfl rfl rfl) rfl (pq_cons (fa_q fa117_5 rfl rfl rfl rfl rfl rfl) rfl pq_nil))) (by kernel_rfl) rfl (fun l33 e33 zd33 => ?_)
  have A35 := (((A13.st p15 rfl).st p17 rfl).st p29 rfl)
  refine cl rfl rfl rfl rfl rfl Tryz.func168 rfl rfl rfl (fun r36 m36 => impl_ownItems.calls ((at_ a0 x2.2).Writes) s29.w (fun b => memb [0] (s29.g b) = true) v7_1 A35 r36 m36) ?_
  rintro r36 v36_0 w36 m36 ⟨f36_0, ky36⟩
  obtain ⟨s37, rfl, p37, n37⟩ := nwx s29 w36 44 ky36
  have A36_0 := f36_0.c n37
  refine zdone (L' := [6]) (D' := [3, 4, 5, 0, 1, 2]) zd33 rfl rfl rfl (fun zd39 => ?_)
  refine zfin [7, 8, 9] tb17 zd39 (pq_cons (fa_q fa117_4 rfl rfl rfl rfl rfl rfl) rfl pq_nil) (by kernel_rfl) (by decide) ?_
  have A40 := (BlF.st (BlF.st (BlF.st B15 p17 rfl) p29 rfl) p37 rfl)
  have A41 := (A28_0.st p37 rfl)
  refine sv A40 z114 rfl rfl rfl rfl rfl rfl A41.rd.one rfl (fun s42 p42 B42 => ?_)
  refine fa fa117_5 rfl rfl rfl rfl rfl rfl ?_
  have A44 := (A36_0.st p42 rfl)
  refine sv B42 z115 rfl rfl rfl rfl rfl rfl A44.rd.one rfl (fun s45 p45 B45 => ?_)
  refine dn ?_
  refine rg ?_
  refine mv vx2_0 rfl rfl rfl rfl rfl rfl ?_
  refine lda (es := [(.int .i64 ((at_ a0 x2.2).Xid)), (.int .i64 ((at_ a0 x2.2).Begun)), (.int .i64 ((at_ a0 x2.2).Ended)), (.bool ((at_ a0 x2.2).All)), v28_0, v36_0, (.bool ((at_ a0 x2.2).In)), (.bool ((at_ a0 x2.2).Out))]) B45 Tryz.underlying117 z117 rfl rfl rfl rfl rfl rfl rfl rfl ?_
  have A47 := ((A41.st p42 rfl).st p45 rfl)
  have A48 := (A44.st p45 rfl)
  obtain ⟨s49, hw49, p49, A49⟩ := ow_2 A47 (ow_r A48 (fz_pair (fz_bool ((at_ a0 x2.2).In)) (fz_bool ((at_ a0 x2.2).Out)))) rfl rfl
  rw [hw49]
  have A51 : OwF kd117 s49 [(.int .i64 ((at_ a0 x2.2).Xid)), (.int .i64 ((at_ a0 x2.2).Begun)), (.int .i64 ((at_ a0 x2.2).Ended)), (.bool ((at_ a0 x2.2).All)), v28_0, v36_0, (.bool ((at_ a0 x2.2).In)), (.bool ((at_ a0 x2.2).Out))] (Track.mk ((at_ a0 x2.2).Xid) ((at_ a0 x2.2).Begun) ((at_ a0 x2.2).Ended) ((at_ a0 x2.2).All) r28 r36 ((at_ a0 x2.2).In) ((at_ a0 x2.2).Out)) 43 := (ow_isoz (fun x : Track => (x.Xid, x.Begun, x.Ended, x.All, x.Reads, x.Writes, x.In, x.Out)) (Track.mk ((at_ a0 x2.2).Xid) ((at_ a0 x2.2).Begun) ((at_ a0 x2.2).Ended) ((at_ a0 x2.2).All) r28 r36 ((at_ a0 x2.2).In) ((at_ a0 x2.2).Out)) (ow_l (fz_int .i64 ((at_ a0 x2.2).Xid)) (ow_l (fz_int .i64 ((at_ a0 x2.2).Begun)) (ow_l (fz_int .i64 ((at_ a0 x2.2).Ended)) (ow_l (fz_bool ((at_ a0 x2.2).All)) A49)))))
  have L53 := lo_one A51
  refine ltO (K := kd117) (cells := [(.int .i64 ((at_ a0 x2.2).Xid)), (.int .i64 ((at_ a0 x2.2).Begun)), (.int .i64 ((at_ a0 x2.2).Ended)), (.bool ((at_ a0 x2.2).All)), v28_0, v36_0, (.bool ((at_ a0 x2.2).In)), (.bool ((at_ a0 x2.2).Out))]) [(Track.mk ((at_ a0 x2.2).Xid) ((at_ a0 x2.2).Begun) ((at_ a0 x2.2).Ended) ((at_ a0 x2.2).All) r28 r36 ((at_ a0 x2.2).In) ((at_ a0 x2.2).Out))] 43 Tryz.underlying29 z117 o117 L53 rfl rfl rfl rfl rfl rfl rfl rfl rfl rfl (fun v54 s54 p54 A54 => ?_)
  have A56 := (((((((((Ax2_0.st p11 rfl).st p15 rfl).st p17 rfl).st p29 rfl).st p37 rfl).st p42 rfl).st p45 rfl).st p49 rfl).st p54 rfl)
  refine apO sl29 A56 A54 rfl rfl rfl rfl rfl rfl rfl rfl rfl (fun v57 s57 p57 A57 => ?_)
  refine asg v57 rfl rfl rfl rfl rfl rfl ?_
  refine dn ?_
  refine ib ?_
  refine rg ?_
  refine pu rfl rfl rfl rfl rfl ?_
  refine pu rfl rfl rfl rfl rfl ?_
  refine dn ?_
  have K59 := ((((((((((Kx2.st p11 rfl).st p15 rfl).st p17 rfl).st p29 rfl).st p37 rfl).st p42 rfl).st p45 rfl).st p49 rfl).st p54 rfl).st p57 rfl)
  exact lb ih2 ⟨s57, _, v57, rfl, (ue (ue (ue (ue rfl rfl) rfl) rfl) rfl), K59, A57⟩
 ·
  refine xt rfl ?_
  refine sgb ?_
  refine sr ?_
  refine mv vx2_0 rfl rfl rfl rfl rfl rfl ?_
  refine asg vx2_0 rfl rfl rfl rfl rfl rfl ?_
  refine dn ?_
  exact re rfl Tryz.func77 rfl (r_t rfl r_nil) rfl ⟨_, rfl, Ax2_0.fo Kx2 rfl z.l, z.ky Kx2⟩
noncomputable def impl_Concurrent.f (a0 : Track) (a1 : Track) : Option (Bool) :=
 ((impl_Track_isActive.f a0).bind fun r13 => ((if (r13 || (decide (a0.Ended > a1.Begun))) = true then ((impl_Track_isActive.f a1).bind fun r23 => (some (r23 || (decide (a1.Ended > a0.Begun))))) else (some false)).bind fun y18 => (some y18)))
def impl_Concurrent.Q (w : World) (F : Nat → Prop) (r : Bool) (v : Value) (w' : World) : Prop :=
 v = (.bool r) ∧ Ky [] w w'
set_option maxHeartbeats 4000000 in
set_option maxRecDepth 100000 in
theorem impl_Concurrent.calls (a0 : Track) (a1 : Track) (w : World) (F : Nat → Prop) (w0_0 : Value) (w0_1 : Value) (w1_0 : Value) (w1_1 : Value) (h0_0 : (Kd.sl 200 kd200).rd w [w0_0] a0.Reads F) (h0_1 : (Kd.sl 33 kd33).rd w [w0_1] a0.Writes F) (h1_0 : (Kd.sl 200 kd200).rd w [w1_0] a1.Reads F) (h1_1 : (Kd.sl 33 kd33).rd w [w1_1] a1.Writes F) (r : Bool) (m : impl_Concurrent.f a0 a1 = some r) :
  Calls Tryz.prog 175 #[(.agg #[(.int .i64 a0.Xid), (.int .i64 a0.Begun), (.int .i64 a0.Ended), (.bool a0.All), w0_0, w0_1, (.bool a0.In), (.bool a0.Out)]), (.agg #[(.int .i64 a1.Xid), (.int .i64 a1.Begun), (.int .i64 a1.Ended), (.bool a1.All), w1_0, w1_1, (.bool a1.In), (.bool a1.Out)])] w fun en w' => ∃ v, en = .returned v ∧ impl_Concurrent.Q w F r v w' := by
 obtain ⟨s0, rfl, kp0, z⟩ := start0 w F
 have A0_0 := z.rd h0_0
 have A0_1 := z.rd h0_1
 have A1_0 := z.rd h1_0
 have A1_1 := z.rd h1_1
 refine calls_of_TM (args := [(.agg #[(.int .i64 a0.Xid), (.int .i64 a0.Begun), (.int .i64 a0.Ended), (.bool a0.All), w0_0, w0_1, (.bool a0.In), (.bool a0.Out)]), (.agg #[(.int .i64 a1.Xid), (.int .i64 a1.Begun), (.int .i64 a1.Ended), (.bool a1.All), w1_0, w1_1, (.bool a1.In), (.bool a1.Out)])]) (R := fun r en w' => ∃ v, en = .returned v ∧ impl_Concurrent.Q s0.w F r v w') Tryz.func175 Tryz.ntmps175 rfl rfl m ?_
 unfold impl_Concurrent.f
 refine sr ?_
 refine bx (cs := [(.int .i64 a0.Xid), (.int .i64 a0.Begun), (.int .i64 a0.Ended), (.bool a0.All), w0_0, w0_1, (.bool a0.In), (.bool a0.Out)]) 40 rfl rfl rfl rfl rfl rfl (fun b5 s5 p5 B5 => ?_)
 refine bx (cs := [(.int .i64 a1.Xid), (.int .i64 a1.Begun), (.int .i64 a1.Ended), (.bool a1.All), w1_0, w1_1, (.bool a1.In), (.bool a1.Out)]) 41 rfl rfl rfl rfl rfl rfl (fun b7 s7 p7 B7 => ?_)
 refine pu rfl rfl rfl rfl rfl ?_
 refine dn ?_
 refine sr ?_
 have A9 := (BlF.st B5 p7 rfl)
 refine lda (es := [(.int .i64 a0.Xid), (.int .i64 a0.Begun), (.int .i64 a0.Ended), (.bool a0.All), w0_0, w0_1, (.bool a0.In), (.bool a0.Out)]) A9 Tryz.underlying117 z117 rfl rfl rfl rfl rfl rfl rfl rfl ?_
 have K10 := ((kp0.st p5 rfl).st p7 rfl)
 have A11 := (A0_0.kp K10)
 have A12 := (A0_1.kp K10)
 refine cl rfl rfl rfl rfl rfl Tryz.func160 rfl rfl rfl (fun r13 m13 => impl_Track_isActive.calls a0 s7.w (fun b => memb [0] (s7.g b) = true) w0_0 w0_1 A11 A12 r13 m13) ?_
 rintro r13 _ w13 m13 ⟨rfl, ky13⟩
 obtain ⟨s14, rfl, p14, n14⟩ := nwx s7 w13 42 ky13
 refine pu rfl rfl rfl rfl rfl ?_
 refine jy [7, 8, 9, 10, 11, 12, 13] [9, 10, 11, 12, 13, 14, 15, 16, 17, 18, 19, 20] 13 (.bool (r13 || (decide (a0.Ended > a1.Begun)))) rfl (fun Kg15 => ?_) (fun j15 => ?_)
 ·
  rcases Bool.eq_false_or_eq_true r13 with hb15 | hb15
  ·
   refine sbT hb15 ?_
   refine uw rfl rfl rfl rfl ?_
   refine uw rfl rfl rfl rfl ?_
   refine uw rfl rfl rfl rfl ?_
   refine uw rfl rfl rfl rfl ?_
   refine uw rfl rfl rfl rfl ?_
   refine pu rfl rfl rfl rfl rfl ?_
   exact Kg15 _ (Ag.put ((Ag.put ((Ag.put ((Ag.put ((Ag.put ((Ag.put (Ag.base rfl) rfl)) rfl)) rfl)) rfl)) rfl)) rfl) (by rw [hb15]; rfl)
  ·
   refine sbT hb15 ?_
   refine fa fa117_2 rfl rfl rfl rfl rfl rfl ?_
   have A16 := (BlF.st A9 p14 rfl)
   refine ld A16 Tryz.underlying3 rfl rfl rfl rfl rfl rfl rfl rfl ?_
   refine fa fa117_1 rfl rfl rfl rfl rfl rfl ?_
   have A17 := (BlF.st B7 p14 rfl)
   refine ld A17 Tryz.underlying3 rfl rfl rfl rfl rfl rfl rfl rfl ?_
   refine pu rfl rfl rfl rfl rfl ?_
   refine pu rfl rfl rfl rfl rfl ?_
   exact Kg15 _ (Ag.put ((Ag.put ((Ag.put ((Ag.put ((Ag.put ((Ag.put (Ag.base rfl) rfl)) rfl)) rfl)) rfl)) rfl)) rfl) (by rw [hb15]; rfl)
 refine pu rfl rfl rfl rfl rfl ?_
 refine ji [20] (fun (y18 : Bool) (e : Env) (w : World) => ∃ (s : St) (e0 : Env), w = s.w ∧ e = upd e0 24 (.bool y18) ∧ Kp s0 s) (fun Gj18 Kj18 => ?_) ?_
 ·
  rcases Bool.eq_false_or_eq_true (r13 || (decide (a0.Ended > a1.Begun))) with hb18 | hb18
  ·
   refine sbT hb18 ?_
   rw [if_pos hb18]
   have A19 := (BlF.st B7 p14 rfl)
   refine lda (es := [(.int .i64 a1.Xid), (.int .i64 a1.Begun), (.int .i64 a1.Ended), (.bool a1.All), w1_0, w1_1, (.bool a1.In), (.bool a1.Out)]) A19 Tryz.underlying117 z117 rfl rfl rfl rfl rfl rfl rfl rfl ?_
   have K20 := (K10.st p14 rfl)
   have A21 := (A1_0.kp K20)
   have A22 := (A1_1.kp K20)
   refine cl rfl rfl rfl rfl rfl Tryz.func160 rfl rfl rfl (fun r23 m23 => impl_Track_isActive.calls a1 s14.w (fun b => memb [0] (s14.g b) = true) w1_0 w1_1 A21 A22 r23 m23) ?_
   rintro r23 _ w23 m23 ⟨rfl, ky23⟩
   obtain ⟨s24, rfl, p24, n24⟩ := nwx s14 w23 43 ky23
   refine pu rfl rfl rfl rfl rfl ?_
   refine jy [17, 18, 19, 20, 21, 22, 23] [19, 20] 23 (.bool (r23 || (decide (a1.Ended > a0.Begun)))) rfl (fun Kg25 => ?_) (fun j25 => ?_)
   ·
    rcases Bool.eq_false_or_eq_true r23 with hb25 | hb25
    ·
     refine sbT hb25 ?_
     refine uw rfl rfl rfl rfl ?_
     refine uw rfl rfl rfl rfl ?_
     refine uw rfl rfl rfl rfl ?_
     refine uw rfl rfl rfl rfl ?_
     refine uw rfl rfl rfl rfl ?_
     refine pu rfl rfl rfl rfl rfl ?_
     exact Kg25 _ (Ag.put ((Ag.put ((Ag.put ((Ag.put ((Ag.put ((Ag.put (Ag.base rfl) rfl)) rfl)) rfl)) rfl)) rfl)) rfl) (by rw [hb25]; rfl)
    ·
     refine sbT hb25 ?_
     refine fa fa117_2 rfl rfl rfl rfl rfl rfl ?_
     have A26 := (BlF.st A19 p24 rfl)
     refine ld A26 Tryz.underlying3 rfl rfl rfl rfl rfl rfl rfl rfl ?_
     refine fa fa117_1 rfl rfl rfl rfl rfl rfl ?_
     have A27 := (BlF.st (BlF.st A9 p14 rfl) p24 rfl)
     refine ld A27 Tryz.underlying3 rfl rfl rfl rfl rfl rfl rfl rfl ?_
     refine pu rfl rfl rfl rfl rfl ?_
     refine pu rfl rfl rfl rfl rfl ?_
     exact Kg25 _ (Ag.put ((Ag.put ((Ag.put ((Ag.put ((Ag.put ((Ag.put (Ag.base rfl) rfl)) rfl)) rfl)) rfl)) rfl)) rfl) (by rw [hb25]; rfl)
   refine pu rfl rfl rfl rfl rfl ?_
   have K28 := (K20.st p24 rfl)
   exact Kj18 _ _ _ ⟨s24, _, rfl, (ue rfl rfl), K28⟩
  ·
   refine sbT hb18 ?_
   rw [if_neg (by rw [hb18]; decide)]
   refine uw rfl rfl rfl rfl ?_
   refine uw rfl rfl rfl rfl ?_
   refine uw rfl rfl rfl rfl ?_
   refine uw rfl rfl rfl rfl ?_
   refine uw rfl rfl rfl rfl ?_
   refine uw rfl rfl rfl rfl ?_
   refine uw rfl rfl rfl rfl ?_
   refine uw rfl rfl rfl rfl ?_
   refine uw rfl rfl rfl rfl ?_
   refine pu rfl rfl rfl rfl rfl ?_
   have K29 := (K10.st p14 rfl)
   exact Kj18 _ _ _ ⟨s14, _, rfl, (ue rfl rfl), K29⟩
 rintro y18 _ _ ⟨s30, _, rfl, rfl, Ky18⟩
 refine pu rfl rfl rfl rfl rfl ?_
 refine dn ?_
 exact re rfl Tryz.func175 rfl (r_t rfl r_nil) rfl ⟨_, rfl, rfl, z.ky Ky18⟩
end Go.Proofs.YtcagjdngannneaaGreat
