/- The functions as models, and that the calls come to what the models tell. -/
import Derived.Test.YtegicanjlefmdaaGreatGsa
set_option linter.unusedVariables false
set_option linter.unusedSimpArgs false
set_option maxHeartbeats 4000000
set_option maxRecDepth 100000
noncomputable section
namespace Go.Proofs.YtegicanjlefmdaaGreat
open Go V Tryz
def spec_HeapPut.f (a0 : Heap) (a1 : Int) (a2 : Int) (a3 : Tuple) (a4 : Int) : Option (Heap × Bool) :=
 ((spec_HeapAt.f a0 a1 a2).bind fun r13 => ((spec_HeapOk.f a0).bind fun r27 => ((if (!r27) = true then (some true) else ((spec_TupleOk.f a3).bind fun r38 => (some (!r38)))).bind fun y29 => ((if (y29 || r13.2) = true then (some true) else ((spec_l5in.f a1 (0 : Int) (a0.Pages.length : Int)).bind fun r51 => (some (!r51)))).bind fun y49 => (if (y49 || (decide (a1 ≥ (16 : Int)))) = true then (some ((Heap.mk ([] : (List Page))), false)) else ((spec_l10copy.f a0).bind fun r69 => ((if (a1 == (r69.Pages.length : Int)) = true then (if r69.Pages.length + ([(Page.mk (0 : Int) ([] : (List (List Int))))]).length ≤ Lim then (some (r69.Pages ++ [(Page.mk (0 : Int) ([] : (List (List Int))))])) else none) else (some r69.Pages)).bind fun y78 => (if 0 ≤ a1 ∧ a1 < (y78.length : Int) then (((spec_TupleBytes.f a3).bind fun r126 => ((spec_PagePut.f (at_ y78 a1) a2 r126 a4).bind fun r136 => (some (r136.1.Lsn, r136.1.Slots, r136.2)))).bind fun y118 => (if (!y118.2.2) = true then (some ((Heap.mk ([] : (List Page))), false)) else (if 0 ≤ a1 ∧ a1 < (y78.length : Int) then (some ((Heap.mk (y78.set (a1).toNat (Page.mk y118.1 y118.2.1))), true)) else none))) else none))))))))
def spec_HeapPut.Q (w : World) (F : Nat → Prop) (r : Heap × Bool) (v : Value) (w' : World) : Prop :=
 ∃ (v0 : Value), v = .tuple #[(.agg #[v0]), (.bool r.2)] ∧ FO kd26 w w' [v0] r.1 ∧ Ky [] w w'
theorem spec_HeapPut.calls (a0 : Heap) (a1 : Int) (a2 : Int) (a3 : Tuple) (a4 : Int) (w : World) (F : Nat → Prop) (w0_0 : Value) (w3_0 : Value) (w3_1 : Value) (w3_2 : Value) (w3_3 : Value) (h0_0 : Yt.rd w [w0_0] a0.Pages F) (h3_0 : Kd.flt.rd w [w3_0] a3.Key.F F) (h3_1 : Yr.rd w [w3_1] a3.Key.T F) (h3_2 : Kd.flt.rd w [w3_2] a3.Value.F F) (h3_3 : Yr.rd w [w3_3] a3.Value.T F) (r : Heap × Bool) (m : spec_HeapPut.f a0 a1 a2 a3 a4 = some r) :
  Calls prog 13 #[(.agg #[w0_0]), (iI a1), (iI a2), (.agg #[(iI a3.Xmin), (iI a3.Xmax), (iI a3.Key.Kind), (iI a3.Key.N), w3_0, w3_1, (iI a3.Value.Kind), (iI a3.Value.N), w3_2, w3_3]), (iI a4)] w (RT (spec_HeapPut.Q w F) r) := by
 obtain ⟨s0, rfl, kp0, z⟩ := Xl w F
 have A0_0 := z.rd h0_0
 have A3_0 := Yq h3_0
 have A3_1 := z.rd h3_1
 have A3_2 := Yq h3_2
 have A3_3 := z.rd h3_3
 refine Xd (args := [(.agg #[w0_0]), (iI a1), (iI a2), (.agg #[(iI a3.Xmin), (iI a3.Xmax), (iI a3.Key.Kind), (iI a3.Key.N), w3_0, w3_1, (iI a3.Value.Kind), (iI a3.Value.N), w3_2, w3_3]), (iI a4)]) func13 ntmps13 rfl m ?_
 unfold spec_HeapPut.f
 refine sr (bx' (cs := [w0_0]) 40 rfl rfl (fun b4 s4 p4 B4 => ?_))
 refine bx' (cs := [(iI a3.Xmin), (iI a3.Xmax), (iI a3.Key.Kind), (iI a3.Key.N), w3_0, w3_1, (iI a3.Value.Kind), (iI a3.Value.N), w3_2, w3_3]) 41 rfl rfl (fun b6 s6 p6 B6 => ?_)
 refine al' (cs := [(.slice none 0 0)]) 42 rfl o26 rfl (fun b8 s8 p8 B8 => ?_)
 refine Xc rfl (dn (sr ?_))
 have A10 := B4.st (Xn p6 p8) rfl
 refine Ya (es := [w0_0]) A10 u26 z26 rfl (Xc rfl (Xc rfl ?_))
 have K11 := kp0.st (Yi p4 p6 p8) rfl
 refine cl' rfl func82 rfl (spec_HeapAt.calls a0 a1 a2 s8.w (mm [0] s8) w0_0 (A0_0.kp K11)) ?_
 rintro r13 _ w13 m13 ⟨v13_0, v13_1, v13_2, v13_3, rfl, f13_0, ky13⟩
 obtain ⟨s14, rfl, p14, n14⟩ := nwx s8 w13 43 ky13
 obtain ⟨s15, hw15, p15, hu13_0_0, Au13_0_1, hu13_0_2, Au13_0_3⟩ := ap31 44 (f13_0.c n14) rfl
 rw [hw15]
 refine Xc rfl (Xc (v := (.agg #[(iI r13.1.Xmin), (iI r13.1.Xmax), (iI r13.1.Key.Kind), (iI r13.1.Key.N), v13_0, v13_1, (iI r13.1.Value.Kind), (iI r13.1.Value.N), v13_2, v13_3])) rfl (Xc (v := (.bool r13.2)) rfl (al' (cs := [(iI 0), (iI 0), (iI 0), (iI 0), (.float .f64 0), (.slice none 0 0), (iI 0), (iI 0), (.float .f64 0), (.slice none 0 0)]) 45 rfl o31 rfl (fun b18 s18 p18 B18 => ?_))))
 refine Xx (vs := [(iI r13.1.Xmin), (iI r13.1.Xmax), (iI r13.1.Key.Kind), (iI r13.1.Key.N), v13_0, v13_1, (iI r13.1.Value.Kind), (iI r13.1.Value.N), v13_2, v13_3]) B18 z31 rfl (Xb rfl (Xb rfl (Xb rfl (Xb rfl (Xb (FL.one hu13_0_0) (Xb (Au13_0_1.st p18 rfl).rd.one (Xb rfl (Xb rfl (Xb (FL.one hu13_0_2) (Xb (Au13_0_3.st p18 rfl).rd.one Xj)))))))))) rfl (fun s22 p22 B22 => ?_)
 refine Xc rfl (dn (sq (sr ?_)))
 have A24 := A10.st (Yo p14 p15 p18 p22) rfl
 refine Ya (es := [w0_0]) A24 u26 z26 rfl ?_
 have K25 := K11.st (Yo p14 p15 p18 p22) rfl
 refine Yn 46 rfl func30 rfl (spec_HeapOk.calls a0 s22.w (mm [0] s22) w0_0 (A0_0.kp K25)) (fun r27 s28 p28 n28 => ?_)
 refine Xc rfl (Xc rfl (ji [8, 9, 10, 11, 12, 13, 14, 15, 16, 17, 18, 19, 20, 21, 22] (fun (y29 : Bool) e w => ∃ (s : St) (e0 : Env), w = s.w ∧ e = upd (upd (upd (upd (upd (upd (upd (upd e0 1 (iI a1)) 2 (iI a2)) 4 (iI a4)) 5 (pB b4)) 8 (pB b6)) 10 (pB b8)) 13 (.bool r13.2)) 31 (.bool y29) ∧ Kp s0 s ∧ BlF s b8 26 [(.slice none 0 0)] 42 ∧ BlF s b6 31 [(iI a3.Xmin), (iI a3.Xmax), (iI a3.Key.Kind), (iI a3.Key.N), w3_0, w3_1, (iI a3.Value.Kind), (iI a3.Value.N), w3_2, w3_3] 41 ∧ BlF s b4 26 [w0_0] 40) (fun Gj29 Kj29 => ?_) ?_))
 ·
  rcases bft (!r27) with hb29 | hb29
  ·
   refine Yb hb29 ?_
   rw [if_pos hb29]
   refine Xk rfl (Xk rfl (Xk rfl (Xc rfl ?_)))
   exact Kj29 _ _ _ ⟨s28, _, rfl, (ue (ue (ue (ue (ue (ue (ue (ue rfl rfl) rfl) rfl) rfl) rfl) rfl) rfl) rfl), (K25.st p28 rfl), (B8.st (tr5 p14 p15 p18 p22 p28) rfl), (B6.st (tr6 p8 p14 p15 p18 p22 p28) rfl), (A24.st p28 rfl)⟩
  refine Yb hb29 ?_
  rw [if_neg (by rw [hb29]; decide)]
  have A34 := B6.st (tr6 p8 p14 p15 p18 p22 p28) rfl
  refine Ya (es := [(iI a3.Xmin), (iI a3.Xmax), (iI a3.Key.Kind), (iI a3.Key.N), w3_0, w3_1, (iI a3.Value.Kind), (iI a3.Value.N), w3_2, w3_3]) A34 u31 z31 rfl ?_
  have K35 := K25.st p28 rfl
  refine Yn 47 rfl func29 rfl (spec_TupleOk.calls a3 s28.w (mm [0] s28) w3_0 w3_1 w3_2 w3_3 ((Xq (s := s28) A3_0).sub (D := [0]) rfl) (A3_1.kp K35) ((Xq (s := s28) A3_2).sub (D := [0]) rfl) (A3_3.kp K35)) (fun r38 s39 p39 n39 => ?_)
  refine Xc rfl (Xc rfl ?_)
  exact Kj29 _ _ _ ⟨s39, _, rfl, (ue (ue (ue (ue (ue (ue (ue (ue rfl rfl) rfl) rfl) rfl) rfl) rfl) rfl) rfl), (K35.st p39 rfl), (B8.st (tr6 p14 p15 p18 p22 p28 p39) rfl), (A34.st p39 rfl), (A24.st (Xn p28 p39) rfl)⟩
 rintro y29 _ _ ⟨s44, _, rfl, rfl, Ky29, By29_b8, By29_b6, By29_b4⟩
 refine Xc rfl (jy [32, 33, 34] [11, 12, 13, 14, 15, 16, 17, 18, 19, 20, 21, 22] 34 (.bool (y29 || r13.2)) rfl (fun Kg48 => ?_) (fun j48 => ?_))
 ·
  rcases bft y29 with hb48 | hb48
  ·
   exact Yb hb48 (Xk rfl (Xc rfl (Kg48 _ (Ag.put ((Ag.put (Ag.base rfl) rfl)) rfl) (by rw [hb48]; rfl))))
  exact Yb hb48 (Xc rfl (Xc rfl (Kg48 _ (Ag.put ((Ag.put (Ag.base rfl) rfl)) rfl) (by rw [hb48]; rfl))))
 refine Xc rfl (ji [19, 20, 21, 22] (fun (y49 : Bool) e w => ∃ (s : St) (e0 : Env), w = s.w ∧ e = upd (upd (upd (upd (upd (upd (upd e0 1 (iI a1)) 2 (iI a2)) 4 (iI a4)) 5 (pB b4)) 8 (pB b6)) 10 (pB b8)) 42 (.bool y49) ∧ Kp s0 s ∧ BlF s b8 26 [(.slice none 0 0)] 42 ∧ BlF s b6 31 [(iI a3.Xmin), (iI a3.Xmax), (iI a3.Key.Kind), (iI a3.Key.N), w3_0, w3_1, (iI a3.Value.Kind), (iI a3.Value.N), w3_2, w3_3] 41 ∧ BlF s b4 26 [w0_0] 40) (fun Gj49 Kj49 => ?_) ?_)
 ·
  rcases bft (y29 || r13.2) with hb49 | hb49
  ·
   refine Yb hb49 ?_
   rw [if_pos hb49]
   exact Xk rfl (Xk rfl (Xk rfl (Xk rfl (Xk rfl (Xk rfl (Xc rfl (Kj49 _ _ _ ⟨s44, _, rfl, (ue (ue (ue (ue (ue (ue (ue rfl rfl) rfl) rfl) rfl) rfl) rfl) rfl), Ky29, By29_b8, By29_b6, By29_b4⟩)))))))
  refine Yb hb49 ?_
  rw [if_neg (by rw [hb49]; decide)]
  refine Xc rfl (Ye fa26_0 rfl (Yl By29_b4 u24 rfl ?_))
  refine ln' (A0_0.kp Ky29) u24 rfl (Yn 48 rfl func83 rfl (spec_l5in.calls a1 (0 : Int) (a0.Pages.length : Int) s44.w (mm [] s44)) (fun r51 s52 p52 n52 => ?_))
  refine Xc rfl (Xc rfl ?_)
  exact Kj49 _ _ _ ⟨s52, _, rfl, (ue (ue (ue (ue (ue (ue (ue rfl rfl) rfl) rfl) rfl) rfl) rfl) rfl), (Ky29.st p52 rfl), (By29_b8.st p52 rfl), (By29_b6.st p52 rfl), (By29_b4.st p52 rfl)⟩
 rintro y49 _ _ ⟨s57, _, rfl, rfl, Ky49, By49_b8, By49_b6, By49_b4⟩
 refine Xc rfl (jy [43, 44, 45, 46] [] 46 (.bool (y49 || (decide (a1 ≥ (16 : Int))))) rfl (fun Kg61 => ?_) (fun j61 => ?_))
 ·
  rcases bft y49 with hb61 | hb61
  ·
   exact Yb hb61 (Xk rfl (Xk rfl (Xc rfl (Kg61 _ (Ag.put ((Ag.put ((Ag.put (Ag.base rfl) rfl)) rfl)) rfl) (by rw [hb61]; rfl)))))
  exact Yb hb61 (Xc rfl (Xc rfl (Xc rfl (Kg61 _ (Ag.put ((Ag.put ((Ag.put (Ag.base rfl) rfl)) rfl)) rfl) (by rw [hb61]; rfl)))))
 refine dn (cd rfl (fun h62 => ?_) (fun h62 => ?_))
 ·
  refine sr (bd' (cells := [(.slice none 0 0)]) pl26 o26 rfl rfl (Xx (vs := [(.slice none 0 0)]) By49_b8 z26 rfl (Xb rfl Xj) rfl (fun s63 p63 B63 => ?_)))
  refine Xc rfl (dn ?_)
  have A65 : OwF kd26 s63 [(.slice none 0 0)] (Heap.mk ([] : (List Page))) 49 := ow_z _ _ (Yj (fun x : Heap => (x.Pages)) (Heap.mk ([] : (List Page))) (Yk 116 kd116))
  have K67 := Ky49.st p63 rfl
  exact re rfl func13 rfl (r_b B63 u26 rfl z26 rfl (Xu rfl Xe)) rfl ⟨_, rfl, (.slice none 0 0), rfl, A65.fo K67 rfl z.l, z.ky K67⟩
 refine sk (sr (Ya (es := [w0_0]) By49_b4 u26 z26 rfl ?_))
 refine cl' rfl func84 rfl (spec_l10copy.calls a0 s57.w (mm [0] s57) w0_0 (A0_0.kp Ky49)) ?_
 rintro r69 _ w69 m69 ⟨v69_0, rfl, f69_0, ky69⟩
 obtain ⟨s70, rfl, p70, n70⟩ := nwx s57 w69 50 ky69
 refine al' (cs := [(.slice none 0 0)]) 51 rfl o26 rfl (fun b72 s72 p72 B72 => ?_)
 have A74 := (ap26 (f69_0.c n70)).st p72 rfl
 refine Xx (vs := [v69_0]) B72 z26 rfl (Xb A74.rd.one Xj) rfl (fun s75 p75 B75 => ?_)
 refine dn (sq (sr (Xc rfl (Ye fa26_0 rfl (Yl B75 u24 rfl ?_)))))
 have A77 := A74.st p75 rfl
 refine ln' A77.rd u24 rfl (Xc rfl (dn (jc (fun (y78 : (List Page)) e w => ∃ (s : St) (e0 : Env) (vy78_0 : Value), w = s.w ∧ e = upd (upd (upd (upd (upd (upd e0 1 (iI a1)) 2 (iI a2)) 4 (iI a4)) 8 (pB b6)) 10 (pB b8)) 14 (pB b72) ∧ Kp s0 s ∧ OwF Yt s [vy78_0] y78 50 ∧ BlF s b72 26 [vy78_0] 51 ∧ BlF s b8 26 [(.slice none 0 0)] 42 ∧ BlF s b6 31 [(iI a3.Xmin), (iI a3.Xmax), (iI a3.Key.Kind), (iI a3.Key.N), w3_0, w3_1, (iI a3.Value.Kind), (iI a3.Value.N), w3_2, w3_3] 41) (fun Gj78 Kj78 => ?_) ?_)))
 ·
  refine cd rfl (fun h79 => ?_) (fun h79 => ?_)
  ·
   refine rg (Ye fa26_0 rfl (Yl B75 u24 rfl (bd' (cells := [(iI 0), (.slice none 0 0)]) pl116 o116 rfl rfl ?_)))
   have A80 : OwF kd116 s75 [(iI 0), (.slice none 0 0)] (Page.mk (0 : Int) ([] : (List (List Int)))) 53 := ow_z _ _ (Yj (fun x : Page => (x.Lsn, x.Slots)) (Page.mk (0 : Int) ([] : (List (List Int)))) (Xi (Xf .i64 (0 : Int)) (Yk 22 Yr)))
   refine ltO' (K := kd116) (cells := [(iI 0), (.slice none 0 0)]) [(Page.mk (0 : Int) ([] : (List (List Int))))] 53 u24 z116 o116 (lo_one A80) rfl rfl (fun v83 s83 p83 A83 => ?_)
   refine apO' sl24 (A77.st p83 rfl) A83 rfl (fun v86 s86 p86 A86 => ?_)
   refine Ye fa26_0 rfl (sv' (B75.st (Xn p83 p86) rfl) z24 rfl A86.rd.one rfl (fun s89 p89 B89 => ?_))
   exact dn (Kj78 _ _ _ ⟨s89, _, v86, rfl, (ue (ue (ue (ue (ue (ue rfl rfl) rfl) rfl) rfl) rfl) rfl), (Ky49.st (tr6 p70 p72 p75 p83 p86 p89) rfl), (A86.st p89 rfl), B89, (By49_b8.st (tr6 p70 p72 p75 p83 p86 p89) rfl), (By49_b6.st (tr6 p70 p72 p75 p83 p86 p89) rfl)⟩)
  exact sk (Kj78 _ _ _ ⟨s75, _, v69_0, rfl, (ue (ue (ue (ue (ue (ue rfl rfl) rfl) rfl) rfl) rfl) rfl), (Ky49.st (Yi p70 p72 p75) rfl), A77, B75, (By49_b8.st (Yi p70 p72 p75) rfl), (By49_b6.st (Yi p70 p72 p75) rfl)⟩)
 rintro y78 _ _ ⟨s98, _, vy78_0, rfl, rfl, Ky78, Ay78_0, By78_b72, By78_b8, By78_b6⟩
 refine sq (zdraw [[], [0], [], [1, 2], [3], [], [], [6], [], [4, 5, 7, 8, 7], [9], [10], [10], [], [13, 11, 9, 0, 1, 2, 3, 4, 5, 6, 7, 8, 9, 10, 11, 13], [12, 14, 0, 1, 2, 3, 4, 5, 6, 7, 8, 9, 10, 11, 12, 13, 14]] [some 62, some 63, some 64, some 65, some 66, some 67, some 68, some 69, some 70, some 71, some 61, some 72, some 73, some 15, none, some 16] [[14], [62], [1], [63, 64], [65], [2], [8], [68], [4], [66, 67, 69, 70], [71], [61], [61], [], [15, 72], [73]] [0, 1, 2, 3, 4, 5, 6, 7, 8, 9, 10, 11, 14, 12, 13, 15] ⟨by kernel_rfl, by kernel_rfl, by kernel_rfl⟩ (by kernel_rfl) (fun s103 p103 l103 tb103 zd103 => ?_))
 have A108 := Ay78_0.st p103 rfl
 refine mg fun hg109 => ?_
 obtain ⟨ad109, es109, he109, ce109, ia109⟩ := ix_e A108.rd rfl hg109.1 hg109.2
 obtain ⟨v109_0, rfl, A109_0⟩ := op116 he109
 refine ji [15] (fun (y118 : Int × (List (List Int)) × Bool) e w => ∃ (s : St) (e0 : Env) (vy118_0 : Value) (by118_0 : Nat), w = s.w ∧ e = upd (upd (upd (upd (upd e0 1 (iI a1)) 10 (pB b8)) 14 (pB b72)) 15 (pB by118_0)) 73 (.bool y118.2.2) ∧ Kp s0 s ∧ OwF (Kd.sl 22 Yr) s [vy118_0] y118.2.1 54 ∧ BlF s b72 26 [vy78_0] 51 ∧ BlF s b8 26 [(.slice none 0 0)] 42 ∧ BlF s by118_0 116 [(iI y118.1), vy118_0] 55 ∧ OwF Yt s [vy78_0] y78 50) (fun Gj118 Kj118 => ?_) ?_
 ·
  refine zstep2 7 13 [some 70, some 67, some 66, some 65, some 64, some 63, some 62] [some 70, some 68, some 67, some 66, some 65, some 64, some 63, some 62] tb103 ((((((((zd103.add 0 62 (pB b72) rfl).add 1 63 vy78_0 rfl).add 2 64 (iI a1) rfl).add 3 65 (.pointer (some ad109)) rfl).add 4 66 (.agg #[(iI ((at_ y78 a1).Lsn)), v109_0]) rfl).add 5 67 (iI a2) rfl).add 6 68 (.agg #[(iI a3.Xmin), (iI a3.Xmax), (iI a3.Key.Kind), (iI a3.Key.N), w3_0, w3_1, (iI a3.Value.Kind), (iI a3.Value.N), w3_2, w3_3]) rfl).add 8 70 (iI a4) rfl) (Xa (Xh rfl) rfl (Xa (Yg (es := [(iI a3.Xmin), (iI a3.Xmax), (iI a3.Key.Kind), (iI a3.Key.N), w3_0, w3_1, (iI a3.Value.Kind), (iI a3.Value.N), w3_2, w3_3]) (By78_b6.st p103 rfl) u31 z31 rfl) rfl (Xa (Xh rfl) rfl (Xa (lca_q ce109 u116 z116 rfl rfl rfl rfl rfl rfl rfl) rfl (Xa (ix_q A108.rd u24 z116 hg109.1 hg109.2 ia109 rfl rfl rfl rfl rfl rfl rfl) rfl (Xa (Xh rfl) rfl (Xa (Xp (By78_b72.st p103 rfl) u24 rfl) rfl (Xa (Xo fa26_0 rfl) rfl Xg)))))))) (by kernel_rfl) (by kernel_rfl) (fun l119 e119 zd119 => ?_) (fun l120 e120 zd120 => ?_)
  ·
   have K123 := Ky78.st p103 rfl
   refine clO 56 rfl func32 rfl (spec_TupleBytes.calls a3 s103.w (mm [0] s103) w3_0 w3_1 w3_2 w3_3 ((Xq (s := s103) A3_0).sub (D := [0]) rfl) (A3_1.kp K123) ((Xq (s := s103) A3_2).sub (D := [0]) rfl) (A3_3.kp K123)) (fun r126 v126_0 s127 p127 A126_0 => ?_)
   refine Xm (L' := [8, 5, 4, 3, 2, 1, 0]) (D' := [6, 7]) zd119 rfl (fun zd129 => ?_)
   have A133 := A108.st p127 rfl
   refine zstep2 9 13 [] [some 70, some 67, some 66, some 65, some 64, some 63, some 62] tb103 zd129 (Xa (Xh rfl) rfl (Xa (Xh rfl) rfl (Xa (lca_q (ce109.st p127 rfl rfl) u116 z116 rfl rfl rfl rfl rfl rfl rfl) rfl (Xa (ix_q A133.rd u24 z116 hg109.1 hg109.2 ia109 rfl rfl rfl rfl rfl rfl rfl) rfl (Xa (Xh rfl) rfl (Xa (Xp (By78_b72.st (Xn p103 p127) rfl) u24 rfl) rfl (Xa (Xo fa26_0 rfl) rfl Xg))))))) (by kernel_rfl) (by kernel_rfl) (fun l130 e130 zd130 => ?_) (fun l131 e131 zd131 => ?_)
   ·
    refine cl' rfl func85 rfl (spec_PagePut.calls (at_ y78 a1) a2 r126 a4 s127.w (mm [50, 56] s127) v109_0 v126_0 ((A109_0.st p127 rfl).sub (D := [50, 56]) rfl) (A126_0.rd.sub (D := [50, 56]) rfl)) ?_
    rintro r136 _ w136 m136 ⟨v136_0, rfl, f136_0, ky136⟩
    obtain ⟨s137, rfl, p137, n137⟩ := nwx s127 w136 57 ky136
    refine Xm (L' := []) (D' := [0, 1, 2, 3, 4, 5, 8, 9, 6, 7]) zd130 rfl (fun zd139 => ?_)
    refine Xt 13 [some 73, some 72, some 61] tb103 (((zd139.add 10 61 (.tuple #[(.agg #[(iI r136.1.Lsn), v136_0]), (.bool r136.2)]) rfl).add 11 72 (.agg #[(iI r136.1.Lsn), v136_0]) rfl).add 12 73 (.bool r136.2) rfl) (Xa (Xh (v := (.bool r136.2)) rfl) rfl (Xa (Xh (v := (.agg #[(iI r136.1.Lsn), v136_0])) rfl) rfl (Xa (Xh rfl) rfl Xg))) (by kernel_rfl) rfl (fun l143 e143 zd143 => ?_)
    refine al' (cs := [(iI 0), (.slice none 0 0)]) 58 rfl o116 rfl (fun b144 s144 p144 B144 => ?_)
    refine Xm (L' := [12, 11, 10]) (D' := [13, 0, 1, 2, 3, 4, 5, 8, 9, 6, 7]) zd143 rfl (fun zd146 => ?_)
    refine Xt 14 [some 73] tb103 zd146 (Xa (Xh (v := (.bool r136.2)) rfl) rfl (Xa (Xh (v := (.agg #[(iI r136.1.Lsn), v136_0])) rfl) rfl (Xa (Xh rfl) rfl Xg))) (by kernel_rfl) rfl (fun l147 e147 zd147 => ?_)
    have A148 := (ap116 (f136_0.c n137)).st p144 rfl
    refine Xx (vs := [(iI r136.1.Lsn), v136_0]) B144 z116 rfl (Xb rfl (Xb A148.rd.one Xj)) rfl (fun s149 p149 B149 => ?_)
    refine zdone0 (L' := [12]) (D' := [11, 10, 11, 14, 13, 0, 1, 2, 3, 4, 5, 8, 9, 6, 7]) zd147 rfl rfl rfl (fun zd151 => ?_)
    refine Yp [15] tb103 zd151 (Xa (Xh (v := (.bool r136.2)) rfl) rfl Xg) (by kernel_rfl) (by decide) ?_
    obtain ⟨s152, hw152, p152, D152⟩ := BlF.rc B149 55 rfl
    rw [hw152]
    obtain ⟨s155, hw155, p155, A155⟩ := (A148.st (Xn p149 p152) rfl).rc 54 rfl
    rw [hw155]
    exact Kj118 _ _ _ ⟨s155, _, v136_0, b144, rfl, (ue (ue (ue (ue (ue rfl rfl) rfl) rfl) rfl) rfl), (K123.st (tr6 p127 p137 p144 p149 p152 p155) rfl), A155, (By78_b72.st (tr7 p103 p127 p137 p144 p149 p152 p155) rfl), (By78_b8.st (tr7 p103 p127 p137 p144 p149 p152 p155) rfl), (D152.st p155 rfl), (A133.st (tr5 p137 p144 p149 p152 p155) rfl)⟩
   refine al' (cs := [(iI 0), (.slice none 0 0)]) 59 rfl o116 rfl (fun b161 s161 p161 B161 => ?_)
   refine Xm (L' := [8, 5, 4, 3, 2, 1, 0]) (D' := [13, 6, 7]) zd131 rfl (fun zd163 => ?_)
   have A166 := A133.st p161 rfl
   refine Xt 9 [] tb103 zd163 (Xa (Xh rfl) rfl (Xa (Xh rfl) rfl (Xa (lca_q (ce109.st (Xn p127 p161) rfl rfl) u116 z116 rfl rfl rfl rfl rfl rfl rfl) rfl (Xa (ix_q A166.rd u24 z116 hg109.1 hg109.2 ia109 rfl rfl rfl rfl rfl rfl rfl) rfl (Xa (Xh rfl) rfl (Xa (Xp (By78_b72.st (Yi p103 p127 p161) rfl) u24 rfl) rfl (Xa (Xo fa26_0 rfl) rfl Xg))))))) (by kernel_rfl) rfl (fun l164 e164 zd164 => ?_)
   refine cl' rfl func85 rfl (spec_PagePut.calls (at_ y78 a1) a2 r126 a4 s161.w (mm [50, 56] s161) v109_0 v126_0 ((A109_0.st (Xn p127 p161) rfl).sub (D := [50, 56]) rfl) ((A126_0.st p161 rfl).rd.sub (D := [50, 56]) rfl)) ?_
   rintro r170 _ w170 m170 ⟨v170_0, rfl, f170_0, ky170⟩
   obtain ⟨s171, rfl, p171, n171⟩ := nwx s161 w170 60 ky170
   have Au170_0_0 := ap116 (f170_0.c n171)
   refine Xm (L' := []) (D' := [0, 1, 2, 3, 4, 5, 8, 9, 13, 6, 7]) zd164 rfl (fun zd173 => ?_)
   refine Xt 14 [some 73] tb103 (((zd173.add 10 61 (.tuple #[(.agg #[(iI r170.1.Lsn), v170_0]), (.bool r170.2)]) rfl).add 11 72 (.agg #[(iI r170.1.Lsn), v170_0]) rfl).add 12 73 (.bool r170.2) rfl) (Xa (Xh (v := (.bool r170.2)) rfl) rfl (Xa (Xh (v := (.agg #[(iI r170.1.Lsn), v170_0])) rfl) rfl (Xa (Xh rfl) rfl Xg))) (by kernel_rfl) rfl (fun l177 e177 zd177 => ?_)
   refine Xx (vs := [(iI r170.1.Lsn), v170_0]) (B161.st p171 rfl) z116 rfl (Xb rfl (Xb Au170_0_0.rd.one Xj)) rfl (fun s179 p179 B179 => ?_)
   refine zdone0 (L' := [12]) (D' := [11, 10, 11, 14, 0, 1, 2, 3, 4, 5, 8, 9, 13, 6, 7]) zd177 rfl rfl rfl (fun zd181 => ?_)
   refine Yp [15] tb103 zd181 (Xa (Xh (v := (.bool r170.2)) rfl) rfl Xg) (by kernel_rfl) (by decide) ?_
   obtain ⟨s182, hw182, p182, D182⟩ := BlF.rc B179 55 rfl
   rw [hw182]
   obtain ⟨s185, hw185, p185, A185⟩ := (Au170_0_0.st (Xn p179 p182) rfl).rc 54 rfl
   rw [hw185]
   exact Kj118 _ _ _ ⟨s185, _, v170_0, b161, rfl, (ue (ue (ue (ue (ue rfl rfl) rfl) rfl) rfl) rfl), (K123.st (tr6 p127 p161 p171 p179 p182 p185) rfl), A185, (By78_b72.st (tr7 p103 p127 p161 p171 p179 p182 p185) rfl), (By78_b8.st (tr7 p103 p127 p161 p171 p179 p182 p185) rfl), (D182.st p185 rfl), (A166.st (Yo p171 p179 p182 p185) rfl)⟩
  refine al' (cs := [(iI 0), (.slice none 0 0)]) 61 rfl o116 rfl (fun b191 s191 p191 B191 => ?_)
  refine Xm (L' := [8, 6, 5, 4, 3, 2, 1, 0]) (D' := [13]) zd120 rfl (fun zd193 => ?_)
  have A196 := A108.st p191 rfl
  refine Xt 7 [some 70, some 67, some 66, some 65, some 64, some 63, some 62] tb103 zd193 (Xa (Xh rfl) rfl (Xa (Yg (es := [(iI a3.Xmin), (iI a3.Xmax), (iI a3.Key.Kind), (iI a3.Key.N), w3_0, w3_1, (iI a3.Value.Kind), (iI a3.Value.N), w3_2, w3_3]) (By78_b6.st (Xn p103 p191) rfl) u31 z31 rfl) rfl (Xa (Xh rfl) rfl (Xa (lca_q (ce109.st p191 rfl rfl) u116 z116 rfl rfl rfl rfl rfl rfl rfl) rfl (Xa (ix_q A196.rd u24 z116 hg109.1 hg109.2 ia109 rfl rfl rfl rfl rfl rfl rfl) rfl (Xa (Xh rfl) rfl (Xa (Xp (By78_b72.st (Xn p103 p191) rfl) u24 rfl) rfl (Xa (Xo fa26_0 rfl) rfl Xg)))))))) (by kernel_rfl) rfl (fun l194 e194 zd194 => ?_)
  have K199 := Ky78.st (Xn p103 p191) rfl
  refine clO 62 rfl func32 rfl (spec_TupleBytes.calls a3 s191.w (mm [0] s191) w3_0 w3_1 w3_2 w3_3 ((Xq (s := s191) A3_0).sub (D := [0]) rfl) (A3_1.kp K199) ((Xq (s := s191) A3_2).sub (D := [0]) rfl) (A3_3.kp K199)) (fun r202 v202_0 s203 p203 A202_0 => ?_)
  refine Xm (L' := [8, 5, 4, 3, 2, 1, 0]) (D' := [6, 7, 13]) zd194 rfl (fun zd205 => ?_)
  have A208 := A196.st p203 rfl
  refine Xt 9 [] tb103 zd205 (Xa (Xh rfl) rfl (Xa (Xh rfl) rfl (Xa (lca_q (ce109.st (Xn p191 p203) rfl rfl) u116 z116 rfl rfl rfl rfl rfl rfl rfl) rfl (Xa (ix_q A208.rd u24 z116 hg109.1 hg109.2 ia109 rfl rfl rfl rfl rfl rfl rfl) rfl (Xa (Xh rfl) rfl (Xa (Xp (By78_b72.st (Yi p103 p191 p203) rfl) u24 rfl) rfl (Xa (Xo fa26_0 rfl) rfl Xg))))))) (by kernel_rfl) rfl (fun l206 e206 zd206 => ?_)
  refine cl' rfl func85 rfl (spec_PagePut.calls (at_ y78 a1) a2 r202 a4 s203.w (mm [50, 62] s203) v109_0 v202_0 ((A109_0.st (Xn p191 p203) rfl).sub (D := [50, 62]) rfl) (A202_0.rd.sub (D := [50, 62]) rfl)) ?_
  rintro r211 _ w211 m211 ⟨v211_0, rfl, f211_0, ky211⟩
  obtain ⟨s212, rfl, p212, n212⟩ := nwx s203 w211 63 ky211
  have Au211_0_0 := ap116 (f211_0.c n212)
  refine Xm (L' := []) (D' := [0, 1, 2, 3, 4, 5, 8, 9, 6, 7, 13]) zd206 rfl (fun zd214 => ?_)
  refine Xt 14 [some 73] tb103 (((zd214.add 10 61 (.tuple #[(.agg #[(iI r211.1.Lsn), v211_0]), (.bool r211.2)]) rfl).add 11 72 (.agg #[(iI r211.1.Lsn), v211_0]) rfl).add 12 73 (.bool r211.2) rfl) (Xa (Xh (v := (.bool r211.2)) rfl) rfl (Xa (Xh (v := (.agg #[(iI r211.1.Lsn), v211_0])) rfl) rfl (Xa (Xh rfl) rfl Xg))) (by kernel_rfl) rfl (fun l218 e218 zd218 => ?_)
  refine Xx (vs := [(iI r211.1.Lsn), v211_0]) (B191.st (Xn p203 p212) rfl) z116 rfl (Xb rfl (Xb Au211_0_0.rd.one Xj)) rfl (fun s220 p220 B220 => ?_)
  refine zdone0 (L' := [12]) (D' := [11, 10, 11, 14, 0, 1, 2, 3, 4, 5, 8, 9, 6, 7, 13]) zd218 rfl rfl rfl (fun zd222 => ?_)
  refine Yp [15] tb103 zd222 (Xa (Xh (v := (.bool r211.2)) rfl) rfl Xg) (by kernel_rfl) (by decide) ?_
  obtain ⟨s223, hw223, p223, D223⟩ := BlF.rc B220 55 rfl
  rw [hw223]
  obtain ⟨s226, hw226, p226, A226⟩ := (Au211_0_0.st (Xn p220 p223) rfl).rc 54 rfl
  rw [hw226]
  exact Kj118 _ _ _ ⟨s226, _, v211_0, b191, rfl, (ue (ue (ue (ue (ue rfl rfl) rfl) rfl) rfl) rfl), (K199.st (tr5 p203 p212 p220 p223 p226) rfl), A226, (By78_b72.st (tr7 p103 p191 p203 p212 p220 p223 p226) rfl), (By78_b8.st (tr7 p103 p191 p203 p212 p220 p223 p226) rfl), (D223.st p226 rfl), (A208.st (Yo p212 p220 p223 p226) rfl)⟩
 rintro y118 _ _ ⟨s232, _, vy118_0, by118_0, rfl, rfl, Ky118, Ay118_0, By118_b72, By118_b8, Dy118_0, Cy118_99⟩
 refine Xc rfl (dn (sq (sr (Xc rfl (Xc rfl (dn (cd rfl (fun h237 => ?_) (fun h237 => ?_))))))))
 ·
  refine sr (bd' (cells := [(.slice none 0 0)]) pl26 o26 rfl rfl (Xx (vs := [(.slice none 0 0)]) By118_b8 z26 rfl (Xb rfl Xj) rfl (fun s238 p238 B238 => ?_)))
  refine Xc rfl (dn ?_)
  have A240 : OwF kd26 s238 [(.slice none 0 0)] (Heap.mk ([] : (List Page))) 64 := ow_z _ _ (Yj (fun x : Heap => (x.Pages)) (Heap.mk ([] : (List Page))) (Yk 116 kd116))
  have K242 := Ky118.st p238 rfl
  exact re rfl func13 rfl (r_b B238 u26 rfl z26 rfl (Xu rfl Xe)) rfl ⟨_, rfl, (.slice none 0 0), rfl, A240.fo K242 rfl z.l, z.ky K242⟩
 refine sk (sr (Ye fa26_0 rfl (Yl By118_b72 u24 rfl (Xc rfl (Ya (es := [(iI y118.1), vy118_0]) Dy118_0 u116 z116 rfl (ix' Cy118_99.rd u24 z116 rfl (fun ad243 es243 h0_243 h1_243 he243 ce243 ia243 => ?_)))))))
 obtain ⟨v243_0, rfl, A243_0⟩ := op116 he243
 have A246 : OwF kd116 s232 [(iI y118.1), vy118_0] (Page.mk y118.1 y118.2.1) 54 := (Xs (fun x : Page => (x.Lsn, x.Slots)) (Page.mk y118.1 y118.2.1) (Xy (Xf .i64 y118.1) Ay118_0))
 refine som (x' := (Page.mk y118.1 y118.2.1)) Cy118_99 ia243 h0_243 h1_243 A246 rfl rfl z116 rfl rfl rfl rfl rfl rfl (fun s248 p248 A248 => ?_)
 refine dn (sr ?_)
 refine Ya (es := [vy78_0]) (By118_b72.st p248 rfl) u26 z26 rfl (Xx (vs := [vy78_0]) (By118_b8.st p248 rfl) z26 rfl (Xb A248.rd.one Xj) rfl (fun s252 p252 B252 => ?_))
 refine Xc rfl (dn ?_)
 have A254 : OwF kd26 s252 [vy78_0] (Heap.mk (y78.set (a1).toNat (Page.mk y118.1 y118.2.1))) 50 := (Xs (fun x : Heap => (x.Pages)) (Heap.mk (y78.set (a1).toNat (Page.mk y118.1 y118.2.1))) (A248.st p252 rfl))
 have K257 := Ky118.st (Xn p248 p252) rfl
 exact re rfl func13 rfl (r_b B252 u26 rfl z26 rfl (Xu rfl Xe)) rfl ⟨_, rfl, vy78_0, rfl, A254.fo K257 rfl z.l, z.ky K257⟩
def spec_HeapRows.b1 (a0 : Heap) (x10 : (List Row) × Int) (x18 : (List Row) × Int) : Option (((List Row) × Int) ⊕ ((List Row) × Int ⊕ (List Row))) :=
 (if 0 ≤ x10.2 ∧ x10.2 < (a0.Pages.length : Int) then (if (decide (x18.2 < (((at_ a0.Pages x10.2).Slots).length : Int))) = true then (if 0 ≤ x10.2 ∧ x10.2 < (a0.Pages.length : Int) then (if 0 ≤ x18.2 ∧ x18.2 < (((at_ a0.Pages x10.2).Slots).length : Int) then ((spec_TupleRead.f (at_ ((at_ a0.Pages x10.2).Slots) x18.2)).bind fun r33 => ((if r33.2 = true then (if x18.1.length + ([(Row.mk x10.2 x18.2 r33.1)]).length ≤ Lim then (some (x18.1 ++ [(Row.mk x10.2 x18.2 r33.1)])) else none) else (some x18.1)).bind fun y44 => (some (Sum.inl (y44, (IntKind.wrap .i64 (x18.2 + (1 : Int)))))))) else none) else none) else ((some (Sum.inl (x18.1, (IntKind.wrap .i64 (x10.2 + (1 : Int)))))).bind fun o => some (Sum.inr o))) else none)
def spec_HeapRows.b0 (a0 : Heap) (x10 : (List Row) × Int) : Option (((List Row) × Int) ⊕ (List Row)) :=
 (if (decide (x10.2 < (a0.Pages.length : Int))) = true then (iter (spec_HeapRows.b1 a0 x10) (x10.1, (0 : Int))) else ((some x10.1).bind fun o => some (Sum.inr o)))
def spec_HeapRows.f (a0 : Heap) : Option ((List Row)) :=
 ((spec_HeapOk.f a0).bind fun r6 => (if (!r6) = true then (some ([] : (List Row))) else (iter (spec_HeapRows.b0 a0) (([] : (List Row)), (0 : Int)))))
def spec_HeapRows.Q (w : World) (F : Nat → Prop) (r : (List Row)) (v : Value) (w' : World) : Prop :=
 FO Yu w w' [v] r ∧ Ky [] w w'
theorem spec_HeapRows.calls (a0 : Heap) (w : World) (F : Nat → Prop) (w0_0 : Value) (h0_0 : Yt.rd w [w0_0] a0.Pages F) (r : (List Row)) (m : spec_HeapRows.f a0 = some r) :
  Calls prog 11 #[(.agg #[w0_0])] w (RT (spec_HeapRows.Q w F) r) := by
 obtain ⟨s0, rfl, kp0, z⟩ := Xl w F
 have A0_0 := z.rd h0_0
 refine Xd (args := [(.agg #[w0_0])]) func11 ntmps11 rfl m ?_
 unfold spec_HeapRows.f
 refine sr (bx' (cs := [w0_0]) 40 rfl rfl (fun b2 s2 p2 B2 => ?_))
 refine Xc rfl (dn (sr (Xc rfl (dn (sq (sr (Ya (es := [w0_0]) B2 u26 z26 rfl ?_)))))))
 have K4 := kp0.st p2 rfl
 refine Yn 41 rfl func30 rfl (spec_HeapOk.calls a0 s2.w (mm [0] s2) w0_0 (A0_0.kp K4)) (fun r6 s7 p7 n7 => ?_)
 refine Xc rfl (dn (cd rfl (fun h8 => ?_) (fun h8 => ?_)))
 ·
  refine sr (Xc rfl (Xc rfl (dn ?_)))
  have K9 := K4.st p7 rfl
  exact re rfl func11 rfl (Xu rfl Xe) rfl ⟨_, rfl, (Ym 47 kd47 s7 40).fo K9 rfl z.l, z.ky K9⟩
 refine sk (sq (sr (Xc rfl (dn (bl ?_)))))
 refine lpI (fun (x10 : (List Row) × Int) e w => ∃ (s : St) (e0 : Env) (vx10_0 : Value), w = s.w ∧ e = upd (upd (upd e0 1 (pB b2)) 3 vx10_0) 4 (iI x10.2) ∧ Kp s0 s ∧ OwF Yu s [vx10_0] x10.1 43 ∧ BlF s b2 26 [w0_0] 40) ⟨s7, _, (.slice none 0 0), rfl, (ue (ue (ue rfl rfl) rfl) rfl), (K4.st p7 rfl), (Ym 47 kd47 _ 43), (B2.st p7 rfl)⟩ (fun g10 ih10 => ?_)
 rintro x10 _ _ ⟨s13, _, vx10_0, rfl, rfl, Kx10, Ax10_0, Bx10_b2⟩
 unfold spec_HeapRows.b0
 refine sq (sr (Xc rfl (Ye fa26_0 rfl (Yl Bx10_b2 u24 rfl ?_))))
 refine ln' (A0_0.kp Kx10) u24 rfl (Xc rfl (dn (cd rfl (fun h17 => ?_) (fun h17 => ?_))))
 ·
  refine sk (sq (bl (sr (Xc rfl (dn (bl (lpI (fun (x18 : (List Row) × Int) e w => ∃ (s : St) (e0 : Env) (vx18_0 : Value), w = s.w ∧ e = upd (upd (upd (upd e0 1 (pB b2)) 3 vx18_0) 4 (iI x10.2)) 5 (iI x18.2) ∧ Kp s0 s ∧ OwF Yu s [vx18_0] x18.1 43 ∧ BlF s b2 26 [w0_0] 40) ⟨s13, _, vx10_0, rfl, (ue (ue (ue (ue rfl rfl) rfl) rfl) rfl), Kx10, Ax10_0, Bx10_b2⟩ (fun g18 ih18 => ?_))))))))
  rintro x18 _ _ ⟨s19, _, vx18_0, rfl, rfl, Kx18, Ax18_0, Bx18_b2⟩
  unfold spec_HeapRows.b1
  refine sq (sr (Xc rfl (Ye fa26_0 rfl (Yl Bx18_b2 u24 rfl (Xc rfl ?_)))))
  have A22 := A0_0.kp Kx18
  refine ix' A22 u24 z116 rfl (fun ad23 es23 h0_23 h1_23 he23 ce23 ia23 => ?_)
  obtain ⟨v23_0, rfl, A23_0⟩ := op116 he23
  refine Ye fa116_1 rfl (lc ce23 u114 rfl rfl rfl rfl rfl rfl rfl rfl (ln' A23_0 u114 rfl (Xc rfl (dn (cd rfl (fun h26 => ?_) (fun h26 => ?_))))))
  ·
   refine sk (sq (bl (sr (Ye fa26_0 rfl (Yl Bx18_b2 u24 rfl (Xc rfl (ix' A22 u24 z116 rfl (fun ad27 es27 h0_27 h1_27 he27 ce27 ia27 => ?_))))))))
   obtain ⟨v27_0, rfl, A27_0⟩ := op116 he27
   refine Ye fa116_1 rfl (lc ce27 u114 rfl rfl rfl rfl rfl rfl rfl rfl (Xc rfl (ix' A27_0 u114 z22 rfl (fun ad30 es30 h0_30 h1_30 he30 ce30 ia30 => ?_))))
   obtain ⟨v30, rfl, he30'⟩ := he30
   have A30 : RdF Yr s19 [v30] (at_ ((at_ a0.Pages x10.2).Slots) x18.2) [0] := ⟨v30, rfl, he30'⟩
   refine lc0' ce30 u22 rfl (cl' rfl func77 rfl (spec_TupleRead.calls (at_ ((at_ a0.Pages x10.2).Slots) x18.2) s19.w (mm [0] s19) v30 A30) ?_)
   rintro r33 _ w33 m33 ⟨v33_0, v33_1, v33_2, v33_3, rfl, f33_0, ky33⟩
   obtain ⟨s34, rfl, p34, n34⟩ := nwx s19 w33 44 ky33
   obtain ⟨s35, hw35, p35, hu33_0_0, Au33_0_1, hu33_0_2, Au33_0_3⟩ := ap31 45 (f33_0.c n34) rfl
   rw [hw35]
   refine Xc rfl (Xc (v := (.agg #[(iI r33.1.Xmin), (iI r33.1.Xmax), (iI r33.1.Key.Kind), (iI r33.1.Key.N), v33_0, v33_1, (iI r33.1.Value.Kind), (iI r33.1.Value.N), v33_2, v33_3])) rfl (Xc (v := (.bool r33.2)) rfl (al' (cs := [(iI 0), (iI 0), (iI 0), (iI 0), (.float .f64 0), (.slice none 0 0), (iI 0), (iI 0), (.float .f64 0), (.slice none 0 0)]) 46 rfl o31 rfl (fun b38 s38 p38 B38 => ?_))))
   have A40 := Au33_0_3.st p38 rfl
   have A41 := Au33_0_1.st p38 rfl
   refine Xx (vs := [(iI r33.1.Xmin), (iI r33.1.Xmax), (iI r33.1.Key.Kind), (iI r33.1.Key.N), v33_0, v33_1, (iI r33.1.Value.Kind), (iI r33.1.Value.N), v33_2, v33_3]) B38 z31 rfl (Xb rfl (Xb rfl (Xb rfl (Xb rfl (Xb (FL.one hu33_0_0) (Xb A41.rd.one (Xb rfl (Xb rfl (Xb (FL.one hu33_0_2) (Xb A40.rd.one Xj)))))))))) rfl (fun s42 p42 B42 => ?_)
   refine Xc rfl (dn (sr (Xc rfl (dn (jc (fun (y44 : (List Row)) e w => ∃ (s : St) (e0 : Env) (vy44_0 : Value), w = s.w ∧ e = upd (upd (upd (upd e0 1 (pB b2)) 3 vy44_0) 4 (iI x10.2)) 5 (iI x18.2) ∧ Kp s0 s ∧ OwF Yu s [vy44_0] y44 43 ∧ BlF s b2 26 [w0_0] 40) (fun Gj44 Kj44 => ?_) ?_)))))
   ·
    refine cd rfl (fun h45 => ?_) (fun h45 => ?_)
    ·
     refine rg (Yc vx18_0 rfl (Xc rfl (Xc rfl (Ya (es := [(iI r33.1.Xmin), (iI r33.1.Xmax), (iI r33.1.Key.Kind), (iI r33.1.Key.N), v33_0, v33_1, (iI r33.1.Value.Kind), (iI r33.1.Value.N), v33_2, v33_3]) B42 u31 z31 rfl (bd' (cells := [(iI x10.2), (iI x18.2), (iI r33.1.Xmin), (iI r33.1.Xmax), (iI r33.1.Key.Kind), (iI r33.1.Key.N), v33_0, v33_1, (iI r33.1.Value.Kind), (iI r33.1.Value.N), v33_2, v33_3]) pl47 o47 rfl rfl ?_)))))
     obtain ⟨s48, hw48, p48, A48⟩ := ow_2 (Xs (fun x : Item => (x.Kind, x.N, x.F, x.T)) r33.1.Key (Xy (Xf .i64 r33.1.Key.Kind) (Xy (Xf .i64 r33.1.Key.N) (Xy (Xz hu33_0_0) (A41.st p42 rfl))))) (Xs (fun x : Item => (x.Kind, x.N, x.F, x.T)) r33.1.Value (Xy (Xf .i64 r33.1.Value.Kind) (Xy (Xf .i64 r33.1.Value.N) (Xy (Xz hu33_0_2) (A40.st p42 rfl))))) rfl rfl
     rw [hw48]
     have A50 : OwF kd47 s48 [(iI x10.2), (iI x18.2), (iI r33.1.Xmin), (iI r33.1.Xmax), (iI r33.1.Key.Kind), (iI r33.1.Key.N), v33_0, v33_1, (iI r33.1.Value.Kind), (iI r33.1.Value.N), v33_2, v33_3] (Row.mk x10.2 x18.2 r33.1) 44 := (Xs (fun x : Row => (x.Page, x.Slot, x.Tuple)) (Row.mk x10.2 x18.2 r33.1) (Xy (Xf .i64 x10.2) (Xy (Xf .i64 x18.2) (Xs (fun x : Tuple => (x.Xmin, x.Xmax, x.Key, x.Value)) r33.1 (Xy (Xf .i64 r33.1.Xmin) (Xy (Xf .i64 r33.1.Xmax) A48))))))
     refine ltO' (K := kd47) (cells := [(iI x10.2), (iI x18.2), (iI r33.1.Xmin), (iI r33.1.Xmax), (iI r33.1.Key.Kind), (iI r33.1.Key.N), v33_0, v33_1, (iI r33.1.Value.Kind), (iI r33.1.Value.N), v33_2, v33_3]) [(Row.mk x10.2 x18.2 r33.1)] 44 u34 z47 o47 (lo_one A50) rfl rfl (fun v53 s53 p53 A53 => ?_)
     refine apO' sl34 (Ax18_0.st (tr6 p34 p35 p38 p42 p48 p53) rfl) A53 rfl (fun v56 s56 p56 A56 => ?_)
     refine Yh v56 rfl (dn ?_)
     exact Kj44 _ _ _ ⟨s56, _, v56, rfl, (ue (ue (ue (ue rfl rfl) rfl) rfl) rfl), (Kx18.st (tr7 p34 p35 p38 p42 p48 p53 p56) rfl), A56, (Bx18_b2.st (tr7 p34 p35 p38 p42 p48 p53 p56) rfl)⟩
    exact sk (Kj44 _ _ _ ⟨s42, _, vx18_0, rfl, (ue (ue (ue (ue rfl rfl) rfl) rfl) rfl), (Kx18.st (Yo p34 p35 p38 p42) rfl), (Ax18_0.st (Yo p34 p35 p38 p42) rfl), (Bx18_b2.st (Yo p34 p35 p38 p42) rfl)⟩)
   rintro y44 _ _ ⟨s63, _, vy44_0, rfl, rfl, Ky44, Ay44_0, By44_b2⟩
   exact ib (rg (Xc rfl (Xc rfl (Xc rfl (dn (lb ih18 ⟨s63, _, vy44_0, rfl, (ue (ue (ue (ue rfl rfl) rfl) rfl) rfl), Ky44, Ay44_0, By44_b2⟩))))))
  exact xt rfl (sgb (ib (rg (Xc rfl (Xc rfl (Xc rfl (dn (lb ih10 ⟨s19, _, vx18_0, rfl, (ue (ue (ue rfl rfl) rfl) rfl), Kx18, Ax18_0, Bx18_b2⟩))))))))
 exact xt rfl (sgb (sr (Yc vx10_0 rfl (Yh vx10_0 rfl (dn (re rfl func11 rfl (Xu rfl Xe) rfl ⟨_, rfl, Ax10_0.fo Kx10 rfl z.l, z.ky Kx10⟩))))))
def spec_PageClear.b0 (a2 : Int) (x61 : (List (List Int))) : Option ((List (List Int)) ⊕ (Page × Bool)) :=
 ((if (decide ((x61.length : Int) > (0 : Int))) = true then (if 0 ≤ (IntKind.wrap .i64 ((x61.length : Int) - (1 : Int))) ∧ (IntKind.wrap .i64 ((x61.length : Int) - (1 : Int))) < (x61.length : Int) then (some (((at_ x61 (IntKind.wrap .i64 ((x61.length : Int) - (1 : Int)))).length : Int) == (0 : Int))) else none) else (some false)).bind fun y69 => (if y69 = true then (if 0 ≤ (IntKind.wrap .i64 ((x61.length : Int) - (1 : Int))) ∧ (IntKind.wrap .i64 ((x61.length : Int) - (1 : Int))) ≤ (x61.length : Int) then (some (Sum.inl (x61.take ((IntKind.wrap .i64 ((x61.length : Int) - (1 : Int)))).toNat))) else none) else ((some ((Page.mk a2 x61), true)).bind fun o => some (Sum.inr o))))
def spec_PageClear.f (a0 : Page) (a1 : Int) (a2 : Int) : Option (Page × Bool) :=
 ((spec_PageUsed.f a0).bind fun r9 => ((if (decide (r9 < (0 : Int))) = true then (some true) else ((spec_l5in.f a1 (0 : Int) (IntKind.wrap .i64 ((a0.Slots.length : Int) - (1 : Int)))).bind fun r18 => (some (!r18)))).bind fun y11 => ((if y11 = true then (some true) else ((spec_l5in.f a2 (1 : Int) (1000000 : Int)).bind fun r27 => (some (!r27)))).bind fun y26 => (if y26 = true then (some ((Page.mk (0 : Int) ([] : (List (List Int)))), false)) else ((spec_l7copy.f a0).bind fun r42 => (if 0 ≤ a1 ∧ a1 < (r42.Slots.length : Int) then (iter (spec_PageClear.b0 a2) (r42.Slots.set (a1).toNat ([] : (List Int)))) else none))))))
def spec_PageClear.Q (w : World) (F : Nat → Prop) (r : Page × Bool) (v : Value) (w' : World) : Prop :=
 ∃ (v0 : Value), v = .tuple #[(.agg #[(iI r.1.Lsn), v0]), (.bool r.2)] ∧ FO kd116 w w' [(iI r.1.Lsn), v0] r.1 ∧ Ky [] w w'
theorem spec_PageClear.calls (a0 : Page) (a1 : Int) (a2 : Int) (w : World) (F : Nat → Prop) (w0_0 : Value) (h0_0 : (Kd.sl 22 Yr).rd w [w0_0] a0.Slots F) (r : Page × Bool) (m : spec_PageClear.f a0 a1 a2 = some r) :
  Calls prog 219 #[(.agg #[(iI a0.Lsn), w0_0]), (iI a1), (iI a2)] w (RT (spec_PageClear.Q w F) r) := by
 obtain ⟨s0, rfl, kp0, z⟩ := Xl w F
 have A0_0 := z.rd h0_0
 refine Xd (args := [(.agg #[(iI a0.Lsn), w0_0]), (iI a1), (iI a2)]) func219 ntmps219 rfl m ?_
 unfold spec_PageClear.f
 refine sr (bx' (cs := [(iI a0.Lsn), w0_0]) 40 rfl rfl (fun b2 s2 p2 B2 => ?_))
 refine al' (cs := [(iI 0), (.slice none 0 0)]) 41 rfl o116 rfl (fun b4 s4 p4 B4 => ?_)
 refine Xc rfl (dn (sq (sr ?_)))
 have A6 := B2.st p4 rfl
 refine Ya (es := [(iI a0.Lsn), w0_0]) A6 u116 z116 rfl ?_
 have K7 := kp0.st (Xn p2 p4) rfl
 refine Yn 42 rfl func107 rfl (spec_PageUsed.calls a0 s4.w (mm [0] s4) w0_0 (A0_0.kp K7)) (fun r9 s10 p10 n10 => ?_)
 refine Xc rfl (Xc rfl (ji [12, 13, 14, 15, 16] (fun (y11 : Bool) e w => ∃ (s : St) (e0 : Env), w = s.w ∧ e = upd (upd (upd (upd (upd e0 1 (iI a1)) 2 (iI a2)) 3 (pB b2)) 6 (pB b4)) 20 (.bool y11) ∧ Kp s0 s ∧ BlF s b4 116 [(iI 0), (.slice none 0 0)] 41 ∧ BlF s b2 116 [(iI a0.Lsn), w0_0] 40) (fun Gj11 Kj11 => ?_) ?_))
 ·
  rcases bft (decide (r9 < (0 : Int))) with hb11 | hb11
  ·
   refine Yb hb11 ?_
   rw [if_pos hb11]
   refine Xk rfl (Xk rfl (Xk rfl (Xk rfl (Xk rfl (Xk rfl (Xk rfl (Xc rfl ?_)))))))
   exact Kj11 _ _ _ ⟨s10, _, rfl, (ue (ue (ue (ue (ue rfl rfl) rfl) rfl) rfl) rfl), (K7.st p10 rfl), (B4.st p10 rfl), (A6.st p10 rfl)⟩
  refine Yb hb11 ?_
  rw [if_neg (by rw [hb11]; decide)]
  refine Xc rfl (Ye fa116_1 rfl ?_)
  have A15 := A6.st p10 rfl
  refine Yl A15 u114 rfl ?_
  have K16 := K7.st p10 rfl
  refine ln' (A0_0.kp K16) u114 rfl (Xc rfl (Yn 43 rfl func83 rfl (spec_l5in.calls a1 (0 : Int) (IntKind.wrap .i64 ((a0.Slots.length : Int) - (1 : Int))) s10.w (mm [] s10)) (fun r18 s19 p19 n19 => ?_)))
  refine Xc rfl (Xc rfl ?_)
  exact Kj11 _ _ _ ⟨s19, _, rfl, (ue (ue (ue (ue (ue rfl rfl) rfl) rfl) rfl) rfl), (K16.st p19 rfl), (B4.st (Xn p10 p19) rfl), (A15.st p19 rfl)⟩
 rintro y11 _ _ ⟨s23, _, rfl, rfl, Ky11, By11_b4, By11_b2⟩
 refine Xc rfl (ji [] (fun (y26 : Bool) e w => ∃ (s : St) (e0 : Env), w = s.w ∧ e = upd (upd (upd (upd (upd e0 1 (iI a1)) 2 (iI a2)) 3 (pB b2)) 6 (pB b4)) 25 (.bool y26) ∧ Kp s0 s ∧ BlF s b4 116 [(iI 0), (.slice none 0 0)] 41 ∧ BlF s b2 116 [(iI a0.Lsn), w0_0] 40) (fun Gj26 Kj26 => ?_) ?_)
 ·
  rcases bft y11 with hb26 | hb26
  ·
   refine Yb hb26 ?_
   rw [if_pos hb26]
   exact Xk rfl (Xk rfl (Xk rfl (Xc rfl (Kj26 _ _ _ ⟨s23, _, rfl, (ue (ue (ue (ue (ue rfl rfl) rfl) rfl) rfl) rfl), Ky11, By11_b4, By11_b2⟩))))
  refine Yb hb26 ?_
  rw [if_neg (by rw [hb26]; decide)]
  refine Xc rfl (Yn 44 rfl func83 rfl (spec_l5in.calls a2 (1 : Int) (1000000 : Int) s23.w (mm [] s23)) (fun r27 s28 p28 n28 => ?_))
  refine Xc rfl (Xc rfl ?_)
  exact Kj26 _ _ _ ⟨s28, _, rfl, (ue (ue (ue (ue (ue rfl rfl) rfl) rfl) rfl) rfl), (Ky11.st p28 rfl), (By11_b4.st p28 rfl), (By11_b2.st p28 rfl)⟩
 rintro y26 _ _ ⟨s32, _, rfl, rfl, Ky26, By26_b4, By26_b2⟩
 refine dn (cd rfl (fun h35 => ?_) (fun h35 => ?_))
 ·
  refine sr (bd' (cells := [(iI 0), (.slice none 0 0)]) pl116 o116 rfl rfl (Xx (vs := [(iI 0), (.slice none 0 0)]) By26_b4 z116 rfl (Xb rfl (Xb rfl Xj)) rfl (fun s36 p36 B36 => ?_)))
  refine Xc rfl (dn ?_)
  have A38 : OwF kd116 s36 [(iI 0), (.slice none 0 0)] (Page.mk (0 : Int) ([] : (List (List Int)))) 45 := ow_z _ _ (Yj (fun x : Page => (x.Lsn, x.Slots)) (Page.mk (0 : Int) ([] : (List (List Int)))) (Xi (Xf .i64 (0 : Int)) (Yk 22 Yr)))
  have K40 := Ky26.st p36 rfl
  exact re rfl func219 rfl (r_b B36 u116 rfl z116 rfl (Xu rfl Xe)) rfl ⟨_, rfl, (.slice none 0 0), rfl, A38.fo K40 rfl z.l, z.ky K40⟩
 refine sk (sr (Ya (es := [(iI a0.Lsn), w0_0]) By26_b2 u116 z116 rfl ?_))
 refine cl' rfl func176 rfl (spec_l7copy.calls a0 s32.w (mm [0] s32) w0_0 (A0_0.kp Ky26)) ?_
 rintro r42 _ w42 m42 ⟨v42_0, rfl, f42_0, ky42⟩
 obtain ⟨s43, rfl, p43, n43⟩ := nwx s32 w42 46 ky42
 refine al' (cs := [(iI 0), (.slice none 0 0)]) 47 rfl o116 rfl (fun b45 s45 p45 B45 => ?_)
 have A47 := (ap116 (f42_0.c n43)).st p45 rfl
 refine Xx (vs := [(iI r42.Lsn), v42_0]) B45 z116 rfl (Xb rfl (Xb A47.rd.one Xj)) rfl (fun s48 p48 B48 => ?_)
 refine dn (sr (Ye fa116_1 rfl (Yl B48 u114 rfl (Xc rfl ?_))))
 have A50 := A47.st p48 rfl
 refine ix' A50.rd u114 z22 rfl (fun ad51 es51 h0_51 h1_51 he51 ce51 ia51 => ?_)
 obtain ⟨v51, rfl, he51'⟩ := he51
 have A51 : RdF Yr s48 [v51] (at_ r42.Slots a1) [46] := ⟨v51, rfl, he51'⟩
 have A54 : OwF Yr s48 [(.slice none 0 0)] ([] : (List Int)) 48 := ow_z _ _ (Yk 5 (Kd.int .u8))
 refine sog (x' := ([] : (List Int))) lg_id A50 ia51 h0_51 h1_51 A54 rfl rfl z22 rfl rfl rfl rfl rfl rfl (fun s56 p56 A56 => ?_)
 refine dn (sr (Xc rfl (Ye fa116_0 rfl ?_)))
 refine sv' (B48.st p56 rfl) z3 rfl rfl rfl (fun s59 p59 B59 => ?_)
 refine dn (sq (bl ?_))
 refine lpI (fun (x61 : (List (List Int))) e w => ∃ (s : St) (e0 : Env) (vx61_0 : Value), w = s.w ∧ e = upd (upd e0 6 (pB b4)) 8 (pB b45) ∧ Kp s0 s ∧ OwF (Kd.sl 22 Yr) s [vx61_0] x61 46 ∧ BlF s b45 116 [(iI a2), vx61_0] 47 ∧ BlF s b4 116 [(iI 0), (.slice none 0 0)] 41) ⟨s59, _, v42_0, rfl, (ue (ue rfl rfl) rfl), (Ky26.st (tr5 p43 p45 p48 p56 p59) rfl), (A56.st p59 rfl), B59, (By26_b4.st (tr5 p43 p45 p48 p56 p59) rfl)⟩ (fun g61 ih61 => ?_)
 rintro x61 _ _ ⟨s65, _, vx61_0, rfl, rfl, Kx61, Ax61_0, Bx61_b45, Bx61_b4⟩
 unfold spec_PageClear.b0
 refine sq (sr (Ye fa116_1 rfl (Yl Bx61_b45 u114 rfl (ln' Ax61_0.rd u114 rfl (Xc rfl (Xc rfl (ji [] (fun (y69 : Bool) e w => ∃ (s : St) (e0 : Env), w = s.w ∧ e = upd (upd (upd e0 6 (pB b4)) 8 (pB b45)) 50 (.bool y69) ∧ Kp s0 s ∧ BlF s b45 116 [(iI a2), vx61_0] 47 ∧ BlF s b4 116 [(iI 0), (.slice none 0 0)] 41 ∧ OwF (Kd.sl 22 Yr) s [vx61_0] x61 46) (fun Gj69 Kj69 => ?_) ?_)))))))
 ·
  rcases bft (decide ((x61.length : Int) > (0 : Int))) with hb69 | hb69
  ·
   refine Yb hb69 ?_
   rw [if_pos hb69]
   refine Ye fa116_1 rfl (Yl Bx61_b45 u114 rfl (Ye fa116_1 rfl (Yl Bx61_b45 u114 rfl (ln' Ax61_0.rd u114 rfl (Xc rfl (ix' Ax61_0.rd u114 z22 rfl (fun ad70 es70 h0_70 h1_70 he70 ce70 ia70 => ?_)))))))
   obtain ⟨v70, rfl, he70'⟩ := he70
   have A70 : RdF Yr s65 [v70] (at_ x61 (IntKind.wrap .i64 ((x61.length : Int) - (1 : Int)))) [46] := ⟨v70, rfl, he70'⟩
   exact lc0' ce70 u22 rfl (ln' A70 u22 rfl (Xc rfl (Xc rfl (Kj69 _ _ _ ⟨s65, _, rfl, (ue (ue (ue rfl rfl) rfl) rfl), Kx61, Bx61_b45, Bx61_b4, Ax61_0⟩))))
  refine Yb hb69 ?_
  rw [if_neg (by rw [hb69]; decide)]
  exact Xk rfl (Xk rfl (Xk rfl (Xk rfl (Xk rfl (Xk rfl (Xk rfl (Xk rfl (Xk rfl (Xk rfl (Xc rfl (Kj69 _ _ _ ⟨s65, _, rfl, (ue (ue (ue rfl rfl) rfl) rfl), Kx61, Bx61_b45, Bx61_b4, Ax61_0⟩)))))))))))
 rintro y69 _ _ ⟨s73, _, rfl, rfl, Ky69, By69_b45, By69_b4, Cy69_66⟩
 refine dn (cd rfl (fun h76 => ?_) (fun h76 => ?_))
 ·
  refine sk (bl (rg (Ye fa116_1 rfl (Yl By69_b45 u114 rfl (Ye fa116_1 rfl (Yl By69_b45 u114 rfl (ln' Cy69_66.rd u114 rfl (Xc rfl (slO Cy69_66 u114 z22 rfl rfl rfl rfl rfl rfl rfl (fun v77 A77 => ?_))))))))))
  refine Ye fa116_1 rfl (sv' By69_b45 z114 rfl A77.rd.one rfl (fun s79 p79 B79 => ?_))
  refine dn (ib ?_)
  exact lb ih61 ⟨s79, _, v77, rfl, (ue (ue rfl rfl) rfl), (Ky69.st p79 rfl), (A77.st p79 rfl), B79, (By69_b4.st p79 rfl)⟩
 refine xt rfl (sgb (sr (Ya (es := [(iI a2), vx61_0]) By69_b45 u116 z116 rfl (Xx (vs := [(iI a2), vx61_0]) By69_b4 z116 rfl (Xb rfl (Xb Cy69_66.rd.one Xj)) rfl (fun s84 p84 B84 => ?_)))))
 refine Xc rfl (dn ?_)
 have A86 : OwF kd116 s84 [(iI a2), vx61_0] (Page.mk a2 x61) 46 := (Xs (fun x : Page => (x.Lsn, x.Slots)) (Page.mk a2 x61) (Xy (Xf .i64 a2) (Cy69_66.st p84 rfl)))
 have K89 := Ky69.st p84 rfl
 exact re rfl func219 rfl (r_b B84 u116 rfl z116 rfl (Xu rfl Xe)) rfl ⟨_, rfl, vx61_0, rfl, A86.fo K89 rfl z.l, z.ky K89⟩
def spec_HeapClear.f (a0 : Heap) (a1 : Int) (a2 : Int) (a3 : Int) : Option (Heap × Bool) :=
 ((spec_HeapAt.f a0 a1 a2).bind fun r9 => ((if (!r9.2) = true then (some true) else ((spec_l5in.f a3 (1 : Int) (1000000 : Int)).bind fun r24 => (some (!r24)))).bind fun y20 => (if y20 = true then (some ((Heap.mk ([] : (List Page))), false)) else ((spec_l10copy.f a0).bind fun r39 => (if 0 ≤ a1 ∧ a1 < (r39.Pages.length : Int) then ((spec_PageClear.f (at_ r39.Pages a1) a2 a3).bind fun r51 => (if 0 ≤ a1 ∧ a1 < (r39.Pages.length : Int) then (some ((Heap.mk (r39.Pages.set (a1).toNat r51.1)), true)) else none)) else none)))))
def spec_HeapClear.Q (w : World) (F : Nat → Prop) (r : Heap × Bool) (v : Value) (w' : World) : Prop :=
 ∃ (v0 : Value), v = .tuple #[(.agg #[v0]), (.bool r.2)] ∧ FO kd26 w w' [v0] r.1 ∧ Ky [] w w'
theorem spec_HeapClear.calls (a0 : Heap) (a1 : Int) (a2 : Int) (a3 : Int) (w : World) (F : Nat → Prop) (w0_0 : Value) (h0_0 : Yt.rd w [w0_0] a0.Pages F) (r : Heap × Bool) (m : spec_HeapClear.f a0 a1 a2 a3 = some r) :
  Calls prog 141 #[(.agg #[w0_0]), (iI a1), (iI a2), (iI a3)] w (RT (spec_HeapClear.Q w F) r) := by
 obtain ⟨s0, rfl, kp0, z⟩ := Xl w F
 have A0_0 := z.rd h0_0
 refine Xd (args := [(.agg #[w0_0]), (iI a1), (iI a2), (iI a3)]) func141 ntmps141 rfl m ?_
 unfold spec_HeapClear.f
 refine sr (bx' (cs := [w0_0]) 40 rfl rfl (fun b2 s2 p2 B2 => ?_))
 refine al' (cs := [(.slice none 0 0)]) 41 rfl o26 rfl (fun b4 s4 p4 B4 => ?_)
 refine Xc rfl (dn (sr ?_))
 have A6 := B2.st p4 rfl
 refine Ya (es := [w0_0]) A6 u26 z26 rfl (Xc rfl (Xc rfl ?_))
 have K7 := kp0.st (Xn p2 p4) rfl
 refine cl' rfl func82 rfl (spec_HeapAt.calls a0 a1 a2 s4.w (mm [0] s4) w0_0 (A0_0.kp K7)) ?_
 rintro r9 _ w9 m9 ⟨v9_0, v9_1, v9_2, v9_3, rfl, f9_0, ky9⟩
 obtain ⟨s10, rfl, p10, n10⟩ := nwx s4 w9 42 ky9
 obtain ⟨s11, hw11, p11, hu9_0_0, Au9_0_1, hu9_0_2, Au9_0_3⟩ := ap31 43 (f9_0.c n10) rfl
 rw [hw11]
 refine Xc rfl (Xc (v := (.agg #[(iI r9.1.Xmin), (iI r9.1.Xmax), (iI r9.1.Key.Kind), (iI r9.1.Key.N), v9_0, v9_1, (iI r9.1.Value.Kind), (iI r9.1.Value.N), v9_2, v9_3])) rfl (Xc (v := (.bool r9.2)) rfl (al' (cs := [(iI 0), (iI 0), (iI 0), (iI 0), (.float .f64 0), (.slice none 0 0), (iI 0), (iI 0), (.float .f64 0), (.slice none 0 0)]) 44 rfl o31 rfl (fun b14 s14 p14 B14 => ?_))))
 refine Xx (vs := [(iI r9.1.Xmin), (iI r9.1.Xmax), (iI r9.1.Key.Kind), (iI r9.1.Key.N), v9_0, v9_1, (iI r9.1.Value.Kind), (iI r9.1.Value.N), v9_2, v9_3]) B14 z31 rfl (Xb rfl (Xb rfl (Xb rfl (Xb rfl (Xb (FL.one hu9_0_0) (Xb (Au9_0_1.st p14 rfl).rd.one (Xb rfl (Xb rfl (Xb (FL.one hu9_0_2) (Xb (Au9_0_3.st p14 rfl).rd.one Xj)))))))))) rfl (fun s18 p18 B18 => ?_)
 refine Xc rfl (dn (sq (sr (Xc rfl (Xc rfl (Xc rfl (ji [] (fun (y20 : Bool) e w => ∃ (s : St) (e0 : Env), w = s.w ∧ e = upd (upd (upd (upd (upd (upd e0 1 (iI a1)) 2 (iI a2)) 3 (iI a3)) 4 (pB b2)) 8 (pB b4)) 28 (.bool y20) ∧ Kp s0 s ∧ BlF s b4 26 [(.slice none 0 0)] 41 ∧ BlF s b2 26 [w0_0] 40) (fun Gj20 Kj20 => ?_) ?_)))))))
 ·
  rcases bft (!r9.2) with hb20 | hb20
  ·
   refine Yb hb20 ?_
   rw [if_pos hb20]
   refine Xk rfl (Xk rfl (Xk rfl (Xc rfl ?_)))
   exact Kj20 _ _ _ ⟨s18, _, rfl, (ue (ue (ue (ue (ue (ue rfl rfl) rfl) rfl) rfl) rfl) rfl), (K7.st (Yo p10 p11 p14 p18) rfl), (B4.st (Yo p10 p11 p14 p18) rfl), (A6.st (Yo p10 p11 p14 p18) rfl)⟩
  refine Yb hb20 ?_
  rw [if_neg (by rw [hb20]; decide)]
  refine Xc rfl (Yn 45 rfl func83 rfl (spec_l5in.calls a3 (1 : Int) (1000000 : Int) s18.w (mm [] s18)) (fun r24 s25 p25 n25 => ?_))
  refine Xc rfl (Xc rfl ?_)
  exact Kj20 _ _ _ ⟨s25, _, rfl, (ue (ue (ue (ue (ue (ue rfl rfl) rfl) rfl) rfl) rfl) rfl), (K7.st (tr5 p10 p11 p14 p18 p25) rfl), (B4.st (tr5 p10 p11 p14 p18 p25) rfl), (A6.st (tr5 p10 p11 p14 p18 p25) rfl)⟩
 rintro y20 _ _ ⟨s29, _, rfl, rfl, Ky20, By20_b4, By20_b2⟩
 refine dn (cd rfl (fun h32 => ?_) (fun h32 => ?_))
 ·
  refine sr (bd' (cells := [(.slice none 0 0)]) pl26 o26 rfl rfl (Xx (vs := [(.slice none 0 0)]) By20_b4 z26 rfl (Xb rfl Xj) rfl (fun s33 p33 B33 => ?_)))
  refine Xc rfl (dn ?_)
  have A35 : OwF kd26 s33 [(.slice none 0 0)] (Heap.mk ([] : (List Page))) 46 := ow_z _ _ (Yj (fun x : Heap => (x.Pages)) (Heap.mk ([] : (List Page))) (Yk 116 kd116))
  have K37 := Ky20.st p33 rfl
  exact re rfl func141 rfl (r_b B33 u26 rfl z26 rfl (Xu rfl Xe)) rfl ⟨_, rfl, (.slice none 0 0), rfl, A35.fo K37 rfl z.l, z.ky K37⟩
 refine sk (sr (Ya (es := [w0_0]) By20_b2 u26 z26 rfl ?_))
 refine cl' rfl func84 rfl (spec_l10copy.calls a0 s29.w (mm [0] s29) w0_0 (A0_0.kp Ky20)) ?_
 rintro r39 _ w39 m39 ⟨v39_0, rfl, f39_0, ky39⟩
 obtain ⟨s40, rfl, p40, n40⟩ := nwx s29 w39 47 ky39
 refine al' (cs := [(.slice none 0 0)]) 48 rfl o26 rfl (fun b42 s42 p42 B42 => ?_)
 have A44 := (ap26 (f39_0.c n40)).st p42 rfl
 refine Xx (vs := [v39_0]) B42 z26 rfl (Xb A44.rd.one Xj) rfl (fun s45 p45 B45 => ?_)
 refine dn (sr (Ye fa26_0 rfl (Yl B45 u24 rfl (Xc rfl ?_))))
 have A47 := A44.st p45 rfl
 refine ix' A47.rd u24 z116 rfl (fun ad48 es48 h0_48 h1_48 he48 ce48 ia48 => ?_)
 obtain ⟨v48_0, rfl, A48_0⟩ := op116 he48
 refine lca ce48 u116 z116 rfl rfl rfl rfl rfl rfl rfl (Xc rfl (Xc rfl (cl' rfl func219 rfl (spec_PageClear.calls (at_ r39.Pages a1) a2 a3 s45.w (mm [47] s45) v48_0 A48_0) ?_)))
 rintro r51 _ w51 m51 ⟨v51_0, rfl, f51_0, ky51⟩
 obtain ⟨s52, rfl, p52, n52⟩ := nwx s45 w51 49 ky51
 refine Xc rfl (Xc (v := (.agg #[(iI r51.1.Lsn), v51_0])) rfl (Xc (v := (.bool r51.2)) rfl (al' (cs := [(iI 0), (.slice none 0 0)]) 50 rfl o116 rfl (fun b54 s54 p54 B54 => ?_))))
 have A56 := (ap116 (f51_0.c n52)).st p54 rfl
 refine Xx (vs := [(iI r51.1.Lsn), v51_0]) B54 z116 rfl (Xb rfl (Xb A56.rd.one Xj)) rfl (fun s57 p57 B57 => ?_)
 refine Xc rfl (dn (sr (Ye fa26_0 rfl ?_)))
 have A59 := B45.st (Yi p52 p54 p57) rfl
 refine Yl A59 u24 rfl (Xc rfl (Ya (es := [(iI r51.1.Lsn), v51_0]) B57 u116 z116 rfl ?_))
 have A60 := A47.st (Yi p52 p54 p57) rfl
 refine ix' A60.rd u24 z116 rfl (fun ad61 es61 h0_61 h1_61 he61 ce61 ia61 => ?_)
 obtain ⟨v61_0, rfl, A61_0⟩ := op116 he61
 have A64 : OwF kd116 s57 [(iI r51.1.Lsn), v51_0] r51.1 49 := (Xs (fun x : Page => (x.Lsn, x.Slots)) r51.1 (Xy (Xf .i64 r51.1.Lsn) (A56.st p57 rfl)))
 refine som (x' := r51.1) A60 ia61 h0_61 h1_61 A64 rfl rfl z116 rfl rfl rfl rfl rfl rfl (fun s67 p67 A67 => ?_)
 refine dn (sr ?_)
 refine Ya (es := [v39_0]) (A59.st p67 rfl) u26 z26 rfl (Xx (vs := [v39_0]) (By20_b4.st (tr7 p40 p42 p45 p52 p54 p57 p67) rfl) z26 rfl (Xb A67.rd.one Xj) rfl (fun s71 p71 B71 => ?_))
 refine Xc rfl (dn ?_)
 have A73 : OwF kd26 s71 [v39_0] (Heap.mk (r39.Pages.set (a1).toNat r51.1)) 47 := (Xs (fun x : Heap => (x.Pages)) (Heap.mk (r39.Pages.set (a1).toNat r51.1)) (A67.st p71 rfl))
 have K76 := Ky20.st (tr8 p40 p42 p45 p52 p54 p57 p67 p71) rfl
 exact re rfl func141 rfl (r_b B71 u26 rfl z26 rfl (Xu rfl Xe)) rfl ⟨_, rfl, v39_0, rfl, A73.fo K76 rfl z.l, z.ky K76⟩
def spec_l7page.b0 (a0 : l1Cur) (x21 : Int × Int × Int × Int × (List (List Int))) : Option ((Int × Int × Int × Int × (List (List Int))) ⊕ (Page × l1Cur)) :=
 (if (decide (x21.1 > (0 : Int))) = true then ((spec_l6tuple.f (l1Cur.mk a0.b x21.2.1 x21.2.2.1)).bind fun r32 => ((spec_TupleBytes.f r32.1).bind fun r38 => ((spec_l1Once.f (l1Cur.mk a0.b r32.2.i r32.2.h) (4 : Int)).bind fun r43 => ((if r43.1 = true then ((spec_l1some.f (l1Cur.mk a0.b r43.2.i r43.2.h) (30 : Int)).bind fun r53 => (if ([(1 : Int)]).length + r53.1.length ≤ Lim then (some (([(1 : Int)] ++ r53.1), r53.2.i, r53.2.h)) else none)) else (some (r38, r43.2.i, r43.2.h))).bind fun y47 => (((spec_PagePlace.f (Page.mk x21.2.2.2.1 x21.2.2.2.2) (y47.1.length : Int)).bind fun r96 => ((spec_l1Below.f (l1Cur.mk a0.b y47.2.1 y47.2.2) (50 : Int)).bind fun r104 => ((spec_PagePut.f (Page.mk x21.2.2.2.1 x21.2.2.2.2) r96 y47.1 (IntKind.wrap .i64 ((1 : Int) + r104.1))).bind fun r115 => (some (r115.1.Lsn, r115.1.Slots, r115.2, r104.2.i, r104.2.h))))).bind fun y89 => ((if y89.2.2.1 = true then (some (y89.1, y89.2.1)) else (some (x21.2.2.2.1, x21.2.2.2.2))).bind fun y262 => ((spec_l1Once.f (l1Cur.mk a0.b y89.2.2.2.1 y89.2.2.2.2) (5 : Int)).bind fun r283 => ((if (r283.1 && (decide ((y262.2.length : Int) > (0 : Int)))) = true then ((spec_l1Below.f (l1Cur.mk a0.b r283.2.i r283.2.h) (y262.2.length : Int)).bind fun r307 => ((spec_l1Below.f (l1Cur.mk a0.b r307.2.i r307.2.h) (50 : Int)).bind fun r316 => ((spec_PageClear.f (Page.mk y262.1 y262.2) r307.1 (IntKind.wrap .i64 ((1 : Int) + r316.1))).bind fun r324 => (some (r316.2.i, r316.2.h, r324.1.Lsn, r324.1.Slots))))) else (some (r283.2.i, r283.2.h, y262.1, y262.2))).bind fun y289 => (some (Sum.inl ((IntKind.wrap .i64 (x21.1 - (1 : Int))), y289.1, y289.2.1, y289.2.2.1, y289.2.2.2))))))))))) else ((some ((Page.mk x21.2.2.2.1 x21.2.2.2.2), (l1Cur.mk a0.b x21.2.1 x21.2.2.1))).bind fun o => some (Sum.inr o)))
def spec_l7page.f (a0 : l1Cur) : Option (Page × l1Cur) :=
 ((spec_l1Below.f a0 (50 : Int)).bind fun r7 => ((spec_l1Below.f (l1Cur.mk a0.b r7.2.i r7.2.h) (9 : Int)).bind fun r17 => (iter (spec_l7page.b0 a0) (r17.1, r17.2.i, r17.2.h, r7.1, ([] : (List (List Int)))))))
def spec_l7page.Q (w : World) (F : Nat → Prop) (p0 : Nat) (w0_0 : Value) (r : Page × l1Cur) (v : Value) (w' : World) : Prop :=
 ∃ (v0 : Value), v = (.agg #[(iI r.1.Lsn), v0]) ∧ FO kd116 w w' [(iI r.1.Lsn), v0] r.1 ∧ BlW w' p0 184 [w0_0, (iI r.2.i), (iI r.2.h)] ∧ Ky [p0] w w'
theorem spec_l7page.calls (a0 : l1Cur) (w : World) (F : Nat → Prop) (p0 : Nat) (w0_0 : Value) (h0_0 : Yr.rd w [w0_0] a0.b F) (hb0 : BlW w p0 184 [w0_0, (iI a0.i), (iI a0.h)]) (hF : ∀ b, F b → b ∉ [p0]) (r : Page × l1Cur) (m : spec_l7page.f a0 = some r) :
  Calls prog 160 #[(pB p0)] w (RT (spec_l7page.Q w F p0 w0_0) r) := by
 obtain ⟨s0, rfl, kp0, z⟩ := start1 w F [p0] hF
 have A0_0 := z.rd h0_0
 refine Xd (args := [(pB p0)]) func160 ntmps160 rfl m ?_
 unfold spec_l7page.f
 refine sr (al' (cs := [(iI 0), (.slice none 0 0)]) 40 rfl o116 rfl (fun b3 s3 p3 B3 => ?_))
 refine dn (sr (Xc rfl ?_))
 have K5 := kp0.st p3 rfl
 have A8 := BlF.st (z.bl hb0 (by simp)) p3 rfl
 refine clB A8 rfl func74 rfl (spec_l1Below.calls a0 (50 : Int) s3.w (mm [0] s3) p0 w0_0 (A0_0.kp K5) A8.w (A8.apart rfl)) (fun r7 s9 p9 B9 => ?_)
 refine bd' (cells := [(iI r7.1), (.slice none 0 0)]) pl116 o116 rfl rfl (al' (cs := [(iI 0), (.slice none 0 0)]) 42 rfl o116 rfl (fun b11 s11 p11 B11 => ?_))
 refine Xx (vs := [(iI r7.1), (.slice none 0 0)]) B11 z116 rfl (Xb rfl (Xb rfl Xj)) rfl (fun s13 p13 B13 => ?_)
 refine dn (sq (sr (Xc rfl ?_)))
 have K15 := K5.st (Yi p9 p11 p13) rfl
 have A18 := B9.st (Xn p11 p13) rfl
 refine clB A18 rfl func74 rfl (spec_l1Below.calls (l1Cur.mk a0.b r7.2.i r7.2.h) (9 : Int) s13.w (mm [0] s13) p0 w0_0 (A0_0.kp K15) A18.w (A18.apart rfl)) (fun r17 s19 p19 B19 => ?_)
 refine Xc rfl (dn (bl ?_))
 refine lpI (fun (x21 : Int × Int × Int × Int × (List (List Int))) e w => ∃ (s : St) (e0 : Env) (vx21_0 : Value), w = s.w ∧ e = upd (upd (upd (upd e0 0 (pB p0)) 2 (pB b3)) 3 (pB b11)) 4 (iI x21.1) ∧ Kp s0 s ∧ OwF (Kd.sl 22 Yr) s [vx21_0] x21.2.2.2.2 44 ∧ BlF s p0 184 [w0_0, (iI x21.2.1), (iI x21.2.2.1)] 2 ∧ BlF s b11 116 [(iI x21.2.2.2.1), vx21_0] 42 ∧ BlF s b3 116 [(iI 0), (.slice none 0 0)] 40) ⟨s19, _, (.slice none 0 0), rfl, (ue (ue (ue (ue rfl rfl) rfl) rfl) rfl), (K15.st p19 rfl), (Ym 22 Yr _ 44), B19, (B13.st p19 rfl), (B3.st (Yo p9 p11 p13 p19) rfl)⟩ (fun g21 ih21 => ?_)
 rintro x21 _ _ ⟨s25, _, vx21_0, rfl, rfl, Kx21, Ax21_0, Bx21_p0, Bx21_b11, Bx21_b3⟩
 unfold spec_l7page.b0
 refine sq (sr (Xc rfl (Xc rfl (dn (cd rfl (fun h30 => ?_) (fun h30 => ?_))))))
 ·
  refine sk (sq (bl (sr (Xc rfl ?_))))
  refine cl' rfl func70 rfl (spec_l6tuple.calls (l1Cur.mk a0.b x21.2.1 x21.2.2.1) s25.w (mm [0] s25) p0 w0_0 (A0_0.kp Kx21) Bx21_p0.w (Bx21_p0.apart rfl)) ?_
  rintro r32 _ w32 m32 ⟨v32_0, v32_1, v32_2, v32_3, rfl, f32_0, bw32, ky32⟩
  obtain ⟨s33, rfl, p33, n33, g33⟩ := nwb 45 Bx21_p0 ky32
  obtain ⟨s34, hw34, p34, hu32_0_0, Au32_0_1, hu32_0_2, Au32_0_3⟩ := ap31 46 (f32_0.c n33) rfl
  rw [hw34]
  refine clO 47 rfl func32 rfl (spec_TupleBytes.calls r32.1 s34.w (mm [45, 46] s34) v32_0 v32_1 v32_2 v32_3 ((Xq (s := s34) hu32_0_0).sub (D := [45, 46]) rfl) (Au32_0_1.rd.sub (D := [45, 46]) rfl) ((Xq (s := s34) hu32_0_2).sub (D := [45, 46]) rfl) (Au32_0_3.rd.sub (D := [45, 46]) rfl)) (fun r38 v38_0 s39 p39 A38_0 => ?_)
  refine Yh v38_0 rfl (dn (sq (sr (Xc rfl ?_))))
  have K41 := Kx21.st (Yi p33 p34 p39) rfl
  have A44 := BlF.st (blf_mk bw32 g33) (Xn p34 p39) rfl
  refine clB A44 rfl func72 rfl (spec_l1Once.calls (l1Cur.mk a0.b r32.2.i r32.2.h) (4 : Int) s39.w (mm [0] s39) p0 w0_0 (A0_0.kp K41) A44.w (A44.apart rfl)) (fun r43 s45 p45 B45 => ?_)
  refine dn (jc (fun (y47 : (List Int) × Int × Int) e w => ∃ (s : St) (e0 : Env) (vy47_0 : Value), w = s.w ∧ e = upd (upd (upd (upd (upd e0 0 (pB p0)) 2 (pB b3)) 3 (pB b11)) 4 (iI x21.1)) 5 vy47_0 ∧ Kp s0 s ∧ OwF Yr s [vy47_0] y47.1 49 ∧ BlF s p0 184 [w0_0, (iI y47.2.1), (iI y47.2.2)] 2 ∧ BlF s b11 116 [(iI x21.2.2.2.1), vx21_0] 42 ∧ BlF s b3 116 [(iI 0), (.slice none 0 0)] 40 ∧ OwF (Kd.sl 22 Yr) s [vx21_0] x21.2.2.2.2 44) (fun Gj47 Kj47 => ?_) ?_)
  ·
   refine cd rfl (fun h48 => ?_) (fun h48 => ?_)
   ·
    refine rg (ltF' (K := (Kd.int .u8)) (cells := [(.int .u8 (1 : Int))]) [(1 : Int)] 50 Xv u22 z5 o5 (fun w => (Yd _ _ _)) rfl (fun v49 s49 p49 A49 => ?_))
    refine Xc rfl ?_
    have K51 := K41.st (Xn p45 p49) rfl
    have A54 := B45.st p49 rfl
    refine cl' rfl func165 rfl (spec_l1some.calls (l1Cur.mk a0.b r43.2.i r43.2.h) (30 : Int) s49.w (mm [0] s49) p0 w0_0 (A0_0.kp K51) A54.w (A54.apart rfl)) ?_
    rintro r53 v53_0 w53 m53 ⟨f53_0, bw53, ky53⟩
    obtain ⟨s55, rfl, p55, n55, g55⟩ := nwb 51 A54 ky53
    refine apF' Xv sl22 (A49.st p55 rfl) (f53_0.c n55).rd rfl (fun v59 s59 p59 A59 => ?_)
    refine Yh v59 rfl (dn ?_)
    obtain ⟨s61, hw61, p61, A61⟩ := A59.rc 49 rfl
    rw [hw61]
    exact Kj47 _ _ _ ⟨s61, _, v59, rfl, (ue (ue (ue (ue (ue rfl rfl) rfl) rfl) rfl) rfl), (K51.st (Yi p55 p59 p61) rfl), A61, (BlF.st (blf_mk bw53 g55) (Xn p59 p61) rfl), (Bx21_b11.st (tr8 p33 p34 p39 p45 p49 p55 p59 p61) rfl), (Bx21_b3.st (tr8 p33 p34 p39 p45 p49 p55 p59 p61) rfl), (Ax21_0.st (tr8 p33 p34 p39 p45 p49 p55 p59 p61) rfl)⟩
   refine sk ?_
   obtain ⟨s68, hw68, p68, A68⟩ := (A38_0.st p45 rfl).rc 49 rfl
   rw [hw68]
   exact Kj47 _ _ _ ⟨s68, _, v38_0, rfl, (ue (ue (ue (ue (ue rfl rfl) rfl) rfl) rfl) rfl), (K41.st (Xn p45 p68) rfl), A68, (B45.st p68 rfl), (Bx21_b11.st (tr5 p33 p34 p39 p45 p68) rfl), (Bx21_b3.st (tr5 p33 p34 p39 p45 p68) rfl), (Ax21_0.st (tr5 p33 p34 p39 p45 p68) rfl)⟩
  rintro y47 _ _ ⟨s74, _, vy47_0, rfl, rfl, Ky47, Ay47_0, By47_p0, By47_b11, By47_b3, Cy47_26⟩
  refine sq (zdraw [[], [], [], [2], [1, 3], [], [], [6, 4], [7], [0, 4, 5, 8, 7], [9], [10], [10], [], [13, 11, 9, 0, 1, 2, 3, 4, 5, 6, 7, 8, 9, 10, 11, 13], [12, 14, 0, 1, 2, 3, 4, 5, 6, 7, 8, 9, 10, 11, 12, 13, 14]] [some 27, some 28, some 29, some 30, some 31, some 32, some 33, some 34, some 35, some 36, some 26, some 37, some 38, some 6, none, some 7] [[3], [3], [5], [29], [28, 30], [5], [0], [33], [34], [27, 31, 32, 35], [36], [26], [26], [], [6, 37], [38]] [0, 1, 2, 3, 4, 5, 6, 7, 8, 9, 10, 11, 14, 12, 13, 15] ⟨by kernel_rfl, by kernel_rfl, by kernel_rfl⟩ (by kernel_rfl) (fun s79 p79 l79 tb79 zd79 => ?_))
  refine ji [15] (fun (y89 : Int × (List (List Int)) × Bool × Int × Int) e w => ∃ (s : St) (e0 : Env) (vy89_0 : Value) (by89_0 : Nat), w = s.w ∧ e = upd (upd (upd (upd (upd (upd e0 0 (pB p0)) 2 (pB b3)) 3 (pB b11)) 4 (iI x21.1)) 6 (pB by89_0)) 38 (.bool y89.2.2.1) ∧ Kp s0 s ∧ OwF (Kd.sl 22 Yr) s [vy89_0] y89.2.1 52 ∧ BlF s p0 184 [w0_0, (iI y89.2.2.2.1), (iI y89.2.2.2.2)] 2 ∧ BlF s b11 116 [(iI x21.2.2.2.1), vx21_0] 42 ∧ BlF s b3 116 [(iI 0), (.slice none 0 0)] 40 ∧ BlF s by89_0 116 [(iI y89.1), vy89_0] 53 ∧ OwF (Kd.sl 22 Yr) s [vx21_0] x21.2.2.2.2 44) (fun Gj89 Kj89 => ?_) ?_
  ·
   refine zstep2 4 13 [some 33, some 32, some 27] [some 33, some 32, some 30, some 29, some 28, some 27] tb79 ((((((zd79.add 0 27 (.agg #[(iI x21.2.2.2.1), vx21_0]) rfl).add 1 28 (.agg #[(iI x21.2.2.2.1), vx21_0]) rfl).add 2 29 vy47_0 rfl).add 3 30 (iI (y47.1.length : Int)) rfl).add 5 32 vy47_0 rfl).add 6 33 (pB p0) rfl) (Xa (Xh rfl) rfl (Xa (Xr vy47_0 rfl) rfl (Xa (ln_q' (Ay47_0.st p79 rfl).rd u22 rfl) rfl (Xa (Xr vy47_0 rfl) rfl (Xa (Yg (es := [(iI x21.2.2.2.1), vx21_0]) (By47_b11.st p79 rfl) u116 z116 rfl) rfl (Xa (Yg (es := [(iI x21.2.2.2.1), vx21_0]) (By47_b11.st p79 rfl) u116 z116 rfl) rfl Xg)))))) (by kernel_rfl) (by kernel_rfl) (fun l90 e90 zd90 => ?_) (fun l91 e91 zd91 => ?_)
   ·
    have A95 := Cy47_26.st p79 rfl
    refine Yn 54 rfl func162 rfl (spec_PagePlace.calls (Page.mk x21.2.2.2.1 x21.2.2.2.2) (y47.1.length : Int) s79.w (mm [44] s79) vx21_0 A95.rd) (fun r96 s97 p97 n97 => ?_)
    refine Xm (L' := [6, 5, 0]) (D' := [2, 1, 3, 4]) zd90 rfl (fun zd98 => ?_)
    refine zstep2 7 13 [some 32, some 27] [some 33, some 32, some 27] tb79 zd98 (Xa (Xh rfl) rfl (Xa (Xr vy47_0 rfl) rfl (Xa (Yg (es := [(iI x21.2.2.2.1), vx21_0]) (By47_b11.st (Xn p79 p97) rfl) u116 z116 rfl) rfl Xg))) (by kernel_rfl) (by kernel_rfl) (fun l99 e99 zd99 => ?_) (fun l100 e100 zd100 => ?_)
    ·
     have K102 := Ky47.st (Xn p79 p97) rfl
     have A105 := By47_p0.st (Xn p79 p97) rfl
     refine clB A105 rfl func74 rfl (spec_l1Below.calls (l1Cur.mk a0.b y47.2.1 y47.2.2) (50 : Int) s97.w (mm [0] s97) p0 w0_0 (A0_0.kp K102) A105.w (A105.apart rfl)) (fun r104 s106 p106 B106 => ?_)
     refine Xm (L' := [5, 0]) (D' := [6, 7, 2, 1, 3, 4]) zd99 rfl (fun zd108 => ?_)
     refine zstep2 9 13 [] [some 35, some 32, some 27] tb79 (zd108.add 8 35 (iI (IntKind.wrap .i64 ((1 : Int) + r104.1))) rfl) (Xa (Xh rfl) rfl (Xa (Xr vy47_0 rfl) rfl (Xa (Yg (es := [(iI x21.2.2.2.1), vx21_0]) (By47_b11.st (Yi p79 p97 p106) rfl) u116 z116 rfl) rfl Xg))) (by kernel_rfl) (by kernel_rfl) (fun l110 e110 zd110 => ?_) (fun l111 e111 zd111 => ?_)
     ·
      have A113 := A95.st (Xn p97 p106) rfl
      refine cl' rfl func85 rfl (spec_PagePut.calls (Page.mk x21.2.2.2.1 x21.2.2.2.2) r96 y47.1 (IntKind.wrap .i64 ((1 : Int) + r104.1)) s106.w (mm [44, 49] s106) vx21_0 vy47_0 (A113.rd.sub (D := [44, 49]) rfl) ((Ay47_0.st (Yi p79 p97 p106) rfl).rd.sub (D := [44, 49]) rfl)) ?_
      rintro r115 _ w115 m115 ⟨v115_0, rfl, f115_0, ky115⟩
      obtain ⟨s116, rfl, p116, n116⟩ := nwx s106 w115 56 ky115
      refine Xm (L' := []) (D' := [0, 5, 8, 9, 6, 7, 2, 1, 3, 4]) zd110 rfl (fun zd118 => ?_)
      refine Xt 13 [some 38, some 37, some 26] tb79 (((zd118.add 10 26 (.tuple #[(.agg #[(iI r115.1.Lsn), v115_0]), (.bool r115.2)]) rfl).add 11 37 (.agg #[(iI r115.1.Lsn), v115_0]) rfl).add 12 38 (.bool r115.2) rfl) (Xa (Xh (v := (.bool r115.2)) rfl) rfl (Xa (Xh (v := (.agg #[(iI r115.1.Lsn), v115_0])) rfl) rfl (Xa (Xh rfl) rfl Xg))) (by kernel_rfl) rfl (fun l122 e122 zd122 => ?_)
      refine al' (cs := [(iI 0), (.slice none 0 0)]) 57 rfl o116 rfl (fun b123 s123 p123 B123 => ?_)
      refine Xm (L' := [12, 11, 10]) (D' := [13, 0, 5, 8, 9, 6, 7, 2, 1, 3, 4]) zd122 rfl (fun zd125 => ?_)
      refine Xt 14 [some 38] tb79 zd125 (Xa (Xh (v := (.bool r115.2)) rfl) rfl (Xa (Xh (v := (.agg #[(iI r115.1.Lsn), v115_0])) rfl) rfl (Xa (Xh rfl) rfl Xg))) (by kernel_rfl) rfl (fun l126 e126 zd126 => ?_)
      have A127 := (ap116 (f115_0.c n116)).st p123 rfl
      refine Xx (vs := [(iI r115.1.Lsn), v115_0]) B123 z116 rfl (Xb rfl (Xb A127.rd.one Xj)) rfl (fun s128 p128 B128 => ?_)
      refine zdone0 (L' := [12]) (D' := [11, 10, 11, 14, 13, 0, 5, 8, 9, 6, 7, 2, 1, 3, 4]) zd126 rfl rfl rfl (fun zd130 => ?_)
      refine Yp [15] tb79 zd130 (Xa (Xh (v := (.bool r115.2)) rfl) rfl Xg) (by kernel_rfl) (by decide) ?_
      obtain ⟨s131, hw131, p131, D131⟩ := BlF.rc B128 53 rfl
      rw [hw131]
      obtain ⟨s134, hw134, p134, A134⟩ := (A127.st (Xn p128 p131) rfl).rc 52 rfl
      rw [hw134]
      exact Kj89 _ _ _ ⟨s134, _, v115_0, b123, rfl, (ue (ue (ue (ue (ue (ue rfl rfl) rfl) rfl) rfl) rfl) rfl), (K102.st (tr6 p106 p116 p123 p128 p131 p134) rfl), A134, (B106.st (tr5 p116 p123 p128 p131 p134) rfl), (By47_b11.st (tr8 p79 p97 p106 p116 p123 p128 p131 p134) rfl), (By47_b3.st (tr8 p79 p97 p106 p116 p123 p128 p131 p134) rfl), (D131.st p134 rfl), (A113.st (tr5 p116 p123 p128 p131 p134) rfl)⟩
     refine al' (cs := [(iI 0), (.slice none 0 0)]) 58 rfl o116 rfl (fun b141 s141 p141 B141 => ?_)
     refine Xm (L' := [8, 5, 0]) (D' := [13, 6, 7, 2, 1, 3, 4]) zd111 rfl (fun zd143 => ?_)
     refine Xt 9 [] tb79 zd143 (Xa (Xh rfl) rfl (Xa (Xr vy47_0 rfl) rfl (Xa (Yg (es := [(iI x21.2.2.2.1), vx21_0]) (By47_b11.st (Yo p79 p97 p106 p141) rfl) u116 z116 rfl) rfl Xg))) (by kernel_rfl) rfl (fun l144 e144 zd144 => ?_)
     have A146 := A95.st (Yi p97 p106 p141) rfl
     refine cl' rfl func85 rfl (spec_PagePut.calls (Page.mk x21.2.2.2.1 x21.2.2.2.2) r96 y47.1 (IntKind.wrap .i64 ((1 : Int) + r104.1)) s141.w (mm [44, 49] s141) vx21_0 vy47_0 (A146.rd.sub (D := [44, 49]) rfl) ((Ay47_0.st (Yo p79 p97 p106 p141) rfl).rd.sub (D := [44, 49]) rfl)) ?_
     rintro r148 _ w148 m148 ⟨v148_0, rfl, f148_0, ky148⟩
     obtain ⟨s149, rfl, p149, n149⟩ := nwx s141 w148 59 ky148
     have Au148_0_0 := ap116 (f148_0.c n149)
     refine Xm (L' := []) (D' := [0, 5, 8, 9, 13, 6, 7, 2, 1, 3, 4]) zd144 rfl (fun zd151 => ?_)
     refine Xt 14 [some 38] tb79 (((zd151.add 10 26 (.tuple #[(.agg #[(iI r148.1.Lsn), v148_0]), (.bool r148.2)]) rfl).add 11 37 (.agg #[(iI r148.1.Lsn), v148_0]) rfl).add 12 38 (.bool r148.2) rfl) (Xa (Xh (v := (.bool r148.2)) rfl) rfl (Xa (Xh (v := (.agg #[(iI r148.1.Lsn), v148_0])) rfl) rfl (Xa (Xh rfl) rfl Xg))) (by kernel_rfl) rfl (fun l155 e155 zd155 => ?_)
     refine Xx (vs := [(iI r148.1.Lsn), v148_0]) (B141.st p149 rfl) z116 rfl (Xb rfl (Xb Au148_0_0.rd.one Xj)) rfl (fun s157 p157 B157 => ?_)
     refine zdone0 (L' := [12]) (D' := [11, 10, 11, 14, 0, 5, 8, 9, 13, 6, 7, 2, 1, 3, 4]) zd155 rfl rfl rfl (fun zd159 => ?_)
     refine Yp [15] tb79 zd159 (Xa (Xh (v := (.bool r148.2)) rfl) rfl Xg) (by kernel_rfl) (by decide) ?_
     obtain ⟨s160, hw160, p160, D160⟩ := BlF.rc B157 53 rfl
     rw [hw160]
     obtain ⟨s163, hw163, p163, A163⟩ := (Au148_0_0.st (Xn p157 p160) rfl).rc 52 rfl
     rw [hw163]
     exact Kj89 _ _ _ ⟨s163, _, v148_0, b141, rfl, (ue (ue (ue (ue (ue (ue rfl rfl) rfl) rfl) rfl) rfl) rfl), (K102.st (tr6 p106 p141 p149 p157 p160 p163) rfl), A163, (B106.st (tr5 p141 p149 p157 p160 p163) rfl), (By47_b11.st (tr8 p79 p97 p106 p141 p149 p157 p160 p163) rfl), (By47_b3.st (tr8 p79 p97 p106 p141 p149 p157 p160 p163) rfl), (D160.st p163 rfl), (A146.st (Yo p149 p157 p160 p163) rfl)⟩
    refine al' (cs := [(iI 0), (.slice none 0 0)]) 60 rfl o116 rfl (fun b170 s170 p170 B170 => ?_)
    refine Xm (L' := [6, 5, 0]) (D' := [13, 2, 1, 3, 4]) zd100 rfl (fun zd172 => ?_)
    refine Xt 7 [some 32, some 27] tb79 zd172 (Xa (Xh rfl) rfl (Xa (Xr vy47_0 rfl) rfl (Xa (Yg (es := [(iI x21.2.2.2.1), vx21_0]) (By47_b11.st (Yi p79 p97 p170) rfl) u116 z116 rfl) rfl Xg))) (by kernel_rfl) rfl (fun l173 e173 zd173 => ?_)
    have K175 := Ky47.st (Yi p79 p97 p170) rfl
    have A178 := By47_p0.st (Yi p79 p97 p170) rfl
    refine clB A178 rfl func74 rfl (spec_l1Below.calls (l1Cur.mk a0.b y47.2.1 y47.2.2) (50 : Int) s170.w (mm [0] s170) p0 w0_0 (A0_0.kp K175) A178.w (A178.apart rfl)) (fun r177 s179 p179 B179 => ?_)
    refine Xm (L' := [5, 0]) (D' := [6, 7, 13, 2, 1, 3, 4]) zd173 rfl (fun zd181 => ?_)
    refine Xt 9 [] tb79 (zd181.add 8 35 (iI (IntKind.wrap .i64 ((1 : Int) + r177.1))) rfl) (Xa (Xh rfl) rfl (Xa (Xr vy47_0 rfl) rfl (Xa (Yg (es := [(iI x21.2.2.2.1), vx21_0]) (By47_b11.st (Yo p79 p97 p170 p179) rfl) u116 z116 rfl) rfl Xg))) (by kernel_rfl) rfl (fun l183 e183 zd183 => ?_)
    have A185 := A95.st (Yi p97 p170 p179) rfl
    refine cl' rfl func85 rfl (spec_PagePut.calls (Page.mk x21.2.2.2.1 x21.2.2.2.2) r96 y47.1 (IntKind.wrap .i64 ((1 : Int) + r177.1)) s179.w (mm [44, 49] s179) vx21_0 vy47_0 (A185.rd.sub (D := [44, 49]) rfl) ((Ay47_0.st (Yo p79 p97 p170 p179) rfl).rd.sub (D := [44, 49]) rfl)) ?_
    rintro r187 _ w187 m187 ⟨v187_0, rfl, f187_0, ky187⟩
    obtain ⟨s188, rfl, p188, n188⟩ := nwx s179 w187 62 ky187
    have Au187_0_0 := ap116 (f187_0.c n188)
    refine Xm (L' := []) (D' := [0, 5, 8, 9, 6, 7, 13, 2, 1, 3, 4]) zd183 rfl (fun zd190 => ?_)
    refine Xt 14 [some 38] tb79 (((zd190.add 10 26 (.tuple #[(.agg #[(iI r187.1.Lsn), v187_0]), (.bool r187.2)]) rfl).add 11 37 (.agg #[(iI r187.1.Lsn), v187_0]) rfl).add 12 38 (.bool r187.2) rfl) (Xa (Xh (v := (.bool r187.2)) rfl) rfl (Xa (Xh (v := (.agg #[(iI r187.1.Lsn), v187_0])) rfl) rfl (Xa (Xh rfl) rfl Xg))) (by kernel_rfl) rfl (fun l194 e194 zd194 => ?_)
    refine Xx (vs := [(iI r187.1.Lsn), v187_0]) (B170.st (Xn p179 p188) rfl) z116 rfl (Xb rfl (Xb Au187_0_0.rd.one Xj)) rfl (fun s196 p196 B196 => ?_)
    refine zdone0 (L' := [12]) (D' := [11, 10, 11, 14, 0, 5, 8, 9, 6, 7, 13, 2, 1, 3, 4]) zd194 rfl rfl rfl (fun zd198 => ?_)
    refine Yp [15] tb79 zd198 (Xa (Xh (v := (.bool r187.2)) rfl) rfl Xg) (by kernel_rfl) (by decide) ?_
    obtain ⟨s199, hw199, p199, D199⟩ := BlF.rc B196 53 rfl
    rw [hw199]
    obtain ⟨s202, hw202, p202, A202⟩ := (Au187_0_0.st (Xn p196 p199) rfl).rc 52 rfl
    rw [hw202]
    exact Kj89 _ _ _ ⟨s202, _, v187_0, b170, rfl, (ue (ue (ue (ue (ue (ue rfl rfl) rfl) rfl) rfl) rfl) rfl), (K175.st (tr5 p179 p188 p196 p199 p202) rfl), A202, (B179.st (Yo p188 p196 p199 p202) rfl), (By47_b11.st (tr8 p79 p97 p170 p179 p188 p196 p199 p202) rfl), (By47_b3.st (tr8 p79 p97 p170 p179 p188 p196 p199 p202) rfl), (D199.st p202 rfl), (A185.st (Yo p188 p196 p199 p202) rfl)⟩
   refine al' (cs := [(iI 0), (.slice none 0 0)]) 63 rfl o116 rfl (fun b209 s209 p209 B209 => ?_)
   refine Xm (L' := [6, 5, 3, 2, 1, 0]) (D' := [13]) zd91 rfl (fun zd211 => ?_)
   refine Xt 4 [some 33, some 32, some 27] tb79 zd211 (Xa (Xh rfl) rfl (Xa (Xr vy47_0 rfl) rfl (Xa (ln_q' (Ay47_0.st (Xn p79 p209) rfl).rd u22 rfl) rfl (Xa (Xr vy47_0 rfl) rfl (Xa (Yg (es := [(iI x21.2.2.2.1), vx21_0]) (By47_b11.st (Xn p79 p209) rfl) u116 z116 rfl) rfl (Xa (Yg (es := [(iI x21.2.2.2.1), vx21_0]) (By47_b11.st (Xn p79 p209) rfl) u116 z116 rfl) rfl Xg)))))) (by kernel_rfl) rfl (fun l212 e212 zd212 => ?_)
   have A216 := Cy47_26.st (Xn p79 p209) rfl
   refine Yn 64 rfl func162 rfl (spec_PagePlace.calls (Page.mk x21.2.2.2.1 x21.2.2.2.2) (y47.1.length : Int) s209.w (mm [44] s209) vx21_0 A216.rd) (fun r217 s218 p218 n218 => ?_)
   refine Xm (L' := [6, 5, 0]) (D' := [2, 1, 3, 4, 13]) zd212 rfl (fun zd219 => ?_)
   refine Xt 7 [some 32, some 27] tb79 zd219 (Xa (Xh rfl) rfl (Xa (Xr vy47_0 rfl) rfl (Xa (Yg (es := [(iI x21.2.2.2.1), vx21_0]) (By47_b11.st (Yi p79 p209 p218) rfl) u116 z116 rfl) rfl Xg))) (by kernel_rfl) rfl (fun l220 e220 zd220 => ?_)
   have K222 := Ky47.st (Yi p79 p209 p218) rfl
   have A225 := By47_p0.st (Yi p79 p209 p218) rfl
   refine clB A225 rfl func74 rfl (spec_l1Below.calls (l1Cur.mk a0.b y47.2.1 y47.2.2) (50 : Int) s218.w (mm [0] s218) p0 w0_0 (A0_0.kp K222) A225.w (A225.apart rfl)) (fun r224 s226 p226 B226 => ?_)
   refine Xm (L' := [5, 0]) (D' := [6, 7, 2, 1, 3, 4, 13]) zd220 rfl (fun zd228 => ?_)
   refine Xt 9 [] tb79 (zd228.add 8 35 (iI (IntKind.wrap .i64 ((1 : Int) + r224.1))) rfl) (Xa (Xh rfl) rfl (Xa (Xr vy47_0 rfl) rfl (Xa (Yg (es := [(iI x21.2.2.2.1), vx21_0]) (By47_b11.st (Yo p79 p209 p218 p226) rfl) u116 z116 rfl) rfl Xg))) (by kernel_rfl) rfl (fun l230 e230 zd230 => ?_)
   have A232 := A216.st (Xn p218 p226) rfl
   refine cl' rfl func85 rfl (spec_PagePut.calls (Page.mk x21.2.2.2.1 x21.2.2.2.2) r217 y47.1 (IntKind.wrap .i64 ((1 : Int) + r224.1)) s226.w (mm [44, 49] s226) vx21_0 vy47_0 (A232.rd.sub (D := [44, 49]) rfl) ((Ay47_0.st (Yo p79 p209 p218 p226) rfl).rd.sub (D := [44, 49]) rfl)) ?_
   rintro r234 _ w234 m234 ⟨v234_0, rfl, f234_0, ky234⟩
   obtain ⟨s235, rfl, p235, n235⟩ := nwx s226 w234 66 ky234
   have Au234_0_0 := ap116 (f234_0.c n235)
   refine Xm (L' := []) (D' := [0, 5, 8, 9, 6, 7, 2, 1, 3, 4, 13]) zd230 rfl (fun zd237 => ?_)
   refine Xt 14 [some 38] tb79 (((zd237.add 10 26 (.tuple #[(.agg #[(iI r234.1.Lsn), v234_0]), (.bool r234.2)]) rfl).add 11 37 (.agg #[(iI r234.1.Lsn), v234_0]) rfl).add 12 38 (.bool r234.2) rfl) (Xa (Xh (v := (.bool r234.2)) rfl) rfl (Xa (Xh (v := (.agg #[(iI r234.1.Lsn), v234_0])) rfl) rfl (Xa (Xh rfl) rfl Xg))) (by kernel_rfl) rfl (fun l241 e241 zd241 => ?_)
   refine Xx (vs := [(iI r234.1.Lsn), v234_0]) (B209.st (Yi p218 p226 p235) rfl) z116 rfl (Xb rfl (Xb Au234_0_0.rd.one Xj)) rfl (fun s243 p243 B243 => ?_)
   refine zdone0 (L' := [12]) (D' := [11, 10, 11, 14, 0, 5, 8, 9, 6, 7, 2, 1, 3, 4, 13]) zd241 rfl rfl rfl (fun zd245 => ?_)
   refine Yp [15] tb79 zd245 (Xa (Xh (v := (.bool r234.2)) rfl) rfl Xg) (by kernel_rfl) (by decide) ?_
   obtain ⟨s246, hw246, p246, D246⟩ := BlF.rc B243 53 rfl
   rw [hw246]
   obtain ⟨s249, hw249, p249, A249⟩ := (Au234_0_0.st (Xn p243 p246) rfl).rc 52 rfl
   rw [hw249]
   exact Kj89 _ _ _ ⟨s249, _, v234_0, b209, rfl, (ue (ue (ue (ue (ue (ue rfl rfl) rfl) rfl) rfl) rfl) rfl), (K222.st (tr5 p226 p235 p243 p246 p249) rfl), A249, (B226.st (Yo p235 p243 p246 p249) rfl), (By47_b11.st (tr8 p79 p209 p218 p226 p235 p243 p246 p249) rfl), (By47_b3.st (tr8 p79 p209 p218 p226 p235 p243 p246 p249) rfl), (D246.st p249 rfl), (A232.st (Yo p235 p243 p246 p249) rfl)⟩
  rintro y89 _ _ ⟨s256, _, vy89_0, by89_0, rfl, rfl, Ky89, Ay89_0, By89_p0, By89_b11, By89_b3, Dy89_0, Cy89_26⟩
  refine Xc rfl (dn (sq (sr (Xc rfl (dn (jc (fun (y262 : Int × (List (List Int))) e w => ∃ (s : St) (e0 : Env) (vy262_0 : Value), w = s.w ∧ e = upd (upd (upd (upd e0 0 (pB p0)) 2 (pB b3)) 3 (pB b11)) 4 (iI x21.1) ∧ Kp s0 s ∧ OwF (Kd.sl 22 Yr) s [vy262_0] y262.2 67 ∧ BlF s p0 184 [w0_0, (iI y89.2.2.2.1), (iI y89.2.2.2.2)] 2 ∧ BlF s b11 116 [(iI y262.1), vy262_0] 42 ∧ BlF s b3 116 [(iI 0), (.slice none 0 0)] 40) (fun Gj262 Kj262 => ?_) ?_))))))
  ·
   refine cd rfl (fun h263 => ?_) (fun h263 => ?_)
   ·
    refine rg (Ya (es := [(iI y89.1), vy89_0]) Dy89_0 u116 z116 rfl (Xx (vs := [(iI y89.1), vy89_0]) By89_b11 z116 rfl (Xb rfl (Xb Ay89_0.rd.one Xj)) rfl (fun s264 p264 B264 => ?_)))
    refine dn ?_
    obtain ⟨s267, hw267, p267, A267⟩ := (Ay89_0.st p264 rfl).rc 67 rfl
    rw [hw267]
    exact Kj262 _ _ _ ⟨s267, _, vy89_0, rfl, (ue (ue (ue (ue rfl rfl) rfl) rfl) rfl), (Ky89.st (Xn p264 p267) rfl), A267, (By89_p0.st (Xn p264 p267) rfl), (B264.st p267 rfl), (By89_b3.st (Xn p264 p267) rfl)⟩
   refine sk ?_
   obtain ⟨s272, hw272, p272, A272⟩ := Cy89_26.rc 67 rfl
   rw [hw272]
   exact Kj262 _ _ _ ⟨s272, _, vx21_0, rfl, (ue (ue (ue (ue rfl rfl) rfl) rfl) rfl), (Ky89.st p272 rfl), A272, (By89_p0.st p272 rfl), (By89_b11.st p272 rfl), (By89_b3.st p272 rfl)⟩
  rintro y262 _ _ ⟨s277, _, vy262_0, rfl, rfl, Ky262, Ay262_0, By262_p0, By262_b11, By262_b3⟩
  refine sr (Xc rfl ?_)
  refine clB By262_p0 rfl func72 rfl (spec_l1Once.calls (l1Cur.mk a0.b y89.2.2.2.1 y89.2.2.2.2) (5 : Int) s277.w (mm [0] s277) p0 w0_0 (A0_0.kp Ky262) By262_p0.w (By262_p0.apart rfl)) (fun r283 s284 p284 B284 => ?_)
  refine Xc rfl (jy [43, 44, 45, 46, 47, 48] [] 48 (.bool (r283.1 && (decide ((y262.2.length : Int) > (0 : Int))))) rfl (fun Kg286 => ?_) (fun j286 => ?_))
  ·
   rcases bft r283.1 with hb286 | hb286
   ·
    refine Yb hb286 (Ye fa116_1 rfl ?_)
    exact Yl (By262_b11.st p284 rfl) u114 rfl (ln' (Ay262_0.st p284 rfl).rd u114 rfl (Xc rfl (Xc rfl (Kg286 _ (Ag.put ((Ag.put ((Ag.put ((Ag.put ((Ag.put (Ag.base rfl) rfl)) rfl)) rfl)) rfl)) rfl) (by rw [hb286]; rfl)))))
   exact Yb hb286 (Xk rfl (Xk rfl (Xk rfl (Xk rfl (Xc rfl (Kg286 _ (Ag.put ((Ag.put ((Ag.put ((Ag.put ((Ag.put (Ag.base rfl) rfl)) rfl)) rfl)) rfl)) rfl) (by rw [hb286]; rfl)))))))
  refine dn (jc (fun (y289 : Int × Int × Int × (List (List Int))) e w => ∃ (s : St) (e0 : Env) (vy289_0 : Value), w = s.w ∧ e = upd (upd (upd (upd e0 0 (pB p0)) 2 (pB b3)) 3 (pB b11)) 4 (iI x21.1) ∧ Kp s0 s ∧ OwF (Kd.sl 22 Yr) s [vy289_0] y289.2.2.2 69 ∧ BlF s p0 184 [w0_0, (iI y289.1), (iI y289.2.1)] 2 ∧ BlF s b11 116 [(iI y289.2.2.1), vy289_0] 42 ∧ BlF s b3 116 [(iI 0), (.slice none 0 0)] 40) (fun Gj289 Kj289 => ?_) ?_)
  ·
   refine cd rfl (fun h290 => ?_) (fun h290 => ?_)
   ·
    refine zdraw [[], [], [], [2], [3], [1, 4], [], [6, 5], [7], [0, 5, 8, 7], [9], [10], [10], [11, 9, 0, 1, 2, 3, 4, 5, 6, 7, 8, 9, 10, 11]] [some 50, some 51, some 52, some 53, some 54, some 55, some 56, some 57, some 58, some 59, some 49, some 60, some 61, none] [[3], [0], [3], [52], [53], [51, 54], [0], [56], [57], [50, 55, 58], [59], [49], [49], [3, 60]] [0, 1, 2, 3, 4, 5, 6, 7, 8, 9, 10, 11, 13, 12] ⟨by kernel_rfl, by kernel_rfl, by kernel_rfl⟩ (by kernel_rfl) (fun s291 p291 l291 tb291 zd291 => ?_)
    refine Xt 5 [some 56, some 50] tb291 ((((((zd291.add 0 50 (.agg #[(iI y262.1), vy262_0]) rfl).add 1 51 (pB p0) rfl).add 2 52 (pO b11 1) rfl).add 3 53 vy262_0 rfl).add 4 54 (iI (y262.2.length : Int)) rfl).add 6 56 (pB p0) rfl) (Xa (Xh rfl) rfl (Xa (ln_q' (Ay262_0.st (Xn p284 p291) rfl).rd u114 rfl) rfl (Xa (Xp (By262_b11.st (Xn p284 p291) rfl) u114 rfl) rfl (Xa (Xo fa116_1 rfl) rfl (Xa (Xh rfl) rfl (Xa (Yg (es := [(iI y262.1), vy262_0]) (By262_b11.st (Xn p284 p291) rfl) u116 z116 rfl) rfl Xg)))))) (by kernel_rfl) rfl (fun l301 e301 zd301 => ?_)
    have K305 := Ky262.st (Xn p284 p291) rfl
    have A308 := B284.st p291 rfl
    refine clB A308 rfl func74 rfl (spec_l1Below.calls (l1Cur.mk a0.b r283.2.i r283.2.h) (y262.2.length : Int) s291.w (mm [0] s291) p0 w0_0 (A0_0.kp K305) A308.w (A308.apart rfl)) (fun r307 s309 p309 B309 => ?_)
    refine Xm (L' := [6, 0]) (D' := [2, 3, 1, 4, 5]) zd301 rfl (fun zd311 => ?_)
    refine Xt 7 [some 50] tb291 zd311 (Xa (Xh rfl) rfl (Xa (Yg (es := [(iI y262.1), vy262_0]) (By262_b11.st (Yi p284 p291 p309) rfl) u116 z116 rfl) rfl Xg)) (by kernel_rfl) rfl (fun l312 e312 zd312 => ?_)
    have K314 := K305.st p309 rfl
    refine clB B309 rfl func74 rfl (spec_l1Below.calls (l1Cur.mk a0.b r307.2.i r307.2.h) (50 : Int) s309.w (mm [0] s309) p0 w0_0 (A0_0.kp K314) B309.w (B309.apart rfl)) (fun r316 s317 p317 B317 => ?_)
    refine Xm (L' := [0]) (D' := [6, 7, 2, 3, 1, 4, 5]) zd312 rfl (fun zd319 => ?_)
    refine Xt 9 [] tb291 (zd319.add 8 58 (iI (IntKind.wrap .i64 ((1 : Int) + r316.1))) rfl) (Xa (Xh rfl) rfl (Xa (Yg (es := [(iI y262.1), vy262_0]) (By262_b11.st (Yo p284 p291 p309 p317) rfl) u116 z116 rfl) rfl Xg)) (by kernel_rfl) rfl (fun l321 e321 zd321 => ?_)
    refine cl' rfl func219 rfl (spec_PageClear.calls (Page.mk y262.1 y262.2) r307.1 (IntKind.wrap .i64 ((1 : Int) + r316.1)) s317.w (mm [67] s317) vy262_0 (Ay262_0.st (Yo p284 p291 p309 p317) rfl).rd) ?_
    rintro r324 _ w324 m324 ⟨v324_0, rfl, f324_0, ky324⟩
    obtain ⟨s325, rfl, p325, n325⟩ := nwx s317 w324 72 ky324
    have Au324_0_0 := ap116 (f324_0.c n325)
    refine Xm (L' := []) (D' := [0, 8, 9, 6, 7, 2, 3, 1, 4, 5]) zd321 rfl (fun zd327 => ?_)
    refine Xt 13 [some 61] tb291 (((zd327.add 10 49 (.tuple #[(.agg #[(iI r324.1.Lsn), v324_0]), (.bool r324.2)]) rfl).add 11 60 (.agg #[(iI r324.1.Lsn), v324_0]) rfl).add 12 61 (.bool r324.2) rfl) (Xa (Xh (v := (.bool r324.2)) rfl) rfl (Xa (Xh (v := (.agg #[(iI r324.1.Lsn), v324_0])) rfl) rfl (Xa (Xh rfl) rfl Xg))) (by kernel_rfl) rfl (fun l331 e331 zd331 => ?_)
    refine Xx (vs := [(iI r324.1.Lsn), v324_0]) (By262_b11.st (tr5 p284 p291 p309 p317 p325) rfl) z116 rfl (Xb rfl (Xb Au324_0_0.rd.one Xj)) rfl (fun s333 p333 B333 => ?_)
    refine zdone0 (L' := [12]) (D' := [11, 10, 11, 13, 0, 8, 9, 6, 7, 2, 3, 1, 4, 5]) zd331 rfl rfl rfl (fun zd335 => ?_)
    refine Yp [] tb291 zd335 (Xa (Xh (v := (.bool r324.2)) rfl) rfl Xg) (by kernel_rfl) (by decide) (dn ?_)
    obtain ⟨s337, hw337, p337, A337⟩ := (Au324_0_0.st p333 rfl).rc 69 rfl
    rw [hw337]
    exact Kj289 _ _ _ ⟨s337, _, v324_0, rfl, (ue (ue (ue (ue rfl rfl) rfl) rfl) rfl), (K314.st (Yo p317 p325 p333 p337) rfl), A337, (B317.st (Yi p325 p333 p337) rfl), (B333.st p337 rfl), (By262_b3.st (tr7 p284 p291 p309 p317 p325 p333 p337) rfl)⟩
   refine sk ?_
   obtain ⟨s343, hw343, p343, A343⟩ := (Ay262_0.st p284 rfl).rc 69 rfl
   rw [hw343]
   exact Kj289 _ _ _ ⟨s343, _, vy262_0, rfl, (ue (ue (ue (ue rfl rfl) rfl) rfl) rfl), (Ky262.st (Xn p284 p343) rfl), A343, (B284.st p343 rfl), (By262_b11.st (Xn p284 p343) rfl), (By262_b3.st (Xn p284 p343) rfl)⟩
  rintro y289 _ _ ⟨s348, _, vy289_0, rfl, rfl, Ky289, Ay289_0, By289_p0, By289_b11, By289_b3⟩
  refine ib (rg (Xc rfl (Xc rfl (Xc rfl (dn ?_)))))
  obtain ⟨s353, hw353, p353, A353⟩ := Ay289_0.rc 44 rfl
  rw [hw353]
  exact lb ih21 ⟨s353, _, vy289_0, rfl, (ue (ue (ue (ue rfl rfl) rfl) rfl) rfl), (Ky289.st p353 rfl), A353, (By289_p0.st p353 rfl), (By289_b11.st p353 rfl), (By289_b3.st p353 rfl)⟩
 refine xt rfl (sgb (sr (Ya (es := [(iI x21.2.2.2.1), vx21_0]) Bx21_b11 u116 z116 rfl (Xx (vs := [(iI x21.2.2.2.1), vx21_0]) Bx21_b3 z116 rfl (Xb rfl (Xb Ax21_0.rd.one Xj)) rfl (fun s358 p358 B358 => ?_)))))
 refine dn ?_
 have A360 : OwF kd116 s358 [(iI x21.2.2.2.1), vx21_0] (Page.mk x21.2.2.2.1 x21.2.2.2.2) 44 := (Xs (fun x : Page => (x.Lsn, x.Slots)) (Page.mk x21.2.2.2.1 x21.2.2.2.2) (Xy (Xf .i64 x21.2.2.2.1) (Ax21_0.st p358 rfl)))
 have K363 := Kx21.st p358 rfl
 exact re rfl func160 rfl (r_b B358 u116 rfl z116 rfl Xe) rfl ⟨_, rfl, vx21_0, rfl, A360.fo K363 rfl z.l, (BlF.w (Bx21_p0.st p358 rfl)), z.ky K363⟩
def spec_l1PickInt.f (a0 : l1Cur) (a1 : (List Int)) : Option (Int × l1Cur) :=
 ((spec_l1Below.f a0 (a1.length : Int)).bind fun r4 => (if 0 ≤ r4.1 ∧ r4.1 < (a1.length : Int) then (some ((at_ a1 r4.1), (l1Cur.mk a0.b r4.2.i r4.2.h))) else none))
def spec_l1PickInt.Q (w : World) (F : Nat → Prop) (p0 : Nat) (w0_0 : Value) (r : Int × l1Cur) (v : Value) (w' : World) : Prop :=
 v = (iI r.1) ∧ BlW w' p0 184 [w0_0, (iI r.2.i), (iI r.2.h)] ∧ Ky [p0] w w'
theorem spec_l1PickInt.calls (a0 : l1Cur) (a1 : (List Int)) (w : World) (F : Nat → Prop) (p0 : Nat) (w0_0 : Value) (w1_0 : Value) (h0_0 : Yr.rd w [w0_0] a0.b F) (h1_0 : Yv.rd w [w1_0] a1 F) (hb0 : BlW w p0 184 [w0_0, (iI a0.i), (iI a0.h)]) (hF : ∀ b, F b → b ∉ [p0]) (r : Int × l1Cur) (m : spec_l1PickInt.f a0 a1 = some r) :
  Calls prog 75 #[(pB p0), w1_0] w (RT (spec_l1PickInt.Q w F p0 w0_0) r) := by
 obtain ⟨s0, rfl, kp0, z⟩ := start1 w F [p0] hF
 have B0 := z.bl hb0 (by simp)
 have A1_0 := z.rd h1_0
 refine Xd (args := [(pB p0), w1_0]) func75 ntmps75 rfl m ?_
 unfold spec_l1PickInt.f
 refine sr (Xc rfl (dn (sr (Yc w1_0 rfl (Xc rfl (Yc w1_0 rfl (ln' A1_0 u50 rfl (clB B0 rfl func74 rfl (spec_l1Below.calls a0 (a1.length : Int) s0.w (mm [0] s0) p0 w0_0 (z.rd h0_0) B0.w (B0.apart rfl)) (fun r4 s5 p5 B5 => ?_)))))))))
 have K7 := kp0.st p5 rfl
 refine ix' (A1_0.kp K7) u50 z3 rfl (fun ad9 es9 h0_9 h1_9 he9 ce9 ia9 => ?_)
 obtain rfl := he9
 exact lc0' ce9 u3 rfl (Xc rfl (dn (re rfl func75 rfl (Xu rfl Xe) rfl ⟨_, rfl, rfl, B5.w, z.ky K7⟩)))
def spec_l7bent.b0 (a0 : l1Cur) (x51 : Int × Int × (List (List Int))) : Option ((Int × Int × (List (List Int))) ⊕ (Int × Int × (List (List Int)))) :=
 ((spec_l1Below.f (l1Cur.mk a0.b x51.1 x51.2.1) (2 : Int)).bind fun r73 => (if (decide ((x51.2.2.length : Int) < (IntKind.wrap .i64 ((16 : Int) + r73.1)))) = true then (if x51.2.2.length + ([[(7 : Int)]]).length ≤ Lim then (some (Sum.inl (r73.2.i, r73.2.h, (x51.2.2 ++ [[(7 : Int)]])))) else none) else ((some (r73.2.i, r73.2.h, x51.2.2)).bind fun o => some (Sum.inr o))))
def spec_l7bent.f (a0 : l1Cur) (a1 : Page) : Option (Page × l1Cur) :=
 ((spec_l1Below.f a0 (14 : Int)).bind fun r10 => ((if (r10.1 == (0 : Int)) = true then ((spec_l1PickInt.f (l1Cur.mk a0.b r10.2.i r10.2.h) ([(-1 : Int), (1000000 : Int), (1000001 : Int)])).bind fun r20 => (some (r20.2.i, r20.2.h, r20.1, a1.Slots))) else ((if (r10.1 == (1 : Int)) = true then (if a1.Slots.length + ([([] : (List Int))]).length ≤ Lim then (some (r10.2.i, r10.2.h, (a1.Slots ++ [([] : (List Int))]))) else none) else ((if (r10.1 == (2 : Int)) = true then (iter (spec_l7bent.b0 a0) (r10.2.i, r10.2.h, a1.Slots)) else ((if (r10.1 == (3 : Int)) = true then ((spec_l1Below.f (l1Cur.mk a0.b r10.2.i r10.2.h) (2 : Int)).bind fun r113 => (if 0 ≤ (IntKind.wrap .i64 ((92 : Int) + r113.1)) ∧ (IntKind.wrap .i64 ((92 : Int) + r113.1)) ≤ (Lim : Int) then (if a1.Slots.length + ([(List.replicate ((IntKind.wrap .i64 ((92 : Int) + r113.1))).toNat (0 : Int))]).length ≤ Lim then (some (r113.2.i, r113.2.h, (a1.Slots ++ [(List.replicate ((IntKind.wrap .i64 ((92 : Int) + r113.1))).toNat (0 : Int))]))) else none) else none)) else ((if (r10.1 == (4 : Int)) = true then ((if 0 ≤ (92 : Int) ∧ (92 : Int) ≤ (Lim : Int) then (if 0 ≤ (92 : Int) ∧ (92 : Int) ≤ (Lim : Int) then (some ([(List.replicate ((92 : Int)).toNat (0 : Int)), (List.replicate ((92 : Int)).toNat (0 : Int))])) else none) else none).bind fun y147 => (if a1.Slots.length + y147.length ≤ Lim then (some (a1.Slots ++ y147)) else none)) else (some a1.Slots)).bind fun y141 => (some (r10.2.i, r10.2.h, y141)))).bind fun y102 => (some (y102.1, y102.2.1, y102.2.2)))).bind fun y49 => (some (y49.1, y49.2.1, y49.2.2)))).bind fun y31 => (some (y31.1, y31.2.1, a1.Lsn, y31.2.2)))).bind fun y14 => (some ((Page.mk y14.2.2.1 y14.2.2.2), (l1Cur.mk a0.b y14.1 y14.2.1)))))
def spec_l7bent.Q (w : World) (F : Nat → Prop) (os : List Nat) (p0 : Nat) (w0_0 : Value) (r : Page × l1Cur) (v : Value) (w' : World) : Prop :=
 ∃ (v0 : Value), v = (.agg #[(iI r.1.Lsn), v0]) ∧ FW kd116 os w w' [(iI r.1.Lsn), v0] r.1 ∧ BlW w' p0 184 [w0_0, (iI r.2.i), (iI r.2.h)] ∧ Ky (p0 :: os) w w'
theorem spec_l7bent.calls (a0 : l1Cur) (a1 : Page) (w : World) (F : Nat → Prop) (p0 : Nat) (w0_0 : Value) (w1_0 : Value) (h0_0 : Yr.rd w [w0_0] a0.b F) (os : List Nat) (h1 : kd116.ow w [(iI a1.Lsn), w1_0] a1 os) (hn : os.Nodup) (hb0 : BlW w p0 184 [w0_0, (iI a0.i), (iI a0.h)]) (hp : p0 ∉ os) (hF : ∀ b, F b → b ∉ p0 :: os) (r : Page × l1Cur) (m : spec_l7bent.f a0 a1 = some r) :
  Calls prog 159 #[(pB p0), (.agg #[(iI a1.Lsn), w1_0])] w (RT (spec_l7bent.Q w F os p0 w0_0) r) := by
 obtain ⟨u1_0, q1_0, e1, eo1, h1_0⟩ := po116 h1
 obtain y1_0 : w1_0 = u1_0 := by simpa using e1
 subst y1_0
 subst eo1
 obtain ⟨s0, rfl, kp0, z⟩ := startN w F [([p0], 2), (os, 40)] (by simpa [fl_] using And.intro hp hn) (fun b hb => by simpa [fl_] using hF b hb) rfl
 have ez : fl_ [([p0], 2), (os, 40)] = p0 :: os := by simp [fl_]
 have A0_0 := z.rd h0_0
 have A1_0 := z.ow (c := 40) (by simp) hn h1_0
 refine Xd (args := [(pB p0), (.agg #[(iI a1.Lsn), w1_0])]) func159 ntmps159 rfl m ?_
 unfold spec_l7bent.f
 refine sr (bx' (cs := [(iI a1.Lsn), w1_0]) 41 rfl rfl (fun b4 s4 p4 B4 => ?_))
 refine al' (cs := [(iI 0), (.slice none 0 0)]) 42 rfl o116 rfl (fun b6 s6 p6 B6 => ?_)
 refine dn (sq (sr (Xc rfl ?_)))
 have K8 := kp0.st (Xn p4 p6) rfl
 have A11 := BlF.st (z.bl (c := 2) (by simp) hb0) (Xn p4 p6) rfl
 refine clB A11 rfl func74 rfl (spec_l1Below.calls a0 (14 : Int) s6.w (mm [0] s6) p0 w0_0 (A0_0.kp K8) A11.w (A11.apart rfl)) (fun r10 s12 p12 B12 => ?_)
 refine dn (bl (sr (Xc rfl (Xc rfl (dn (jc (fun (y14 : Int × Int × Int × (List (List Int))) e w => ∃ (s : St) (e0 : Env) (vy14_0 : Value), w = s.w ∧ e = upd (upd e0 3 (pB b4)) 4 (pB b6) ∧ Kp s0 s ∧ OwF (Kd.sl 22 Yr) s [vy14_0] y14.2.2.2 40 ∧ BlF s p0 184 [w0_0, (iI y14.1), (iI y14.2.1)] 2 ∧ BlF s b6 116 [(iI 0), (.slice none 0 0)] 42 ∧ BlF s b4 116 [(iI y14.2.2.1), vy14_0] 41) (fun Gj14 Kj14 => ?_) ?_))))))
 ·
  refine cd rfl (fun h15 => ?_) (fun h15 => ?_)
  ·
   refine rg (Xc rfl (ltF' (K := (Kd.int .i64)) (cells := [(iI (-1)), (iI 1000000), (iI 1000001)]) [(-1 : Int), (1000000 : Int), (1000001 : Int)] 44 Xv u50 z3 o3 (fun w => (Yd _ _ _)) rfl (fun v16 s16 p16 A16 => ?_)))
   have K18 := K8.st (Xn p12 p16) rfl
   have A21 := B12.st p16 rfl
   refine clB A21 rfl func75 rfl (spec_l1PickInt.calls (l1Cur.mk a0.b r10.2.i r10.2.h) ([(-1 : Int), (1000000 : Int), (1000001 : Int)]) s16.w (mm [0, 44] s16) p0 w0_0 v16 ((A0_0.kp K18).sub (D := [0, 44]) rfl) (A16.rd.sub (D := [0, 44]) rfl) A21.w (A21.apart rfl)) (fun r20 s22 p22 B22 => ?_)
   refine Ye fa116_0 rfl (sv' (B4.st (Yo p6 p12 p16 p22) rfl) z3 rfl rfl rfl (fun s25 p25 B25 => ?_))
   exact dn (Kj14 _ _ _ ⟨s25, _, w1_0, rfl, (ue (ue rfl rfl) rfl), (K18.st (Xn p22 p25) rfl), (A1_0.st (tr6 p4 p6 p12 p16 p22 p25) rfl), (B22.st p25 rfl), (B6.st (Yo p12 p16 p22 p25) rfl), B25⟩)
  refine sr (Xc rfl (Xc rfl (dn (jc (fun (y31 : Int × Int × (List (List Int))) e w => ∃ (s : St) (e0 : Env) (vy31_0 : Value), w = s.w ∧ e = upd (upd e0 3 (pB b4)) 4 (pB b6) ∧ Kp s0 s ∧ OwF (Kd.sl 22 Yr) s [vy31_0] y31.2.2 40 ∧ BlF s p0 184 [w0_0, (iI y31.1), (iI y31.2.1)] 2 ∧ BlF s b6 116 [(iI 0), (.slice none 0 0)] 42 ∧ BlF s b4 116 [(iI a1.Lsn), vy31_0] 41) (fun Gj31 Kj31 => ?_) ?_))))
  ·
   refine cd rfl (fun h32 => ?_) (fun h32 => ?_)
   ·
    refine rg (Ye fa116_1 rfl ?_)
    have A33 := B4.st (Xn p6 p12) rfl
    refine Yl A33 u114 rfl ?_
    have A34 : OwF Yr s12 [(.slice none 0 0)] ([] : (List Int)) 47 := ow_z _ _ (Yk 5 (Kd.int .u8))
    refine ltO' (K := Yr) (cells := [(.slice none 0 0)]) [([] : (List Int))] 47 u114 z22 o22 (lo_one A34) rfl rfl (fun v37 s37 p37 A37 => ?_)
    refine apO' sl114 (A1_0.st (Yo p4 p6 p12 p37) rfl) A37 rfl (fun v40 s40 p40 A40 => ?_)
    refine Ye fa116_1 rfl (sv' (A33.st (Xn p37 p40) rfl) z114 rfl A40.rd.one rfl (fun s43 p43 B43 => ?_))
    exact dn (Kj31 _ _ _ ⟨s43, _, v40, rfl, (ue (ue rfl rfl) rfl), (K8.st (Yo p12 p37 p40 p43) rfl), (A40.st p43 rfl), (B12.st (Yi p37 p40 p43) rfl), (B6.st (Yo p12 p37 p40 p43) rfl), B43⟩)
   refine sr (Xc rfl (Xc rfl (dn (jc (fun (y49 : Int × Int × (List (List Int))) e w => ∃ (s : St) (e0 : Env) (vy49_0 : Value), w = s.w ∧ e = upd (upd e0 3 (pB b4)) 4 (pB b6) ∧ Kp s0 s ∧ OwF (Kd.sl 22 Yr) s [vy49_0] y49.2.2 40 ∧ BlF s p0 184 [w0_0, (iI y49.1), (iI y49.2.1)] 2 ∧ BlF s b6 116 [(iI 0), (.slice none 0 0)] 42 ∧ BlF s b4 116 [(iI a1.Lsn), vy49_0] 41) (fun Gj49 Kj49 => ?_) ?_))))
   ·
    refine cd rfl (fun h50 => ?_) (fun h50 => ?_)
    ·
     refine bl (lpI (fun (x51 : Int × Int × (List (List Int))) e w => ∃ (s : St) (e0 : Env) (vx51_0 : Value), w = s.w ∧ e = upd (upd (upd e0 0 (pB p0)) 3 (pB b4)) 4 (pB b6) ∧ Kp s0 s ∧ OwF (Kd.sl 22 Yr) s [vx51_0] x51.2.2 40 ∧ BlF s p0 184 [w0_0, (iI x51.1), (iI x51.2.1)] 2 ∧ BlF s b6 116 [(iI 0), (.slice none 0 0)] 42 ∧ BlF s b4 116 [(iI a1.Lsn), vx51_0] 41) ⟨s12, _, w1_0, rfl, (ue (ue (ue rfl rfl) rfl) rfl), (K8.st p12 rfl), (A1_0.st (Yi p4 p6 p12) rfl), B12, (B6.st p12 rfl), (B4.st (Xn p6 p12) rfl)⟩ (fun g51 ih51 => ?_))
     rintro x51 _ _ ⟨s56, _, vx51_0, rfl, rfl, Kx51, Ax51_0, Bx51_p0, Bx51_b6, Bx51_b4⟩
     unfold spec_l7bent.b0
     refine sq (sq (zdraw [[], [0], [1], [], [3], [4], [2, 5]] [some 22, some 23, some 24, some 25, some 26, some 27, some 28] [[3], [22], [23], [0], [25], [26], [24, 27]] [0, 1, 2, 3, 4, 5, 6] ⟨by kernel_rfl, by kernel_rfl, by kernel_rfl⟩ (by kernel_rfl) (fun s61 p61 l61 tb61 zd61 => ?_)))
     refine Xt 4 [some 24, some 23, some 22] tb61 ((((zd61.add 0 22 (pO b4 1) rfl).add 1 23 vx51_0 rfl).add 2 24 (iI (x51.2.2.length : Int)) rfl).add 3 25 (pB p0) rfl) (Xa (Xh rfl) rfl (Xa (ln_q' (Ax51_0.st p61 rfl).rd u114 rfl) rfl (Xa (Xp (Bx51_b4.st p61 rfl) u114 rfl) rfl (Xa (Xo fa116_1 rfl) rfl Xg)))) (by kernel_rfl) rfl (fun l68 e68 zd68 => ?_)
     have K71 := Kx51.st p61 rfl
     have A74 := Bx51_p0.st p61 rfl
     refine clB A74 rfl func74 rfl (spec_l1Below.calls (l1Cur.mk a0.b x51.1 x51.2.1) (2 : Int) s61.w (mm [0] s61) p0 w0_0 (A0_0.kp K71) A74.w (A74.apart rfl)) (fun r73 s75 p75 B75 => ?_)
     refine Xm (L' := [2, 1, 0]) (D' := [3, 4]) zd68 rfl (fun zd77 => ?_)
     refine Yp [6] tb61 (zd77.add 5 27 (iI (IntKind.wrap .i64 ((16 : Int) + r73.1))) rfl) (Xa (Xh rfl) rfl (Xa (ln_q' (Ax51_0.st (Xn p61 p75) rfl).rd u114 rfl) rfl (Xa (Xp (Bx51_b4.st (Xn p61 p75) rfl) u114 rfl) rfl (Xa (Xo fa116_1 rfl) rfl Xg)))) (by kernel_rfl) (by decide) (Xc rfl (dn (cd rfl (fun h81 => ?_) (fun h81 => ?_))))
     ·
      refine sk (bl (rg (Ye fa116_1 rfl ?_)))
      have A82 := Bx51_b4.st (Xn p61 p75) rfl
      refine Yl A82 u114 rfl (ltF' (K := (Kd.int .u8)) (cells := [(.int .u8 (7 : Int))]) [(7 : Int)] 49 Xv u22 z5 o5 (fun w => (Yd _ _ _)) rfl (fun v83 s83 p83 A83 => ?_))
      refine ltO' (K := Yr) (cells := [v83]) [[(7 : Int)]] 49 u114 z22 o22 (lo_one A83) rfl (lfill_pc (pc_c (oc A83.rd.one) pc_n) rfl) (fun v86 s86 p86 A86 => ?_)
      refine apO' sl114 (Ax51_0.st (Yo p61 p75 p83 p86) rfl) A86 rfl (fun v89 s89 p89 A89 => ?_)
      refine Ye fa116_1 rfl (sv' (A82.st (Yi p83 p86 p89) rfl) z114 rfl A89.rd.one rfl (fun s92 p92 B92 => ?_))
      refine dn (ib ?_)
      exact lb ih51 ⟨s92, _, v89, rfl, (ue (ue (ue rfl rfl) rfl) rfl), (K71.st (tr5 p75 p83 p86 p89 p92) rfl), (A89.st p92 rfl), (B75.st (Yo p83 p86 p89 p92) rfl), (Bx51_b6.st (tr6 p61 p75 p83 p86 p89 p92) rfl), B92⟩
     refine xt rfl (sgb ?_)
     exact Kj49 _ _ _ ⟨s75, _, vx51_0, rfl, (ue (ue rfl rfl) rfl), (K71.st p75 rfl), (Ax51_0.st (Xn p61 p75) rfl), B75, (Bx51_b6.st (Xn p61 p75) rfl), (Bx51_b4.st (Xn p61 p75) rfl)⟩
    refine sr (Xc rfl (Xc rfl (dn (jc (fun (y102 : Int × Int × (List (List Int))) e w => ∃ (s : St) (e0 : Env) (vy102_0 : Value), w = s.w ∧ e = upd (upd e0 3 (pB b4)) 4 (pB b6) ∧ Kp s0 s ∧ OwF (Kd.sl 22 Yr) s [vy102_0] y102.2.2 40 ∧ BlF s p0 184 [w0_0, (iI y102.1), (iI y102.2.1)] 2 ∧ BlF s b6 116 [(iI 0), (.slice none 0 0)] 42 ∧ BlF s b4 116 [(iI a1.Lsn), vy102_0] 41) (fun Gj102 Kj102 => ?_) ?_))))
    ·
     refine cd rfl (fun h103 => ?_) (fun h103 => ?_)
     ·
      refine zdraw [[], [0], [], [2], [3], [4, 4], [5], [1, 6, 3], [0, 1, 2, 3, 4, 5, 6, 7], [8, 7, 7, 0, 1, 2, 3, 4, 5, 6, 7]] [some 37, some 38, some 39, some 40, some 41, some 42, some 43, some 44, some 45, none] [[3], [37], [0], [39], [40], [41, 41], [42], [38, 43], [3], [45, 44]] [0, 1, 2, 3, 4, 5, 6, 7, 8, 9] ⟨by kernel_rfl, by kernel_rfl, by kernel_rfl⟩ (by kernel_rfl) (fun s104 p104 l104 tb104 zd104 => ?_)
      refine Xt 3 [some 38, some 37] tb104 (((zd104.add 0 37 (pO b4 1) rfl).add 1 38 w1_0 rfl).add 2 39 (pB p0) rfl) (Xa (Xh rfl) rfl (Xa (Xp (B4.st (Yi p6 p12 p104) rfl) u114 rfl) rfl (Xa (Xo fa116_1 rfl) rfl Xg))) (by kernel_rfl) rfl (fun l109 e109 zd109 => ?_)
      have K111 := K8.st (Xn p12 p104) rfl
      have A114 := B12.st p104 rfl
      refine clB A114 rfl func74 rfl (spec_l1Below.calls (l1Cur.mk a0.b r10.2.i r10.2.h) (2 : Int) s104.w (mm [0] s104) p0 w0_0 (A0_0.kp K111) A114.w (A114.apart rfl)) (fun r113 s115 p115 B115 => ?_)
      refine Xm (L' := [1, 0]) (D' := [2, 3]) zd109 rfl (fun zd117 => ?_)
      refine Xt 5 [some 38, some 37] tb104 (zd117.add 4 41 (iI (IntKind.wrap .i64 ((92 : Int) + r113.1))) rfl) (Xa (Xh rfl) rfl (Xa (Xp (B4.st (Yo p6 p12 p104 p115) rfl) u114 rfl) rfl (Xa (Xo fa116_1 rfl) rfl Xg))) (by kernel_rfl) rfl (fun l119 e119 zd119 => ?_)
      refine mk (x0 := (0 : Int)) (K := (Kd.int .u8)) 52 sl22 o5 (fun _ => ⟨rfl, rfl⟩) rfl rfl rfl rfl rfl rfl rfl (fun v121 s121 p121 A121 => ?_)
      refine Xm (L' := [1, 0]) (D' := [4, 4, 5, 2, 3]) zd119 rfl (fun zd123 => ?_)
      refine Xt 6 [some 38, some 37] tb104 zd123 (Xa (Xp (B4.st (tr5 p6 p12 p104 p115 p121) rfl) u114 rfl) rfl (Xa (Xo fa116_1 rfl) rfl Xg)) (by kernel_rfl) rfl (fun l124 e124 zd124 => ?_)
      refine ltO' (K := Yr) (cells := [v121]) [(List.replicate ((IntKind.wrap .i64 ((92 : Int) + r113.1))).toNat (0 : Int))] 52 u114 z22 o22 (lo_one A121) rfl (lfill_pc (pc_c (oc A121.rd.one) pc_n) rfl) (fun v127 s127 p127 A127 => ?_)
      refine Xm (L' := [1, 0]) (D' := [6, 4, 4, 5, 2, 3]) zd124 rfl (fun zd129 => ?_)
      refine Yp [7, 8, 9] tb104 zd129 (Xa (Xp (B4.st (tr6 p6 p12 p104 p115 p121 p127) rfl) u114 rfl) rfl (Xa (Xo fa116_1 rfl) rfl Xg)) (by kernel_rfl) (by decide) (apO' sl114 (A1_0.st (tr7 p4 p6 p12 p104 p115 p121 p127) rfl) A127 rfl (fun v132 s132 p132 A132 => ?_))
      refine Ye fa116_1 rfl (sv' (B4.st (tr7 p6 p12 p104 p115 p121 p127 p132) rfl) z114 rfl A132.rd.one rfl (fun s135 p135 B135 => ?_))
      exact dn (Kj102 _ _ _ ⟨s135, _, v132, rfl, (ue (ue rfl rfl) rfl), (K111.st (tr5 p115 p121 p127 p132 p135) rfl), (A132.st p135 rfl), (B115.st (Yo p121 p127 p132 p135) rfl), (B6.st (tr7 p12 p104 p115 p121 p127 p132 p135) rfl), B135⟩)
     refine sr (Xc rfl (Xc rfl (dn (jc (fun (y141 : (List (List Int))) e w => ∃ (s : St) (e0 : Env) (vy141_0 : Value), w = s.w ∧ e = upd (upd e0 3 (pB b4)) 4 (pB b6) ∧ Kp s0 s ∧ OwF (Kd.sl 22 Yr) s [vy141_0] y141 40 ∧ BlF s p0 184 [w0_0, (iI r10.2.i), (iI r10.2.h)] 2 ∧ BlF s b6 116 [(iI 0), (.slice none 0 0)] 42 ∧ BlF s b4 116 [(iI a1.Lsn), vy141_0] 41) (fun Gj141 Kj141 => ?_) ?_))))
     ·
      refine cd rfl (fun h142 => ?_) (fun h142 => ?_)
      ·
       refine zdraw [[], [0], [], [], [2, 3], [1, 4], [0, 1, 2, 3, 4, 5], [6, 5, 5, 0, 1, 2, 3, 4, 5]] [some 48, some 49, some 50, some 51, some 52, some 53, some 54, none] [[3], [48], [], [], [50, 51], [49, 52], [3], [54, 53]] [0, 1, 2, 3, 4, 5, 6, 7] ⟨by kernel_rfl, by kernel_rfl, by kernel_rfl⟩ (by kernel_rfl) (fun s143 p143 l143 tb143 zd143 => ?_)
       refine ji [5, 6, 7] (fun (y147 : (List (List Int))) e w => ∃ (s : St) (e0 : Env) (vy147_0 : Value), w = s.w ∧ e = upd (upd (upd (upd e0 3 (pB b4)) 4 (pB b6)) 49 w1_0) 52 vy147_0 ∧ Kp s0 s ∧ OwF (Kd.sl 22 Yr) s [vy147_0] y147 54 ∧ BlF s p0 184 [w0_0, (iI r10.2.i), (iI r10.2.h)] 2 ∧ BlF s b6 116 [(iI 0), (.slice none 0 0)] 42 ∧ BlF s b4 116 [(iI a1.Lsn), w1_0] 41 ∧ OwF (Kd.sl 22 Yr) s [w1_0] a1.Slots 40) (fun Gj147 Kj147 => ?_) ?_
       ·
        refine zstep2 2 3 [some 49, some 48] [some 49, some 48] tb143 ((zd143.add 0 48 (pO b4 1) rfl).add 1 49 w1_0 rfl) (Xa (Xp (B4.st (Yi p6 p12 p143) rfl) u114 rfl) rfl (Xa (Xo fa116_1 rfl) rfl Xg)) (by kernel_rfl) (by kernel_rfl) (fun l148 e148 zd148 => ?_) (fun l149 e149 zd149 => ?_)
        ·
         refine mk (x0 := (0 : Int)) (K := (Kd.int .u8)) 55 sl22 o5 (fun _ => ⟨rfl, rfl⟩) rfl rfl rfl rfl rfl rfl rfl (fun v151 s151 p151 A151 => ?_)
         refine Xm (L' := [1, 0]) (D' := [2]) zd148 rfl (fun zd153 => ?_)
         refine Xt 3 [some 49, some 48] tb143 zd153 (Xa (Xp (B4.st (Yo p6 p12 p143 p151) rfl) u114 rfl) rfl (Xa (Xo fa116_1 rfl) rfl Xg)) (by kernel_rfl) rfl (fun l154 e154 zd154 => ?_)
         refine mk (x0 := (0 : Int)) (K := (Kd.int .u8)) 56 sl22 o5 (fun _ => ⟨rfl, rfl⟩) rfl rfl rfl rfl rfl rfl rfl (fun v156 s156 p156 A156 => ?_)
         refine Xm (L' := [1, 0]) (D' := [3, 2]) zd154 rfl (fun zd158 => ?_)
         refine Xt 4 [some 49, some 48] tb143 zd158 (Xa (Xp (B4.st (tr5 p6 p12 p143 p151 p156) rfl) u114 rfl) rfl (Xa (Xo fa116_1 rfl) rfl Xg)) (by kernel_rfl) rfl (fun l159 e159 zd159 => ?_)
         have A161 := A151.st p156 rfl
         obtain ⟨s163, hw163, p163, L163⟩ := lo_cons A161 (lo_one A156) rfl rfl
         rw [hw163]
         refine ltO' (K := Yr) (cells := [v151, v156]) [(List.replicate ((92 : Int)).toNat (0 : Int)), (List.replicate ((92 : Int)).toNat (0 : Int))] 55 u114 z22 o22 L163 rfl (lfill_pc (pc_c (oc A161.rd.one) (pc_c (oc A156.rd.one) pc_n)) rfl) (fun v164 s164 p164 A164 => ?_)
         refine Xm (L' := [1, 0]) (D' := [4, 3, 2]) zd159 rfl (fun zd166 => ?_)
         refine Yp [5, 6, 7] tb143 zd166 (Xa (Xp (B4.st (tr7 p6 p12 p143 p151 p156 p163 p164) rfl) u114 rfl) rfl (Xa (Xo fa116_1 rfl) rfl Xg)) (by kernel_rfl) (by decide) ?_
         obtain ⟨s168, hw168, p168, A168⟩ := A164.rc 54 rfl
         rw [hw168]
         exact Kj147 _ _ _ ⟨s168, _, v164, rfl, (ue (ue (ue (ue rfl rfl) rfl) rfl) rfl), (K8.st (tr7 p12 p143 p151 p156 p163 p164 p168) rfl), A168, (B12.st (tr6 p143 p151 p156 p163 p164 p168) rfl), (B6.st (tr7 p12 p143 p151 p156 p163 p164 p168) rfl), (B4.st (tr8 p6 p12 p143 p151 p156 p163 p164 p168) rfl), (A1_0.st (tr9 p4 p6 p12 p143 p151 p156 p163 p164 p168) rfl)⟩
        refine mk (x0 := (0 : Int)) (K := (Kd.int .u8)) 58 sl22 o5 (fun _ => ⟨rfl, rfl⟩) rfl rfl rfl rfl rfl rfl rfl (fun v174 s174 p174 A174 => ?_)
        refine Xm (L' := [1, 0]) (D' := [3]) zd149 rfl (fun zd176 => ?_)
        refine Xt 2 [some 49, some 48] tb143 zd176 (Xa (Xp (B4.st (Yo p6 p12 p143 p174) rfl) u114 rfl) rfl (Xa (Xo fa116_1 rfl) rfl Xg)) (by kernel_rfl) rfl (fun l177 e177 zd177 => ?_)
        refine mk (x0 := (0 : Int)) (K := (Kd.int .u8)) 59 sl22 o5 (fun _ => ⟨rfl, rfl⟩) rfl rfl rfl rfl rfl rfl rfl (fun v179 s179 p179 A179 => ?_)
        refine Xm (L' := [1, 0]) (D' := [2, 3]) zd177 rfl (fun zd181 => ?_)
        refine Xt 4 [some 49, some 48] tb143 zd181 (Xa (Xp (B4.st (tr5 p6 p12 p143 p174 p179) rfl) u114 rfl) rfl (Xa (Xo fa116_1 rfl) rfl Xg)) (by kernel_rfl) rfl (fun l182 e182 zd182 => ?_)
        have A184 := A174.st p179 rfl
        obtain ⟨s186, hw186, p186, L186⟩ := lo_cons A179 (lo_one A184) rfl rfl
        rw [hw186]
        refine ltO' (K := Yr) (cells := [v179, v174]) [(List.replicate ((92 : Int)).toNat (0 : Int)), (List.replicate ((92 : Int)).toNat (0 : Int))] 59 u114 z22 o22 L186 rfl (lfill_pc (pc_c (oc A179.rd.one) (pc_c (oc A184.rd.one) pc_n)) rfl) (fun v187 s187 p187 A187 => ?_)
        refine Xm (L' := [1, 0]) (D' := [4, 2, 3]) zd182 rfl (fun zd189 => ?_)
        refine Yp [5, 6, 7] tb143 zd189 (Xa (Xp (B4.st (tr7 p6 p12 p143 p174 p179 p186 p187) rfl) u114 rfl) rfl (Xa (Xo fa116_1 rfl) rfl Xg)) (by kernel_rfl) (by decide) ?_
        obtain ⟨s191, hw191, p191, A191⟩ := A187.rc 54 rfl
        rw [hw191]
        exact Kj147 _ _ _ ⟨s191, _, v187, rfl, (ue (ue (ue (ue rfl rfl) rfl) rfl) rfl), (K8.st (tr7 p12 p143 p174 p179 p186 p187 p191) rfl), A191, (B12.st (tr6 p143 p174 p179 p186 p187 p191) rfl), (B6.st (tr7 p12 p143 p174 p179 p186 p187 p191) rfl), (B4.st (tr8 p6 p12 p143 p174 p179 p186 p187 p191) rfl), (A1_0.st (tr9 p4 p6 p12 p143 p174 p179 p186 p187 p191) rfl)⟩
       rintro y147 _ _ ⟨s197, _, vy147_0, rfl, rfl, Ky147, Ay147_0, By147_p0, By147_b6, By147_b4, Cy147_3⟩
       refine apO' sl114 Cy147_3 Ay147_0 rfl (fun v202 s202 p202 A202 => ?_)
       refine Ye fa116_1 rfl (sv' (By147_b4.st p202 rfl) z114 rfl A202.rd.one rfl (fun s205 p205 B205 => ?_))
       exact dn (Kj141 _ _ _ ⟨s205, _, v202, rfl, (ue (ue rfl rfl) rfl), (Ky147.st (Xn p202 p205) rfl), (A202.st p205 rfl), (By147_p0.st (Xn p202 p205) rfl), (By147_b6.st (Xn p202 p205) rfl), B205⟩)
      exact sk (Kj141 _ _ _ ⟨s12, _, w1_0, rfl, (ue (ue rfl rfl) rfl), (K8.st p12 rfl), (A1_0.st (Yi p4 p6 p12) rfl), B12, (B6.st p12 rfl), (B4.st (Xn p6 p12) rfl)⟩)
     rintro y141 _ _ ⟨s215, _, vy141_0, rfl, rfl, Ky141, Ay141_0, By141_p0, By141_b6, By141_b4⟩
     exact Kj102 _ _ _ ⟨s215, _, vy141_0, rfl, (ue (ue rfl rfl) rfl), Ky141, Ay141_0, By141_p0, By141_b6, By141_b4⟩
    rintro y102 _ _ ⟨s220, _, vy102_0, rfl, rfl, Ky102, Ay102_0, By102_p0, By102_b6, By102_b4⟩
    exact Kj49 _ _ _ ⟨s220, _, vy102_0, rfl, (ue (ue rfl rfl) rfl), Ky102, Ay102_0, By102_p0, By102_b6, By102_b4⟩
   rintro y49 _ _ ⟨s225, _, vy49_0, rfl, rfl, Ky49, Ay49_0, By49_p0, By49_b6, By49_b4⟩
   exact Kj31 _ _ _ ⟨s225, _, vy49_0, rfl, (ue (ue rfl rfl) rfl), Ky49, Ay49_0, By49_p0, By49_b6, By49_b4⟩
  rintro y31 _ _ ⟨s230, _, vy31_0, rfl, rfl, Ky31, Ay31_0, By31_p0, By31_b6, By31_b4⟩
  exact Kj14 _ _ _ ⟨s230, _, vy31_0, rfl, (ue (ue rfl rfl) rfl), Ky31, Ay31_0, By31_p0, By31_b6, By31_b4⟩
 rintro y14 _ _ ⟨s235, _, vy14_0, rfl, rfl, Ky14, Ay14_0, By14_p0, By14_b6, By14_b4⟩
 refine ib (sr (Ya (es := [(iI y14.2.2.1), vy14_0]) By14_b4 u116 z116 rfl (Xx (vs := [(iI y14.2.2.1), vy14_0]) By14_b6 z116 rfl (Xb rfl (Xb Ay14_0.rd.one Xj)) rfl (fun s240 p240 B240 => ?_))))
 refine dn ?_
 have A242 : OwF kd116 s240 [(iI y14.2.2.1), vy14_0] (Page.mk y14.2.2.1 y14.2.2.2) 40 := (Xs (fun x : Page => (x.Lsn, x.Slots)) (Page.mk y14.2.2.1 y14.2.2.2) (Xy (Xf .i64 y14.2.2.1) (Ay14_0.st p240 rfl)))
 have K245 := Ky14.st p240 rfl
 exact re rfl func159 rfl (r_b B240 u116 rfl z116 rfl Xe) rfl ⟨_, rfl, vy14_0, rfl, z.fwm K245 (oc_ow A242) rfl, (BlF.w (By14_p0.st p240 rfl)), z.ky' ez K245⟩
def spec_l10heap.b1 (a0 : l1Cur) (x278 : Int × Int × (List Page)) : Option ((Int × Int × (List Page)) ⊕ (Int × Int × (List Page))) :=
 ((spec_l1Below.f (l1Cur.mk a0.b x278.1 x278.2.1) (2 : Int)).bind fun r300 => (if (decide ((x278.2.2.length : Int) < (IntKind.wrap .i64 ((16 : Int) + r300.1)))) = true then (if x278.2.2.length + ([(Page.mk (0 : Int) ([] : (List (List Int))))]).length ≤ Lim then (some (Sum.inl (r300.2.i, r300.2.h, (x278.2.2 ++ [(Page.mk (0 : Int) ([] : (List (List Int))))])))) else none) else ((some (r300.2.i, r300.2.h, x278.2.2)).bind fun o => some (Sum.inr o))))
def spec_l10heap.b0 (a0 : l1Cur) (x13 : Int × Int × Int × (List Page)) : Option ((Int × Int × Int × (List Page)) ⊕ (Heap × l1Cur)) :=
 (if (decide (x13.1 > (0 : Int))) = true then ((spec_l6tuple.f (l1Cur.mk a0.b x13.2.1 x13.2.2.1)).bind fun r24 => ((spec_TupleBytes.f r24.1).bind fun r46 => ((spec_HeapPlace.f (Heap.mk x13.2.2.2) (r46.length : Int)).bind fun r54 => ((if (decide (r54.1 ≥ (0 : Int))) = true then ((spec_l1Below.f (l1Cur.mk a0.b r24.2.i r24.2.h) (50 : Int)).bind fun r76 => ((spec_HeapPut.f (Heap.mk x13.2.2.2) r54.1 r54.2 r24.1 (IntKind.wrap .i64 ((1 : Int) + r76.1))).bind fun r88 => (some (r76.2.i, r76.2.h, r88.1.Pages)))) else (some (r24.2.i, r24.2.h, x13.2.2.2))).bind fun y61 => ((spec_l1Once.f (l1Cur.mk a0.b y61.1 y61.2.1) (6 : Int)).bind fun r118 => ((if r118.1 = true then ((spec_HeapRows.f (Heap.mk y61.2.2)).bind fun r125 => ((if (decide ((r125.length : Int) > (0 : Int))) = true then ((spec_l1Below.f (l1Cur.mk a0.b r118.2.i r118.2.h) (r125.length : Int)).bind fun r132 => (if 0 ≤ r132.1 ∧ r132.1 < (r125.length : Int) then ((spec_l1Below.f (l1Cur.mk a0.b r132.2.i r132.2.h) (50 : Int)).bind fun r163 => ((spec_HeapClear.f (Heap.mk y61.2.2) ((at_ r125 r132.1).Page) ((at_ r125 r132.1).Slot) (IntKind.wrap .i64 ((1 : Int) + r163.1))).bind fun r174 => (some (r163.2.i, r163.2.h, r174.1.Pages)))) else none)) else (some (r118.2.i, r118.2.h, y61.2.2))).bind fun y128 => (some (y128.1, y128.2.1, y128.2.2)))) else (some (r118.2.i, r118.2.h, y61.2.2))).bind fun y121 => (some (Sum.inl ((IntKind.wrap .i64 (x13.1 - (1 : Int))), y121.1, y121.2.1, y121.2.2))))))))) else (((spec_l1Below.f (l1Cur.mk a0.b x13.2.1 x13.2.2.1) (30 : Int)).bind fun r225 => ((if (r225.1 == (0 : Int)) = true then ((spec_l7page.f (l1Cur.mk a0.b r225.2.i r225.2.h)).bind fun r240 => ((spec_l7bent.f (l1Cur.mk a0.b r240.2.i r240.2.h) r240.1).bind fun r252 => (if x13.2.2.2.length + ([r252.1]).length ≤ Lim then (some (r252.2.i, r252.2.h, (x13.2.2.2 ++ [r252.1]))) else none))) else ((if (r225.1 == (1 : Int)) = true then (iter (spec_l10heap.b1 a0) (r225.2.i, r225.2.h, x13.2.2.2)) else ((if (r225.1 == (2 : Int)) = true then ((if (decide ((x13.2.2.2.length : Int) > (0 : Int))) = true then (if 0 ≤ (0 : Int) ∧ (0 : Int) < (x13.2.2.2.length : Int) then (if ((at_ x13.2.2.2 (0 : Int)).Slots).length + ([[(1 : Int), (2 : Int), (3 : Int)]]).length ≤ Lim then (if 0 ≤ (0 : Int) ∧ (0 : Int) < (x13.2.2.2.length : Int) then ((some (x13.2.2.2.set ((0 : Int)).toNat (Page.mk (at_ x13.2.2.2 (0 : Int)).Lsn ((at_ x13.2.2.2 (0 : Int)).Slots ++ [[(1 : Int), (2 : Int), (3 : Int)]])))).bind fun y382 => (some y382)) else none) else none) else none) else (some x13.2.2.2)).bind fun y333 => (some y333)) else (some x13.2.2.2)).bind fun y329 => (some (r225.2.i, r225.2.h, y329)))).bind fun y276 => (some (y276.1, y276.2.1, y276.2.2)))).bind fun y228 => (some ((Heap.mk y228.2.2), (l1Cur.mk a0.b y228.1 y228.2.1))))).bind fun o => some (Sum.inr o)))
def spec_l10heap.f (a0 : l1Cur) (a1 : Int) : Option (Heap × l1Cur) :=
 ((spec_l1Below.f a0 (IntKind.wrap .i64 (a1 + (1 : Int)))).bind fun r9 => (iter (spec_l10heap.b0 a0) (r9.1, r9.2.i, r9.2.h, ([] : (List Page)))))
def spec_l10heap.Q (w : World) (F : Nat → Prop) (p0 : Nat) (w0_0 : Value) (r : Heap × l1Cur) (v : Value) (w' : World) : Prop :=
 ∃ (v0 : Value), v = (.agg #[v0]) ∧ FO kd26 w w' [v0] r.1 ∧ BlW w' p0 184 [w0_0, (iI r.2.i), (iI r.2.h)] ∧ Ky [p0] w w'
theorem spec_l10heap.calls (a0 : l1Cur) (a1 : Int) (w : World) (F : Nat → Prop) (p0 : Nat) (w0_0 : Value) (h0_0 : Yr.rd w [w0_0] a0.b F) (hb0 : BlW w p0 184 [w0_0, (iI a0.i), (iI a0.h)]) (hF : ∀ b, F b → b ∉ [p0]) (r : Heap × l1Cur) (m : spec_l10heap.f a0 a1 = some r) :
  Calls prog 68 #[(pB p0), (iI a1)] w (RT (spec_l10heap.Q w F p0 w0_0) r) := by
 obtain ⟨s0, rfl, kp0, z⟩ := start1 w F [p0] hF
 have A0_0 := z.rd h0_0
 refine Xd (args := [(pB p0), (iI a1)]) func68 ntmps68 rfl m ?_
 unfold spec_l10heap.f
 refine sr (al' (cs := [(.slice none 0 0)]) 40 rfl o26 rfl (fun b3 s3 p3 B3 => ?_))
 refine dn (sr (al' (cs := [(.slice none 0 0)]) 41 rfl o26 rfl (fun b5 s5 p5 B5 => ?_)))
 refine dn (sq (sr (Xc rfl (Xc rfl (Xc rfl ?_)))))
 have K7 := kp0.st (Xn p3 p5) rfl
 have A10 := BlF.st (z.bl hb0 (by simp)) (Xn p3 p5) rfl
 refine clB A10 rfl func74 rfl (spec_l1Below.calls a0 (IntKind.wrap .i64 (a1 + (1 : Int))) s5.w (mm [0] s5) p0 w0_0 (A0_0.kp K7) A10.w (A10.apart rfl)) (fun r9 s11 p11 B11 => ?_)
 refine Xc rfl (dn (bl ?_))
 refine lpI (fun (x13 : Int × Int × Int × (List Page)) e w => ∃ (s : St) (e0 : Env) (vx13_0 : Value), w = s.w ∧ e = upd (upd (upd (upd e0 0 (pB p0)) 4 (pB b3)) 5 (pB b5)) 6 (iI x13.1) ∧ Kp s0 s ∧ OwF Yt s [vx13_0] x13.2.2.2 43 ∧ BlF s p0 184 [w0_0, (iI x13.2.1), (iI x13.2.2.1)] 2 ∧ BlF s b5 26 [vx13_0] 41 ∧ BlF s b3 26 [(.slice none 0 0)] 40) ⟨s11, _, (.slice none 0 0), rfl, (ue (ue (ue (ue rfl rfl) rfl) rfl) rfl), (K7.st p11 rfl), (Ym 116 kd116 _ 43), B11, (B5.st p11 rfl), (B3.st (Xn p5 p11) rfl)⟩ (fun g13 ih13 => ?_)
 rintro x13 _ _ ⟨s17, _, vx13_0, rfl, rfl, Kx13, Ax13_0, Bx13_p0, Bx13_b5, Bx13_b3⟩
 unfold spec_l10heap.b0
 refine sq (sr (Xc rfl (Xc rfl (dn (cd rfl (fun h22 => ?_) (fun h22 => ?_))))))
 ·
  refine sk (sq (bl (sr (Xc rfl ?_))))
  refine cl' rfl func70 rfl (spec_l6tuple.calls (l1Cur.mk a0.b x13.2.1 x13.2.2.1) s17.w (mm [0] s17) p0 w0_0 (A0_0.kp Kx13) Bx13_p0.w (Bx13_p0.apart rfl)) ?_
  rintro r24 _ w24 m24 ⟨v24_0, v24_1, v24_2, v24_3, rfl, f24_0, bw24, ky24⟩
  obtain ⟨s25, rfl, p25, n25, g25⟩ := nwb 44 Bx13_p0 ky24
  obtain ⟨s26, hw26, p26, hu24_0_0, Au24_0_1, hu24_0_2, Au24_0_3⟩ := ap31 45 (f24_0.c n25) rfl
  rw [hw26]
  have B25 := blf_mk bw24 g25
  refine al' (cs := [(iI 0), (iI 0), (iI 0), (iI 0), (.float .f64 0), (.slice none 0 0), (iI 0), (iI 0), (.float .f64 0), (.slice none 0 0)]) 46 rfl o31 rfl (fun b30 s30 p30 B30 => ?_)
  have A32 := Au24_0_3.st p30 rfl
  have A33 := Au24_0_1.st p30 rfl
  refine Xx (vs := [(iI r24.1.Xmin), (iI r24.1.Xmax), (iI r24.1.Key.Kind), (iI r24.1.Key.N), v24_0, v24_1, (iI r24.1.Value.Kind), (iI r24.1.Value.N), v24_2, v24_3]) B30 z31 rfl (Xb rfl (Xb rfl (Xb rfl (Xb rfl (Xb (FL.one hu24_0_0) (Xb A33.rd.one (Xb rfl (Xb rfl (Xb (FL.one hu24_0_2) (Xb A32.rd.one Xj)))))))))) rfl (fun s34 p34 B34 => ?_)
  refine dn (sq (zdraw [[], [], [1], [2], [0, 3, 2], [4], [5], [5], [6, 4, 0, 1, 2, 3, 4, 5, 6], [7, 8, 0, 1, 2, 3, 4, 5, 6, 7, 8]] [some 23, some 24, some 25, some 26, some 27, some 22, some 28, some 29, some 8, some 9] [[5], [7], [24], [25], [23, 26], [27], [22], [22], [28], [29]] [0, 1, 2, 3, 4, 5, 6, 8, 7, 9] ⟨by kernel_rfl, by kernel_rfl, by kernel_rfl⟩ (by kernel_rfl) (fun s36 p36 l36 tb36 zd36 => ?_)))
  refine Xt 2 [some 23] tb36 ((zd36.add 0 23 (.agg #[vx13_0]) rfl).add 1 24 (.agg #[(iI r24.1.Xmin), (iI r24.1.Xmax), (iI r24.1.Key.Kind), (iI r24.1.Key.N), v24_0, v24_1, (iI r24.1.Value.Kind), (iI r24.1.Value.N), v24_2, v24_3]) rfl) (Xa (Yg (es := [(iI r24.1.Xmin), (iI r24.1.Xmax), (iI r24.1.Key.Kind), (iI r24.1.Key.N), v24_0, v24_1, (iI r24.1.Value.Kind), (iI r24.1.Value.N), v24_2, v24_3]) (B34.st p36 rfl) u31 z31 rfl) rfl (Xa (Yg (es := [vx13_0]) (Bx13_b5.st (tr5 p25 p26 p30 p34 p36) rfl) u26 z26 rfl) rfl Xg)) (by kernel_rfl) rfl (fun l41 e41 zd41 => ?_)
  have A44 := A33.st (Xn p34 p36) rfl
  have A45 := A32.st (Xn p34 p36) rfl
  refine clO 47 rfl func32 rfl (spec_TupleBytes.calls r24.1 s36.w (mm [44, 45] s36) v24_0 v24_1 v24_2 v24_3 ((Xq (s := s36) hu24_0_0).sub (D := [44, 45]) rfl) (A44.rd.sub (D := [44, 45]) rfl) ((Xq (s := s36) hu24_0_2).sub (D := [44, 45]) rfl) (A45.rd.sub (D := [44, 45]) rfl)) (fun r46 v46_0 s47 p47 A46_0 => ?_)
  refine Xm (L' := [0]) (D' := [1, 2]) zd41 rfl (fun zd49 => ?_)
  refine Xt 4 [] tb36 (zd49.add 3 26 (iI (r46.length : Int)) rfl) (Xa (ln_q' A46_0.rd u22 rfl) rfl (Xa (Yg (es := [vx13_0]) (Bx13_b5.st (tr6 p25 p26 p30 p34 p36 p47) rfl) u26 z26 rfl) rfl Xg)) (by kernel_rfl) rfl (fun l51 e51 zd51 => ?_)
  have A53 := Ax13_0.st (tr6 p25 p26 p30 p34 p36 p47) rfl
  refine Yn 48 rfl func71 rfl (spec_HeapPlace.calls (Heap.mk x13.2.2.2) (r46.length : Int) s47.w (mm [43] s47) vx13_0 A53.rd) (fun r54 s55 p55 n55 => ?_)
  refine Xm (L' := []) (D' := [0, 3, 4, 1, 2]) zd51 rfl (fun zd56 => ?_)
  refine Yp [9] tb36 ((((zd56.add 5 22 (.tuple #[(iI r54.1), (iI r54.2)]) rfl).add 6 28 (iI r54.1) rfl).add 7 29 (iI r54.2) rfl).add 8 8 (iI r54.1) rfl) (Xa (Xh rfl) rfl (Xa (Xh (v := (iI r54.2)) rfl) rfl (Xa (Xh (v := (iI r54.1)) rfl) rfl (Xa (Xh rfl) rfl Xg)))) (by kernel_rfl) (by decide) (Xc rfl (dn (sq (sr (Xc rfl (Xc rfl (dn (jc (fun (y61 : Int × Int × (List Page)) e w => ∃ (s : St) (e0 : Env) (vy61_0 : Value), w = s.w ∧ e = upd (upd (upd (upd e0 0 (pB p0)) 4 (pB b3)) 5 (pB b5)) 6 (iI x13.1) ∧ Kp s0 s ∧ OwF Yt s [vy61_0] y61.2.2 49 ∧ BlF s p0 184 [w0_0, (iI y61.1), (iI y61.2.1)] 2 ∧ BlF s b5 26 [vy61_0] 41 ∧ BlF s b3 26 [(.slice none 0 0)] 40) (fun Gj61 Kj61 => ?_) ?_))))))))
  ·
   refine cd rfl (fun h62 => ?_) (fun h62 => ?_)
   ·
    refine zdraw [[], [], [], [], [], [4], [5], [0, 1, 2, 3, 6, 5], [7], [8], [8], [9, 7, 0, 1, 2, 3, 4, 5, 6, 7, 8, 9]] [some 33, some 34, some 35, some 36, some 37, some 38, some 39, some 40, some 32, some 41, some 42, none] [[5], [8], [9], [7], [0], [37], [38], [33, 34, 35, 36, 39], [40], [32], [32], [5, 41]] [0, 1, 2, 3, 4, 5, 6, 7, 8, 9, 11, 10] ⟨by kernel_rfl, by kernel_rfl, by kernel_rfl⟩ (by kernel_rfl) (fun s63 p63 l63 tb63 zd63 => ?_)
    refine Xt 5 [some 36, some 35, some 34, some 33] tb63 (((((zd63.add 0 33 (.agg #[vx13_0]) rfl).add 1 34 (iI r54.1) rfl).add 2 35 (iI r54.2) rfl).add 3 36 (.agg #[(iI r24.1.Xmin), (iI r24.1.Xmax), (iI r24.1.Key.Kind), (iI r24.1.Key.N), v24_0, v24_1, (iI r24.1.Value.Kind), (iI r24.1.Value.N), v24_2, v24_3]) rfl).add 4 37 (pB p0) rfl) (Xa (Xh rfl) rfl (Xa (Yg (es := [(iI r24.1.Xmin), (iI r24.1.Xmax), (iI r24.1.Key.Kind), (iI r24.1.Key.N), v24_0, v24_1, (iI r24.1.Value.Kind), (iI r24.1.Value.N), v24_2, v24_3]) (B34.st (Yo p36 p47 p55 p63) rfl) u31 z31 rfl) rfl (Xa (Xh rfl) rfl (Xa (Xh rfl) rfl (Xa (Yg (es := [vx13_0]) (Bx13_b5.st (tr8 p25 p26 p30 p34 p36 p47 p55 p63) rfl) u26 z26 rfl) rfl Xg))))) (by kernel_rfl) rfl (fun l71 e71 zd71 => ?_)
    have K74 := Kx13.st (tr8 p25 p26 p30 p34 p36 p47 p55 p63) rfl
    have A77 := B25.st (tr7 p26 p30 p34 p36 p47 p55 p63) rfl
    refine clB A77 rfl func74 rfl (spec_l1Below.calls (l1Cur.mk a0.b r24.2.i r24.2.h) (50 : Int) s63.w (mm [0] s63) p0 w0_0 (A0_0.kp K74) A77.w (A77.apart rfl)) (fun r76 s78 p78 B78 => ?_)
    refine Xm (L' := [3, 2, 1, 0]) (D' := [4, 5]) zd71 rfl (fun zd80 => ?_)
    refine Xt 7 [] tb63 (zd80.add 6 39 (iI (IntKind.wrap .i64 ((1 : Int) + r76.1))) rfl) (Xa (Xh rfl) rfl (Xa (Yg (es := [(iI r24.1.Xmin), (iI r24.1.Xmax), (iI r24.1.Key.Kind), (iI r24.1.Key.N), v24_0, v24_1, (iI r24.1.Value.Kind), (iI r24.1.Value.N), v24_2, v24_3]) (B34.st (tr5 p36 p47 p55 p63 p78) rfl) u31 z31 rfl) rfl (Xa (Xh rfl) rfl (Xa (Xh rfl) rfl (Xa (Yg (es := [vx13_0]) (Bx13_b5.st (tr9 p25 p26 p30 p34 p36 p47 p55 p63 p78) rfl) u26 z26 rfl) rfl Xg))))) (by kernel_rfl) rfl (fun l82 e82 zd82 => ?_)
    refine cl' rfl func13 rfl (spec_HeapPut.calls (Heap.mk x13.2.2.2) r54.1 r54.2 r24.1 (IntKind.wrap .i64 ((1 : Int) + r76.1)) s78.w (mm [43, 44, 45] s78) vx13_0 v24_0 v24_1 v24_2 v24_3 ((A53.st (Yi p55 p63 p78) rfl).rd.sub (D := [43, 44, 45]) rfl) ((Xq (s := s78) hu24_0_0).sub (D := [43, 44, 45]) rfl) ((A44.st (Yo p47 p55 p63 p78) rfl).rd.sub (D := [43, 44, 45]) rfl) ((Xq (s := s78) hu24_0_2).sub (D := [43, 44, 45]) rfl) ((A45.st (Yo p47 p55 p63 p78) rfl).rd.sub (D := [43, 44, 45]) rfl)) ?_
    rintro r88 _ w88 m88 ⟨v88_0, rfl, f88_0, ky88⟩
    obtain ⟨s89, rfl, p89, n89⟩ := nwx s78 w88 51 ky88
    have Au88_0_0 := ap26 (f88_0.c n89)
    refine Xm (L' := []) (D' := [0, 1, 2, 3, 6, 7, 4, 5]) zd82 rfl (fun zd91 => ?_)
    refine Xt 11 [some 42] tb63 (((zd91.add 8 32 (.tuple #[(.agg #[v88_0]), (.bool r88.2)]) rfl).add 9 41 (.agg #[v88_0]) rfl).add 10 42 (.bool r88.2) rfl) (Xa (Xh (v := (.bool r88.2)) rfl) rfl (Xa (Xh (v := (.agg #[v88_0])) rfl) rfl (Xa (Xh rfl) rfl Xg))) (by kernel_rfl) rfl (fun l95 e95 zd95 => ?_)
    refine Xx (vs := [v88_0]) (Bx13_b5.st (tr10 p25 p26 p30 p34 p36 p47 p55 p63 p78 p89) rfl) z26 rfl (Xb Au88_0_0.rd.one Xj) rfl (fun s97 p97 B97 => ?_)
    refine zdone0 (L' := [10]) (D' := [9, 8, 9, 11, 0, 1, 2, 3, 6, 7, 4, 5]) zd95 rfl rfl rfl (fun zd99 => ?_)
    refine Yp [] tb63 zd99 (Xa (Xh (v := (.bool r88.2)) rfl) rfl Xg) (by kernel_rfl) (by decide) (dn ?_)
    obtain ⟨s101, hw101, p101, A101⟩ := (Au88_0_0.st p97 rfl).rc 49 rfl
    rw [hw101]
    exact Kj61 _ _ _ ⟨s101, _, v88_0, rfl, (ue (ue (ue (ue rfl rfl) rfl) rfl) rfl), (K74.st (Yo p78 p89 p97 p101) rfl), A101, (B78.st (Yi p89 p97 p101) rfl), (B97.st p101 rfl), (Bx13_b3.st (tr12 p25 p26 p30 p34 p36 p47 p55 p63 p78 p89 p97 p101) rfl)⟩
   refine sk ?_
   obtain ⟨s107, hw107, p107, A107⟩ := (A53.st p55 rfl).rc 49 rfl
   rw [hw107]
   exact Kj61 _ _ _ ⟨s107, _, vx13_0, rfl, (ue (ue (ue (ue rfl rfl) rfl) rfl) rfl), (Kx13.st (tr8 p25 p26 p30 p34 p36 p47 p55 p107) rfl), A107, (B25.st (tr7 p26 p30 p34 p36 p47 p55 p107) rfl), (Bx13_b5.st (tr8 p25 p26 p30 p34 p36 p47 p55 p107) rfl), (Bx13_b3.st (tr8 p25 p26 p30 p34 p36 p47 p55 p107) rfl)⟩
  rintro y61 _ _ ⟨s112, _, vy61_0, rfl, rfl, Ky61, Ay61_0, By61_p0, By61_b5, By61_b3⟩
  refine sr (Xc rfl ?_)
  refine clB By61_p0 rfl func72 rfl (spec_l1Once.calls (l1Cur.mk a0.b y61.1 y61.2.1) (6 : Int) s112.w (mm [0] s112) p0 w0_0 (A0_0.kp Ky61) By61_p0.w (By61_p0.apart rfl)) (fun r118 s119 p119 B119 => ?_)
  refine dn (jc (fun (y121 : Int × Int × (List Page)) e w => ∃ (s : St) (e0 : Env) (vy121_0 : Value), w = s.w ∧ e = upd (upd (upd (upd e0 0 (pB p0)) 4 (pB b3)) 5 (pB b5)) 6 (iI x13.1) ∧ Kp s0 s ∧ OwF Yt s [vy121_0] y121.2.2 53 ∧ BlF s p0 184 [w0_0, (iI y121.1), (iI y121.2.1)] 2 ∧ BlF s b5 26 [vy121_0] 41 ∧ BlF s b3 26 [(.slice none 0 0)] 40) (fun Gj121 Kj121 => ?_) ?_)
  ·
   refine cd rfl (fun h122 => ?_) (fun h122 => ?_)
   ·
    refine sr ?_
    have A123 := By61_b5.st p119 rfl
    refine Ya (es := [vy61_0]) A123 u26 z26 rfl ?_
    have A124 := Ay61_0.st p119 rfl
    refine clO 54 rfl func11 rfl (spec_HeapRows.calls (Heap.mk y61.2.2) s119.w (mm [49] s119) vy61_0 A124.rd) (fun r125 v125_0 s126 p126 A125_0 => ?_)
    refine Yh v125_0 rfl (dn (sr (Yc v125_0 rfl (ln' A125_0.rd u34 rfl (Xc rfl (dn (jc (fun (y128 : Int × Int × (List Page)) e w => ∃ (s : St) (e0 : Env) (vy128_0 : Value), w = s.w ∧ e = upd (upd (upd (upd e0 0 (pB p0)) 4 (pB b3)) 5 (pB b5)) 6 (iI x13.1) ∧ Kp s0 s ∧ OwF Yt s [vy128_0] y128.2.2 55 ∧ BlF s p0 184 [w0_0, (iI y128.1), (iI y128.2.1)] 2 ∧ BlF s b5 26 [vy128_0] 41 ∧ BlF s b3 26 [(.slice none 0 0)] 40) (fun Gj128 Kj128 => ?_) ?_)))))))
    ·
     refine cd rfl (fun h129 => ?_) (fun h129 => ?_)
     ·
      refine sr (Yc v125_0 rfl (Xc rfl (Yc v125_0 rfl (ln' A125_0.rd u34 rfl ?_))))
      have K130 := Ky61.st (Xn p119 p126) rfl
      have A133 := B119.st p126 rfl
      refine clB A133 rfl func74 rfl (spec_l1Below.calls (l1Cur.mk a0.b r118.2.i r118.2.h) (r125.length : Int) s126.w (mm [0] s126) p0 w0_0 (A0_0.kp K130) A133.w (A133.apart rfl)) (fun r132 s134 p134 B134 => ?_)
      refine ix' (A125_0.st p134 rfl).rd u34 z47 rfl (fun ad137 es137 h0_137 h1_137 he137 ce137 ia137 => ?_)
      obtain ⟨v137_0, v137_1, v137_2, v137_3, rfl, A137_0, A137_1, A137_2, A137_3⟩ := op47 he137
      refine lca ce137 u47 z47 rfl rfl rfl rfl rfl rfl rfl (al' (cs := [(iI 0), (iI 0), (iI 0), (iI 0), (iI 0), (iI 0), (.float .f64 0), (.slice none 0 0), (iI 0), (iI 0), (.float .f64 0), (.slice none 0 0)]) 57 rfl o47 rfl (fun b141 s141 p141 B141 => ?_))
      refine Xx (vs := [(iI ((at_ r125 r132.1).Page)), (iI ((at_ r125 r132.1).Slot)), (iI (((at_ r125 r132.1).Tuple).Xmin)), (iI (((at_ r125 r132.1).Tuple).Xmax)), (iI ((((at_ r125 r132.1).Tuple).Key).Kind)), (iI ((((at_ r125 r132.1).Tuple).Key).N)), v137_0, v137_1, (iI ((((at_ r125 r132.1).Tuple).Value).Kind)), (iI ((((at_ r125 r132.1).Tuple).Value).N)), v137_2, v137_3]) B141 z47 rfl (Xb rfl (Xb rfl (Xb rfl (Xb rfl (Xb rfl (Xb rfl (Xb (FL.one A137_0) (Xb (A137_1.st p141 rfl).one (Xb rfl (Xb rfl (Xb (FL.one A137_2) (Xb (A137_3.st p141 rfl).one Xj)))))))))))) rfl (fun s145 p145 B145 => ?_)
      refine dn (zdraw [[], [], [1], [], [3], [], [5], [6], [0, 2, 4, 7, 6], [8], [9], [9], [10, 8, 0, 1, 2, 3, 4, 5, 6, 7, 8, 9, 10]] [some 58, some 59, some 60, some 61, some 62, some 63, some 64, some 65, some 66, some 57, some 67, some 68, none] [[5], [11], [59], [11], [61], [0], [63], [64], [58, 60, 62, 65], [66], [57], [57], [5, 67]] [0, 1, 2, 3, 4, 5, 6, 7, 8, 9, 10, 12, 11] ⟨by kernel_rfl, by kernel_rfl, by kernel_rfl⟩ (by kernel_rfl) (fun s147 p147 l147 tb147 zd147 => ?_))
      refine Xt 6 [some 62, some 61, some 60, some 59, some 58] tb147 ((((((zd147.add 0 58 (.agg #[vy61_0]) rfl).add 1 59 (pB b141) rfl).add 2 60 (iI ((at_ r125 r132.1).Page)) rfl).add 3 61 (pO b141 1) rfl).add 4 62 (iI ((at_ r125 r132.1).Slot)) rfl).add 5 63 (pB p0) rfl) (Xa (Xh rfl) rfl (Xa (Xp (B145.st p147 rfl) u3 rfl) rfl (Xa (Xo fa47_1 rfl) rfl (Xa (Xp (B145.st p147 rfl) u3 rfl) rfl (Xa (Xo fa47_0 rfl) rfl (Xa (Yg (es := [vy61_0]) (A123.st (tr5 p126 p134 p141 p145 p147) rfl) u26 z26 rfl) rfl Xg)))))) (by kernel_rfl) rfl (fun l157 e157 zd157 => ?_)
      have K161 := K130.st (Yo p134 p141 p145 p147) rfl
      have A164 := B134.st (Yi p141 p145 p147) rfl
      refine clB A164 rfl func74 rfl (spec_l1Below.calls (l1Cur.mk a0.b r132.2.i r132.2.h) (50 : Int) s147.w (mm [0] s147) p0 w0_0 (A0_0.kp K161) A164.w (A164.apart rfl)) (fun r163 s165 p165 B165 => ?_)
      refine Xm (L' := [4, 3, 2, 1, 0]) (D' := [5, 6]) zd157 rfl (fun zd167 => ?_)
      refine Xt 8 [] tb147 (zd167.add 7 65 (iI (IntKind.wrap .i64 ((1 : Int) + r163.1))) rfl) (Xa (Xh rfl) rfl (Xa (Xp (B145.st (Xn p147 p165) rfl) u3 rfl) rfl (Xa (Xo fa47_1 rfl) rfl (Xa (Xp (B145.st (Xn p147 p165) rfl) u3 rfl) rfl (Xa (Xo fa47_0 rfl) rfl (Xa (Yg (es := [vy61_0]) (A123.st (tr6 p126 p134 p141 p145 p147 p165) rfl) u26 z26 rfl) rfl Xg)))))) (by kernel_rfl) rfl (fun l169 e169 zd169 => ?_)
      refine cl' rfl func141 rfl (spec_HeapClear.calls (Heap.mk y61.2.2) ((at_ r125 r132.1).Page) ((at_ r125 r132.1).Slot) (IntKind.wrap .i64 ((1 : Int) + r163.1)) s165.w (mm [49] s165) vy61_0 (A124.st (tr6 p126 p134 p141 p145 p147 p165) rfl).rd) ?_
      rintro r174 _ w174 m174 ⟨v174_0, rfl, f174_0, ky174⟩
      obtain ⟨s175, rfl, p175, n175⟩ := nwx s165 w174 59 ky174
      have Au174_0_0 := ap26 (f174_0.c n175)
      refine Xm (L' := []) (D' := [1, 3, 0, 2, 4, 7, 8, 5, 6]) zd169 rfl (fun zd177 => ?_)
      refine Xt 12 [some 68] tb147 (((zd177.add 9 57 (.tuple #[(.agg #[v174_0]), (.bool r174.2)]) rfl).add 10 67 (.agg #[v174_0]) rfl).add 11 68 (.bool r174.2) rfl) (Xa (Xh (v := (.bool r174.2)) rfl) rfl (Xa (Xh (v := (.agg #[v174_0])) rfl) rfl (Xa (Xh rfl) rfl Xg))) (by kernel_rfl) rfl (fun l181 e181 zd181 => ?_)
      refine Xx (vs := [v174_0]) (A123.st (tr7 p126 p134 p141 p145 p147 p165 p175) rfl) z26 rfl (Xb Au174_0_0.rd.one Xj) rfl (fun s183 p183 B183 => ?_)
      refine zdone0 (L' := [11]) (D' := [10, 9, 10, 12, 1, 3, 0, 2, 4, 7, 8, 5, 6]) zd181 rfl rfl rfl (fun zd185 => ?_)
      refine Yp [] tb147 zd185 (Xa (Xh (v := (.bool r174.2)) rfl) rfl Xg) (by kernel_rfl) (by decide) (dn ?_)
      obtain ⟨s187, hw187, p187, A187⟩ := (Au174_0_0.st p183 rfl).rc 55 rfl
      rw [hw187]
      exact Kj128 _ _ _ ⟨s187, _, v174_0, rfl, (ue (ue (ue (ue rfl rfl) rfl) rfl) rfl), (K161.st (Yo p165 p175 p183 p187) rfl), A187, (B165.st (Yi p175 p183 p187) rfl), (B183.st p187 rfl), (By61_b3.st (tr10 p119 p126 p134 p141 p145 p147 p165 p175 p183 p187) rfl)⟩
     refine sk ?_
     obtain ⟨s193, hw193, p193, A193⟩ := (A124.st p126 rfl).rc 55 rfl
     rw [hw193]
     exact Kj128 _ _ _ ⟨s193, _, vy61_0, rfl, (ue (ue (ue (ue rfl rfl) rfl) rfl) rfl), (Ky61.st (Yi p119 p126 p193) rfl), A193, (B119.st (Xn p126 p193) rfl), (A123.st (Xn p126 p193) rfl), (By61_b3.st (Yi p119 p126 p193) rfl)⟩
    rintro y128 _ _ ⟨s198, _, vy128_0, rfl, rfl, Ky128, Ay128_0, By128_p0, By128_b5, By128_b3⟩
    obtain ⟨s203, hw203, p203, A203⟩ := Ay128_0.rc 53 rfl
    rw [hw203]
    exact Kj121 _ _ _ ⟨s203, _, vy128_0, rfl, (ue (ue (ue (ue rfl rfl) rfl) rfl) rfl), (Ky128.st p203 rfl), A203, (By128_p0.st p203 rfl), (By128_b5.st p203 rfl), (By128_b3.st p203 rfl)⟩
   refine sk ?_
   obtain ⟨s209, hw209, p209, A209⟩ := (Ay61_0.st p119 rfl).rc 53 rfl
   rw [hw209]
   exact Kj121 _ _ _ ⟨s209, _, vy61_0, rfl, (ue (ue (ue (ue rfl rfl) rfl) rfl) rfl), (Ky61.st (Xn p119 p209) rfl), A209, (B119.st p209 rfl), (By61_b5.st (Xn p119 p209) rfl), (By61_b3.st (Xn p119 p209) rfl)⟩
  rintro y121 _ _ ⟨s214, _, vy121_0, rfl, rfl, Ky121, Ay121_0, By121_p0, By121_b5, By121_b3⟩
  refine ib (rg (Xc rfl (Xc rfl (Xc rfl (dn ?_)))))
  obtain ⟨s219, hw219, p219, A219⟩ := Ay121_0.rc 43 rfl
  rw [hw219]
  exact lb ih13 ⟨s219, _, vy121_0, rfl, (ue (ue (ue (ue rfl rfl) rfl) rfl) rfl), (Ky121.st p219 rfl), A219, (By121_p0.st p219 rfl), (By121_b5.st p219 rfl), (By121_b3.st p219 rfl)⟩
 refine xt rfl (sgb (sq (sr (Xc rfl ?_))))
 refine clB Bx13_p0 rfl func74 rfl (spec_l1Below.calls (l1Cur.mk a0.b x13.2.1 x13.2.2.1) (30 : Int) s17.w (mm [0] s17) p0 w0_0 (A0_0.kp Kx13) Bx13_p0.w (Bx13_p0.apart rfl)) (fun r225 s226 p226 B226 => ?_)
 refine dn (bl (sr (Xc rfl (Xc rfl (dn (jc (fun (y228 : Int × Int × (List Page)) e w => ∃ (s : St) (e0 : Env) (vy228_0 : Value), w = s.w ∧ e = upd (upd e0 4 (pB b3)) 5 (pB b5) ∧ Kp s0 s ∧ OwF Yt s [vy228_0] y228.2.2 43 ∧ BlF s p0 184 [w0_0, (iI y228.1), (iI y228.2.1)] 2 ∧ BlF s b5 26 [vy228_0] 41 ∧ BlF s b3 26 [(.slice none 0 0)] 40) (fun Gj228 Kj228 => ?_) ?_))))))
 ·
  refine cd rfl (fun h229 => ?_) (fun h229 => ?_)
  ·
   refine zdraw [[], [0], [], [], [3], [2, 4, 4], [5], [1, 6, 5], [0, 1, 2, 3, 4, 5, 6, 7], [8, 7, 7, 0, 1, 2, 3, 4, 5, 6, 7]] [some 73, some 74, some 75, some 76, some 77, some 78, some 79, some 80, some 81, none] [[5], [73], [0], [0], [76], [75, 77], [78], [74, 79], [5], [81, 80]] [0, 1, 2, 3, 4, 5, 6, 7, 8, 9] ⟨by kernel_rfl, by kernel_rfl, by kernel_rfl⟩ (by kernel_rfl) (fun s230 p230 l230 tb230 zd230 => ?_)
   refine Xt 4 [some 75, some 74, some 73] tb230 ((((zd230.add 0 73 (pB b5) rfl).add 1 74 vx13_0 rfl).add 2 75 (pB p0) rfl).add 3 76 (pB p0) rfl) (Xa (Xh rfl) rfl (Xa (Xh rfl) rfl (Xa (Xp (Bx13_b5.st (Xn p226 p230) rfl) u24 rfl) rfl (Xa (Xo fa26_0 rfl) rfl Xg)))) (by kernel_rfl) rfl (fun l236 e236 zd236 => ?_)
   have K238 := Kx13.st (Xn p226 p230) rfl
   have A241 := B226.st p230 rfl
   refine cl' rfl func160 rfl (spec_l7page.calls (l1Cur.mk a0.b r225.2.i r225.2.h) s230.w (mm [0] s230) p0 w0_0 (A0_0.kp K238) A241.w (A241.apart rfl)) ?_
   rintro r240 _ w240 m240 ⟨v240_0, rfl, f240_0, bw240, ky240⟩
   obtain ⟨s242, rfl, p242, n242, g242⟩ := nwb 61 A241 ky240
   have B242 := blf_mk bw240 g242
   refine Xm (L' := [2, 1, 0]) (D' := [3, 4]) zd236 rfl (fun zd245 => ?_)
   refine Xt 5 [some 74, some 73] tb230 zd245 (Xa (Xh rfl) rfl (Xa (Xp (Bx13_b5.st (Yi p226 p230 p242) rfl) u24 rfl) rfl (Xa (Xo fa26_0 rfl) rfl Xg))) (by kernel_rfl) rfl (fun l246 e246 zd246 => ?_)
   have K248 := K238.st p242 rfl
   have A250 : OwF kd116 s242 [(iI r240.1.Lsn), v240_0] r240.1 61 := (Xs (fun x : Page => (x.Lsn, x.Slots)) r240.1 (Xy (Xf .i64 r240.1.Lsn) (ap116 (f240_0.c n242))))
   obtain ⟨os252, ho252, hn252, hc252⟩ := A250
   refine cl' rfl func159 rfl (spec_l7bent.calls (l1Cur.mk a0.b r240.2.i r240.2.h) r240.1 s242.w (mm [0] s242) p0 w0_0 v240_0 (A0_0.kp K248) os252 ho252 hn252 B242.w (bl_out B242 hc252 rfl) (apart2 (B242.apart rfl) (apart_of hc252 rfl))) ?_
   rintro r252 _ w252 m252 ⟨v252_0, rfl, f252_0, bw252, ky252⟩
   obtain ⟨s253, rfl, p253, n253, g253⟩ := nwm2 62 hc252 B242 ky252 rfl rfl
   refine Xm (L' := [1, 0]) (D' := [2, 5, 3, 4]) zd246 rfl (fun zd256 => ?_)
   refine Xt 6 [some 74, some 73] tb230 zd256 (Xa (Xp (Bx13_b5.st (Yo p226 p230 p242 p253) rfl) u24 rfl) rfl (Xa (Xo fa26_0 rfl) rfl Xg)) (by kernel_rfl) rfl (fun l257 e257 zd257 => ?_)
   have A259 : OwF kd116 s253 [(iI r252.1.Lsn), v252_0] r252.1 62 := (Xs (fun x : Page => (x.Lsn, x.Slots)) r252.1 (Xy (Xf .i64 r252.1.Lsn) (ap116 (f252_0.m n253))))
   refine ltO' (K := kd116) (cells := [(iI r252.1.Lsn), v252_0]) [r252.1] 62 u24 z116 o116 (lo_one A259) rfl rfl (fun v262 s262 p262 A262 => ?_)
   refine Xm (L' := [1, 0]) (D' := [6, 2, 5, 3, 4]) zd257 rfl (fun zd264 => ?_)
   refine Yp [7, 8, 9] tb230 zd264 (Xa (Xp (Bx13_b5.st (tr5 p226 p230 p242 p253 p262) rfl) u24 rfl) rfl (Xa (Xo fa26_0 rfl) rfl Xg)) (by kernel_rfl) (by decide) (apO' sl24 (Ax13_0.st (tr5 p226 p230 p242 p253 p262) rfl) A262 rfl (fun v267 s267 p267 A267 => ?_))
   refine Ye fa26_0 rfl (sv' (Bx13_b5.st (tr6 p226 p230 p242 p253 p262 p267) rfl) z24 rfl A267.rd.one rfl (fun s270 p270 B270 => ?_))
   exact dn (Kj228 _ _ _ ⟨s270, _, v267, rfl, (ue (ue rfl rfl) rfl), (K248.st (Yo p253 p262 p267 p270) rfl), (A267.st p270 rfl), (BlF.st (blf_mk bw252 g253) (Yi p262 p267 p270) rfl), B270, (Bx13_b3.st (tr7 p226 p230 p242 p253 p262 p267 p270) rfl)⟩)
  refine sr (Xc rfl (Xc rfl (dn (jc (fun (y276 : Int × Int × (List Page)) e w => ∃ (s : St) (e0 : Env) (vy276_0 : Value), w = s.w ∧ e = upd (upd e0 4 (pB b3)) 5 (pB b5) ∧ Kp s0 s ∧ OwF Yt s [vy276_0] y276.2.2 43 ∧ BlF s p0 184 [w0_0, (iI y276.1), (iI y276.2.1)] 2 ∧ BlF s b5 26 [vy276_0] 41 ∧ BlF s b3 26 [(.slice none 0 0)] 40) (fun Gj276 Kj276 => ?_) ?_))))
  ·
   refine cd rfl (fun h277 => ?_) (fun h277 => ?_)
   ·
    refine bl (lpI (fun (x278 : Int × Int × (List Page)) e w => ∃ (s : St) (e0 : Env) (vx278_0 : Value), w = s.w ∧ e = upd (upd (upd e0 0 (pB p0)) 4 (pB b3)) 5 (pB b5) ∧ Kp s0 s ∧ OwF Yt s [vx278_0] x278.2.2 43 ∧ BlF s p0 184 [w0_0, (iI x278.1), (iI x278.2.1)] 2 ∧ BlF s b5 26 [vx278_0] 41 ∧ BlF s b3 26 [(.slice none 0 0)] 40) ⟨s226, _, vx13_0, rfl, (ue (ue (ue rfl rfl) rfl) rfl), (Kx13.st p226 rfl), (Ax13_0.st p226 rfl), B226, (Bx13_b5.st p226 rfl), (Bx13_b3.st p226 rfl)⟩ (fun g278 ih278 => ?_))
    rintro x278 _ _ ⟨s283, _, vx278_0, rfl, rfl, Kx278, Ax278_0, Bx278_p0, Bx278_b5, Bx278_b3⟩
    unfold spec_l10heap.b1
    refine sq (sq (zdraw [[], [0], [1], [], [3], [4], [2, 5]] [some 84, some 85, some 86, some 87, some 88, some 89, some 90] [[5], [84], [85], [0], [87], [88], [86, 89]] [0, 1, 2, 3, 4, 5, 6] ⟨by kernel_rfl, by kernel_rfl, by kernel_rfl⟩ (by kernel_rfl) (fun s288 p288 l288 tb288 zd288 => ?_)))
    refine Xt 4 [some 86, some 85, some 84] tb288 ((((zd288.add 0 84 (pB b5) rfl).add 1 85 vx278_0 rfl).add 2 86 (iI (x278.2.2.length : Int)) rfl).add 3 87 (pB p0) rfl) (Xa (Xh rfl) rfl (Xa (ln_q' (Ax278_0.st p288 rfl).rd u24 rfl) rfl (Xa (Xp (Bx278_b5.st p288 rfl) u24 rfl) rfl (Xa (Xo fa26_0 rfl) rfl Xg)))) (by kernel_rfl) rfl (fun l295 e295 zd295 => ?_)
    have K298 := Kx278.st p288 rfl
    have A301 := Bx278_p0.st p288 rfl
    refine clB A301 rfl func74 rfl (spec_l1Below.calls (l1Cur.mk a0.b x278.1 x278.2.1) (2 : Int) s288.w (mm [0] s288) p0 w0_0 (A0_0.kp K298) A301.w (A301.apart rfl)) (fun r300 s302 p302 B302 => ?_)
    refine Xm (L' := [2, 1, 0]) (D' := [3, 4]) zd295 rfl (fun zd304 => ?_)
    refine Yp [6] tb288 (zd304.add 5 89 (iI (IntKind.wrap .i64 ((16 : Int) + r300.1))) rfl) (Xa (Xh rfl) rfl (Xa (ln_q' (Ax278_0.st (Xn p288 p302) rfl).rd u24 rfl) rfl (Xa (Xp (Bx278_b5.st (Xn p288 p302) rfl) u24 rfl) rfl (Xa (Xo fa26_0 rfl) rfl Xg)))) (by kernel_rfl) (by decide) (Xc rfl (dn (cd rfl (fun h308 => ?_) (fun h308 => ?_))))
    ·
     refine sk (bl (rg (Ye fa26_0 rfl ?_)))
     have A309 := Bx278_b5.st (Xn p288 p302) rfl
     refine Yl A309 u24 rfl (bd' (cells := [(iI 0), (.slice none 0 0)]) pl116 o116 rfl rfl ?_)
     have A310 : OwF kd116 s302 [(iI 0), (.slice none 0 0)] (Page.mk (0 : Int) ([] : (List (List Int)))) 66 := ow_z _ _ (Yj (fun x : Page => (x.Lsn, x.Slots)) (Page.mk (0 : Int) ([] : (List (List Int)))) (Xi (Xf .i64 (0 : Int)) (Yk 22 Yr)))
     refine ltO' (K := kd116) (cells := [(iI 0), (.slice none 0 0)]) [(Page.mk (0 : Int) ([] : (List (List Int))))] 66 u24 z116 o116 (lo_one A310) rfl rfl (fun v313 s313 p313 A313 => ?_)
     refine apO' sl24 (Ax278_0.st (Yi p288 p302 p313) rfl) A313 rfl (fun v316 s316 p316 A316 => ?_)
     refine Ye fa26_0 rfl (sv' (A309.st (Xn p313 p316) rfl) z24 rfl A316.rd.one rfl (fun s319 p319 B319 => ?_))
     refine dn (ib ?_)
     exact lb ih278 ⟨s319, _, v316, rfl, (ue (ue (ue rfl rfl) rfl) rfl), (K298.st (Yo p302 p313 p316 p319) rfl), (A316.st p319 rfl), (B302.st (Yi p313 p316 p319) rfl), B319, (Bx278_b3.st (tr5 p288 p302 p313 p316 p319) rfl)⟩
    refine xt rfl (sgb ?_)
    exact Kj276 _ _ _ ⟨s302, _, vx278_0, rfl, (ue (ue rfl rfl) rfl), (K298.st p302 rfl), (Ax278_0.st (Xn p288 p302) rfl), B302, (Bx278_b5.st (Xn p288 p302) rfl), (Bx278_b3.st (Xn p288 p302) rfl)⟩
   refine sr (Xc rfl (Xc rfl (dn (jc (fun (y329 : (List Page)) e w => ∃ (s : St) (e0 : Env), w = s.w ∧ e = upd (upd e0 4 (pB b3)) 5 (pB b5) ∧ Kp s0 s ∧ OwF Yt s [vx13_0] y329 43 ∧ BlF s p0 184 [w0_0, (iI r225.2.i), (iI r225.2.h)] 2 ∧ BlF s b5 26 [vx13_0] 41 ∧ BlF s b3 26 [(.slice none 0 0)] 40) (fun Gj329 Kj329 => ?_) ?_))))
   ·
    refine cd rfl (fun h330 => ?_) (fun h330 => ?_)
    ·
     refine sr (Ye fa26_0 rfl ?_)
     have A331 := Bx13_b5.st p226 rfl
     refine Yl A331 u24 rfl ?_
     have A332 := Ax13_0.st p226 rfl
     refine ln' A332.rd u24 rfl (Xc rfl (dn (jc (fun (y333 : (List Page)) e w => ∃ (s : St) (e0 : Env), w = s.w ∧ e = upd (upd e0 4 (pB b3)) 5 (pB b5) ∧ Kp s0 s ∧ OwF Yt s [vx13_0] y333 43 ∧ BlF s p0 184 [w0_0, (iI r225.2.i), (iI r225.2.h)] 2 ∧ BlF s b5 26 [vx13_0] 41 ∧ BlF s b3 26 [(.slice none 0 0)] 40) (fun Gj333 Kj333 => ?_) ?_)))
     ·
      refine cd rfl (fun h334 => ?_) (fun h334 => ?_)
      ·
       refine zdraw [[], [0], [], [2], [3], [4], [5], [], [7], [6, 8], [1, 0, 1, 2, 3, 4, 5, 6, 7, 8, 9], [10, 0, 1, 2, 3, 4, 5, 6, 7, 8, 9], [11, 9, 9, 0, 1, 2, 3, 4, 5, 6, 7, 8, 9]] [some 103, some 104, some 105, some 106, some 107, some 108, some 109, some 110, some 111, some 112, some 113, some 114, none] [[5], [103], [5], [105], [106], [107], [108], [], [110], [109, 111], [104], [113], [114, 112]] [0, 1, 2, 3, 4, 5, 6, 7, 8, 9, 10, 11, 12] ⟨by kernel_rfl, by kernel_rfl, by kernel_rfl⟩ (by kernel_rfl) (fun s335 p335 l335 tb335 zd335 => ?_)
       have A342 := A332.st p335 rfl
       refine mg fun hg343 => ?_
       obtain ⟨ad343, es343, he343, ce343, ia343⟩ := ix_e A342.rd rfl hg343.1 hg343.2
       obtain ⟨v343_0, rfl, A343_0⟩ := op116 he343
       refine Xt 7 [some 109, some 108, some 107, some 106, some 105, some 104, some 103] tb335 (((((((zd335.add 0 103 (pB b5) rfl).add 1 104 vx13_0 rfl).add 2 105 (pB b5) rfl).add 3 106 vx13_0 rfl).add 4 107 (.pointer (some ad343)) rfl).add 5 108 (.pointer (some (ad343.add 1))) rfl).add 6 109 v343_0 rfl) (Xa (lc_q ce343 u114 rfl rfl rfl rfl rfl rfl rfl rfl) rfl (Xa (Xo fa116_1 rfl) rfl (Xa (ix_q A342.rd u24 z116 hg343.1 hg343.2 ia343 rfl rfl rfl rfl rfl rfl rfl) rfl (Xa (Xp (A331.st p335 rfl) u24 rfl) rfl (Xa (Xo fa26_0 rfl) rfl (Xa (Xp (A331.st p335 rfl) u24 rfl) rfl (Xa (Xo fa26_0 rfl) rfl Xg))))))) (by kernel_rfl) rfl (fun l349 e349 zd349 => ?_)
       refine ltF' (K := (Kd.int .u8)) (cells := [(.int .u8 (1 : Int)), (.int .u8 (2 : Int)), (.int .u8 (3 : Int))]) [(1 : Int), (2 : Int), (3 : Int)] 67 Xv u22 z5 o5 (fun w => (Yd _ _ _)) rfl (fun v352 s352 p352 A352 => ?_)
       refine Xm (L' := [6, 5, 4, 3, 2, 1, 0]) (D' := [7]) zd349 rfl (fun zd354 => ?_)
       have A358 := A342.st p352 rfl
       refine Xt 8 [some 109, some 108, some 107, some 106, some 105, some 104, some 103] tb335 zd354 (Xa (lc_q (ce343.st p352 rfl rfl) u114 rfl rfl rfl rfl rfl rfl rfl rfl) rfl (Xa (Xo fa116_1 rfl) rfl (Xa (ix_q A358.rd u24 z116 hg343.1 hg343.2 ia343 rfl rfl rfl rfl rfl rfl rfl) rfl (Xa (Xp (A331.st (Xn p335 p352) rfl) u24 rfl) rfl (Xa (Xo fa26_0 rfl) rfl (Xa (Xp (A331.st (Xn p335 p352) rfl) u24 rfl) rfl (Xa (Xo fa26_0 rfl) rfl Xg))))))) (by kernel_rfl) rfl (fun l355 e355 zd355 => ?_)
       refine ltO' (K := Yr) (cells := [v352]) [[(1 : Int), (2 : Int), (3 : Int)]] 67 u114 z22 o22 (lo_one A352) rfl (lfill_pc (pc_c (oc A352.rd.one) pc_n) rfl) (fun v361 s361 p361 A361 => ?_)
       refine Xm (L' := [6, 5, 4, 3, 2, 1, 0]) (D' := [8, 7]) zd355 rfl (fun zd363 => ?_)
       have A367 := A358.st p361 rfl
       refine Xt 9 [some 104, some 103] tb335 zd363 (Xa (lc_q (ce343.st (Xn p352 p361) rfl rfl) u114 rfl rfl rfl rfl rfl rfl rfl rfl) rfl (Xa (Xo fa116_1 rfl) rfl (Xa (ix_q A367.rd u24 z116 hg343.1 hg343.2 ia343 rfl rfl rfl rfl rfl rfl rfl) rfl (Xa (Xp (A331.st (Yi p335 p352 p361) rfl) u24 rfl) rfl (Xa (Xo fa26_0 rfl) rfl (Xa (Xp (A331.st (Yi p335 p352 p361) rfl) u24 rfl) rfl (Xa (Xo fa26_0 rfl) rfl Xg))))))) (by kernel_rfl) rfl (fun l364 e364 zd364 => ?_)
       obtain ⟨s370, hw370, p370, A370, H370, ce370⟩ := take_ 69 (lg_iso (fun x : Page => (x.Lsn, x.Slots)) (fun x => x.Slots) (fun x y => (Page.mk x.Lsn y)) (lg_right lg_id) (fun _ => rfl) (fun _ _ => rfl)) A367 hg343.1 hg343.2 ia343 (ce343.st (Xn p352 p361) rfl rfl) rfl rfl rfl rfl
       rw [hw370]
       refine apO' sl114 A370 (A361.st p370 rfl) rfl (fun v374 s374 p374 A374 => ?_)
       refine Xm (L' := [1, 0]) (D' := [2, 3, 4, 5, 6, 9, 8, 7]) zd364 rfl (fun zd376 => ?_)
       refine Yp [10, 11, 12] tb335 zd376 (Xa (Xp (A331.st (tr5 p335 p352 p361 p370 p374) rfl) u24 rfl) rfl (Xa (Xo fa26_0 rfl) rfl Xg)) (by kernel_rfl) (by decide) ?_
       have A379 := H370.st p374 rfl
       refine ixh A379 u24 z116 rfl rfl rfl rfl rfl rfl rfl (fun ad378 h0_378 h1_378 ia378 => ?_)
       refine Ye fa116_1 rfl (soh (x' := ((at_ x13.2.2.2 (0 : Int)).Slots ++ [[(1 : Int), (2 : Int), (3 : Int)]])) A379 ia378 A374 rfl rfl z114 rfl rfl rfl rfl rfl (oc A374.rd.one) (fun s380 p380 A380 => ?_))
       refine nb (fun y382 h382 => ?_)
       have A382 : OwF Yt s380 [vx13_0] y382 43 := by rw [h382]; exact A380
       exact dn (Kj333 _ _ _ ⟨s380, _, rfl, (ue (ue rfl rfl) rfl), (Kx13.st (tr7 p226 p335 p352 p361 p370 p374 p380) rfl), A382, (B226.st (tr6 p335 p352 p361 p370 p374 p380) rfl), (A331.st (tr6 p335 p352 p361 p370 p374 p380) rfl), (Bx13_b3.st (tr7 p226 p335 p352 p361 p370 p374 p380) rfl)⟩)
      exact sk (Kj333 _ _ _ ⟨s226, _, rfl, (ue (ue rfl rfl) rfl), (Kx13.st p226 rfl), A332, B226, A331, (Bx13_b3.st p226 rfl)⟩)
     rintro y333 _ _ ⟨s389, _, rfl, rfl, Ky333, Ay333_0, By333_p0, By333_b5, By333_b3⟩
     exact Kj329 _ _ _ ⟨s389, _, rfl, (ue (ue rfl rfl) rfl), Ky333, Ay333_0, By333_p0, By333_b5, By333_b3⟩
    exact sk (Kj329 _ _ _ ⟨s226, _, rfl, (ue (ue rfl rfl) rfl), (Kx13.st p226 rfl), (Ax13_0.st p226 rfl), B226, (Bx13_b5.st p226 rfl), (Bx13_b3.st p226 rfl)⟩)
   rintro y329 _ _ ⟨s398, _, rfl, rfl, Ky329, Ay329_0, By329_p0, By329_b5, By329_b3⟩
   exact Kj276 _ _ _ ⟨s398, _, vx13_0, rfl, (ue (ue rfl rfl) rfl), Ky329, Ay329_0, By329_p0, By329_b5, By329_b3⟩
  rintro y276 _ _ ⟨s403, _, vy276_0, rfl, rfl, Ky276, Ay276_0, By276_p0, By276_b5, By276_b3⟩
  exact Kj228 _ _ _ ⟨s403, _, vy276_0, rfl, (ue (ue rfl rfl) rfl), Ky276, Ay276_0, By276_p0, By276_b5, By276_b3⟩
 rintro y228 _ _ ⟨s408, _, vy228_0, rfl, rfl, Ky228, Ay228_0, By228_p0, By228_b5, By228_b3⟩
 refine ib (sr (Ya (es := [vy228_0]) By228_b5 u26 z26 rfl (Xx (vs := [vy228_0]) By228_b3 z26 rfl (Xb Ay228_0.rd.one Xj) rfl (fun s413 p413 B413 => ?_))))
 refine dn ?_
 have A415 : OwF kd26 s413 [vy228_0] (Heap.mk y228.2.2) 43 := (Xs (fun x : Heap => (x.Pages)) (Heap.mk y228.2.2) (Ay228_0.st p413 rfl))
 have K418 := Ky228.st p413 rfl
 exact re rfl func68 rfl (r_b B413 u26 rfl z26 rfl Xe) rfl ⟨_, rfl, vy228_0, rfl, A415.fo K418 rfl z.l, (BlF.w (By228_p0.st p413 rfl)), z.ky K418⟩
def spec_l3any.b0 (a0 : l1Cur) (x122 : Int × Int × (List Int)) : Option ((Int × Int × (List Int)) ⊕ (Int × Int × Int × Int × Nat × (List Int))) :=
 ((spec_l1Below.f (l1Cur.mk a0.b x122.1 x122.2.1) (2 : Int)).bind fun r144 => (if (decide ((x122.2.2.length : Int) < (IntKind.wrap .i64 ((40 : Int) + r144.1)))) = true then (if x122.2.2.length + ([(120 : Int)]).length ≤ Lim then (some (Sum.inl (r144.2.i, r144.2.h, (x122.2.2 ++ [(120 : Int)])))) else none) else ((some (r144.2.i, r144.2.h, (3 : Int), (0 : Int), (0 : Nat), x122.2.2)).bind fun o => some (Sum.inr o))))
def spec_l3any.f (a0 : l1Cur) : Option (Item × l1Cur) :=
 ((spec_l3value.f a0).bind fun r7 => ((spec_l1Once.f (l1Cur.mk a0.b r7.2.i r7.2.h) (2 : Int)).bind fun r19 => ((if r19.1 = true then ((spec_l3key.f (l1Cur.mk a0.b r19.2.i r19.2.h)).bind fun r27 => (some (r27.2.i, r27.2.h, r27.1.Kind, r27.1.N, r27.1.F, r27.1.T))) else (some (r19.2.i, r19.2.h, r7.1.Kind, r7.1.N, r7.1.F, r7.1.T))).bind fun y23 => ((spec_l1Below.f (l1Cur.mk a0.b y23.1 y23.2.1) (14 : Int)).bind fun r52 => ((if (r52.1 == (0 : Int)) = true then ((spec_l1Below.f (l1Cur.mk a0.b r52.2.i r52.2.h) (7 : Int)).bind fun r59 => (some (r59.2.i, r59.2.h, (IntKind.wrap .i64 (r59.1 - (1 : Int))), y23.2.2.2.1, y23.2.2.2.2.1, y23.2.2.2.2.2))) else ((if (r52.1 == (1 : Int)) = true then (some (r52.2.i, r52.2.h, y23.2.2.1, (IntKind.wrap .i64 (y23.2.2.2.1 + (1 : Int))), y23.2.2.2.2.1, y23.2.2.2.2.2)) else ((if (r52.1 == (2 : Int)) = true then ((spec_l2float.f (l1Cur.mk a0.b r52.2.i r52.2.h)).bind fun r82 => (some (r82.2.i, r82.2.h, y23.2.2.1, y23.2.2.2.1, r82.1, y23.2.2.2.2.2))) else ((if (r52.1 == (3 : Int)) = true then ((spec_l1some.f (l1Cur.mk a0.b r52.2.i r52.2.h) (3 : Int)).bind fun r103 => (if y23.2.2.2.2.2.length + r103.1.length ≤ Lim then (some (r103.2.i, r103.2.h, y23.2.2.1, y23.2.2.2.1, y23.2.2.2.2.1, (y23.2.2.2.2.2 ++ r103.1))) else none)) else ((if (r52.1 == (4 : Int)) = true then (iter (spec_l3any.b0 a0) (r52.2.i, r52.2.h, y23.2.2.2.2.2)) else ((if (r52.1 == (5 : Int)) = true then (some ((2 : Int), (0 : Int), (fneg (0 : Nat)), ([] : (List Int)))) else (some (y23.2.2.1, y23.2.2.2.1, y23.2.2.2.2.1, y23.2.2.2.2.2))).bind fun y177 => (some (r52.2.i, r52.2.h, y177.1, y177.2.1, y177.2.2.1, y177.2.2.2)))).bind fun y120 => (some (y120.1, y120.2.1, y120.2.2.1, y120.2.2.2.1, y120.2.2.2.2.1, y120.2.2.2.2.2)))).bind fun y92 => (some (y92.1, y92.2.1, y92.2.2.1, y92.2.2.2.1, y92.2.2.2.2.1, y92.2.2.2.2.2)))).bind fun y78 => (some (y78.1, y78.2.1, y78.2.2.1, y78.2.2.2.1, y78.2.2.2.2.1, y78.2.2.2.2.2)))).bind fun y69 => (some (y69.1, y69.2.1, y69.2.2.1, y69.2.2.2.1, y69.2.2.2.2.1, y69.2.2.2.2.2)))).bind fun y55 => (some ((Item.mk y55.2.2.1 y55.2.2.2.1 y55.2.2.2.2.1 y55.2.2.2.2.2), (l1Cur.mk a0.b y55.1 y55.2.1))))))))
def spec_l3any.Q (w : World) (F : Nat → Prop) (p0 : Nat) (w0_0 : Value) (r : Item × l1Cur) (v : Value) (w' : World) : Prop :=
 ∃ (v0 : Value) (v1 : Value), v = (.agg #[(iI r.1.Kind), (iI r.1.N), v0, v1]) ∧ FO kd29 w w' [(iI r.1.Kind), (iI r.1.N), v0, v1] r.1 ∧ BlW w' p0 184 [w0_0, (iI r.2.i), (iI r.2.h)] ∧ Ky [p0] w w'
theorem spec_l3any.calls (a0 : l1Cur) (w : World) (F : Nat → Prop) (p0 : Nat) (w0_0 : Value) (h0_0 : Yr.rd w [w0_0] a0.b F) (hb0 : BlW w p0 184 [w0_0, (iI a0.i), (iI a0.h)]) (hF : ∀ b, F b → b ∉ [p0]) (r : Item × l1Cur) (m : spec_l3any.f a0 = some r) :
  Calls prog 76 #[(pB p0)] w (RT (spec_l3any.Q w F p0 w0_0) r) := by
 obtain ⟨s0, rfl, kp0, z⟩ := start1 w F [p0] hF
 have A0_0 := z.rd h0_0
 refine Xd (args := [(pB p0)]) func76 ntmps76 rfl m ?_
 unfold spec_l3any.f
 refine sr (al' (cs := [(iI 0), (iI 0), (.float .f64 0), (.slice none 0 0)]) 40 rfl o29 rfl (fun b3 s3 p3 B3 => ?_))
 refine dn (sr (Xc rfl ?_))
 have K5 := kp0.st p3 rfl
 have A8 := BlF.st (z.bl hb0 (by simp)) p3 rfl
 refine cl' rfl func161 rfl (spec_l3value.calls a0 s3.w (mm [0] s3) p0 w0_0 (A0_0.kp K5) A8.w (A8.apart rfl)) ?_
 rintro r7 _ w7 m7 ⟨v7_0, v7_1, rfl, f7_0, bw7, ky7⟩
 obtain ⟨s9, rfl, p9, n9, g9⟩ := nwb 41 A8 ky7
 obtain ⟨hu7_0_0, Au7_0_1⟩ := ap29 (f7_0.c n9)
 refine al' (cs := [(iI 0), (iI 0), (.float .f64 0), (.slice none 0 0)]) 42 rfl o29 rfl (fun b12 s12 p12 B12 => ?_)
 have A14 := Au7_0_1.st p12 rfl
 refine Xx (vs := [(iI r7.1.Kind), (iI r7.1.N), v7_0, v7_1]) B12 z29 rfl (Xb rfl (Xb rfl (Xb (FL.one hu7_0_0) (Xb A14.rd.one Xj)))) rfl (fun s15 p15 B15 => ?_)
 refine dn (sq (sr (Xc rfl ?_)))
 have K17 := K5.st (Yi p9 p12 p15) rfl
 have A20 := BlF.st (blf_mk bw7 g9) (Xn p12 p15) rfl
 refine clB A20 rfl func72 rfl (spec_l1Once.calls (l1Cur.mk a0.b r7.2.i r7.2.h) (2 : Int) s15.w (mm [0] s15) p0 w0_0 (A0_0.kp K17) A20.w (A20.apart rfl)) (fun r19 s21 p21 B21 => ?_)
 refine dn (jc (fun (y23 : Int × Int × Int × Int × Nat × (List Int)) e w => ∃ (s : St) (e0 : Env) (vy23_0 uy23_0 : Value), w = s.w ∧ e = upd (upd (upd e0 0 (pB p0)) 2 (pB b3)) 3 (pB b12) ∧ Kp s0 s ∧ OwF Yr s [vy23_0] y23.2.2.2.2.2 44 ∧ FL uy23_0 y23.2.2.2.2.1 ∧ BlF s p0 184 [w0_0, (iI y23.1), (iI y23.2.1)] 2 ∧ BlF s b12 29 [(iI y23.2.2.1), (iI y23.2.2.2.1), uy23_0, vy23_0] 42 ∧ BlF s b3 29 [(iI 0), (iI 0), (.float .f64 0), (.slice none 0 0)] 40) (fun Gj23 Kj23 => ?_) ?_)
 ·
  refine cd rfl (fun h24 => ?_) (fun h24 => ?_)
  ·
   refine rg (Xc rfl ?_)
   have K25 := K17.st p21 rfl
   refine cl' rfl func98 rfl (spec_l3key.calls (l1Cur.mk a0.b r19.2.i r19.2.h) s21.w (mm [0] s21) p0 w0_0 (A0_0.kp K25) B21.w (B21.apart rfl)) ?_
   rintro r27 _ w27 m27 ⟨v27_0, v27_1, rfl, f27_0, bw27, ky27⟩
   obtain ⟨s28, rfl, p28, n28, g28⟩ := nwb 45 B21 ky27
   obtain ⟨hu27_0_0, Au27_0_1⟩ := ap29 (f27_0.c n28)
   refine Xx (vs := [(iI r27.1.Kind), (iI r27.1.N), v27_0, v27_1]) (B15.st (Xn p21 p28) rfl) z29 rfl (Xb rfl (Xb rfl (Xb (FL.one hu27_0_0) (Xb Au27_0_1.rd.one Xj)))) rfl (fun s32 p32 B32 => ?_)
   refine dn ?_
   obtain ⟨s35, hw35, p35, A35⟩ := (Au27_0_1.st p32 rfl).rc 44 rfl
   rw [hw35]
   exact Kj23 _ _ _ ⟨s35, _, v27_1, v27_0, rfl, (ue (ue (ue rfl rfl) rfl) rfl), (K25.st (Yi p28 p32 p35) rfl), A35, hu27_0_0, (BlF.st (blf_mk bw27 g28) (Xn p32 p35) rfl), (B32.st p35 rfl), (B3.st (tr7 p9 p12 p15 p21 p28 p32 p35) rfl)⟩
  refine sk ?_
  obtain ⟨s41, hw41, p41, A41⟩ := (A14.st (Xn p15 p21) rfl).rc 44 rfl
  rw [hw41]
  exact Kj23 _ _ _ ⟨s41, _, v7_1, v7_0, rfl, (ue (ue (ue rfl rfl) rfl) rfl), (K17.st (Xn p21 p41) rfl), A41, hu7_0_0, (B21.st p41 rfl), (B15.st (Xn p21 p41) rfl), (B3.st (tr5 p9 p12 p15 p21 p41) rfl)⟩
 rintro y23 _ _ ⟨s46, _, vy23_0, uy23_0, rfl, rfl, Ky23, Ay23_0, Fy23_0, By23_p0, By23_b12, By23_b3⟩
 refine sq (sr (Xc rfl ?_))
 refine clB By23_p0 rfl func74 rfl (spec_l1Below.calls (l1Cur.mk a0.b y23.1 y23.2.1) (14 : Int) s46.w (mm [0] s46) p0 w0_0 (A0_0.kp Ky23) By23_p0.w (By23_p0.apart rfl)) (fun r52 s53 p53 B53 => ?_)
 refine dn (bl (sr (Xc rfl (Xc rfl (dn (jc (fun (y55 : Int × Int × Int × Int × Nat × (List Int)) e w => ∃ (s : St) (e0 : Env) (vy55_0 uy55_0 : Value), w = s.w ∧ e = upd (upd e0 2 (pB b3)) 3 (pB b12) ∧ Kp s0 s ∧ OwF Yr s [vy55_0] y55.2.2.2.2.2 44 ∧ FL uy55_0 y55.2.2.2.2.1 ∧ BlF s p0 184 [w0_0, (iI y55.1), (iI y55.2.1)] 2 ∧ BlF s b12 29 [(iI y55.2.2.1), (iI y55.2.2.2.1), uy55_0, vy55_0] 42 ∧ BlF s b3 29 [(iI 0), (iI 0), (.float .f64 0), (.slice none 0 0)] 40) (fun Gj55 Kj55 => ?_) ?_))))))
 ·
  refine cd rfl (fun h56 => ?_) (fun h56 => ?_)
  ·
   refine rg (Xc rfl ?_)
   have K57 := Ky23.st p53 rfl
   refine clB B53 rfl func74 rfl (spec_l1Below.calls (l1Cur.mk a0.b r52.2.i r52.2.h) (7 : Int) s53.w (mm [0] s53) p0 w0_0 (A0_0.kp K57) B53.w (B53.apart rfl)) (fun r59 s60 p60 B60 => ?_)
   refine Xc rfl (Ye fa29_0 rfl ?_)
   refine sv' (By23_b12.st (Xn p53 p60) rfl) z3 rfl rfl rfl (fun s63 p63 B63 => ?_)
   exact dn (Kj55 _ _ _ ⟨s63, _, vy23_0, uy23_0, rfl, (ue (ue rfl rfl) rfl), (K57.st (Xn p60 p63) rfl), (Ay23_0.st (Yi p53 p60 p63) rfl), Fy23_0, (B60.st p63 rfl), B63, (By23_b3.st (Yi p53 p60 p63) rfl)⟩)
  refine sr (Xc rfl (Xc rfl (dn (jc (fun (y69 : Int × Int × Int × Int × Nat × (List Int)) e w => ∃ (s : St) (e0 : Env) (vy69_0 uy69_0 : Value), w = s.w ∧ e = upd (upd e0 2 (pB b3)) 3 (pB b12) ∧ Kp s0 s ∧ OwF Yr s [vy69_0] y69.2.2.2.2.2 44 ∧ FL uy69_0 y69.2.2.2.2.1 ∧ BlF s p0 184 [w0_0, (iI y69.1), (iI y69.2.1)] 2 ∧ BlF s b12 29 [(iI y69.2.2.1), (iI y69.2.2.2.1), uy69_0, vy69_0] 42 ∧ BlF s b3 29 [(iI 0), (iI 0), (.float .f64 0), (.slice none 0 0)] 40) (fun Gj69 Kj69 => ?_) ?_))))
  ·
   refine cd rfl (fun h70 => ?_) (fun h70 => ?_)
   ·
    refine rg (Ye fa29_1 rfl ?_)
    have A71 := By23_b12.st p53 rfl
    refine Yl A71 u3 rfl (Xc rfl (Ye fa29_1 rfl (sv' A71 z3 rfl rfl rfl (fun s72 p72 B72 => ?_))))
    exact dn (Kj69 _ _ _ ⟨s72, _, vy23_0, uy23_0, rfl, (ue (ue rfl rfl) rfl), (Ky23.st (Xn p53 p72) rfl), (Ay23_0.st (Xn p53 p72) rfl), Fy23_0, (B53.st p72 rfl), B72, (By23_b3.st (Xn p53 p72) rfl)⟩)
   refine sr (Xc rfl (Xc rfl (dn (jc (fun (y78 : Int × Int × Int × Int × Nat × (List Int)) e w => ∃ (s : St) (e0 : Env) (vy78_0 uy78_0 : Value), w = s.w ∧ e = upd (upd e0 2 (pB b3)) 3 (pB b12) ∧ Kp s0 s ∧ OwF Yr s [vy78_0] y78.2.2.2.2.2 44 ∧ FL uy78_0 y78.2.2.2.2.1 ∧ BlF s p0 184 [w0_0, (iI y78.1), (iI y78.2.1)] 2 ∧ BlF s b12 29 [(iI y78.2.2.1), (iI y78.2.2.2.1), uy78_0, vy78_0] 42 ∧ BlF s b3 29 [(iI 0), (iI 0), (.float .f64 0), (.slice none 0 0)] 40) (fun Gj78 Kj78 => ?_) ?_))))
   ·
    refine cd rfl (fun h79 => ?_) (fun h79 => ?_)
    ·
     refine rg (Xc rfl ?_)
     have K80 := Ky23.st p53 rfl
     refine cl' rfl func164 rfl (spec_l2float.calls (l1Cur.mk a0.b r52.2.i r52.2.h) s53.w (mm [0] s53) p0 w0_0 (A0_0.kp K80) B53.w (B53.apart rfl)) ?_
     rintro r82 v82_0 w82 m82 ⟨f82_0, bw82, ky82⟩
     obtain ⟨s83, rfl, p83, n83, g83⟩ := nwb 48 B53 ky82
     refine Ye fa29_2 rfl (sv' (By23_b12.st (Xn p53 p83) rfl) z27 rfl (FL.one f82_0) rfl (fun s86 p86 B86 => ?_))
     exact dn (Kj78 _ _ _ ⟨s86, _, vy23_0, v82_0, rfl, (ue (ue rfl rfl) rfl), (K80.st (Xn p83 p86) rfl), (Ay23_0.st (Yi p53 p83 p86) rfl), f82_0, (BlF.st (blf_mk bw82 g83) p86 rfl), B86, (By23_b3.st (Yi p53 p83 p86) rfl)⟩)
    refine sr (Xc rfl (Xc rfl (dn (jc (fun (y92 : Int × Int × Int × Int × Nat × (List Int)) e w => ∃ (s : St) (e0 : Env) (vy92_0 uy92_0 : Value), w = s.w ∧ e = upd (upd e0 2 (pB b3)) 3 (pB b12) ∧ Kp s0 s ∧ OwF Yr s [vy92_0] y92.2.2.2.2.2 44 ∧ FL uy92_0 y92.2.2.2.2.1 ∧ BlF s p0 184 [w0_0, (iI y92.1), (iI y92.2.1)] 2 ∧ BlF s b12 29 [(iI y92.2.2.1), (iI y92.2.2.2.1), uy92_0, vy92_0] 42 ∧ BlF s b3 29 [(iI 0), (iI 0), (.float .f64 0), (.slice none 0 0)] 40) (fun Gj92 Kj92 => ?_) ?_))))
    ·
     refine cd rfl (fun h93 => ?_) (fun h93 => ?_)
     ·
      refine zdraw [[], [0], [], [2], [1, 3, 3], [0, 1, 2, 3, 4], [5, 4, 4, 0, 1, 2, 3, 4]] [some 32, some 33, some 34, some 35, some 36, some 37, none] [[3], [32], [0], [34], [33, 35], [3], [37, 36]] [0, 1, 2, 3, 4, 5, 6] ⟨by kernel_rfl, by kernel_rfl, by kernel_rfl⟩ (by kernel_rfl) (fun s94 p94 l94 tb94 zd94 => ?_)
      refine Xt 3 [some 33, some 32] tb94 (((zd94.add 0 32 (pO b12 3) rfl).add 1 33 vy23_0 rfl).add 2 34 (pB p0) rfl) (Xa (Xh rfl) rfl (Xa (Xp (By23_b12.st (Xn p53 p94) rfl) u22 rfl) rfl (Xa (Xo fa29_3 rfl) rfl Xg))) (by kernel_rfl) rfl (fun l99 e99 zd99 => ?_)
      have K101 := Ky23.st (Xn p53 p94) rfl
      have A104 := B53.st p94 rfl
      refine cl' rfl func165 rfl (spec_l1some.calls (l1Cur.mk a0.b r52.2.i r52.2.h) (3 : Int) s94.w (mm [0] s94) p0 w0_0 (A0_0.kp K101) A104.w (A104.apart rfl)) ?_
      rintro r103 v103_0 w103 m103 ⟨f103_0, bw103, ky103⟩
      obtain ⟨s105, rfl, p105, n105, g105⟩ := nwb 49 A104 ky103
      refine Xm (L' := [1, 0]) (D' := [2, 3]) zd99 rfl (fun zd108 => ?_)
      refine Yp [4, 5, 6] tb94 zd108 (Xa (Xp (By23_b12.st (Yi p53 p94 p105) rfl) u22 rfl) rfl (Xa (Xo fa29_3 rfl) rfl Xg)) (by kernel_rfl) (by decide) (apF' Xv sl22 (Ay23_0.st (Yi p53 p94 p105) rfl) (f103_0.c n105).rd rfl (fun v111 s111 p111 A111 => ?_))
      refine Ye fa29_3 rfl (sv' (By23_b12.st (Yo p53 p94 p105 p111) rfl) z22 rfl A111.rd.one rfl (fun s114 p114 B114 => ?_))
      exact dn (Kj92 _ _ _ ⟨s114, _, v111, uy23_0, rfl, (ue (ue rfl rfl) rfl), (K101.st (Yi p105 p111 p114) rfl), (A111.st p114 rfl), Fy23_0, (BlF.st (blf_mk bw103 g105) (Xn p111 p114) rfl), B114, (By23_b3.st (tr5 p53 p94 p105 p111 p114) rfl)⟩)
     refine sr (Xc rfl (Xc rfl (dn (jc (fun (y120 : Int × Int × Int × Int × Nat × (List Int)) e w => ∃ (s : St) (e0 : Env) (vy120_0 uy120_0 : Value), w = s.w ∧ e = upd (upd e0 2 (pB b3)) 3 (pB b12) ∧ Kp s0 s ∧ OwF Yr s [vy120_0] y120.2.2.2.2.2 44 ∧ FL uy120_0 y120.2.2.2.2.1 ∧ BlF s p0 184 [w0_0, (iI y120.1), (iI y120.2.1)] 2 ∧ BlF s b12 29 [(iI y120.2.2.1), (iI y120.2.2.2.1), uy120_0, vy120_0] 42 ∧ BlF s b3 29 [(iI 0), (iI 0), (.float .f64 0), (.slice none 0 0)] 40) (fun Gj120 Kj120 => ?_) ?_))))
     ·
      refine cd rfl (fun h121 => ?_) (fun h121 => ?_)
      ·
       refine sq (bl ?_)
       refine lpI (fun (x122 : Int × Int × (List Int)) e w => ∃ (s : St) (e0 : Env) (vx122_0 : Value), w = s.w ∧ e = upd (upd (upd e0 0 (pB p0)) 2 (pB b3)) 3 (pB b12) ∧ Kp s0 s ∧ OwF Yr s [vx122_0] x122.2.2 44 ∧ BlF s p0 184 [w0_0, (iI x122.1), (iI x122.2.1)] 2 ∧ BlF s b12 29 [(iI y23.2.2.1), (iI y23.2.2.2.1), uy23_0, vx122_0] 42 ∧ BlF s b3 29 [(iI 0), (iI 0), (.float .f64 0), (.slice none 0 0)] 40) ⟨s53, _, vy23_0, rfl, (ue (ue (ue rfl rfl) rfl) rfl), (Ky23.st p53 rfl), (Ay23_0.st p53 rfl), B53, (By23_b12.st p53 rfl), (By23_b3.st p53 rfl)⟩ (fun g122 ih122 => ?_)
       rintro x122 _ _ ⟨s127, _, vx122_0, rfl, rfl, Kx122, Ax122_0, Bx122_p0, Bx122_b12, Bx122_b3⟩
       unfold spec_l3any.b0
       refine sq (sq (zdraw [[], [0], [1], [], [3], [4], [2, 5]] [some 40, some 41, some 42, some 43, some 44, some 45, some 46] [[3], [40], [41], [0], [43], [44], [42, 45]] [0, 1, 2, 3, 4, 5, 6] ⟨by kernel_rfl, by kernel_rfl, by kernel_rfl⟩ (by kernel_rfl) (fun s132 p132 l132 tb132 zd132 => ?_)))
       refine Xt 4 [some 42, some 41, some 40] tb132 ((((zd132.add 0 40 (pO b12 3) rfl).add 1 41 vx122_0 rfl).add 2 42 (iI (x122.2.2.length : Int)) rfl).add 3 43 (pB p0) rfl) (Xa (Xh rfl) rfl (Xa (ln_q' (Ax122_0.st p132 rfl).rd u22 rfl) rfl (Xa (Xp (Bx122_b12.st p132 rfl) u22 rfl) rfl (Xa (Xo fa29_3 rfl) rfl Xg)))) (by kernel_rfl) rfl (fun l139 e139 zd139 => ?_)
       have K142 := Kx122.st p132 rfl
       have A145 := Bx122_p0.st p132 rfl
       refine clB A145 rfl func74 rfl (spec_l1Below.calls (l1Cur.mk a0.b x122.1 x122.2.1) (2 : Int) s132.w (mm [0] s132) p0 w0_0 (A0_0.kp K142) A145.w (A145.apart rfl)) (fun r144 s146 p146 B146 => ?_)
       refine Xm (L' := [2, 1, 0]) (D' := [3, 4]) zd139 rfl (fun zd148 => ?_)
       refine Yp [6] tb132 (zd148.add 5 45 (iI (IntKind.wrap .i64 ((40 : Int) + r144.1))) rfl) (Xa (Xh rfl) rfl (Xa (ln_q' (Ax122_0.st (Xn p132 p146) rfl).rd u22 rfl) rfl (Xa (Xp (Bx122_b12.st (Xn p132 p146) rfl) u22 rfl) rfl (Xa (Xo fa29_3 rfl) rfl Xg)))) (by kernel_rfl) (by decide) (Xc rfl (dn (cd rfl (fun h152 => ?_) (fun h152 => ?_))))
       ·
        refine sk (bl (rg (Ye fa29_3 rfl ?_)))
        have A153 := Bx122_b12.st (Xn p132 p146) rfl
        refine Yl A153 u22 rfl (ltF' (K := (Kd.int .u8)) (cells := [(.int .u8 (120 : Int))]) [(120 : Int)] 51 Xv u22 z5 o5 (fun w => (Yd _ _ _)) rfl (fun v154 s154 p154 A154 => ?_))
        refine apF' Xv sl22 (Ax122_0.st (Yi p132 p146 p154) rfl) A154.rd rfl (fun v157 s157 p157 A157 => ?_)
        refine Ye fa29_3 rfl (sv' (A153.st (Xn p154 p157) rfl) z22 rfl A157.rd.one rfl (fun s160 p160 B160 => ?_))
        refine dn (ib ?_)
        exact lb ih122 ⟨s160, _, v157, rfl, (ue (ue (ue rfl rfl) rfl) rfl), (K142.st (Yo p146 p154 p157 p160) rfl), (A157.st p160 rfl), (B146.st (Yi p154 p157 p160) rfl), B160, (Bx122_b3.st (tr5 p132 p146 p154 p157 p160) rfl)⟩
       refine xt rfl (sgb (sr (Ye fa29_0 rfl ?_)))
       refine sv' (Bx122_b12.st (Xn p132 p146) rfl) z3 rfl rfl rfl (fun s167 p167 B167 => ?_)
       refine dn (sr (Ye fa29_1 rfl (sv' B167 z3 rfl rfl rfl (fun s169 p169 B169 => ?_))))
       refine dn (rg (Ye fa29_2 rfl (sv' B169 z27 rfl (FL.one (Yf rfl)) rfl (fun s171 p171 B171 => ?_))))
       exact dn (Kj120 _ _ _ ⟨s171, _, vx122_0, (.float .f64 0), rfl, (ue (ue rfl rfl) rfl), (K142.st (Yo p146 p167 p169 p171) rfl), (Ax122_0.st (tr5 p132 p146 p167 p169 p171) rfl), (Yf rfl), (B146.st (Yi p167 p169 p171) rfl), B171, (Bx122_b3.st (tr5 p132 p146 p167 p169 p171) rfl)⟩)
      refine sr (Xc rfl (Xc rfl (dn (jc (fun (y177 : Int × Int × Nat × (List Int)) e w => ∃ (s : St) (e0 : Env) (vy177_0 uy177_0 : Value), w = s.w ∧ e = upd (upd e0 2 (pB b3)) 3 (pB b12) ∧ Kp s0 s ∧ OwF Yr s [vy177_0] y177.2.2.2 44 ∧ FL uy177_0 y177.2.2.1 ∧ BlF s p0 184 [w0_0, (iI r52.2.i), (iI r52.2.h)] 2 ∧ BlF s b12 29 [(iI y177.1), (iI y177.2.1), uy177_0, vy177_0] 42 ∧ BlF s b3 29 [(iI 0), (iI 0), (.float .f64 0), (.slice none 0 0)] 40) (fun Gj177 Kj177 => ?_) ?_))))
      ·
       refine cd rfl (fun h178 => ?_) (fun h178 => ?_)
       ·
        refine sr (Yh (.float .f64 0) rfl (dn (rg (Yc (.float .f64 0) rfl (fng_ (Yf rfl) rfl rfl rfl rfl rfl rfl (fun v179 A179 => ?_))))))
        refine bd' (cells := [(iI 2), (iI 0), v179, (.slice none 0 0)]) pl29 o29 rfl (lfill_pc (pc_c rfl (pc_c (oc (FL.one A179)) pc_n)) rfl) (Xx (vs := [(iI 2), (iI 0), v179, (.slice none 0 0)]) (By23_b12.st p53 rfl) z29 rfl (Xb rfl (Xb rfl (Xb (FL.one A179) (Xb rfl Xj)))) rfl (fun s181 p181 B181 => ?_))
        exact dn (Kj177 _ _ _ ⟨s181, _, (.slice none 0 0), v179, rfl, (ue (ue rfl rfl) rfl), (Ky23.st (Xn p53 p181) rfl), (Ym 5 (Kd.int .u8) _ 44), A179, (B53.st p181 rfl), B181, (By23_b3.st (Xn p53 p181) rfl)⟩)
       exact sk (Kj177 _ _ _ ⟨s53, _, vy23_0, uy23_0, rfl, (ue (ue rfl rfl) rfl), (Ky23.st p53 rfl), (Ay23_0.st p53 rfl), Fy23_0, B53, (By23_b12.st p53 rfl), (By23_b3.st p53 rfl)⟩)
      rintro y177 _ _ ⟨s190, _, vy177_0, uy177_0, rfl, rfl, Ky177, Ay177_0, Fy177_0, By177_p0, By177_b12, By177_b3⟩
      exact Kj120 _ _ _ ⟨s190, _, vy177_0, uy177_0, rfl, (ue (ue rfl rfl) rfl), Ky177, Ay177_0, Fy177_0, By177_p0, By177_b12, By177_b3⟩
     rintro y120 _ _ ⟨s195, _, vy120_0, uy120_0, rfl, rfl, Ky120, Ay120_0, Fy120_0, By120_p0, By120_b12, By120_b3⟩
     exact Kj92 _ _ _ ⟨s195, _, vy120_0, uy120_0, rfl, (ue (ue rfl rfl) rfl), Ky120, Ay120_0, Fy120_0, By120_p0, By120_b12, By120_b3⟩
    rintro y92 _ _ ⟨s200, _, vy92_0, uy92_0, rfl, rfl, Ky92, Ay92_0, Fy92_0, By92_p0, By92_b12, By92_b3⟩
    exact Kj78 _ _ _ ⟨s200, _, vy92_0, uy92_0, rfl, (ue (ue rfl rfl) rfl), Ky92, Ay92_0, Fy92_0, By92_p0, By92_b12, By92_b3⟩
   rintro y78 _ _ ⟨s205, _, vy78_0, uy78_0, rfl, rfl, Ky78, Ay78_0, Fy78_0, By78_p0, By78_b12, By78_b3⟩
   exact Kj69 _ _ _ ⟨s205, _, vy78_0, uy78_0, rfl, (ue (ue rfl rfl) rfl), Ky78, Ay78_0, Fy78_0, By78_p0, By78_b12, By78_b3⟩
  rintro y69 _ _ ⟨s210, _, vy69_0, uy69_0, rfl, rfl, Ky69, Ay69_0, Fy69_0, By69_p0, By69_b12, By69_b3⟩
  exact Kj55 _ _ _ ⟨s210, _, vy69_0, uy69_0, rfl, (ue (ue rfl rfl) rfl), Ky69, Ay69_0, Fy69_0, By69_p0, By69_b12, By69_b3⟩
 rintro y55 _ _ ⟨s215, _, vy55_0, uy55_0, rfl, rfl, Ky55, Ay55_0, Fy55_0, By55_p0, By55_b12, By55_b3⟩
 refine ib (sr (Ya (es := [(iI y55.2.2.1), (iI y55.2.2.2.1), uy55_0, vy55_0]) By55_b12 u29 z29 rfl (Xx (vs := [(iI y55.2.2.1), (iI y55.2.2.2.1), uy55_0, vy55_0]) By55_b3 z29 rfl (Xb rfl (Xb rfl (Xb (FL.one Fy55_0) (Xb Ay55_0.rd.one Xj)))) rfl (fun s220 p220 B220 => ?_))))
 refine dn ?_
 have A222 : OwF kd29 s220 [(iI y55.2.2.1), (iI y55.2.2.2.1), uy55_0, vy55_0] (Item.mk y55.2.2.1 y55.2.2.2.1 y55.2.2.2.2.1 y55.2.2.2.2.2) 44 := (Xs (fun x : Item => (x.Kind, x.N, x.F, x.T)) (Item.mk y55.2.2.1 y55.2.2.2.1 y55.2.2.2.2.1 y55.2.2.2.2.2) (Xy (Xf .i64 y55.2.2.1) (Xy (Xf .i64 y55.2.2.2.1) (Xy (Xz Fy55_0) (Ay55_0.st p220 rfl)))))
 have K225 := Ky55.st p220 rfl
 exact re rfl func76 rfl (r_b B220 u29 rfl z29 rfl Xe) rfl ⟨_, rfl, uy55_0, vy55_0, rfl, A222.fo K225 rfl z.l, (BlF.w (By55_p0.st p220 rfl)), z.ky K225⟩
def impl_within.f (a0 : Int) (a1 : Int) (a2 : Int) : Option (Bool) :=
 (some ((decide (a1 ≤ a0)) && (decide (a0 ≤ a2))))
def impl_within.Q (w : World) (F : Nat → Prop) (r : Bool) (v : Value) (w' : World) : Prop :=
 v = (.bool r) ∧ Ky [] w w'
theorem impl_within.calls (a0 : Int) (a1 : Int) (a2 : Int) (w : World) (F : Nat → Prop)   (r : Bool) (m : impl_within.f a0 a1 a2 = some r) :
  Calls prog 94 #[(iI a0), (iI a1), (iI a2)] w (RT (impl_within.Q w F) r) := by
 obtain ⟨s0, rfl, kp0, z⟩ := Xl w F
 refine Xd (args := [(iI a0), (iI a1), (iI a2)]) func94 ntmps94 rfl m ?_
 unfold impl_within.f
 refine sr (Xc rfl (dn (sr (Xc rfl (Xc rfl (Xc rfl (Xc rfl (jy [10, 11, 12, 13, 14] [8] 14 (.bool ((decide (a1 ≤ a0)) && (decide (a0 ≤ a2)))) rfl (fun Kg1 => ?_) (fun j1 => ?_)))))))))
 ·
  rcases bft (decide (a1 ≤ a0)) with hb1 | hb1
  ·
   exact Yb hb1 (Xc rfl (Xc rfl (Xc rfl (Xc rfl (Kg1 _ (Ag.put ((Ag.put ((Ag.put ((Ag.put (Ag.base rfl) rfl)) rfl)) rfl)) rfl) (by rw [hb1]; rfl))))))
  exact Yb hb1 (Xk rfl (Xk rfl (Xk rfl (Xc rfl (Kg1 _ (Ag.put ((Ag.put ((Ag.put ((Ag.put (Ag.base rfl) rfl)) rfl)) rfl)) rfl) (by rw [hb1]; rfl))))))
 exact Xc rfl (dn (re rfl func94 rfl (Xu rfl Xe) rfl ⟨_, rfl, rfl, z.ky kp0⟩))
def impl_hasBytes.f (a0 : (List Int)) (a1 : Int) (a2 : Int) : Option (Bool) :=
 ((impl_within.f a1 (0 : Int) (a0.length : Int)).bind fun r2 => (some (r2 && (decide (a2 ≤ (IntKind.wrap .i64 ((a0.length : Int) - a1)))))))
def impl_hasBytes.Q (w : World) (F : Nat → Prop) (r : Bool) (v : Value) (w' : World) : Prop :=
 v = (.bool r) ∧ Ky [] w w'
theorem impl_hasBytes.calls (a0 : (List Int)) (a1 : Int) (a2 : Int) (w : World) (F : Nat → Prop) (w0_0 : Value) (h0_0 : Yr.rd w [w0_0] a0 F) (r : Bool) (m : impl_hasBytes.f a0 a1 a2 = some r) :
  Calls prog 242 #[w0_0, (iI a1), (iI a2)] w (RT (impl_hasBytes.Q w F) r) := by
 obtain ⟨s0, rfl, kp0, z⟩ := Xl w F
 have A0_0 := z.rd h0_0
 refine Xd (args := [w0_0, (iI a1), (iI a2)]) func242 ntmps242 rfl m ?_
 unfold impl_hasBytes.f
 refine sr (Xc rfl (dn (sr (Xc rfl (Yc w0_0 rfl (ln' A0_0 u22 rfl (Yn 40 rfl func94 rfl (impl_within.calls a1 (0 : Int) (a0.length : Int) s0.w (mm [] s0)) (fun r2 s3 p3 n3 => ?_))))))))
 refine Xc rfl (jy [11, 12, 13, 14, 15, 16, 17, 18] [12] 18 (.bool (r2 && (decide (a2 ≤ (IntKind.wrap .i64 ((a0.length : Int) - a1)))))) rfl (fun Kg4 => ?_) (fun j4 => ?_))
 ·
  rcases bft r2 with hb4 | hb4
  ·
   refine Yb hb4 (Xc rfl (Yc w0_0 rfl ?_))
   exact ln' (A0_0.kp (kp0.st p3 rfl)) u22 rfl (Xc rfl (Xc rfl (Xc rfl (Xc rfl (Kg4 _ (Ag.put ((Ag.put ((Ag.put ((Ag.put ((Ag.put ((Ag.put ((Ag.put (Ag.base rfl) rfl)) rfl)) rfl)) rfl)) rfl)) rfl)) rfl) (by rw [hb4]; rfl))))))
  exact Yb hb4 (Xk rfl (Xk rfl (Xk rfl (Xk rfl (Xk rfl (Xk rfl (Xc rfl (Kg4 _ (Ag.put ((Ag.put ((Ag.put ((Ag.put ((Ag.put ((Ag.put ((Ag.put (Ag.base rfl) rfl)) rfl)) rfl)) rfl)) rfl)) rfl)) rfl) (by rw [hb4]; rfl)))))))))
 refine Xc rfl (dn ?_)
 exact re rfl func242 rfl (Xu rfl Xe) rfl ⟨_, rfl, rfl, z.ky (kp0.st p3 rfl)⟩
def impl_GetNum.b0 (a0 : (List Int)) (a1 : Int) (x13 : Int × Int) : Option ((Int × Int) ⊕ (Int × Bool)) :=
 (if (decide (x13.2 ≥ (0 : Int))) = true then (if 0 ≤ (IntKind.wrap .i64 (a1 + x13.2)) ∧ (IntKind.wrap .i64 (a1 + x13.2)) < (a0.length : Int) then (some (Sum.inl ((ior .u64 (ishl .u64 x13.1 (8 : Int)) (IntKind.wrap .u64 (at_ a0 (IntKind.wrap .i64 (a1 + x13.2))))), (IntKind.wrap .i64 (x13.2 - (1 : Int)))))) else none) else ((if (decide (x13.1 ≥ (9223372036854775808 : Int))) = true then (some ((0 : Int), false)) else (some ((IntKind.wrap .i64 x13.1), true))).bind fun o => some (Sum.inr o)))
def impl_GetNum.f (a0 : (List Int)) (a1 : Int) (a2 : Int) : Option (Int × Bool) :=
 ((impl_within.f a2 (1 : Int) (8 : Int)).bind fun r2 => ((if (!r2) = true then (some true) else ((impl_hasBytes.f a0 a1 a2).bind fun r8 => (some (!r8)))).bind fun y4 => (if y4 = true then (some ((0 : Int), false)) else (iter (impl_GetNum.b0 a0 a1) ((0 : Int), (IntKind.wrap .i64 (a2 - (1 : Int))))))))
def impl_GetNum.Q (w : World) (F : Nat → Prop) (r : Int × Bool) (v : Value) (w' : World) : Prop :=
 v = .tuple #[(iI r.1), (.bool r.2)] ∧ Ky [] w w'
theorem impl_GetNum.calls (a0 : (List Int)) (a1 : Int) (a2 : Int) (w : World) (F : Nat → Prop) (w0_0 : Value) (h0_0 : Yr.rd w [w0_0] a0 F) (r : Int × Bool) (m : impl_GetNum.f a0 a1 a2 = some r) :
  Calls prog 184 #[w0_0, (iI a1), (iI a2)] w (RT (impl_GetNum.Q w F) r) := by
 obtain ⟨s0, rfl, kp0, z⟩ := Xl w F
 have A0_0 := z.rd h0_0
 refine Xd (args := [w0_0, (iI a1), (iI a2)]) func184 ntmps184 rfl m ?_
 unfold impl_GetNum.f
 refine sr (Xc rfl (Xc rfl (dn (sq (sr (Xc rfl (Yn 40 rfl func94 rfl (impl_within.calls a2 (1 : Int) (8 : Int) s0.w (mm [] s0)) (fun r2 s3 p3 n3 => ?_))))))))
 refine Xc rfl (Xc rfl (ji [] (fun (y4 : Bool) e w => ∃ (s : St) (e0 : Env), w = s.w ∧ e = upd (upd (upd (upd e0 0 w0_0) 1 (iI a1)) 2 (iI a2)) 19 (.bool y4) ∧ Kp s0 s) (fun Gj4 Kj4 => ?_) ?_))
 ·
  rcases bft (!r2) with hb4 | hb4
  ·
   refine Yb hb4 ?_
   rw [if_pos hb4]
   refine Xk rfl (Xk rfl (Xk rfl (Xk rfl (Xk rfl (Xc rfl ?_)))))
   exact Kj4 _ _ _ ⟨s3, _, rfl, (ue (ue (ue (ue rfl rfl) rfl) rfl) rfl), (kp0.st p3 rfl)⟩
  refine Yb hb4 ?_
  rw [if_neg (by rw [hb4]; decide)]
  refine Yc w0_0 rfl (Xc rfl (Xc rfl ?_))
  have K6 := kp0.st p3 rfl
  refine Yn 41 rfl func242 rfl (impl_hasBytes.calls a0 a1 a2 s3.w (mm [0] s3) w0_0 (A0_0.kp K6)) (fun r8 s9 p9 n9 => ?_)
  refine Xc rfl (Xc rfl ?_)
  exact Kj4 _ _ _ ⟨s9, _, rfl, (ue (ue (ue (ue rfl rfl) rfl) rfl) rfl), (K6.st p9 rfl)⟩
 rintro y4 _ _ ⟨s11, _, rfl, rfl, Ky4⟩
 refine dn (cd rfl (fun h12 => ?_) (fun h12 => ?_))
 ·
  exact sr (Xc rfl (Xc rfl (dn (re rfl func184 rfl (Xu rfl (Xu rfl Xe)) rfl ⟨_, rfl, rfl, z.ky Ky4⟩))))
 refine sk (sr (Xc rfl (dn (sq (sr (Xc rfl (Xc rfl (Xc rfl (dn (bl (lpI (fun (x13 : Int × Int) e w => ∃ (s : St) (e0 : Env), w = s.w ∧ e = upd (upd (upd (upd e0 0 w0_0) 1 (iI a1)) 8 (.int .u64 x13.1)) 9 (iI x13.2) ∧ Kp s0 s) ⟨s11, _, rfl, (ue (ue (ue (ue rfl rfl) rfl) rfl) rfl), Ky4⟩ (fun g13 ih13 => ?_))))))))))))
 rintro x13 _ _ ⟨s14, _, rfl, rfl, Kx13⟩
 unfold impl_GetNum.b0
 refine sq (sr (Xc rfl (Xc rfl (dn (cd rfl (fun h15 => ?_) (fun h15 => ?_))))))
 ·
  refine sk (sq (bl (rg (Xc rfl (shlK rfl rfl rfl rfl rfl rfl rfl rfl (Yc w0_0 rfl (Xc rfl (Xc rfl (Xc rfl ?_)))))))))
  refine ix' (A0_0.kp Kx13) u22 z5 rfl (fun ad17 es17 h0_17 h1_17 he17 ce17 ia17 => ?_)
  obtain rfl := he17
  exact lc0' ce17 u5 rfl (cv' u129 u5 rfl (Xc rfl (Xc rfl (dn (ib (rg (Xc rfl (Xc rfl (Xc rfl (dn (lb ih13 ⟨s14, _, rfl, (ue (ue (ue (ue rfl rfl) rfl) rfl) rfl), Kx13⟩)))))))))))
 refine xt rfl (sgb (sq (sr (Xc rfl (Xc rfl (dn (cd rfl (fun h19 => ?_) (fun h19 => ?_))))))))
 ·
  exact sr (Xc rfl (Xc rfl (dn (re rfl func184 rfl (Xu rfl (Xu rfl Xe)) rfl ⟨_, rfl, rfl, z.ky Kx13⟩))))
 exact sk (sr (Xc rfl (cv' u3 u129 rfl (Xc rfl (Xc rfl (dn (re rfl func184 rfl (Xu rfl (Xu rfl Xe)) rfl ⟨_, rfl, rfl, z.ky Kx13⟩)))))))
def slices_Clone_byte_byte.f (a0 : (List Int)) : Option ((List Int)) :=
 (if ([] : (List Int)).length + a0.length ≤ Lim then (some (([] : (List Int)) ++ a0)) else none)
def slices_Clone_byte_byte.Q (w : World) (F : Nat → Prop) (r : (List Int)) (v : Value) (w' : World) : Prop :=
 FO Yr w w' [v] r ∧ Ky [] w w'
theorem slices_Clone_byte_byte.calls (a0 : (List Int)) (w : World) (F : Nat → Prop) (w0_0 : Value) (h0_0 : Yr.rd w [w0_0] a0 F) (r : (List Int)) (m : slices_Clone_byte_byte.f a0 = some r) :
  Calls prog 223 #[w0_0] w (RT (slices_Clone_byte_byte.Q w F) r) := by
 obtain ⟨s0, rfl, kp0, z⟩ := Xl w F
 have A0_0 := z.rd h0_0
 refine Xd (args := [w0_0]) func223 ntmps223 rfl m ?_
 unfold slices_Clone_byte_byte.f
 refine sr (Xc rfl (dn (sq (sr (Yc w0_0 rfl (nq A0_0 u22 rfl rfl rfl rfl rfl rfl rfl (fun nb2 hn2 => ?_)))))))
 refine dn (cdb rfl (fun h3 => ?_) (fun h3 => ?_))
 ·
  obtain rfl := hn2 h3
  exact mg fun _ => (sr (Xc rfl (dn (re rfl func223 rfl (Xu rfl Xe) rfl ⟨_, rfl, (Ym 5 (Kd.int .u8) s0 40).fo kp0 rfl z.l, z.ky kp0⟩))))
 refine sk (sr (lt0 (K := (Kd.int .u8)) 40 u22 z5 rfl rfl rfl rfl rfl (fun v4 s4 p4 A4 => ?_)))
 refine Yc w0_0 rfl ?_
 have K6 := kp0.st p4 rfl
 refine apF' Xv sl22 A4 (A0_0.kp K6) rfl (fun v8 s8 p8 A8 => ?_)
 refine Yh v8 rfl (dn ?_)
 have K10 := K6.st p8 rfl
 exact re rfl func223 rfl (Xu rfl Xe) rfl ⟨_, rfl, A8.fo K10 rfl z.l, z.ky K10⟩
def impl_fromHigh.b0 (a0 : (List Int)) (x2 : Int × Int) : Option ((Int × Int) ⊕ Int) :=
 (if (decide (x2.2 < (a0.length : Int))) = true then (if 0 ≤ x2.2 ∧ x2.2 < (a0.length : Int) then (some (Sum.inl ((ior .u64 (ishl .u64 x2.1 (8 : Int)) (IntKind.wrap .u64 (at_ a0 x2.2))), (IntKind.wrap .i64 (x2.2 + (1 : Int)))))) else none) else ((some x2.1).bind fun o => some (Sum.inr o)))
def impl_fromHigh.f (a0 : (List Int)) : Option (Int) :=
 (iter (impl_fromHigh.b0 a0) ((0 : Int), (0 : Int)))
def impl_fromHigh.Q (w : World) (F : Nat → Prop) (r : Int) (v : Value) (w' : World) : Prop :=
 v = (.int .u64 r) ∧ Ky [] w w'
theorem impl_fromHigh.calls (a0 : (List Int)) (w : World) (F : Nat → Prop) (w0_0 : Value) (h0_0 : Yr.rd w [w0_0] a0 F) (r : Int) (m : impl_fromHigh.f a0 = some r) :
  Calls prog 282 #[w0_0] w (RT (impl_fromHigh.Q w F) r) := by
 obtain ⟨s0, rfl, kp0, z⟩ := Xl w F
 have A0_0 := z.rd h0_0
 refine Xd (args := [w0_0]) func282 ntmps282 rfl m ?_
 unfold impl_fromHigh.f
 refine sr (Xc rfl (dn (sr (Xc rfl (dn (sq (sr (Yc w0_0 rfl (ln' A0_0 u22 rfl (Xc rfl (dn (bl (lpI (fun (x2 : Int × Int) e w => ∃ (s : St) (e0 : Env), w = s.w ∧ e = upd (upd (upd (upd e0 3 (.int .u64 x2.1)) 6 w0_0) 7 (iI (a0.length : Int))) 8 (iI x2.2) ∧ Kp s0 s) ⟨s0, _, rfl, (ue (ue (ue (ue rfl rfl) rfl) rfl) rfl), kp0⟩ (fun g2 ih2 => ?_))))))))))))))
 rintro x2 _ _ ⟨s3, _, rfl, rfl, Kx2⟩
 unfold impl_fromHigh.b0
 refine sr (Xc rfl (dn (sq (cd rfl (fun h4 => ?_) (fun h4 => ?_)))))
 ·
  refine sk (sq (bl (sr ?_)))
  refine ix' (A0_0.kp Kx2) u22 z5 rfl (fun ad6 es6 h0_6 h1_6 he6 ce6 ia6 => ?_)
  obtain rfl := he6
  refine lc0' ce6 u5 rfl (Xc rfl (dn (rg (Xc rfl (shlK rfl rfl rfl rfl rfl rfl rfl rfl (Xc rfl (cv' u129 u5 rfl (Xc rfl (Xc rfl (dn (ib (rg (Xc rfl (Xc rfl ?_))))))))))))))
  exact dn (lb ih2 ⟨s3, _, rfl, (ue (ue (ue (ue rfl rfl) rfl) rfl) rfl), Kx2⟩)
 exact xt rfl (sgb (sr (Xc rfl (Xc rfl (dn (re rfl func282 rfl (Xu rfl Xe) rfl ⟨_, rfl, rfl, z.ky Kx2⟩))))))
def impl_readItem.f (a0 : (List Int)) (a1 : (Int → Option Nat)) : Option (Item) :=
 (if ((a0.length : Int) == (0 : Int)) = true then (some (Item.mk (0 : Int) (0 : Int) (0 : Nat) ([] : (List Int)))) else (if 0 ≤ (0 : Int) ∧ (0 : Int) < (a0.length : Int) then (if 0 ≤ (1 : Int) ∧ (1 : Int) ≤ (a0.length : Int) then ((if ((IntKind.wrap .i64 (at_ a0 (0 : Int))) == (3 : Int)) = true then ((slices_Clone_byte_byte.f (a0.drop ((1 : Int)).toNat)).bind fun r24 => (some (Sum.inl ((0 : Int), (0 : Nat), r24)))) else (if (((a0.drop ((1 : Int)).toNat).length : Int) != (8 : Int)) = true then (some (Sum.inr (Item.mk (0 : Int) (0 : Int) (0 : Nat) ([] : (List Int))))) else ((if ((IntKind.wrap .i64 (at_ a0 (0 : Int))) == (1 : Int)) = true then ((impl_fromHigh.f (a0.drop ((1 : Int)).toNat)).bind fun r42 => (some ((IntKind.wrap .i64 (IntKind.wrap .u64 (r42 - (9223372036854775808 : Int)))), (0 : Nat)))) else ((if ((IntKind.wrap .i64 (at_ a0 (0 : Int))) == (2 : Int)) = true then ((impl_fromHigh.f (a0.drop ((1 : Int)).toNat)).bind fun r51 => ((a1 r51).bind fun r54 => (some r54))) else (some (0 : Nat))).bind fun y49 => (some ((0 : Int), y49)))).bind fun y40 => (some (Sum.inl (y40.1, y40.2, ([] : (List Int)))))))).bind (sel fun y22 => (some (Item.mk (IntKind.wrap .i64 (at_ a0 (0 : Int))) y22.1 y22.2.1 y22.2.2)))) else none) else none))
def impl_readItem.Q (w : World) (F : Nat → Prop) (r : Item) (v : Value) (w' : World) : Prop :=
 ∃ (v0 : Value) (v1 : Value), v = (.agg #[(iI r.Kind), (iI r.N), v0, v1]) ∧ FO kd29 w w' [(iI r.Kind), (iI r.N), v0, v1] r ∧ Ky [] w w'
theorem impl_readItem.calls (a0 : (List Int)) (a1 : (Int → Option Nat)) (w : World) (F : Nat → Prop) (w0_0 : Value) (f1 : Value) (h0_0 : Yr.rd w [w0_0] a0 F) (hf1 : ∀ (x0 : Int) (w' : World), Ky [] w w' → ∀ r, a1 x0 = some r → CallV prog f1 [(.int .u64 x0)] w' fun en w'' => ∃ v, en = .returned v ∧ FL v r ∧ Ky [] w' w'') (ho1 : f1.cells = #[f1]) (r : Item) (m : impl_readItem.f a0 a1 = some r) :
  Calls prog 243 #[w0_0, f1] w (RT (impl_readItem.Q w F) r) := by
 obtain ⟨s0, rfl, kp0, z⟩ := Xl w F
 have A0_0 := z.rd h0_0
 refine Xd (args := [w0_0, f1]) func243 ntmps243 rfl m ?_
 unfold impl_readItem.f
 refine sr (al' (cs := [(iI 0), (iI 0), (.float .f64 0), (.slice none 0 0)]) 40 rfl o29 rfl (fun b2 s2 p2 B2 => ?_))
 refine dn (sq (sr (Yc w0_0 rfl ?_)))
 have K4 := kp0.st p2 rfl
 have A5 := A0_0.kp K4
 refine ln' A5 u22 rfl (Xc rfl (dn (cd rfl (fun h6 => ?_) (fun h6 => ?_))))
 ·
  refine sr (bd' (cells := [(iI 0), (iI 0), (.float .f64 0), (.slice none 0 0)]) pl29 o29 rfl rfl (Xx (vs := [(iI 0), (iI 0), (.float .f64 0), (.slice none 0 0)]) B2 z29 rfl (Xb rfl (Xb rfl (Xb (FL.one (Yf rfl)) (Xb rfl Xj)))) rfl (fun s7 p7 B7 => ?_)))
  refine dn ?_
  have A9 : OwF kd29 s7 [(iI 0), (iI 0), (.float .f64 0), (.slice none 0 0)] (Item.mk (0 : Int) (0 : Int) (0 : Nat) ([] : (List Int))) 41 := ow_z _ _ (Yj (fun x : Item => (x.Kind, x.N, x.F, x.T)) (Item.mk (0 : Int) (0 : Int) (0 : Nat) ([] : (List Int))) (Xi (Xf .i64 (0 : Int)) (Xi (Xf .i64 (0 : Int)) (Xi (Xz (Yf rfl)) (Yk 5 (Kd.int .u8))))))
  have K11 := K4.st p7 rfl
  exact re rfl func243 rfl (r_b B7 u29 rfl z29 rfl Xe) rfl ⟨_, rfl, (.float .f64 0), (.slice none 0 0), rfl, A9.fo K11 rfl z.l, z.ky K11⟩
 refine sk (sr (Yc w0_0 rfl (ix' A5 u22 z5 rfl (fun ad12 es12 h0_12 h1_12 he12 ce12 ia12 => ?_))))
 obtain rfl := he12
 refine lc0' ce12 u5 rfl (cv' u3 u5 rfl (bd' (cells := [(iI (IntKind.wrap .i64 (at_ a0 (0 : Int)))), (iI 0), (.float .f64 0), (.slice none 0 0)]) pl29 o29 rfl rfl (al' (cs := [(iI 0), (iI 0), (.float .f64 0), (.slice none 0 0)]) 42 rfl o29 rfl (fun b14 s14 p14 B14 => ?_))))
 refine Xx (vs := [(iI (IntKind.wrap .i64 (at_ a0 (0 : Int)))), (iI 0), (.float .f64 0), (.slice none 0 0)]) B14 z29 rfl (Xb rfl (Xb rfl (Xb (FL.one (Yf rfl)) (Xb rfl Xj)))) rfl (fun s16 p16 B16 => ?_)
 refine dn (sr (Yc w0_0 rfl ?_))
 have K18 := K4.st (Xn p14 p16) rfl
 refine sla (A0_0.kp K18) u22 z5 rfl rfl rfl rfl rfl rfl rfl (fun v20 A20 => ?_)
 refine Yh v20 rfl (dn (sq (bl (sr (Ye fa29_0 rfl (Yl B16 u3 rfl (Xc rfl (Xc rfl (dn (jr (fun (y22 : Int × Nat × (List Int)) e w => ∃ (s : St) (e0 : Env) (vy22_0 uy22_0 : Value), w = s.w ∧ e = upd (upd e0 4 (pB b2)) 5 (pB b14) ∧ Kp s0 s ∧ OwF Yr s [vy22_0] y22.2.2 43 ∧ FL uy22_0 y22.2.1 ∧ BlF s b14 29 [(iI (IntKind.wrap .i64 (at_ a0 (0 : Int)))), (iI y22.1), uy22_0, vy22_0] 42 ∧ BlF s b2 29 [(iI 0), (iI 0), (.float .f64 0), (.slice none 0 0)] 40) (fun Gj22 Kj22 hG22 => ?_) ?_))))))))))
 ·
  refine cd rfl (fun h23 => ?_) (fun h23 => ?_)
  ·
   refine rg (Yc v20 rfl (clO 43 rfl func223 rfl (slices_Clone_byte_byte.calls (a0.drop ((1 : Int)).toNat) s16.w (mm [0] s16) v20 A20) (fun r24 v24_0 s25 p25 A24_0 => ?_)))
   refine Ye fa29_3 rfl (sv' (B16.st p25 rfl) z22 rfl A24_0.rd.one rfl (fun s28 p28 B28 => ?_))
   exact dn (Kj22 _ _ _ ⟨s28, _, v24_0, (.float .f64 0), rfl, (ue (ue rfl rfl) rfl), (K18.st (Xn p25 p28) rfl), (A24_0.st p28 rfl), (Yf rfl), B28, (B2.st (Yo p14 p16 p25 p28) rfl)⟩)
  refine sr (Yc v20 rfl (ln' A20 u22 rfl (Xc rfl (Xc rfl (dn (cd rfl (fun h33 => ?_) (fun h33 => ?_)))))))
  ·
   refine sr (bd' (cells := [(iI 0), (iI 0), (.float .f64 0), (.slice none 0 0)]) pl29 o29 rfl rfl ?_)
   refine Xx (vs := [(iI 0), (iI 0), (.float .f64 0), (.slice none 0 0)]) (B2.st (Xn p14 p16) rfl) z29 rfl (Xb rfl (Xb rfl (Xb (FL.one (Yf rfl)) (Xb rfl Xj)))) rfl (fun s35 p35 B35 => ?_)
   refine dn (jri hG22 ?_)
   have A37 : OwF kd29 s35 [(iI 0), (iI 0), (.float .f64 0), (.slice none 0 0)] (Item.mk (0 : Int) (0 : Int) (0 : Nat) ([] : (List Int))) 44 := ow_z _ _ (Yj (fun x : Item => (x.Kind, x.N, x.F, x.T)) (Item.mk (0 : Int) (0 : Int) (0 : Nat) ([] : (List Int))) (Xi (Xf .i64 (0 : Int)) (Xi (Xf .i64 (0 : Int)) (Xi (Xz (Yf rfl)) (Yk 5 (Kd.int .u8))))))
   have K39 := K18.st p35 rfl
   exact re rfl func243 rfl (r_b B35 u29 rfl z29 rfl Xe) rfl ⟨_, rfl, (.float .f64 0), (.slice none 0 0), rfl, A37.fo K39 rfl z.l, z.ky K39⟩
  refine sr (Ye fa29_0 rfl (Yl B16 u3 rfl (Xc rfl (Xc rfl (dn (jc (fun (y40 : Int × Nat) e w => ∃ (s : St) (e0 : Env) (uy40_0 : Value), w = s.w ∧ e = upd (upd e0 4 (pB b2)) 5 (pB b14) ∧ Kp s0 s ∧ FL uy40_0 y40.2 ∧ BlF s b14 29 [(iI (IntKind.wrap .i64 (at_ a0 (0 : Int)))), (iI y40.1), uy40_0, (.slice none 0 0)] 42 ∧ BlF s b2 29 [(iI 0), (iI 0), (.float .f64 0), (.slice none 0 0)] 40) (fun Gj40 Kj40 => ?_) ?_))))))
  ·
   refine cd rfl (fun h41 => ?_) (fun h41 => ?_)
   ·
    refine rg (Yc v20 rfl (Yn 45 rfl func282 rfl (impl_fromHigh.calls (a0.drop ((1 : Int)).toNat) s16.w (mm [0] s16) v20 A20) (fun r42 s43 p43 n43 => ?_)))
    refine Xc rfl (cv' u3 u129 rfl (Ye fa29_1 rfl ?_))
    refine sv' (B16.st p43 rfl) z3 rfl rfl rfl (fun s45 p45 B45 => ?_)
    exact dn (Kj40 _ _ _ ⟨s45, _, (.float .f64 0), rfl, (ue (ue rfl rfl) rfl), (K18.st (Xn p43 p45) rfl), (Yf rfl), B45, (B2.st (Yo p14 p16 p43 p45) rfl)⟩)
   refine sr (Ye fa29_0 rfl (Yl B16 u3 rfl (Xc rfl (Xc rfl (dn (jc (fun (y49 : Nat) e w => ∃ (s : St) (e0 : Env) (uy49_0 : Value), w = s.w ∧ e = upd (upd e0 4 (pB b2)) 5 (pB b14) ∧ Kp s0 s ∧ FL uy49_0 y49 ∧ BlF s b14 29 [(iI (IntKind.wrap .i64 (at_ a0 (0 : Int)))), (iI 0), uy49_0, (.slice none 0 0)] 42 ∧ BlF s b2 29 [(iI 0), (iI 0), (.float .f64 0), (.slice none 0 0)] 40) (fun Gj49 Kj49 => ?_) ?_))))))
   ·
    refine cd rfl (fun h50 => ?_) (fun h50 => ?_)
    ·
     refine rg (Yc f1 rfl (Yc v20 rfl (Yn 46 rfl func282 rfl (impl_fromHigh.calls (a0.drop ((1 : Int)).toNat) s16.w (mm [0] s16) v20 A20) (fun r51 s52 p52 n52 => ?_))))
     have K53 := K18.st p52 rfl
     refine clv rfl rfl rfl rfl rfl rfl rfl (fun r54 m54 => hf1 r51 s52.w (z.ky K53)  r54 m54) ?_
     rintro r54 v54_0 w54 m54 ⟨f54_0, ky54⟩
     obtain ⟨s55, rfl, p55, n55⟩ := nwx s52 w54 47 ky54
     refine Ye fa29_2 rfl (sv' (B16.st (Xn p52 p55) rfl) z27 rfl (FL.one f54_0) rfl (fun s57 p57 B57 => ?_))
     exact dn (Kj49 _ _ _ ⟨s57, _, v54_0, rfl, (ue (ue rfl rfl) rfl), (K53.st (Xn p55 p57) rfl), f54_0, B57, (B2.st (tr5 p14 p16 p52 p55 p57) rfl)⟩)
    exact sk (Kj49 _ _ _ ⟨s16, _, (.float .f64 0), rfl, (ue (ue rfl rfl) rfl), K18, (Yf rfl), B16, (B2.st (Xn p14 p16) rfl)⟩)
   rintro y49 _ _ ⟨s62, _, uy49_0, rfl, rfl, Ky49, Fy49_0, By49_b14, By49_b2⟩
   exact Kj40 _ _ _ ⟨s62, _, uy49_0, rfl, (ue (ue rfl rfl) rfl), Ky49, Fy49_0, By49_b14, By49_b2⟩
  rintro y40 _ _ ⟨s65, _, uy40_0, rfl, rfl, Ky40, Fy40_0, By40_b14, By40_b2⟩
  exact Kj22 _ _ _ ⟨s65, _, (.slice none 0 0), uy40_0, rfl, (ue (ue rfl rfl) rfl), Ky40, (Ym 5 (Kd.int .u8) _ 43), Fy40_0, By40_b14, By40_b2⟩
 rintro y22 _ _ ⟨s68, _, vy22_0, uy22_0, rfl, rfl, Ky22, Ay22_0, Fy22_0, By22_b14, By22_b2⟩
 refine ib (sr (Ya (es := [(iI (IntKind.wrap .i64 (at_ a0 (0 : Int)))), (iI y22.1), uy22_0, vy22_0]) By22_b14 u29 z29 rfl (Xx (vs := [(iI (IntKind.wrap .i64 (at_ a0 (0 : Int)))), (iI y22.1), uy22_0, vy22_0]) By22_b2 z29 rfl (Xb rfl (Xb rfl (Xb (FL.one Fy22_0) (Xb Ay22_0.rd.one Xj)))) rfl (fun s72 p72 B72 => ?_))))
 refine dn ?_
 have A74 : OwF kd29 s72 [(iI (IntKind.wrap .i64 (at_ a0 (0 : Int)))), (iI y22.1), uy22_0, vy22_0] (Item.mk (IntKind.wrap .i64 (at_ a0 (0 : Int))) y22.1 y22.2.1 y22.2.2) 43 := (Xs (fun x : Item => (x.Kind, x.N, x.F, x.T)) (Item.mk (IntKind.wrap .i64 (at_ a0 (0 : Int))) y22.1 y22.2.1 y22.2.2) (Xy (Xf .i64 (IntKind.wrap .i64 (at_ a0 (0 : Int)))) (Xy (Xf .i64 y22.1) (Xy (Xz Fy22_0) (Ay22_0.st p72 rfl)))))
 have K77 := Ky22.st p72 rfl
 exact re rfl func243 rfl (r_b B72 u29 rfl z29 rfl Xe) rfl ⟨_, rfl, uy22_0, vy22_0, rfl, A74.fo K77 rfl z.l, z.ky K77⟩
def math_NaN.f  : Option (Nat) :=
 (some (cn ((9221120237041090561 : Int)).toNat))
def math_NaN.Q (w : World) (F : Nat → Prop) (r : Nat) (v : Value) (w' : World) : Prop :=
 FL v r ∧ Ky [] w w'
theorem math_NaN.calls  (w : World) (F : Nat → Prop)   (r : Nat) (m : math_NaN.f  = some r) :
  Calls prog 284 #[] w (RT (math_NaN.Q w F) r) := by
 obtain ⟨s0, rfl, kp0, z⟩ := Xl w F
 refine Xd (args := []) func284 ntmps284 rfl m ?_
 unfold math_NaN.f
 refine sr (Yh (.float .f64 0) rfl (dn (sr (ffb rfl rfl rfl rfl rfl func283 rfl rfl xn283 xf283 rfl (fun v1 A1 => ?_)))))
 exact Yh v1 rfl (dn (re rfl func284 rfl (Xu rfl Xe) rfl ⟨_, rfl, A1, z.ky kp0⟩))
def impl_FloatRank.f (a0 : Nat) : Option (Int) :=
 (if (fcmp .f64 a0 a0 != some .eq) = true then (some (18446744073709551615 : Int)) else (if (fcmp .f64 a0 (0 : Nat) == some .eq) = true then (some (9223372036854775808 : Int)) else (if (fcmp .f64 a0 (0 : Nat) == some .gt) = true then (if isN a0 = false then (some (ior .u64 (a0 : Int) (9223372036854775808 : Int))) else none) else (if isN a0 = false then (some (ixor .u64 (IntKind.max .u64) (a0 : Int))) else none))))
def impl_FloatRank.Q (w : World) (F : Nat → Prop) (r : Int) (v : Value) (w' : World) : Prop :=
 v = (.int .u64 r) ∧ Ky [] w w'
theorem impl_FloatRank.calls (a0 : Nat) (w : World) (F : Nat → Prop) (w0_0 : Value) (h0_0 : Kd.flt.rd w [w0_0] a0 F) (r : Int) (m : impl_FloatRank.f a0 = some r) :
  Calls prog 236 #[w0_0] w (RT (impl_FloatRank.Q w F) r) := by
 obtain ⟨s0, rfl, kp0, z⟩ := Xl w F
 have A0_0 := Yq h0_0
 refine Xd (args := [w0_0]) func236 ntmps236 rfl m ?_
 unfold impl_FloatRank.f
 refine sr (Xc rfl (dn (sq (bl (sr (Yc w0_0 rfl (Yc w0_0 rfl (fq_' A0_0 A0_0 rfl (Xc rfl (dn (cd rfl (fun h1 => ?_) (fun h1 => ?_))))))))))))
 ·
  exact sr (Xc rfl (dn (re rfl func236 rfl (Xu rfl Xe) rfl ⟨_, rfl, rfl, z.ky kp0⟩)))
 refine sr (Yc w0_0 rfl (fq_' A0_0 (Yf rfl) rfl (Xc rfl (dn (cd rfl (fun h2 => ?_) (fun h2 => ?_))))))
 ·
  exact sr (Xc rfl (dn (re rfl func236 rfl (Xu rfl Xe) rfl ⟨_, rfl, rfl, z.ky kp0⟩)))
 refine sr (Yc w0_0 rfl (fq_' A0_0 (Yf rfl) rfl (Xc rfl (dn (cd rfl (fun h3 => ?_) (fun h3 => ?_))))))
 ·
  exact sr (Yc w0_0 rfl (fb_ A0_0 rfl rfl rfl rfl rfl func190 rfl rfl xn190 xf190 rfl (Xc rfl (Xc rfl (dn (re rfl func236 rfl (Xu rfl Xe) rfl ⟨_, rfl, rfl, z.ky kp0⟩))))))
 exact sk (ib (sr (Yc w0_0 rfl (fb_ A0_0 rfl rfl rfl rfl rfl func190 rfl rfl xn190 xf190 rfl (Xc rfl (Xc rfl (dn (re rfl func236 rfl (Xu rfl Xe) rfl ⟨_, rfl, rfl, z.ky kp0⟩))))))))
def impl_FloatUnrank.f (a0 : Int) : Option (Nat × Bool) :=
 ((if (decide (a0 < (9223372036854775808 : Int))) = true then (some (ixor .u64 (IntKind.max .u64) a0)) else (some (iandn .u64 a0 (9223372036854775808 : Int)))).bind fun y1 => (if (a0 == (18446744073709551615 : Int)) = true then ((math_NaN.f).bind fun r6 => (some (r6, true))) else ((if (fcmp .f64 (cn (y1).toNat) (cn (y1).toNat) != some .eq) = true then (some true) else ((impl_FloatRank.f (cn (y1).toNat)).bind fun r10 => (some (r10 != a0)))).bind fun y9 => (if y9 = true then (some ((0 : Nat), false)) else (some ((cn (y1).toNat), true))))))
def impl_FloatUnrank.Q (w : World) (F : Nat → Prop) (r : Nat × Bool) (v : Value) (w' : World) : Prop :=
 ∃ (v0 : Value), v = .tuple #[v0, (.bool r.2)] ∧ FL v0 r.1 ∧ Ky [] w w'
theorem impl_FloatUnrank.calls (a0 : Int) (w : World) (F : Nat → Prop)   (r : Nat × Bool) (m : impl_FloatUnrank.f a0 = some r) :
  Calls prog 245 #[(.int .u64 a0)] w (RT (impl_FloatUnrank.Q w F) r) := by
 obtain ⟨s0, rfl, kp0, z⟩ := Xl w F
 refine Xd (args := [(.int .u64 a0)]) func245 ntmps245 rfl m ?_
 unfold impl_FloatUnrank.f
 refine sr (Yh (.float .f64 0) rfl (Xc rfl (dn (sr (Xc rfl (Xc rfl (Xc rfl (dn (sq (sr (Xc rfl (Xc rfl (dn (jc (fun (y1 : Int) e w => ∃ (s : St) (e0 : Env), w = s.w ∧ e = upd (upd e0 0 (.int .u64 a0)) 4 (.int .u64 y1) ∧ Kp s0 s) (fun Gj1 Kj1 => ?_) ?_))))))))))))))
 ·
  refine cd rfl (fun h2 => ?_) (fun h2 => ?_)
  ·
   exact rg (Xc rfl (Xc rfl (Xc rfl (dn (Kj1 _ _ _ ⟨s0, _, rfl, (ue (ue rfl rfl) rfl), kp0⟩)))))
  exact sk (Kj1 _ _ _ ⟨s0, _, rfl, (ue (ue rfl rfl) rfl), kp0⟩)
 rintro y1 _ _ ⟨s3, _, rfl, rfl, Ky1⟩
 refine sr (Xc rfl (ffb rfl rfl rfl rfl rfl func283 rfl rfl xn283 xf283 rfl (fun v4 A4 => ?_)))
 refine Yh v4 rfl (dn (sq (bl (sr (Xc rfl (Xc rfl (Xc rfl (dn (cd rfl (fun h5 => ?_) (fun h5 => ?_))))))))))
 ·
  refine sr (cl' rfl func284 rfl (math_NaN.calls  s3.w (mm [] s3)) ?_)
  rintro r6 v6_0 w6 m6 ⟨f6_0, ky6⟩
  obtain ⟨s7, rfl, p7, n7⟩ := nwx s3 w6 40 ky6
  refine Yh v6_0 rfl (Xc rfl (dn ?_))
  exact re rfl func245 rfl (Xu rfl (Xu rfl Xe)) rfl ⟨_, rfl, v6_0, rfl, f6_0, z.ky (Ky1.st p7 rfl)⟩
 refine sr (Yc v4 rfl (Yc v4 rfl (fq_' A4 A4 rfl (Xc rfl (ji [9] (fun (y9 : Bool) e w => ∃ (s : St) (e0 : Env), w = s.w ∧ e = upd (upd e0 5 v4) 27 (.bool y9) ∧ Kp s0 s) (fun Gj9 Kj9 => ?_) ?_)))))
 ·
  rcases bft (fcmp .f64 (cn (y1).toNat) (cn (y1).toNat) != some .eq) with hb9 | hb9
  ·
   refine Yb hb9 ?_
   rw [if_pos hb9]
   exact Xk rfl (Xk rfl (Xk rfl (Xk rfl (Xc rfl (Kj9 _ _ _ ⟨s3, _, rfl, (ue (ue rfl rfl) rfl), Ky1⟩)))))
  refine Yb hb9 ?_
  rw [if_neg (by rw [hb9]; decide)]
  refine Yc v4 rfl (Yn 41 rfl func236 rfl (impl_FloatRank.calls (cn (y1).toNat) s3.w (mm [] s3) v4 (Xq (s := s3) A4)) (fun r10 s11 p11 n11 => ?_))
  refine Xc rfl (Xc rfl (Xc rfl ?_))
  exact Kj9 _ _ _ ⟨s11, _, rfl, (ue (ue rfl rfl) rfl), (Ky1.st p11 rfl)⟩
 rintro y9 _ _ ⟨s13, _, rfl, rfl, Ky9⟩
 refine Xc rfl (dn (cd rfl (fun h14 => ?_) (fun h14 => ?_)))
 ·
  exact sr (Yh (.float .f64 0) rfl (Xc rfl (dn (re rfl func245 rfl (Xu rfl (Xu rfl Xe)) rfl ⟨_, rfl, (.float .f64 0), rfl, (Yf rfl), z.ky Ky9⟩))))
 exact sk (ib (sr (Yc v4 rfl (Yh v4 rfl (Xc rfl (dn (re rfl func245 rfl (Xu rfl (Xu rfl Xe)) rfl ⟨_, rfl, v4, rfl, A4, z.ky Ky9⟩)))))))
def impl_KeyRead_1.f (a0 : Int) : Option (Nat) :=
 ((impl_FloatUnrank.f a0).bind fun r1 => (some r1.1))
def impl_KeyRead_1.Q (w : World) (F : Nat → Prop) (r : Nat) (v : Value) (w' : World) : Prop :=
 FL v r ∧ Ky [] w w'
theorem impl_KeyRead_1.calls (a0 : Int) (w : World) (F : Nat → Prop)   (r : Nat) (m : impl_KeyRead_1.f a0 = some r) :
  Calls prog 244 #[(.int .u64 a0)] w (RT (impl_KeyRead_1.Q w F) r) := by
 obtain ⟨s0, rfl, kp0, z⟩ := Xl w F
 refine Xd (args := [(.int .u64 a0)]) func244 ntmps244 rfl m ?_
 unfold impl_KeyRead_1.f
 refine sr (Yh (.float .f64 0) rfl (dn (sr (Xc rfl (cl' rfl func245 rfl (impl_FloatUnrank.calls a0 s0.w (mm [] s0)) ?_)))))
 rintro r1 _ w1 m1 ⟨v1_0, rfl, f1_0, ky1⟩
 obtain ⟨s2, rfl, p2, n2⟩ := nwx s0 w1 40 ky1
 refine Xc rfl (Xc (v := v1_0) rfl (Xc (v := (.bool r1.2)) rfl (Yh v1_0 rfl (Xc rfl (dn (sr (Yc v1_0 rfl (Yh v1_0 rfl (dn ?_)))))))))
 exact re rfl func244 rfl (Xu rfl Xe) rfl ⟨_, rfl, f1_0, z.ky (kp0.st p2 rfl)⟩
def impl_ItemOk.f (a0 : Item) : Option (Bool) :=
 ((impl_within.f a0.Kind (0 : Int) (3 : Int)).bind fun r4 => (some (((r4 && ((a0.N == (0 : Int)) || (a0.Kind == (1 : Int)))) && (((a0.F : Int) == 0) || (a0.Kind == (2 : Int)))) && (((a0.T.length : Int) == (0 : Int)) || ((a0.Kind == (3 : Int)) && (decide ((a0.T.length : Int) ≤ (40 : Int))))))))
def impl_ItemOk.Q (w : World) (F : Nat → Prop) (r : Bool) (v : Value) (w' : World) : Prop :=
 v = (.bool r) ∧ Ky [] w w'
theorem impl_ItemOk.calls (a0 : Item) (w : World) (F : Nat → Prop) (w0_0 : Value) (w0_1 : Value) (h0_0 : Kd.flt.rd w [w0_0] a0.F F) (h0_1 : Yr.rd w [w0_1] a0.T F) (r : Bool) (m : impl_ItemOk.f a0 = some r) :
  Calls prog 170 #[(.agg #[(iI a0.Kind), (iI a0.N), w0_0, w0_1])] w (RT (impl_ItemOk.Q w F) r) := by
 obtain ⟨s0, rfl, kp0, z⟩ := Xl w F
 refine Xd (args := [(.agg #[(iI a0.Kind), (iI a0.N), w0_0, w0_1])]) func170 ntmps170 rfl m ?_
 unfold impl_ItemOk.f
 refine sr (bx' (cs := [(iI a0.Kind), (iI a0.N), w0_0, w0_1]) 40 rfl rfl (fun b2 s2 p2 B2 => ?_))
 refine Xc rfl (dn (sr (Ye fa29_0 rfl (Yl B2 u3 rfl (Yn 41 rfl func94 rfl (impl_within.calls a0.Kind (0 : Int) (3 : Int) s2.w (mm [] s2)) (fun r4 s5 p5 n5 => ?_))))))
 refine Xc rfl (jy [6, 7, 8, 9, 10, 11, 12, 13, 14, 15] [13, 14, 15, 16, 17, 18, 19, 20, 21, 22, 23, 24, 25, 26, 27, 28, 29, 30, 31, 32, 33, 34, 35, 36, 37, 38, 39, 40, 41] 15 (.bool (r4 && ((a0.N == (0 : Int)) || (a0.Kind == (1 : Int))))) rfl (fun Kg6 => ?_) (fun j6 => ?_))
 ·
  rcases bft r4 with hb6 | hb6
  ·
   refine Yb hb6 (Ye fa29_1 rfl ?_)
   have A7 := B2.st p5 rfl
   refine Yl A7 u3 rfl (Xc rfl (Xc rfl (jy [10, 11, 12, 13, 14] [12, 13, 14, 15, 16, 17, 18, 19, 20, 21, 22, 23, 24, 25, 26, 27, 28, 29, 30, 31, 32, 33, 34, 35, 36, 37, 38, 39, 40, 41] 14 (.bool ((a0.N == (0 : Int)) || (a0.Kind == (1 : Int)))) rfl (fun Kg8 => ?_) (fun j8 => ?_))))
   ·
    rcases bft (a0.N == (0 : Int)) with hb8 | hb8
    ·
     exact Yb hb8 (Xk rfl (Xk rfl (Xk rfl (Xc rfl (Kg8 _ (Ag.put ((Ag.put ((Ag.put ((Ag.put (Ag.base rfl) rfl)) rfl)) rfl)) rfl) (by rw [hb8]; rfl))))))
    exact Yb hb8 (Ye fa29_0 rfl (Yl A7 u3 rfl (Xc rfl (Xc rfl (Kg8 _ (Ag.put ((Ag.put ((Ag.put ((Ag.put (Ag.base rfl) rfl)) rfl)) rfl)) rfl) (by rw [hb8]; rfl))))))
   exact Xc rfl (Kg6 _ (Ag.put ((Ag.put ((Ag.ov ((Ag.put ((Ag.put ((Ag.put ((Ag.put (Ag.base rfl) rfl)) rfl)) rfl)) rfl)) rfl)) rfl)) rfl) (by rw [hb6]; rfl))
  exact Yb hb6 (Xk rfl (Xk rfl (Xk rfl (Xk rfl (Xk rfl (Xk rfl (Xk rfl (Xk rfl (Xc rfl (Kg6 _ (Ag.put ((Ag.put ((Ag.put ((Ag.put ((Ag.put ((Ag.put ((Ag.put ((Ag.put ((Ag.put (Ag.base rfl) rfl)) rfl)) rfl)) rfl)) rfl)) rfl)) rfl)) rfl)) rfl) (by rw [hb6]; rfl)))))))))))
 refine Xc rfl (jy [16, 17, 18, 19, 20, 21, 22, 23, 24, 25, 26] [24, 25, 26, 27, 28, 29, 30, 31, 32, 33, 34, 35, 36, 37, 38, 39, 40, 41] 26 (.bool ((r4 && ((a0.N == (0 : Int)) || (a0.Kind == (1 : Int)))) && (((a0.F : Int) == 0) || (a0.Kind == (2 : Int))))) rfl (fun Kg9 => ?_) (fun j9 => ?_))
 ·
  rcases bft (r4 && ((a0.N == (0 : Int)) || (a0.Kind == (1 : Int)))) with hb9 | hb9
  ·
   refine Yb hb9 (Ye fa29_2 rfl ?_)
   have A10 := B2.st p5 rfl
   refine Yl A10 u27 rfl (fbu (Yq h0_0) rfl rfl rfl rfl rfl func190 rfl rfl xn190 xf190 rfl (fun b11 A11 => ?_))
   refine fz0 A11 rfl rfl rfl rfl rfl rfl rfl (Xc rfl (jy [21, 22, 23, 24, 25] [23, 24, 25, 26, 27, 28, 29, 30, 31, 32, 33, 34, 35, 36, 37, 38, 39, 40, 41] 25 (.bool (((a0.F : Int) == 0) || (a0.Kind == (2 : Int)))) rfl (fun Kg12 => ?_) (fun j12 => ?_)))
   ·
    rcases bft ((a0.F : Int) == 0) with hb12 | hb12
    ·
     exact Yb hb12 (Xk rfl (Xk rfl (Xk rfl (Xc rfl (Kg12 _ (Ag.put ((Ag.put ((Ag.put ((Ag.put (Ag.base rfl) rfl)) rfl)) rfl)) rfl) (by rw [hb12]; rfl))))))
    exact Yb hb12 (Ye fa29_0 rfl (Yl A10 u3 rfl (Xc rfl (Xc rfl (Kg12 _ (Ag.put ((Ag.put ((Ag.put ((Ag.put (Ag.base rfl) rfl)) rfl)) rfl)) rfl) (by rw [hb12]; rfl))))))
   exact Xc rfl (Kg9 _ (Ag.put ((Ag.put ((Ag.ov ((Ag.put ((Ag.put ((Ag.put ((Ag.put ((Ag.put (Ag.base rfl) rfl)) rfl)) rfl)) rfl)) rfl)) rfl)) rfl)) rfl) (by rw [hb9]; rfl))
  exact Yb hb9 (Xk rfl (Xk rfl (Xk rfl (Xk rfl (Xk rfl (Xk rfl (Xk rfl (Xk rfl (Xk rfl (Xc rfl (Kg9 _ (Ag.put ((Ag.put ((Ag.put ((Ag.put ((Ag.put ((Ag.put ((Ag.put ((Ag.put ((Ag.put ((Ag.put (Ag.base rfl) rfl)) rfl)) rfl)) rfl)) rfl)) rfl)) rfl)) rfl)) rfl)) rfl) (by rw [hb9]; rfl))))))))))))
 refine Xc rfl (jy [27, 28, 29, 30, 31, 32, 33, 34, 35, 36, 37, 38, 39, 40, 41, 42, 43] [41] 43 (.bool (((r4 && ((a0.N == (0 : Int)) || (a0.Kind == (1 : Int)))) && (((a0.F : Int) == 0) || (a0.Kind == (2 : Int)))) && (((a0.T.length : Int) == (0 : Int)) || ((a0.Kind == (3 : Int)) && (decide ((a0.T.length : Int) ≤ (40 : Int))))))) rfl (fun Kg13 => ?_) (fun j13 => ?_))
 ·
  rcases bft ((r4 && ((a0.N == (0 : Int)) || (a0.Kind == (1 : Int)))) && (((a0.F : Int) == 0) || (a0.Kind == (2 : Int)))) with hb13 | hb13
  ·
   refine Yb hb13 (Ye fa29_3 rfl ?_)
   have A14 := B2.st p5 rfl
   refine Yl A14 u22 rfl ?_
   have A16 := (z.rd h0_1).kp (kp0.st (Xn p2 p5) rfl)
   refine ln' A16 u22 rfl (Xc rfl (Xc rfl (jy [32, 33, 34, 35, 36, 37, 38, 39, 40, 41, 42] [40, 41] 42 (.bool (((a0.T.length : Int) == (0 : Int)) || ((a0.Kind == (3 : Int)) && (decide ((a0.T.length : Int) ≤ (40 : Int)))))) rfl (fun Kg17 => ?_) (fun j17 => ?_))))
   ·
    rcases bft ((a0.T.length : Int) == (0 : Int)) with hb17 | hb17
    ·
     exact Yb hb17 (Xk rfl (Xk rfl (Xk rfl (Xk rfl (Xk rfl (Xk rfl (Xk rfl (Xk rfl (Xk rfl (Xc rfl (Kg17 _ (Ag.put ((Ag.put ((Ag.put ((Ag.put ((Ag.put ((Ag.put ((Ag.put ((Ag.put ((Ag.put ((Ag.put (Ag.base rfl) rfl)) rfl)) rfl)) rfl)) rfl)) rfl)) rfl)) rfl)) rfl)) rfl) (by rw [hb17]; rfl))))))))))))
    refine Yb hb17 (Ye fa29_0 rfl (Yl A14 u3 rfl (Xc rfl (Xc rfl (jy [36, 37, 38, 39, 40, 41] [39, 40, 41] 41 (.bool ((a0.Kind == (3 : Int)) && (decide ((a0.T.length : Int) ≤ (40 : Int))))) rfl (fun Kg18 => ?_) (fun j18 => ?_))))))
    ·
     rcases bft (a0.Kind == (3 : Int)) with hb18 | hb18
     ·
      exact Yb hb18 (Ye fa29_3 rfl (Yl A14 u22 rfl (ln' A16 u22 rfl (Xc rfl (Xc rfl (Kg18 _ (Ag.put ((Ag.put ((Ag.put ((Ag.put ((Ag.put (Ag.base rfl) rfl)) rfl)) rfl)) rfl)) rfl) (by rw [hb18]; rfl)))))))
     exact Yb hb18 (Xk rfl (Xk rfl (Xk rfl (Xk rfl (Xc rfl (Kg18 _ (Ag.put ((Ag.put ((Ag.put ((Ag.put ((Ag.put (Ag.base rfl) rfl)) rfl)) rfl)) rfl)) rfl) (by rw [hb18]; rfl)))))))
    exact Xc rfl (Kg17 _ (Ag.put ((Ag.put ((Ag.ov ((Ag.put ((Ag.put ((Ag.put ((Ag.put (Ag.base rfl) rfl)) rfl)) rfl)) rfl)) rfl)) rfl)) rfl) (by rw [hb17]; rfl))
   exact Xc rfl (Kg13 _ (Ag.put ((Ag.put ((Ag.ov ((Ag.put ((Ag.put ((Ag.put ((Ag.put ((Ag.put (Ag.base rfl) rfl)) rfl)) rfl)) rfl)) rfl)) rfl)) rfl)) rfl) (by rw [hb13]; rfl))
  refine Yb hb13 (Xk rfl (Xk rfl (Xk rfl (Xk rfl (Xk rfl (Xk rfl (Xk rfl (Xk rfl (Xk rfl (Xk rfl (Xk rfl (Xk rfl (Xk rfl (Xk rfl ?_))))))))))))))
  exact Xk rfl (Xc rfl (Kg13 _ (Ag.put ((Ag.put ((Ag.put ((Ag.put ((Ag.put ((Ag.put ((Ag.put ((Ag.put ((Ag.put ((Ag.put ((Ag.put ((Ag.put ((Ag.put ((Ag.put ((Ag.put ((Ag.put (Ag.base rfl) rfl)) rfl)) rfl)) rfl)) rfl)) rfl)) rfl)) rfl)) rfl)) rfl)) rfl)) rfl)) rfl)) rfl)) rfl)) rfl) (by rw [hb13]; rfl)))
 refine Xc rfl (dn ?_)
 exact re rfl func170 rfl (Xu rfl Xe) rfl ⟨_, rfl, rfl, z.ky (kp0.st (Xn p2 p5) rfl)⟩
def impl_KeyOk.f (a0 : Item) : Option (Bool) :=
 ((impl_ItemOk.f a0).bind fun r6 => (some ((r6 && (a0.Kind != (0 : Int))) && ((fcmp .f64 a0.F (0 : Nat) != some .eq) || ((a0.F : Int) == 0)))))
def impl_KeyOk.Q (w : World) (F : Nat → Prop) (r : Bool) (v : Value) (w' : World) : Prop :=
 v = (.bool r) ∧ Ky [] w w'
theorem impl_KeyOk.calls (a0 : Item) (w : World) (F : Nat → Prop) (w0_0 : Value) (w0_1 : Value) (h0_0 : Kd.flt.rd w [w0_0] a0.F F) (h0_1 : Yr.rd w [w0_1] a0.T F) (r : Bool) (m : impl_KeyOk.f a0 = some r) :
  Calls prog 100 #[(.agg #[(iI a0.Kind), (iI a0.N), w0_0, w0_1])] w (RT (impl_KeyOk.Q w F) r) := by
 obtain ⟨s0, rfl, kp0, z⟩ := Xl w F
 have A0_0 := Yq h0_0
 refine Xd (args := [(.agg #[(iI a0.Kind), (iI a0.N), w0_0, w0_1])]) func100 ntmps100 rfl m ?_
 unfold impl_KeyOk.f
 refine sr (bx' (cs := [(iI a0.Kind), (iI a0.N), w0_0, w0_1]) 40 rfl rfl (fun b2 s2 p2 B2 => ?_))
 refine Xc rfl (dn (sr (Ya (es := [(iI a0.Kind), (iI a0.N), w0_0, w0_1]) B2 u29 z29 rfl ?_)))
 have K4 := kp0.st p2 rfl
 refine Yn 41 rfl func170 rfl (impl_ItemOk.calls a0 s2.w (mm [0] s2) w0_0 w0_1 ((Xq (s := s2) A0_0).sub (D := [0]) rfl) ((z.rd h0_1).kp K4)) (fun r6 s7 p7 n7 => ?_)
 refine Xc rfl (jy [5, 6, 7, 8, 9] [7, 8, 9, 10, 11, 12, 13, 14, 15, 16, 17, 18] 9 (.bool (r6 && (a0.Kind != (0 : Int)))) rfl (fun Kg8 => ?_) (fun j8 => ?_))
 ·
  rcases bft r6 with hb8 | hb8
  ·
   refine Yb hb8 (Ye fa29_0 rfl ?_)
   exact Yl (B2.st p7 rfl) u3 rfl (Xc rfl (Xc rfl (Kg8 _ (Ag.put ((Ag.put ((Ag.put ((Ag.put (Ag.base rfl) rfl)) rfl)) rfl)) rfl) (by rw [hb8]; rfl))))
  exact Yb hb8 (Xk rfl (Xk rfl (Xk rfl (Xc rfl (Kg8 _ (Ag.put ((Ag.put ((Ag.put ((Ag.put (Ag.base rfl) rfl)) rfl)) rfl)) rfl) (by rw [hb8]; rfl))))))
 refine Xc rfl (jy [10, 11, 12, 13, 14, 15, 16, 17, 18, 19, 20] [18] 20 (.bool ((r6 && (a0.Kind != (0 : Int))) && ((fcmp .f64 a0.F (0 : Nat) != some .eq) || ((a0.F : Int) == 0)))) rfl (fun Kg10 => ?_) (fun j10 => ?_))
 ·
  rcases bft (r6 && (a0.Kind != (0 : Int))) with hb10 | hb10
  ·
   refine Yb hb10 (Ye fa29_2 rfl ?_)
   have A11 := B2.st p7 rfl
   refine Yl A11 u27 rfl (fq_' A0_0 (Yf rfl) rfl (Xc rfl (jy [14, 15, 16, 17, 18, 19] [17, 18] 19 (.bool ((fcmp .f64 a0.F (0 : Nat) != some .eq) || ((a0.F : Int) == 0))) rfl (fun Kg12 => ?_) (fun j12 => ?_))))
   ·
    rcases bft (fcmp .f64 a0.F (0 : Nat) != some .eq) with hb12 | hb12
    ·
     exact Yb hb12 (Xk rfl (Xk rfl (Xk rfl (Xk rfl (Xc rfl (Kg12 _ (Ag.put ((Ag.put ((Ag.put ((Ag.put ((Ag.put (Ag.base rfl) rfl)) rfl)) rfl)) rfl)) rfl) (by rw [hb12]; rfl)))))))
    refine Yb hb12 (Ye fa29_2 rfl (Yl A11 u27 rfl (fbu A0_0 rfl rfl rfl rfl rfl func190 rfl rfl xn190 xf190 rfl (fun b13 A13 => ?_))))
    exact fz0 A13 rfl rfl rfl rfl rfl rfl rfl (Xc rfl (Kg12 _ (Ag.put ((Ag.put ((Ag.put ((Ag.put ((Ag.put (Ag.base rfl) rfl)) rfl)) rfl)) rfl)) rfl) (by rw [hb12]; rfl)))
   exact Xc rfl (Kg10 _ (Ag.put ((Ag.put ((Ag.ov ((Ag.put ((Ag.put ((Ag.put ((Ag.put (Ag.base rfl) rfl)) rfl)) rfl)) rfl)) rfl)) rfl)) rfl) (by rw [hb10]; rfl))
  exact Yb hb10 (Xk rfl (Xk rfl (Xk rfl (Xk rfl (Xk rfl (Xk rfl (Xk rfl (Xk rfl (Xk rfl (Xc rfl (Kg10 _ (Ag.put ((Ag.put ((Ag.put ((Ag.put ((Ag.put ((Ag.put ((Ag.put ((Ag.put ((Ag.put ((Ag.put (Ag.base rfl) rfl)) rfl)) rfl)) rfl)) rfl)) rfl)) rfl)) rfl)) rfl)) rfl) (by rw [hb10]; rfl))))))))))))
 refine Xc rfl (dn ?_)
 exact re rfl func100 rfl (Xu rfl Xe) rfl ⟨_, rfl, rfl, z.ky (K4.st p7 rfl)⟩
def impl_highFirst.b0 (a0 : Int) (x1 : (List Int) × Int) : Option (((List Int) × Int) ⊕ (List Int)) :=
 (if (decide (x1.2 ≥ (0 : Int))) = true then (if 0 ≤ x1.2 then (if x1.1.length + ([(IntKind.wrap .u8 (ishr .u64 a0 x1.2))]).length ≤ Lim then (some (Sum.inl ((x1.1 ++ [(IntKind.wrap .u8 (ishr .u64 a0 x1.2))]), (IntKind.wrap .i64 (x1.2 - (8 : Int)))))) else none) else none) else ((some x1.1).bind fun o => some (Sum.inr o)))
def impl_highFirst.f (a0 : Int) : Option ((List Int)) :=
 (iter (impl_highFirst.b0 a0) (([] : (List Int)), (56 : Int)))
def impl_highFirst.Q (w : World) (F : Nat → Prop) (r : (List Int)) (v : Value) (w' : World) : Prop :=
 FO Yr w w' [v] r ∧ Ky [] w w'
theorem impl_highFirst.calls (a0 : Int) (w : World) (F : Nat → Prop)   (r : (List Int)) (m : impl_highFirst.f a0 = some r) :
  Calls prog 281 #[(.int .u64 a0)] w (RT (impl_highFirst.Q w F) r) := by
 obtain ⟨s0, rfl, kp0, z⟩ := Xl w F
 refine Xd (args := [(.int .u64 a0)]) func281 ntmps281 rfl m ?_
 unfold impl_highFirst.f
 refine sr (Xc rfl (dn (sr (Xc rfl (dn (sq (sr (Xc rfl (dn (bl (lpI (fun (x1 : (List Int) × Int) e w => ∃ (s : St) (e0 : Env) (vx1_0 : Value), w = s.w ∧ e = upd (upd (upd e0 0 (.int .u64 a0)) 3 vx1_0) 4 (iI x1.2) ∧ Kp s0 s ∧ OwF Yr s [vx1_0] x1.1 40) ⟨s0, _, (.slice none 0 0), rfl, (ue (ue (ue rfl rfl) rfl) rfl), kp0, (Ym 5 (Kd.int .u8) _ 40)⟩ (fun g1 ih1 => ?_))))))))))))
 rintro x1 _ _ ⟨s2, _, vx1_0, rfl, rfl, Kx1, Ax1_0⟩
 unfold impl_highFirst.b0
 refine sq (sr (Xc rfl (Xc rfl (dn (cd rfl (fun h4 => ?_) (fun h4 => ?_))))))
 ·
  refine sk (sq (bl (rg (Yc vx1_0 rfl (Xc rfl (Xc rfl (shr_ rfl rfl rfl rfl rfl rfl rfl (cv' u5 u129 rfl (ltF' (K := (Kd.int .u8)) (cells := [(.int .u8 (IntKind.wrap .u8 (ishr .u64 a0 x1.2)))]) [(IntKind.wrap .u8 (ishr .u64 a0 x1.2))] 41 Xv u22 z5 o5 (fun w => (Yd _ _ _)) rfl (fun v5 s5 p5 A5 => ?_))))))))))
  refine apF' Xv sl22 (Ax1_0.st p5 rfl) A5.rd rfl (fun v8 s8 p8 A8 => ?_)
  refine Yh v8 rfl (dn (ib (rg (Xc rfl (Xc rfl (Xc rfl (dn ?_)))))))
  exact lb ih1 ⟨s8, _, v8, rfl, (ue (ue (ue rfl rfl) rfl) rfl), (Kx1.st (Xn p5 p8) rfl), A8⟩
 exact xt rfl (sgb (sr (Yc vx1_0 rfl (Yh vx1_0 rfl (dn (re rfl func281 rfl (Xu rfl Xe) rfl ⟨_, rfl, Ax1_0.fo Kx1 rfl z.l, z.ky Kx1⟩))))))
def impl_itemBytes.f (a0 : Item) (a1 : Int) : Option ((List Int)) :=
 (if (a0.Kind == (1 : Int)) = true then ((impl_highFirst.f (IntKind.wrap .u64 ((IntKind.wrap .u64 a0.N) + (9223372036854775808 : Int)))).bind fun r8 => (if ([(IntKind.wrap .u8 a0.Kind)]).length + r8.length ≤ Lim then (some ([(IntKind.wrap .u8 a0.Kind)] ++ r8)) else none)) else (if (a0.Kind == (2 : Int)) = true then ((impl_highFirst.f a1).bind fun r16 => (if ([(IntKind.wrap .u8 a0.Kind)]).length + r16.length ≤ Lim then (some ([(IntKind.wrap .u8 a0.Kind)] ++ r16)) else none)) else (if ([(IntKind.wrap .u8 a0.Kind)]).length + a0.T.length ≤ Lim then (some ([(IntKind.wrap .u8 a0.Kind)] ++ a0.T)) else none)))
def impl_itemBytes.Q (w : World) (F : Nat → Prop) (r : (List Int)) (v : Value) (w' : World) : Prop :=
 FO Yr w w' [v] r ∧ Ky [] w w'
theorem impl_itemBytes.calls (a0 : Item) (a1 : Int) (w : World) (F : Nat → Prop) (w0_0 : Value) (w0_1 : Value) (h0_0 : Kd.flt.rd w [w0_0] a0.F F) (h0_1 : Yr.rd w [w0_1] a0.T F) (r : (List Int)) (m : impl_itemBytes.f a0 a1 = some r) :
  Calls prog 235 #[(.agg #[(iI a0.Kind), (iI a0.N), w0_0, w0_1]), (.int .u64 a1)] w (RT (impl_itemBytes.Q w F) r) := by
 obtain ⟨s0, rfl, kp0, z⟩ := Xl w F
 refine Xd (args := [(.agg #[(iI a0.Kind), (iI a0.N), w0_0, w0_1]), (.int .u64 a1)]) func235 ntmps235 rfl m ?_
 unfold impl_itemBytes.f
 refine sr (bx' (cs := [(iI a0.Kind), (iI a0.N), w0_0, w0_1]) 40 rfl rfl (fun b2 s2 p2 B2 => ?_))
 refine Xc rfl (dn (sr (Ye fa29_0 rfl (Yl B2 u3 rfl (cv' u5 u3 rfl (ltF' (K := (Kd.int .u8)) (cells := [(.int .u8 (IntKind.wrap .u8 a0.Kind))]) [(IntKind.wrap .u8 a0.Kind)] 41 Xv u22 z5 o5 (fun w => (Yd _ _ _)) rfl (fun v4 s4 p4 A4 => ?_)))))))
 refine Yh v4 rfl (dn (sq (sr (Ye fa29_0 rfl ?_))))
 have A6 := B2.st p4 rfl
 refine Yl A6 u3 rfl (dn (bl (sr (Xc rfl (Xc rfl (dn (cd rfl (fun h7 => ?_) (fun h7 => ?_))))))))
 ·
  refine sr (Yc v4 rfl (Ye fa29_1 rfl (Yl A6 u3 rfl (cv' u129 u3 rfl (Xc rfl (clO 42 rfl func281 rfl (impl_highFirst.calls (IntKind.wrap .u64 ((IntKind.wrap .u64 a0.N) + (9223372036854775808 : Int))) s4.w (mm [] s4)) (fun r8 v8_0 s9 p9 A8_0 => ?_)))))))
  refine apF' Xv sl22 (A4.st p9 rfl) A8_0.rd rfl (fun v12 s12 p12 A12 => ?_)
  refine Yh v12 rfl (dn ?_)
  have K14 := kp0.st (Yo p2 p4 p9 p12) rfl
  exact re rfl func235 rfl (Xu rfl Xe) rfl ⟨_, rfl, A12.fo K14 rfl z.l, z.ky K14⟩
 refine sr (Xc rfl (Xc rfl (dn (cd rfl (fun h15 => ?_) (fun h15 => ?_)))))
 ·
  refine sr (Yc v4 rfl (Xc rfl (clO 43 rfl func281 rfl (impl_highFirst.calls a1 s4.w (mm [] s4)) (fun r16 v16_0 s17 p17 A16_0 => ?_))))
  refine apF' Xv sl22 (A4.st p17 rfl) A16_0.rd rfl (fun v20 s20 p20 A20 => ?_)
  refine Yh v20 rfl (dn ?_)
  have K22 := kp0.st (Yo p2 p4 p17 p20) rfl
  exact re rfl func235 rfl (Xu rfl Xe) rfl ⟨_, rfl, A20.fo K22 rfl z.l, z.ky K22⟩
 refine sk (ib (sr (Yc v4 rfl (Ye fa29_3 rfl (Yl A6 u22 rfl ?_)))))
 have K23 := kp0.st (Xn p2 p4) rfl
 refine apF' Xv sl22 A4 ((z.rd h0_1).kp K23) rfl (fun v25 s25 p25 A25 => ?_)
 refine Yh v25 rfl (dn ?_)
 have K27 := K23.st p25 rfl
 exact re rfl func235 rfl (Xu rfl Xe) rfl ⟨_, rfl, A25.fo K27 rfl z.l, z.ky K27⟩
def impl_KeyBytes.f (a0 : Item) : Option ((List Int)) :=
 ((impl_KeyOk.f a0).bind fun r6 => (if (!r6) = true then (some ([] : (List Int))) else ((impl_FloatRank.f a0.F).bind fun r19 => ((impl_itemBytes.f a0 r19).bind fun r25 => (some r25)))))
def impl_KeyBytes.Q (w : World) (F : Nat → Prop) (r : (List Int)) (v : Value) (w' : World) : Prop :=
 FO Yr w w' [v] r ∧ Ky [] w w'
theorem impl_KeyBytes.calls (a0 : Item) (w : World) (F : Nat → Prop) (w0_0 : Value) (w0_1 : Value) (h0_0 : Kd.flt.rd w [w0_0] a0.F F) (h0_1 : Yr.rd w [w0_1] a0.T F) (r : (List Int)) (m : impl_KeyBytes.f a0 = some r) :
  Calls prog 172 #[(.agg #[(iI a0.Kind), (iI a0.N), w0_0, w0_1])] w (RT (impl_KeyBytes.Q w F) r) := by
 obtain ⟨s0, rfl, kp0, z⟩ := Xl w F
 have A0_0 := Yq h0_0
 have A0_1 := z.rd h0_1
 refine Xd (args := [(.agg #[(iI a0.Kind), (iI a0.N), w0_0, w0_1])]) func172 ntmps172 rfl m ?_
 unfold impl_KeyBytes.f
 refine sr (bx' (cs := [(iI a0.Kind), (iI a0.N), w0_0, w0_1]) 40 rfl rfl (fun b2 s2 p2 B2 => ?_))
 refine Xc rfl (dn (sq (sr (Ya (es := [(iI a0.Kind), (iI a0.N), w0_0, w0_1]) B2 u29 z29 rfl ?_))))
 have K4 := kp0.st p2 rfl
 refine Yn 41 rfl func100 rfl (impl_KeyOk.calls a0 s2.w (mm [0] s2) w0_0 w0_1 ((Xq (s := s2) A0_0).sub (D := [0]) rfl) (A0_1.kp K4)) (fun r6 s7 p7 n7 => ?_)
 refine Xc rfl (dn (cd rfl (fun h8 => ?_) (fun h8 => ?_)))
 ·
  refine sr (Xc rfl (dn ?_))
  have K9 := K4.st p7 rfl
  exact re rfl func172 rfl (Xu rfl Xe) rfl ⟨_, rfl, (Ym 5 (Kd.int .u8) s7 40).fo K9 rfl z.l, z.ky K9⟩
 refine sk (sq (zdraw [[], [], [1], [2], [0, 3, 3], [4, 4, 0, 1, 2, 3, 4]] [some 6, some 7, some 8, some 9, some 10, some 2] [[1], [1], [7], [8], [6, 9], [10]] [0, 1, 2, 3, 4, 5] ⟨by kernel_rfl, by kernel_rfl, by kernel_rfl⟩ (by kernel_rfl) (fun s10 p10 l10 tb10 zd10 => ?_)))
 refine Xt 3 [some 6] tb10 (((zd10.add 0 6 (.agg #[(iI a0.Kind), (iI a0.N), w0_0, w0_1]) rfl).add 1 7 (pO b2 2) rfl).add 2 8 w0_0 rfl) (Xa (Xp (B2.st (Xn p7 p10) rfl) u27 rfl) rfl (Xa (Xo fa29_2 rfl) rfl (Xa (Yg (es := [(iI a0.Kind), (iI a0.N), w0_0, w0_1]) (B2.st (Xn p7 p10) rfl) u29 z29 rfl) rfl Xg))) (by kernel_rfl) rfl (fun l16 e16 zd16 => ?_)
 refine Yn 42 rfl func236 rfl (impl_FloatRank.calls a0.F s10.w (mm [] s10) w0_0 (Xq (s := s10) A0_0)) (fun r19 s20 p20 n20 => ?_)
 refine Xm (L' := [0]) (D' := [1, 2, 3]) zd16 rfl (fun zd21 => ?_)
 refine Yp [4, 5] tb10 zd21 (Xa (Yg (es := [(iI a0.Kind), (iI a0.N), w0_0, w0_1]) (B2.st (Yi p7 p10 p20) rfl) u29 z29 rfl) rfl Xg) (by kernel_rfl) (by decide) ?_
 have K23 := K4.st (Yi p7 p10 p20) rfl
 refine clO 43 rfl func235 rfl (impl_itemBytes.calls a0 r19 s20.w (mm [0] s20) w0_0 w0_1 ((Xq (s := s20) A0_0).sub (D := [0]) rfl) (A0_1.kp K23)) (fun r25 v25_0 s26 p26 A25_0 => ?_)
 refine Yh v25_0 rfl (dn ?_)
 have K28 := K23.st p26 rfl
 exact re rfl func172 rfl (Xu rfl Xe) rfl ⟨_, rfl, A25_0.fo K28 rfl z.l, z.ky K28⟩
def bytes_Equal.f (a0 : (List Int)) (a1 : (List Int)) : Option (Bool) :=
 (some ((str a0).toList == (str a1).toList))
def bytes_Equal.Q (w : World) (F : Nat → Prop) (r : Bool) (v : Value) (w' : World) : Prop :=
 v = (.bool r) ∧ Ky [] w w'
theorem bytes_Equal.calls (a0 : (List Int)) (a1 : (List Int)) (w : World) (F : Nat → Prop) (w0_0 : Value) (w1_0 : Value) (h0_0 : Yr.rd w [w0_0] a0 F) (h1_0 : Yr.rd w [w1_0] a1 F) (r : Bool) (m : bytes_Equal.f a0 a1 = some r) :
  Calls prog 187 #[w0_0, w1_0] w (RT (bytes_Equal.Q w F) r) := by
 obtain ⟨s0, rfl, kp0, z⟩ := Xl w F
 refine Xd (args := [w0_0, w1_0]) func187 ntmps187 rfl m ?_
 unfold bytes_Equal.f
 exact sr (Xc rfl (dn (sr (Yc w0_0 rfl (b2s (z.rd h0_0) u22 u9 u5 rfl rfl rfl rfl rfl rfl (Yc w1_0 rfl (b2s (z.rd h1_0) u22 u9 u5 rfl rfl rfl rfl rfl rfl (Xc rfl (Xc rfl (dn (re rfl func187 rfl (Xu rfl Xe) rfl ⟨_, rfl, rfl, z.ky kp0⟩)))))))))))
def impl_KeyRead.f (a0 : (List Int)) : Option (Item × Bool) :=
 ((impl_readItem.f a0 impl_KeyRead_1.f).bind fun r6 => ((impl_KeyOk.f r6).bind fun r15 => ((if (!r15) = true then (some true) else ((impl_KeyBytes.f r6).bind fun r24 => ((bytes_Equal.f r24 a0).bind fun r29 => (some (!r29))))).bind fun y17 => (if y17 = true then (some ((Item.mk (0 : Int) (0 : Int) (0 : Nat) ([] : (List Int))), false)) else (some (r6, true))))))
def impl_KeyRead.Q (w : World) (F : Nat → Prop) (r : Item × Bool) (v : Value) (w' : World) : Prop :=
 ∃ (v0 : Value) (v1 : Value), v = .tuple #[(.agg #[(iI r.1.Kind), (iI r.1.N), v0, v1]), (.bool r.2)] ∧ FO kd29 w w' [(iI r.1.Kind), (iI r.1.N), v0, v1] r.1 ∧ Ky [] w w'
theorem impl_KeyRead.calls (a0 : (List Int)) (w : World) (F : Nat → Prop) (w0_0 : Value) (h0_0 : Yr.rd w [w0_0] a0 F) (r : Item × Bool) (m : impl_KeyRead.f a0 = some r) :
  Calls prog 185 #[w0_0] w (RT (impl_KeyRead.Q w F) r) := by
 obtain ⟨s0, rfl, kp0, z⟩ := Xl w F
 have A0_0 := z.rd h0_0
 refine Xd (args := [w0_0]) func185 ntmps185 rfl m ?_
 unfold impl_KeyRead.f
 refine sr (al' (cs := [(iI 0), (iI 0), (.float .f64 0), (.slice none 0 0)]) 40 rfl o29 rfl (fun b2 s2 p2 B2 => ?_))
 refine Xc rfl (dn (sr (Yc w0_0 rfl ?_)))
 have K4 := kp0.st p2 rfl
 refine cl' rfl func243 rfl (impl_readItem.calls a0 impl_KeyRead_1.f s2.w (mm [0] s2) w0_0 (.func (.func 244) #[] #[]) (A0_0.kp K4) (fun x0 w' k  r m =>  ⟨244, _, _, [], [], rfl, func244, rfl, rfl, (impl_KeyRead_1.calls x0 w' (fun _ => True)  r m).mono fun en w2 hq => by obtain ⟨v, e, q⟩ := hq; exact ⟨v, e, q⟩⟩) rfl) ?_
 rintro r6 _ w6 m6 ⟨v6_0, v6_1, rfl, f6_0, ky6⟩
 obtain ⟨s7, rfl, p7, n7⟩ := nwx s2 w6 41 ky6
 obtain ⟨hu6_0_0, Au6_0_1⟩ := ap29 (f6_0.c n7)
 refine al' (cs := [(iI 0), (iI 0), (.float .f64 0), (.slice none 0 0)]) 42 rfl o29 rfl (fun b9 s9 p9 B9 => ?_)
 have A11 := Au6_0_1.st p9 rfl
 refine Xx (vs := [(iI r6.Kind), (iI r6.N), v6_0, v6_1]) B9 z29 rfl (Xb rfl (Xb rfl (Xb (FL.one hu6_0_0) (Xb A11.rd.one Xj)))) rfl (fun s12 p12 B12 => ?_)
 refine dn (sq (sr (Ya (es := [(iI r6.Kind), (iI r6.N), v6_0, v6_1]) B12 u29 z29 rfl ?_)))
 have A14 := A11.st p12 rfl
 refine Yn 43 rfl func100 rfl (impl_KeyOk.calls r6 s12.w (mm [41] s12) v6_0 v6_1 ((Xq (s := s12) hu6_0_0).sub (D := [41]) rfl) A14.rd) (fun r15 s16 p16 n16 => ?_)
 refine Xc rfl (Xc rfl (ji [] (fun (y17 : Bool) e w => ∃ (s : St) (e0 : Env), w = s.w ∧ e = upd (upd (upd e0 2 (pB b2)) 4 (pB b9)) 16 (.bool y17) ∧ Kp s0 s ∧ BlF s b9 29 [(iI r6.Kind), (iI r6.N), v6_0, v6_1] 42 ∧ BlF s b2 29 [(iI 0), (iI 0), (.float .f64 0), (.slice none 0 0)] 40 ∧ OwF Yr s [v6_1] r6.T 41) (fun Gj17 Kj17 => ?_) ?_))
 ·
  rcases bft (!r15) with hb17 | hb17
  ·
   refine Yb hb17 ?_
   rw [if_pos hb17]
   refine Xk rfl (Xk rfl (Xk rfl (Xk rfl (Xk rfl (Xc rfl ?_)))))
   exact Kj17 _ _ _ ⟨s16, _, rfl, (ue (ue (ue rfl rfl) rfl) rfl), (K4.st (Yo p7 p9 p12 p16) rfl), (B12.st p16 rfl), (B2.st (Yo p7 p9 p12 p16) rfl), (A14.st p16 rfl)⟩
  refine Yb hb17 ?_
  rw [if_neg (by rw [hb17]; decide)]
  have A22 := B12.st p16 rfl
  refine Ya (es := [(iI r6.Kind), (iI r6.N), v6_0, v6_1]) A22 u29 z29 rfl ?_
  have A23 := A14.st p16 rfl
  refine clO 44 rfl func172 rfl (impl_KeyBytes.calls r6 s16.w (mm [41] s16) v6_0 v6_1 ((Xq (s := s16) hu6_0_0).sub (D := [41]) rfl) A23.rd) (fun r24 v24_0 s25 p25 A24_0 => ?_)
  refine Yc w0_0 rfl ?_
  have K27 := K4.st (tr5 p7 p9 p12 p16 p25) rfl
  refine Yn 45 rfl func187 rfl (bytes_Equal.calls r24 a0 s25.w (mm [44, 0] s25) v24_0 w0_0 (A24_0.rd.sub (D := [44, 0]) rfl) ((A0_0.kp K27).sub (D := [44, 0]) rfl)) (fun r29 s30 p30 n30 => ?_)
  refine Xc rfl (Xc rfl ?_)
  exact Kj17 _ _ _ ⟨s30, _, rfl, (ue (ue (ue rfl rfl) rfl) rfl), (K27.st p30 rfl), (A22.st (Xn p25 p30) rfl), (B2.st (tr6 p7 p9 p12 p16 p25 p30) rfl), (A23.st (Xn p25 p30) rfl)⟩
 rintro y17 _ _ ⟨s35, _, rfl, rfl, Ky17, By17_b9, By17_b2, Cy17_8⟩
 refine dn (cd rfl (fun h38 => ?_) (fun h38 => ?_))
 ·
  refine sr (bd' (cells := [(iI 0), (iI 0), (.float .f64 0), (.slice none 0 0)]) pl29 o29 rfl rfl (Xx (vs := [(iI 0), (iI 0), (.float .f64 0), (.slice none 0 0)]) By17_b2 z29 rfl (Xb rfl (Xb rfl (Xb (FL.one (Yf rfl)) (Xb rfl Xj)))) rfl (fun s39 p39 B39 => ?_)))
  refine Xc rfl (dn ?_)
  have A41 : OwF kd29 s39 [(iI 0), (iI 0), (.float .f64 0), (.slice none 0 0)] (Item.mk (0 : Int) (0 : Int) (0 : Nat) ([] : (List Int))) 46 := ow_z _ _ (Yj (fun x : Item => (x.Kind, x.N, x.F, x.T)) (Item.mk (0 : Int) (0 : Int) (0 : Nat) ([] : (List Int))) (Xi (Xf .i64 (0 : Int)) (Xi (Xf .i64 (0 : Int)) (Xi (Xz (Yf rfl)) (Yk 5 (Kd.int .u8))))))
  have K43 := Ky17.st p39 rfl
  exact re rfl func185 rfl (r_b B39 u29 rfl z29 rfl (Xu rfl Xe)) rfl ⟨_, rfl, (.float .f64 0), (.slice none 0 0), rfl, A41.fo K43 rfl z.l, z.ky K43⟩
 refine sk (sr (Ya (es := [(iI r6.Kind), (iI r6.N), v6_0, v6_1]) By17_b9 u29 z29 rfl (Xx (vs := [(iI r6.Kind), (iI r6.N), v6_0, v6_1]) By17_b2 z29 rfl (Xb rfl (Xb rfl (Xb (FL.one hu6_0_0) (Xb Cy17_8.rd.one Xj)))) rfl (fun s44 p44 B44 => ?_))))
 refine Xc rfl (dn ?_)
 have A46 : OwF kd29 s44 [(iI r6.Kind), (iI r6.N), v6_0, v6_1] r6 41 := (Xs (fun x : Item => (x.Kind, x.N, x.F, x.T)) r6 (Xy (Xf .i64 r6.Kind) (Xy (Xf .i64 r6.N) (Xy (Xz hu6_0_0) (Cy17_8.st p44 rfl)))))
 have K49 := Ky17.st p44 rfl
 exact re rfl func185 rfl (r_b B44 u29 rfl z29 rfl (Xu rfl Xe)) rfl ⟨_, rfl, v6_0, v6_1, rfl, A46.fo K49 rfl z.l, z.ky K49⟩
def impl_FloatOf.f (a0 : Int) : Option (Nat) :=
 (some (cn (a0).toNat))
def impl_FloatOf.Q (w : World) (F : Nat → Prop) (r : Nat) (v : Value) (w' : World) : Prop :=
 FL v r ∧ Ky [] w w'
theorem impl_FloatOf.calls (a0 : Int) (w : World) (F : Nat → Prop)   (r : Nat) (m : impl_FloatOf.f a0 = some r) :
  Calls prog 246 #[(.int .u64 a0)] w (RT (impl_FloatOf.Q w F) r) := by
 obtain ⟨s0, rfl, kp0, z⟩ := Xl w F
 refine Xd (args := [(.int .u64 a0)]) func246 ntmps246 rfl m ?_
 unfold impl_FloatOf.f
 refine sr (Yh (.float .f64 0) rfl (dn (sr (Xc rfl (ffb rfl rfl rfl rfl rfl func283 rfl rfl xn283 xf283 rfl (fun v1 A1 => ?_))))))
 exact Yh v1 rfl (dn (re rfl func246 rfl (Xu rfl Xe) rfl ⟨_, rfl, A1, z.ky kp0⟩))
def impl_FloatBits.f (a0 : Nat) : Option (Int) :=
 (if (fcmp .f64 a0 a0 != some .eq) = true then (some (9221120237041090560 : Int)) else (if isN a0 = false then (some (a0 : Int)) else none))
def impl_FloatBits.Q (w : World) (F : Nat → Prop) (r : Int) (v : Value) (w' : World) : Prop :=
 v = (.int .u64 r) ∧ Ky [] w w'
theorem impl_FloatBits.calls (a0 : Nat) (w : World) (F : Nat → Prop) (w0_0 : Value) (h0_0 : Kd.flt.rd w [w0_0] a0 F) (r : Int) (m : impl_FloatBits.f a0 = some r) :
  Calls prog 237 #[w0_0] w (RT (impl_FloatBits.Q w F) r) := by
 obtain ⟨s0, rfl, kp0, z⟩ := Xl w F
 have A0_0 := Yq h0_0
 refine Xd (args := [w0_0]) func237 ntmps237 rfl m ?_
 unfold impl_FloatBits.f
 refine sr (Xc rfl (dn (sq (sr (Yc w0_0 rfl (Yc w0_0 rfl (fq_' A0_0 A0_0 rfl (dn (cd rfl (fun h1 => ?_) (fun h1 => ?_))))))))))
 ·
  exact sr (Xc rfl (dn (re rfl func237 rfl (Xu rfl Xe) rfl ⟨_, rfl, rfl, z.ky kp0⟩)))
 exact sk (sr (Yc w0_0 rfl (fb_ A0_0 rfl rfl rfl rfl rfl func190 rfl rfl xn190 xf190 rfl (Xc rfl (dn (re rfl func237 rfl (Xu rfl Xe) rfl ⟨_, rfl, rfl, z.ky kp0⟩))))))
def impl_ValueBytes.f (a0 : Item) : Option ((List Int)) :=
 ((impl_ItemOk.f a0).bind fun r6 => (if ((!r6) || (a0.Kind == (0 : Int))) = true then (some ([] : (List Int))) else ((impl_FloatBits.f a0.F).bind fun r21 => ((impl_itemBytes.f a0 r21).bind fun r27 => (some r27)))))
def impl_ValueBytes.Q (w : World) (F : Nat → Prop) (r : (List Int)) (v : Value) (w' : World) : Prop :=
 FO Yr w w' [v] r ∧ Ky [] w w'
theorem impl_ValueBytes.calls (a0 : Item) (w : World) (F : Nat → Prop) (w0_0 : Value) (w0_1 : Value) (h0_0 : Kd.flt.rd w [w0_0] a0.F F) (h0_1 : Yr.rd w [w0_1] a0.T F) (r : (List Int)) (m : impl_ValueBytes.f a0 = some r) :
  Calls prog 173 #[(.agg #[(iI a0.Kind), (iI a0.N), w0_0, w0_1])] w (RT (impl_ValueBytes.Q w F) r) := by
 obtain ⟨s0, rfl, kp0, z⟩ := Xl w F
 have A0_0 := Yq h0_0
 have A0_1 := z.rd h0_1
 refine Xd (args := [(.agg #[(iI a0.Kind), (iI a0.N), w0_0, w0_1])]) func173 ntmps173 rfl m ?_
 unfold impl_ValueBytes.f
 refine sr (bx' (cs := [(iI a0.Kind), (iI a0.N), w0_0, w0_1]) 40 rfl rfl (fun b2 s2 p2 B2 => ?_))
 refine Xc rfl (dn (sq (sr (Ya (es := [(iI a0.Kind), (iI a0.N), w0_0, w0_1]) B2 u29 z29 rfl ?_))))
 have K4 := kp0.st p2 rfl
 refine Yn 41 rfl func170 rfl (impl_ItemOk.calls a0 s2.w (mm [0] s2) w0_0 w0_1 ((Xq (s := s2) A0_0).sub (D := [0]) rfl) (A0_1.kp K4)) (fun r6 s7 p7 n7 => ?_)
 refine Xc rfl (Xc rfl (jy [6, 7, 8, 9, 10] [] 10 (.bool ((!r6) || (a0.Kind == (0 : Int)))) rfl (fun Kg8 => ?_) (fun j8 => ?_)))
 ·
  rcases bft (!r6) with hb8 | hb8
  ·
   exact Yb hb8 (Xk rfl (Xk rfl (Xk rfl (Xc rfl (Kg8 _ (Ag.put ((Ag.put ((Ag.put ((Ag.put (Ag.base rfl) rfl)) rfl)) rfl)) rfl) (by rw [hb8]; rfl))))))
  refine Yb hb8 (Ye fa29_0 rfl ?_)
  exact Yl (B2.st p7 rfl) u3 rfl (Xc rfl (Xc rfl (Kg8 _ (Ag.put ((Ag.put ((Ag.put ((Ag.put (Ag.base rfl) rfl)) rfl)) rfl)) rfl) (by rw [hb8]; rfl))))
 refine dn (cd rfl (fun h10 => ?_) (fun h10 => ?_))
 ·
  refine sr (Xc rfl (dn ?_))
  have K11 := K4.st p7 rfl
  exact re rfl func173 rfl (Xu rfl Xe) rfl ⟨_, rfl, (Ym 5 (Kd.int .u8) s7 40).fo K11 rfl z.l, z.ky K11⟩
 refine sk (sq (zdraw [[], [], [1], [2], [0, 3, 3], [4, 4, 0, 1, 2, 3, 4]] [some 11, some 12, some 13, some 14, some 15, some 2] [[1], [1], [12], [13], [11, 14], [15]] [0, 1, 2, 3, 4, 5] ⟨by kernel_rfl, by kernel_rfl, by kernel_rfl⟩ (by kernel_rfl) (fun s12 p12 l12 tb12 zd12 => ?_)))
 refine Xt 3 [some 11] tb12 (((zd12.add 0 11 (.agg #[(iI a0.Kind), (iI a0.N), w0_0, w0_1]) rfl).add 1 12 (pO b2 2) rfl).add 2 13 w0_0 rfl) (Xa (Xp (B2.st (Xn p7 p12) rfl) u27 rfl) rfl (Xa (Xo fa29_2 rfl) rfl (Xa (Yg (es := [(iI a0.Kind), (iI a0.N), w0_0, w0_1]) (B2.st (Xn p7 p12) rfl) u29 z29 rfl) rfl Xg))) (by kernel_rfl) rfl (fun l18 e18 zd18 => ?_)
 refine Yn 42 rfl func237 rfl (impl_FloatBits.calls a0.F s12.w (mm [] s12) w0_0 (Xq (s := s12) A0_0)) (fun r21 s22 p22 n22 => ?_)
 refine Xm (L' := [0]) (D' := [1, 2, 3]) zd18 rfl (fun zd23 => ?_)
 refine Yp [4, 5] tb12 zd23 (Xa (Yg (es := [(iI a0.Kind), (iI a0.N), w0_0, w0_1]) (B2.st (Yi p7 p12 p22) rfl) u29 z29 rfl) rfl Xg) (by kernel_rfl) (by decide) ?_
 have K25 := K4.st (Yi p7 p12 p22) rfl
 refine clO 43 rfl func235 rfl (impl_itemBytes.calls a0 r21 s22.w (mm [0] s22) w0_0 w0_1 ((Xq (s := s22) A0_0).sub (D := [0]) rfl) (A0_1.kp K25)) (fun r27 v27_0 s28 p28 A27_0 => ?_)
 refine Yh v27_0 rfl (dn ?_)
 have K30 := K25.st p28 rfl
 exact re rfl func173 rfl (Xu rfl Xe) rfl ⟨_, rfl, A27_0.fo K30 rfl z.l, z.ky K30⟩
def impl_ValueRead.f (a0 : (List Int)) : Option (Item × Bool) :=
 ((impl_readItem.f a0 impl_FloatOf.f).bind fun r6 => ((impl_ItemOk.f r6).bind fun r15 => ((if ((!r15) || (r6.Kind == (0 : Int))) = true then (some true) else ((impl_ValueBytes.f r6).bind fun r26 => ((bytes_Equal.f r26 a0).bind fun r31 => (some (!r31))))).bind fun y19 => (if y19 = true then (some ((Item.mk (0 : Int) (0 : Int) (0 : Nat) ([] : (List Int))), false)) else (some (r6, true))))))
def impl_ValueRead.Q (w : World) (F : Nat → Prop) (r : Item × Bool) (v : Value) (w' : World) : Prop :=
 ∃ (v0 : Value) (v1 : Value), v = .tuple #[(.agg #[(iI r.1.Kind), (iI r.1.N), v0, v1]), (.bool r.2)] ∧ FO kd29 w w' [(iI r.1.Kind), (iI r.1.N), v0, v1] r.1 ∧ Ky [] w w'
theorem impl_ValueRead.calls (a0 : (List Int)) (w : World) (F : Nat → Prop) (w0_0 : Value) (h0_0 : Yr.rd w [w0_0] a0 F) (r : Item × Bool) (m : impl_ValueRead.f a0 = some r) :
  Calls prog 186 #[w0_0] w (RT (impl_ValueRead.Q w F) r) := by
 obtain ⟨s0, rfl, kp0, z⟩ := Xl w F
 have A0_0 := z.rd h0_0
 refine Xd (args := [w0_0]) func186 ntmps186 rfl m ?_
 unfold impl_ValueRead.f
 refine sr (al' (cs := [(iI 0), (iI 0), (.float .f64 0), (.slice none 0 0)]) 40 rfl o29 rfl (fun b2 s2 p2 B2 => ?_))
 refine Xc rfl (dn (sr (Yc w0_0 rfl ?_)))
 have K4 := kp0.st p2 rfl
 refine cl' rfl func243 rfl (impl_readItem.calls a0 impl_FloatOf.f s2.w (mm [0] s2) w0_0 (.func (.func 246) #[] #[]) (A0_0.kp K4) (fun x0 w' k  r m =>  ⟨246, _, _, [], [], rfl, func246, rfl, rfl, (impl_FloatOf.calls x0 w' (fun _ => True)  r m).mono fun en w2 hq => by obtain ⟨v, e, q⟩ := hq; exact ⟨v, e, q⟩⟩) rfl) ?_
 rintro r6 _ w6 m6 ⟨v6_0, v6_1, rfl, f6_0, ky6⟩
 obtain ⟨s7, rfl, p7, n7⟩ := nwx s2 w6 41 ky6
 obtain ⟨hu6_0_0, Au6_0_1⟩ := ap29 (f6_0.c n7)
 refine al' (cs := [(iI 0), (iI 0), (.float .f64 0), (.slice none 0 0)]) 42 rfl o29 rfl (fun b9 s9 p9 B9 => ?_)
 have A11 := Au6_0_1.st p9 rfl
 refine Xx (vs := [(iI r6.Kind), (iI r6.N), v6_0, v6_1]) B9 z29 rfl (Xb rfl (Xb rfl (Xb (FL.one hu6_0_0) (Xb A11.rd.one Xj)))) rfl (fun s12 p12 B12 => ?_)
 refine dn (sq (sr (Ya (es := [(iI r6.Kind), (iI r6.N), v6_0, v6_1]) B12 u29 z29 rfl ?_)))
 have A14 := A11.st p12 rfl
 refine Yn 43 rfl func170 rfl (impl_ItemOk.calls r6 s12.w (mm [41] s12) v6_0 v6_1 ((Xq (s := s12) hu6_0_0).sub (D := [41]) rfl) A14.rd) (fun r15 s16 p16 n16 => ?_)
 refine Xc rfl (Xc rfl (jy [10, 11, 12, 13, 14] [8, 9, 10, 11, 12, 13, 14] 14 (.bool ((!r15) || (r6.Kind == (0 : Int)))) rfl (fun Kg17 => ?_) (fun j17 => ?_)))
 ·
  rcases bft (!r15) with hb17 | hb17
  ·
   exact Yb hb17 (Xk rfl (Xk rfl (Xk rfl (Xc rfl (Kg17 _ (Ag.put ((Ag.put ((Ag.put ((Ag.put (Ag.base rfl) rfl)) rfl)) rfl)) rfl) (by rw [hb17]; rfl))))))
  refine Yb hb17 (Ye fa29_0 rfl ?_)
  exact Yl (B12.st p16 rfl) u3 rfl (Xc rfl (Xc rfl (Kg17 _ (Ag.put ((Ag.put ((Ag.put ((Ag.put (Ag.base rfl) rfl)) rfl)) rfl)) rfl) (by rw [hb17]; rfl))))
 refine Xc rfl (ji [] (fun (y19 : Bool) e w => ∃ (s : St) (e0 : Env), w = s.w ∧ e = upd (upd (upd e0 2 (pB b2)) 4 (pB b9)) 21 (.bool y19) ∧ Kp s0 s ∧ BlF s b9 29 [(iI r6.Kind), (iI r6.N), v6_0, v6_1] 42 ∧ BlF s b2 29 [(iI 0), (iI 0), (.float .f64 0), (.slice none 0 0)] 40 ∧ OwF Yr s [v6_1] r6.T 41) (fun Gj19 Kj19 => ?_) ?_)
 ·
  rcases bft ((!r15) || (r6.Kind == (0 : Int))) with hb19 | hb19
  ·
   refine Yb hb19 ?_
   rw [if_pos hb19]
   refine Xk rfl (Xk rfl (Xk rfl (Xk rfl (Xk rfl (Xc rfl ?_)))))
   exact Kj19 _ _ _ ⟨s16, _, rfl, (ue (ue (ue rfl rfl) rfl) rfl), (K4.st (Yo p7 p9 p12 p16) rfl), (B12.st p16 rfl), (B2.st (Yo p7 p9 p12 p16) rfl), (A14.st p16 rfl)⟩
  refine Yb hb19 ?_
  rw [if_neg (by rw [hb19]; decide)]
  have A24 := B12.st p16 rfl
  refine Ya (es := [(iI r6.Kind), (iI r6.N), v6_0, v6_1]) A24 u29 z29 rfl ?_
  have A25 := A14.st p16 rfl
  refine clO 44 rfl func173 rfl (impl_ValueBytes.calls r6 s16.w (mm [41] s16) v6_0 v6_1 ((Xq (s := s16) hu6_0_0).sub (D := [41]) rfl) A25.rd) (fun r26 v26_0 s27 p27 A26_0 => ?_)
  refine Yc w0_0 rfl ?_
  have K29 := K4.st (tr5 p7 p9 p12 p16 p27) rfl
  refine Yn 45 rfl func187 rfl (bytes_Equal.calls r26 a0 s27.w (mm [44, 0] s27) v26_0 w0_0 (A26_0.rd.sub (D := [44, 0]) rfl) ((A0_0.kp K29).sub (D := [44, 0]) rfl)) (fun r31 s32 p32 n32 => ?_)
  refine Xc rfl (Xc rfl ?_)
  exact Kj19 _ _ _ ⟨s32, _, rfl, (ue (ue (ue rfl rfl) rfl) rfl), (K29.st p32 rfl), (A24.st (Xn p27 p32) rfl), (B2.st (tr6 p7 p9 p12 p16 p27 p32) rfl), (A25.st (Xn p27 p32) rfl)⟩
 rintro y19 _ _ ⟨s37, _, rfl, rfl, Ky19, By19_b9, By19_b2, Cy19_8⟩
 refine dn (cd rfl (fun h40 => ?_) (fun h40 => ?_))
 ·
  refine sr (bd' (cells := [(iI 0), (iI 0), (.float .f64 0), (.slice none 0 0)]) pl29 o29 rfl rfl (Xx (vs := [(iI 0), (iI 0), (.float .f64 0), (.slice none 0 0)]) By19_b2 z29 rfl (Xb rfl (Xb rfl (Xb (FL.one (Yf rfl)) (Xb rfl Xj)))) rfl (fun s41 p41 B41 => ?_)))
  refine Xc rfl (dn ?_)
  have A43 : OwF kd29 s41 [(iI 0), (iI 0), (.float .f64 0), (.slice none 0 0)] (Item.mk (0 : Int) (0 : Int) (0 : Nat) ([] : (List Int))) 46 := ow_z _ _ (Yj (fun x : Item => (x.Kind, x.N, x.F, x.T)) (Item.mk (0 : Int) (0 : Int) (0 : Nat) ([] : (List Int))) (Xi (Xf .i64 (0 : Int)) (Xi (Xf .i64 (0 : Int)) (Xi (Xz (Yf rfl)) (Yk 5 (Kd.int .u8))))))
  have K45 := Ky19.st p41 rfl
  exact re rfl func186 rfl (r_b B41 u29 rfl z29 rfl (Xu rfl Xe)) rfl ⟨_, rfl, (.float .f64 0), (.slice none 0 0), rfl, A43.fo K45 rfl z.l, z.ky K45⟩
 refine sk (sr (Ya (es := [(iI r6.Kind), (iI r6.N), v6_0, v6_1]) By19_b9 u29 z29 rfl (Xx (vs := [(iI r6.Kind), (iI r6.N), v6_0, v6_1]) By19_b2 z29 rfl (Xb rfl (Xb rfl (Xb (FL.one hu6_0_0) (Xb Cy19_8.rd.one Xj)))) rfl (fun s46 p46 B46 => ?_))))
 refine Xc rfl (dn ?_)
 have A48 : OwF kd29 s46 [(iI r6.Kind), (iI r6.N), v6_0, v6_1] r6 41 := (Xs (fun x : Item => (x.Kind, x.N, x.F, x.T)) r6 (Xy (Xf .i64 r6.Kind) (Xy (Xf .i64 r6.N) (Xy (Xz hu6_0_0) (Cy19_8.st p46 rfl)))))
 have K51 := Ky19.st p46 rfl
 exact re rfl func186 rfl (r_b B46 u29 rfl z29 rfl (Xu rfl Xe)) rfl ⟨_, rfl, v6_0, v6_1, rfl, A48.fo K51 rfl z.l, z.ky K51⟩
def impl_isXid.f (a0 : Int) : Option (Bool) :=
 ((impl_within.f a0 (1 : Int) (400 : Int)).bind fun r1 => (some r1))
def impl_isXid.Q (w : World) (F : Nat → Prop) (r : Bool) (v : Value) (w' : World) : Prop :=
 v = (.bool r) ∧ Ky [] w w'
theorem impl_isXid.calls (a0 : Int) (w : World) (F : Nat → Prop)   (r : Bool) (m : impl_isXid.f a0 = some r) :
  Calls prog 169 #[(iI a0)] w (RT (impl_isXid.Q w F) r) := by
 obtain ⟨s0, rfl, kp0, z⟩ := Xl w F
 refine Xd (args := [(iI a0)]) func169 ntmps169 rfl m ?_
 unfold impl_isXid.f
 refine sr (Xc rfl (dn (sr (Xc rfl (Yn 40 rfl func94 rfl (impl_within.calls a0 (1 : Int) (400 : Int) s0.w (mm [] s0)) (fun r1 s2 p2 n2 => ?_))))))
 refine Xc rfl (dn ?_)
 exact re rfl func169 rfl (Xu rfl Xe) rfl ⟨_, rfl, rfl, z.ky (kp0.st p2 rfl)⟩
def impl_TupleOk.f (a0 : Tuple) : Option (Bool) :=
 ((impl_isXid.f a0.Xmin).bind fun r5 => ((if r5 = true then ((impl_within.f a0.Xmax (0 : Int) (400 : Int)).bind fun r9 => (some r9)) else (some false)).bind fun y7 => ((if y7 = true then ((impl_KeyOk.f a0.Key).bind fun r19 => (some r19)) else (some false)).bind fun y17 => ((if y17 = true then ((impl_ItemOk.f a0.Value).bind fun r27 => (some r27)) else (some false)).bind fun y25 => (some (y25 && (a0.Value.Kind != (0 : Int))))))))
def impl_TupleOk.Q (w : World) (F : Nat → Prop) (r : Bool) (v : Value) (w' : World) : Prop :=
 v = (.bool r) ∧ Ky [] w w'
theorem impl_TupleOk.calls (a0 : Tuple) (w : World) (F : Nat → Prop) (w0_0 : Value) (w0_1 : Value) (w0_2 : Value) (w0_3 : Value) (h0_0 : Kd.flt.rd w [w0_0] a0.Key.F F) (h0_1 : Yr.rd w [w0_1] a0.Key.T F) (h0_2 : Kd.flt.rd w [w0_2] a0.Value.F F) (h0_3 : Yr.rd w [w0_3] a0.Value.T F) (r : Bool) (m : impl_TupleOk.f a0 = some r) :
  Calls prog 79 #[(.agg #[(iI a0.Xmin), (iI a0.Xmax), (iI a0.Key.Kind), (iI a0.Key.N), w0_0, w0_1, (iI a0.Value.Kind), (iI a0.Value.N), w0_2, w0_3])] w (RT (impl_TupleOk.Q w F) r) := by
 obtain ⟨s0, rfl, kp0, z⟩ := Xl w F
 refine Xd (args := [(.agg #[(iI a0.Xmin), (iI a0.Xmax), (iI a0.Key.Kind), (iI a0.Key.N), w0_0, w0_1, (iI a0.Value.Kind), (iI a0.Value.N), w0_2, w0_3])]) func79 ntmps79 rfl m ?_
 unfold impl_TupleOk.f
 refine sr (bx' (cs := [(iI a0.Xmin), (iI a0.Xmax), (iI a0.Key.Kind), (iI a0.Key.N), w0_0, w0_1, (iI a0.Value.Kind), (iI a0.Value.N), w0_2, w0_3]) 40 rfl rfl (fun b3 s3 p3 B3 => ?_))
 refine Xc rfl (dn (sr (Ye fa31_0 rfl (Yl B3 u3 rfl (Yn 41 rfl func169 rfl (impl_isXid.calls a0.Xmin s3.w (mm [] s3)) (fun r5 s6 p6 n6 => ?_))))))
 refine Xc rfl (ji [8, 9, 10, 11, 12, 13, 14, 15, 16, 17, 18, 19, 20, 21, 22, 23, 24] (fun (y7 : Bool) e w => ∃ (s : St) (e0 : Env), w = s.w ∧ e = upd (upd e0 1 (pB b3)) 10 (.bool y7) ∧ Kp s0 s ∧ BlF s b3 31 [(iI a0.Xmin), (iI a0.Xmax), (iI a0.Key.Kind), (iI a0.Key.N), w0_0, w0_1, (iI a0.Value.Kind), (iI a0.Value.N), w0_2, w0_3] 40) (fun Gj7 Kj7 => ?_) ?_)
 ·
  rcases bft r5 with hb7 | hb7
  ·
   refine Yb hb7 ?_
   rw [if_pos hb7]
   refine Ye fa31_1 rfl ?_
   have A8 := B3.st p6 rfl
   refine Yl A8 u3 rfl (Yn 42 rfl func94 rfl (impl_within.calls a0.Xmax (0 : Int) (400 : Int) s6.w (mm [] s6)) (fun r9 s10 p10 n10 => ?_))
   exact Xc rfl (Kj7 _ _ _ ⟨s10, _, rfl, (ue (ue rfl rfl) rfl), (kp0.st (Yi p3 p6 p10) rfl), (A8.st p10 rfl)⟩)
  refine Yb hb7 ?_
  rw [if_neg (by rw [hb7]; decide)]
  refine Xk rfl (Xk rfl (Xk rfl (Xc rfl ?_)))
  exact Kj7 _ _ _ ⟨s6, _, rfl, (ue (ue rfl rfl) rfl), (kp0.st (Xn p3 p6) rfl), (B3.st p6 rfl)⟩
 rintro y7 _ _ ⟨s15, _, rfl, rfl, Ky7, By7_b3⟩
 refine Xc rfl (ji [13, 14, 15, 16, 17, 18, 19, 20, 21, 22, 23, 24] (fun (y17 : Bool) e w => ∃ (s : St) (e0 : Env), w = s.w ∧ e = upd (upd e0 1 (pB b3)) 15 (.bool y17) ∧ Kp s0 s ∧ BlF s b3 31 [(iI a0.Xmin), (iI a0.Xmax), (iI a0.Key.Kind), (iI a0.Key.N), w0_0, w0_1, (iI a0.Value.Kind), (iI a0.Value.N), w0_2, w0_3] 40) (fun Gj17 Kj17 => ?_) ?_)
 ·
  rcases bft y7 with hb17 | hb17
  ·
   refine Yb hb17 ?_
   rw [if_pos hb17]
   refine Ye fa31_2 rfl (Ya (es := [(iI a0.Key.Kind), (iI a0.Key.N), w0_0, w0_1]) By7_b3 u29 z29 rfl ?_)
   refine Yn 43 rfl func100 rfl (impl_KeyOk.calls a0.Key s15.w (mm [0] s15) w0_0 w0_1 ((Xq (s := s15) (Yq h0_0)).sub (D := [0]) rfl) ((z.rd h0_1).kp Ky7)) (fun r19 s20 p20 n20 => ?_)
   exact Xc rfl (Kj17 _ _ _ ⟨s20, _, rfl, (ue (ue rfl rfl) rfl), (Ky7.st p20 rfl), (By7_b3.st p20 rfl)⟩)
  refine Yb hb17 ?_
  rw [if_neg (by rw [hb17]; decide)]
  exact Xk rfl (Xk rfl (Xk rfl (Xc rfl (Kj17 _ _ _ ⟨s15, _, rfl, (ue (ue rfl rfl) rfl), Ky7, By7_b3⟩))))
 rintro y17 _ _ ⟨s23, _, rfl, rfl, Ky17, By17_b3⟩
 refine Xc rfl (ji [18, 19, 20, 21, 22, 23, 24] (fun (y25 : Bool) e w => ∃ (s : St) (e0 : Env), w = s.w ∧ e = upd (upd e0 1 (pB b3)) 20 (.bool y25) ∧ Kp s0 s ∧ BlF s b3 31 [(iI a0.Xmin), (iI a0.Xmax), (iI a0.Key.Kind), (iI a0.Key.N), w0_0, w0_1, (iI a0.Value.Kind), (iI a0.Value.N), w0_2, w0_3] 40) (fun Gj25 Kj25 => ?_) ?_)
 ·
  rcases bft y17 with hb25 | hb25
  ·
   refine Yb hb25 ?_
   rw [if_pos hb25]
   refine Ye fa31_3 rfl (Ya (es := [(iI a0.Value.Kind), (iI a0.Value.N), w0_2, w0_3]) By17_b3 u29 z29 rfl ?_)
   refine Yn 44 rfl func170 rfl (impl_ItemOk.calls a0.Value s23.w (mm [0] s23) w0_2 w0_3 ((Xq (s := s23) (Yq h0_2)).sub (D := [0]) rfl) ((z.rd h0_3).kp Ky17)) (fun r27 s28 p28 n28 => ?_)
   exact Xc rfl (Kj25 _ _ _ ⟨s28, _, rfl, (ue (ue rfl rfl) rfl), (Ky17.st p28 rfl), (By17_b3.st p28 rfl)⟩)
  refine Yb hb25 ?_
  rw [if_neg (by rw [hb25]; decide)]
  exact Xk rfl (Xk rfl (Xk rfl (Xc rfl (Kj25 _ _ _ ⟨s23, _, rfl, (ue (ue rfl rfl) rfl), Ky17, By17_b3⟩))))
 rintro y25 _ _ ⟨s31, _, rfl, rfl, Ky25, By25_b3⟩
 refine Xc rfl (jy [21, 22, 23, 24, 25, 26] [24] 26 (.bool (y25 && (a0.Value.Kind != (0 : Int)))) rfl (fun Kg33 => ?_) (fun j33 => ?_))
 ·
  rcases bft y25 with hb33 | hb33
  ·
   exact Yb hb33 (Ye fa31_3 rfl (Ye fa29_0 rfl (Yl By25_b3 u3 rfl (Xc rfl (Xc rfl (Kg33 _ (Ag.put ((Ag.put ((Ag.put ((Ag.put ((Ag.put (Ag.base rfl) rfl)) rfl)) rfl)) rfl)) rfl) (by rw [hb33]; rfl)))))))
  exact Yb hb33 (Xk rfl (Xk rfl (Xk rfl (Xk rfl (Xc rfl (Kg33 _ (Ag.put ((Ag.put ((Ag.put ((Ag.put ((Ag.put (Ag.base rfl) rfl)) rfl)) rfl)) rfl)) rfl) (by rw [hb33]; rfl)))))))
 exact Xc rfl (dn (re rfl func79 rfl (Xu rfl Xe) rfl ⟨_, rfl, rfl, z.ky Ky25⟩))
def impl_PutNum.b0 (a1 : Int) (x12 : Int × (List Int) × Int) : Option ((Int × (List Int) × Int) ⊕ (List Int)) :=
 (if (decide (x12.2.2 < a1)) = true then (if x12.2.1.length + ([(IntKind.wrap .u8 x12.1)]).length ≤ Lim then (some (Sum.inl ((ishr .i64 x12.1 (8 : Int)), (x12.2.1 ++ [(IntKind.wrap .u8 x12.1)]), (IntKind.wrap .i64 (x12.2.2 + (1 : Int)))))) else none) else ((some x12.2.1).bind fun o => some (Sum.inr o)))
def impl_PutNum.f (a0 : Int) (a1 : Int) : Option ((List Int)) :=
 ((impl_within.f a1 (1 : Int) (8 : Int)).bind fun r1 => ((if ((!r1) || (decide (a0 < (0 : Int)))) = true then (some true) else ((if (decide (a1 < (8 : Int))) = true then (if 0 ≤ (IntKind.wrap .i64 ((8 : Int) * a1)) then (some ((ishr .i64 a0 (IntKind.wrap .i64 ((8 : Int) * a1))) != (0 : Int))) else none) else (some false)).bind fun y6 => (some y6))).bind fun y4 => (if y4 = true then (some ([] : (List Int))) else (iter (impl_PutNum.b0 a1) (a0, ([] : (List Int)), (0 : Int))))))
def impl_PutNum.Q (w : World) (F : Nat → Prop) (r : (List Int)) (v : Value) (w' : World) : Prop :=
 FO Yr w w' [v] r ∧ Ky [] w w'
theorem impl_PutNum.calls (a0 : Int) (a1 : Int) (w : World) (F : Nat → Prop)   (r : (List Int)) (m : impl_PutNum.f a0 a1 = some r) :
  Calls prog 175 #[(iI a0), (iI a1)] w (RT (impl_PutNum.Q w F) r) := by
 obtain ⟨s0, rfl, kp0, z⟩ := Xl w F
 refine Xd (args := [(iI a0), (iI a1)]) func175 ntmps175 rfl m ?_
 unfold impl_PutNum.f
 refine sr (Xc rfl (dn (sq (sr (Xc rfl (Yn 40 rfl func94 rfl (impl_within.calls a1 (1 : Int) (8 : Int) s0.w (mm [] s0)) (fun r1 s2 p2 n2 => ?_)))))))
 refine Xc rfl (Xc rfl (jy [9, 10, 11, 12] [7, 8, 9, 10, 11, 12, 13, 14, 15, 16, 17] 12 (.bool ((!r1) || (decide (a0 < (0 : Int))))) rfl (fun Kg3 => ?_) (fun j3 => ?_)))
 ·
  rcases bft (!r1) with hb3 | hb3
  ·
   exact Yb hb3 (Xk rfl (Xk rfl (Xc rfl (Kg3 _ (Ag.put ((Ag.put ((Ag.put (Ag.base rfl) rfl)) rfl)) rfl) (by rw [hb3]; rfl)))))
  exact Yb hb3 (Xc rfl (Xc rfl (Xc rfl (Kg3 _ (Ag.put ((Ag.put ((Ag.put (Ag.base rfl) rfl)) rfl)) rfl) (by rw [hb3]; rfl)))))
 refine Xc rfl (ji [] (fun (y4 : Bool) e w => ∃ (s : St) (e0 : Env), w = s.w ∧ e = upd (upd (upd e0 0 (iI a0)) 1 (iI a1)) 23 (.bool y4) ∧ Kp s0 s) (fun Gj4 Kj4 => ?_) ?_)
 ·
  rcases bft ((!r1) || (decide (a0 < (0 : Int)))) with hb4 | hb4
  ·
   refine Yb hb4 ?_
   rw [if_pos hb4]
   refine Xk rfl (Xk rfl (Xk rfl (Xk rfl (Xk rfl (Xk rfl (Xk rfl (Xk rfl (Xk rfl (Xc rfl ?_)))))))))
   exact Kj4 _ _ _ ⟨s2, _, rfl, (ue (ue (ue rfl rfl) rfl) rfl), (kp0.st p2 rfl)⟩
  refine Yb hb4 ?_
  rw [if_neg (by rw [hb4]; decide)]
  refine Xc rfl (Xc rfl (Xc rfl (ji [17] (fun (y6 : Bool) e w => ∃ (s : St) (e0 : Env), w = s.w ∧ e = upd (upd (upd (upd e0 0 (iI a0)) 1 (iI a1)) 13 (.bool false)) 22 (.bool y6) ∧ Kp s0 s) (fun Gj6 Kj6 => ?_) ?_)))
  ·
   rcases bft (decide (a1 < (8 : Int))) with hb6 | hb6
   ·
    refine Yb hb6 ?_
    rw [if_pos hb6]
    refine Xc rfl (Xc rfl (Xc rfl (shr_ rfl rfl rfl rfl rfl rfl rfl (Xc rfl (Xc rfl ?_)))))
    exact Kj6 _ _ _ ⟨s2, _, rfl, (ue (ue (ue (ue rfl rfl) rfl) rfl) rfl), (kp0.st p2 rfl)⟩
   refine Yb hb6 ?_
   rw [if_neg (by rw [hb6]; decide)]
   refine Xk rfl (Xk rfl (Xk rfl (Xk rfl (Xk rfl (Xc rfl ?_)))))
   exact Kj6 _ _ _ ⟨s2, _, rfl, (ue (ue (ue (ue rfl rfl) rfl) rfl) rfl), (kp0.st p2 rfl)⟩
  rintro y6 _ _ ⟨s9, _, rfl, rfl, Ky6⟩
  exact Xc rfl (Kj4 _ _ _ ⟨s9, _, rfl, (ue (ue (ue rfl rfl) rfl) rfl), Ky6⟩)
 rintro y4 _ _ ⟨s10, _, rfl, rfl, Ky4⟩
 refine dn (cd rfl (fun h11 => ?_) (fun h11 => ?_))
 ·
  exact sr (Xc rfl (dn (re rfl func175 rfl (Xu rfl Xe) rfl ⟨_, rfl, (Ym 5 (Kd.int .u8) s10 40).fo Ky4 rfl z.l, z.ky Ky4⟩)))
 refine sk (sr (Xc rfl (dn (sq (sr (Xc rfl (Xc rfl (dn (bl (lpI (fun (x12 : Int × (List Int) × Int) e w => ∃ (s : St) (e0 : Env) (vx12_0 : Value), w = s.w ∧ e = upd (upd (upd (upd e0 0 (iI x12.1)) 5 vx12_0) 24 (iI a1)) 25 (iI x12.2.2) ∧ Kp s0 s ∧ OwF Yr s [vx12_0] x12.2.1 41) ⟨s10, _, (.slice none 0 0), rfl, (ue (ue (ue (ue rfl rfl) rfl) rfl) rfl), Ky4, (Ym 5 (Kd.int .u8) _ 41)⟩ (fun g12 ih12 => ?_)))))))))))
 rintro x12 _ _ ⟨s13, _, vx12_0, rfl, rfl, Kx12, Ax12_0⟩
 unfold impl_PutNum.b0
 refine sr (Xc rfl (dn (sq (cd rfl (fun h15 => ?_) (fun h15 => ?_)))))
 ·
  refine sk (sq (bl (sr (Yc vx12_0 rfl (Xc rfl (cv' u5 u3 rfl (ltF' (K := (Kd.int .u8)) (cells := [(.int .u8 (IntKind.wrap .u8 x12.1))]) [(IntKind.wrap .u8 x12.1)] 42 Xv u22 z5 o5 (fun w => (Yd _ _ _)) rfl (fun v16 s16 p16 A16 => ?_))))))))
  refine apF' Xv sl22 (Ax12_0.st p16 rfl) A16.rd rfl (fun v19 s19 p19 A19 => ?_)
  refine Yh v19 rfl (dn (rg (Xc rfl (shrK rfl rfl rfl rfl rfl rfl rfl rfl (Xc rfl (dn (ib (rg (Xc rfl (Xc rfl (dn ?_)))))))))))
  exact lb ih12 ⟨s19, _, v19, rfl, (ue (ue (ue (ue rfl rfl) rfl) rfl) rfl), (Kx12.st (Xn p16 p19) rfl), A19⟩
 exact xt rfl (sgb (sr (Yc vx12_0 rfl (Yh vx12_0 rfl (dn (re rfl func175 rfl (Xu rfl Xe) rfl ⟨_, rfl, Ax12_0.fo Kx12 rfl z.l, z.ky Kx12⟩))))))
def slices_Grow_byte_byte_nil.f (a1 : Int) : Option ((List Int)) :=
 (if (decide (a1 < (0 : Int))) = true then none else ((if (decide ((IntKind.wrap .i64 (a1 - (IntKind.wrap .i64 ((0 : Int) - (([] : (List Int)).length : Int))))) > (0 : Int))) = true then (if 0 ≤ (IntKind.wrap .i64 (a1 - (IntKind.wrap .i64 ((0 : Int) - (([] : (List Int)).length : Int))))) ∧ (([] : (List Int)).length : Int) + (IntKind.wrap .i64 (a1 - (IntKind.wrap .i64 ((0 : Int) - (([] : (List Int)).length : Int))))) ≤ (Lim : Int) then (if 0 ≤ (([] : (List Int)).length : Int) ∧ (([] : (List Int)).length : Int) ≤ ((([] : (List Int)) ++ List.replicate ((IntKind.wrap .i64 (a1 - (IntKind.wrap .i64 ((0 : Int) - (([] : (List Int)).length : Int)))))).toNat (0 : Int)).length : Int) then (some ((([] : (List Int)) ++ List.replicate ((IntKind.wrap .i64 (a1 - (IntKind.wrap .i64 ((0 : Int) - (([] : (List Int)).length : Int)))))).toNat (0 : Int)).take ((([] : (List Int)).length : Int)).toNat)) else none) else none) else (some ([] : (List Int)))).bind fun y2 => (some y2)))
def slices_Grow_byte_byte_nil.Q (w : World) (F : Nat → Prop) (r : (List Int)) (v : Value) (w' : World) : Prop :=
 FO Yr w w' [v] r ∧ Ky [] w w'
theorem slices_Grow_byte_byte_nil.calls (a1 : Int) (w : World) (F : Nat → Prop)   (r : (List Int)) (m : slices_Grow_byte_byte_nil.f a1 = some r) :
  Calls prog 238 #[(.slice none 0 0), (iI a1)] w (RT (slices_Grow_byte_byte_nil.Q w F) r) := by
 obtain ⟨s0, rfl, kp0, z⟩ := Xl w F
 refine Xd (args := [(.slice none 0 0), (iI a1)]) func238 ntmps238 rfl m ?_
 unfold slices_Grow_byte_byte_nil.f
 refine sr (Xc rfl (dn (sq (sr (Xc rfl (Xc rfl (dn (cd rfl (fun h1 => ?_) (fun h1 => ?_)))))))))
 ·
  exact rg mn
 refine sk (sq (sr (Xc rfl (Xc rfl (cpn u22 rfl rfl rfl rfl rfl rfl (Xc rfl (ln' (rd_nil 5 (Kd.int .u8) s0 []) u22 rfl (Xc rfl (Xc rfl (Xc rfl (dn (sr (Xc rfl (Xc rfl ?_))))))))))))))
 refine dn (jc (fun (y2 : (List Int)) e w => ∃ (s : St) (e0 : Env) (vy2_0 : Value), w = s.w ∧ e = upd e0 0 vy2_0 ∧ Kp s0 s ∧ OwF Yr s [vy2_0] y2 40) (fun Gj2 Kj2 => ?_) ?_)
 ·
  refine cd rfl (fun h3 => ?_) (fun h3 => ?_)
  ·
   refine rg (Xc rfl (Xc rfl (cpn u22 rfl rfl rfl rfl rfl rfl (nlh u22 z5 rfl rfl rfl rfl rfl rfl rfl (Xc rfl (apZ (x0 := (0 : Int)) Xv sl22 o5 (fun _ => ⟨rfl, rfl⟩) u3 (Ym 5 (Kd.int .u8) s0 40) rfl rfl rfl rfl rfl rfl rfl (fun v4 s4 p4 A4 => ?_)))))))
   refine Xc rfl (ln' (rd_nil 5 (Kd.int .u8) s4 []) u22 rfl (slo Xv A4 u22 z5 rfl rfl rfl rfl rfl rfl rfl (fun v6 A6 => ?_)))
   refine Yh v6 rfl (dn ?_)
   exact Kj2 _ _ _ ⟨s4, _, v6, rfl, (ue rfl rfl), (kp0.st p4 rfl), A6⟩
  exact sk (Kj2 _ _ _ ⟨s0, _, (.slice none 0 0), rfl, (ue rfl rfl), kp0, (Ym 5 (Kd.int .u8) _ 40)⟩)
 rintro y2 _ _ ⟨s9, _, vy2_0, rfl, rfl, Ky2, Ay2_0⟩
 exact sr (Yc vy2_0 rfl (Yh vy2_0 rfl (dn (re rfl func238 rfl (Xu rfl Xe) rfl ⟨_, rfl, Ay2_0.fo Ky2 rfl z.l, z.ky Ky2⟩))))
def slices_Concat_byte_byte.b1 (a0 : (List (List Int))) (x15 : (List Int) × Int) : Option (((List Int) × Int) ⊕ (List Int)) :=
 (if (decide (x15.2 < (a0.length : Int))) = true then (if 0 ≤ x15.2 ∧ x15.2 < (a0.length : Int) then (if x15.1.length + (at_ a0 x15.2).length ≤ Lim then (some (Sum.inl ((x15.1 ++ (at_ a0 x15.2)), (IntKind.wrap .i64 (x15.2 + (1 : Int)))))) else none) else none) else ((some x15.1).bind fun o => some (Sum.inr o)))
def slices_Concat_byte_byte.b0 (a0 : (List (List Int))) (x2 : Int × Int) : Option ((Int × Int) ⊕ (List Int)) :=
 (if (decide (x2.2 < (a0.length : Int))) = true then (if 0 ≤ x2.2 ∧ x2.2 < (a0.length : Int) then (if (decide ((IntKind.wrap .i64 (x2.1 + ((at_ a0 x2.2).length : Int))) < (0 : Int))) = true then none else (some (Sum.inl ((IntKind.wrap .i64 (x2.1 + ((at_ a0 x2.2).length : Int))), (IntKind.wrap .i64 (x2.2 + (1 : Int))))))) else none) else (((slices_Grow_byte_byte_nil.f x2.1).bind fun r10 => (iter (slices_Concat_byte_byte.b1 a0) (r10, (0 : Int)))).bind fun o => some (Sum.inr o)))
def slices_Concat_byte_byte.f (a0 : (List (List Int))) : Option ((List Int)) :=
 (iter (slices_Concat_byte_byte.b0 a0) ((0 : Int), (0 : Int)))
def slices_Concat_byte_byte.Q (w : World) (F : Nat → Prop) (r : (List Int)) (v : Value) (w' : World) : Prop :=
 FO Yr w w' [v] r ∧ Ky [] w w'
theorem slices_Concat_byte_byte.calls (a0 : (List (List Int))) (w : World) (F : Nat → Prop) (w0_0 : Value) (h0_0 : (Kd.sl 22 Yr).rd w [w0_0] a0 F) (r : (List Int)) (m : slices_Concat_byte_byte.f a0 = some r) :
  Calls prog 174 #[w0_0] w (RT (slices_Concat_byte_byte.Q w F) r) := by
 obtain ⟨s0, rfl, kp0, z⟩ := Xl w F
 have A0_0 := z.rd h0_0
 refine Xd (args := [w0_0]) func174 ntmps174 rfl m ?_
 unfold slices_Concat_byte_byte.f
 refine sr (Xc rfl (dn (sr (Xc rfl (dn (sq (sr (Yc w0_0 rfl (ln' A0_0 u114 rfl (Xc rfl (dn (bl (lpI (fun (x2 : Int × Int) e w => ∃ (s : St) (e0 : Env), w = s.w ∧ e = upd (upd (upd (upd (upd e0 0 w0_0) 3 (iI x2.1)) 9 w0_0) 10 (iI (a0.length : Int))) 11 (iI x2.2) ∧ Kp s0 s) ⟨s0, _, rfl, (ue (ue (ue (ue (ue rfl rfl) rfl) rfl) rfl) rfl), kp0⟩ (fun g2 ih2 => ?_))))))))))))))
 rintro x2 _ _ ⟨s3, _, rfl, rfl, Kx2⟩
 unfold slices_Concat_byte_byte.b0
 refine sr (Xc rfl (dn (sq (cd rfl (fun h4 => ?_) (fun h4 => ?_)))))
 ·
  refine sk (sq (bl (sr ?_)))
  refine ix' (A0_0.kp Kx2) u114 z22 rfl (fun ad6 es6 h0_6 h1_6 he6 ce6 ia6 => ?_)
  obtain ⟨v6, rfl, he6'⟩ := he6
  have A6 : RdF Yr s3 [v6] (at_ a0 x2.2) [0] := ⟨v6, rfl, he6'⟩
  refine lc0' ce6 u22 rfl (Yh v6 rfl (dn (sr (Xc rfl (Yc v6 rfl (ln' A6 u22 rfl (Xc rfl (Xc rfl (dn (sr (Xc rfl (Xc rfl (dn (cd rfl (fun h9 => ?_) (fun h9 => ?_)))))))))))))))
  ·
   exact rg mn
  exact sk (ib (rg (Xc rfl (Xc rfl (dn (lb ih2 ⟨s3, _, rfl, (ue (ue (ue (ue (ue rfl rfl) rfl) rfl) rfl) rfl), Kx2⟩))))))
 refine xt rfl (sgb (sr (Xc rfl (clO 40 rfl func238 rfl (slices_Grow_byte_byte_nil.calls x2.1 s3.w (mm [] s3)) (fun r10 v10_0 s11 p11 A10_0 => ?_)))))
 refine Yh v10_0 rfl (dn (sq (sr (Yc w0_0 rfl ?_))))
 have K13 := Kx2.st p11 rfl
 refine ln' (A0_0.kp K13) u114 rfl (Xc rfl (dn (bl (lpI (fun (x15 : (List Int) × Int) e w => ∃ (s : St) (e0 : Env) (vx15_0 : Value), w = s.w ∧ e = upd (upd (upd (upd e0 6 vx15_0) 25 w0_0) 26 (iI (a0.length : Int))) 27 (iI x15.2) ∧ Kp s0 s ∧ OwF Yr s [vx15_0] x15.1 40) ⟨s11, _, v10_0, rfl, (ue (ue (ue (ue rfl rfl) rfl) rfl) rfl), K13, A10_0⟩ (fun g15 ih15 => ?_)))))
 rintro x15 _ _ ⟨s16, _, vx15_0, rfl, rfl, Kx15, Ax15_0⟩
 unfold slices_Concat_byte_byte.b1
 refine sr (Xc rfl (dn (sq (cd rfl (fun h18 => ?_) (fun h18 => ?_)))))
 ·
  refine sk (sq (bl (sr ?_)))
  refine ix' (A0_0.kp Kx15) u114 z22 rfl (fun ad20 es20 h0_20 h1_20 he20 ce20 ia20 => ?_)
  obtain ⟨v20, rfl, he20'⟩ := he20
  have A20 : RdF Yr s16 [v20] (at_ a0 x15.2) [0] := ⟨v20, rfl, he20'⟩
  refine lc0' ce20 u22 rfl (Yh v20 rfl (dn (rg (Yc vx15_0 rfl (Yc v20 rfl (apF' Xv sl22 Ax15_0 A20 rfl (fun v23 s23 p23 A23 => ?_)))))))
  refine Yh v23 rfl (dn (ib (rg (Xc rfl (Xc rfl (dn ?_))))))
  exact lb ih15 ⟨s23, _, v23, rfl, (ue (ue (ue (ue rfl rfl) rfl) rfl) rfl), (Kx15.st p23 rfl), A23⟩
 exact xt rfl (sgb (sr (Yc vx15_0 rfl (Yh vx15_0 rfl (dn (re rfl func174 rfl (Xu rfl Xe) rfl ⟨_, rfl, Ax15_0.fo Kx15 rfl z.l, z.ky Kx15⟩))))))
end Go.Proofs.YtegicanjlefmdaaGreat
