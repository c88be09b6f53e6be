/- The functions as models, and that the calls come to what the models tell. -/
import Derived.Test.YtkkpplnhcpjmgaaGreatGsb
set_option linter.unusedVariables false
set_option linter.unusedSimpArgs false
set_option maxHeartbeats 4000000
set_option maxRecDepth 100000
noncomputable section
namespace Go.Proofs.YtkkpplnhcpjmgaaGreat
open Go V Tryz
def impl_PageRead.b1 (a0 : (List Int)) (r16 : Int × Bool) (x29 : (List Int)) (x108 : Int × Int × (List (List Int))) : Option ((Int × Int × (List (List Int))) ⊕ (Page × Bool)) :=
 (if (decide (x108.2.1 < (IntKind.wrap .i64 (at_ x29 (0 : Int))))) = true then ((impl_hasBytes.f x29 (IntKind.wrap .i64 ((1 : Int) + x108.2.1)) (1 : Int)).bind fun r127 => ((if (!r127) = true then (some true) else (if 0 ≤ (IntKind.wrap .i64 ((1 : Int) + x108.2.1)) ∧ (IntKind.wrap .i64 ((1 : Int) + x108.2.1)) < (x29.length : Int) then ((impl_hasBytes.f x29 x108.1 (IntKind.wrap .i64 (at_ x29 (IntKind.wrap .i64 ((1 : Int) + x108.2.1))))).bind fun r163 => (some (!r163))) else none)).bind fun y132 => (if y132 = true then (some (Sum.inr ((Page.mk (0 : Int) ([] : (List (List Int)))), false))) else (if 0 ≤ (IntKind.wrap .i64 ((1 : Int) + x108.2.1)) ∧ (IntKind.wrap .i64 ((1 : Int) + x108.2.1)) < (x29.length : Int) then (if 0 ≤ x108.1 ∧ x108.1 ≤ (IntKind.wrap .i64 (x108.1 + (IntKind.wrap .i64 (at_ x29 (IntKind.wrap .i64 ((1 : Int) + x108.2.1)))))) ∧ (IntKind.wrap .i64 (x108.1 + (IntKind.wrap .i64 (at_ x29 (IntKind.wrap .i64 ((1 : Int) + x108.2.1)))))) ≤ (x29.length : Int) then ((slices_Clone_byte_byte.f ((x29.take ((IntKind.wrap .i64 (x108.1 + (IntKind.wrap .i64 (at_ x29 (IntKind.wrap .i64 ((1 : Int) + x108.2.1))))))).toNat).drop (x108.1).toNat)).bind fun r205 => (if x108.2.2.length + ([r205]).length ≤ Lim then (some (Sum.inl ((IntKind.wrap .i64 (x108.1 + (IntKind.wrap .i64 (at_ x29 (IntKind.wrap .i64 ((1 : Int) + x108.2.1)))))), (IntKind.wrap .i64 (x108.2.1 + (1 : Int))), (x108.2.2 ++ [r205])))) else none)) else none) else none)))) else (((impl_PageBytes.f (Page.mk r16.1 x108.2.2)).bind fun r228 => ((bytes_Equal.f r228 a0).bind fun r233 => (if (!r233) = true then (some ((Page.mk (0 : Int) ([] : (List (List Int)))), false)) else (some ((Page.mk r16.1 x108.2.2), true))))).bind fun o => some (Sum.inr o)))
def impl_PageRead.b0  (x29 : (List Int)) (l43 : (List Int)) : Option (List Int) :=
 (if 0 ≤ (4 : Int) ∧ (4 : Int) ≤ (l43.length : Int) then (if x29.length + (l43.drop ((4 : Int)).toNat).length ≤ Lim then (some (x29 ++ (l43.drop ((4 : Int)).toNat))) else none) else none)
def impl_PageRead.f (a0 : (List Int)) : Option (Page × Bool) :=
 (if ((a0.length : Int) != (256 : Int)) = true then (some ((Page.mk (0 : Int) ([] : (List (List Int)))), false)) else ((impl_GetNum.f a0 (0 : Int) (4 : Int)).bind fun r16 => ((slices_Chunk_byte_byte.f a0 (64 : Int)).bind fun r25 => ((slices_Chunk_byte_byte_1.f impl_PageRead.b0 ([] : (List Int)) a0 (64 : Int)).bind fun x29 => (if 0 ≤ (0 : Int) ∧ (0 : Int) < (x29.length : Int) then (iter (impl_PageRead.b1 a0 r16 x29) ((IntKind.wrap .i64 ((1 : Int) + (IntKind.wrap .i64 (at_ x29 (0 : Int))))), (0 : Int), ([] : (List (List Int))))) else none)))))
def impl_PageRead.Q (w : World) (F : Nat → Prop) (r : Page × Bool) (v : Value) (w' : World) : Prop :=
 ∃ (v0 : Value), v = .tuple #[(.agg #[(iI r.1.Lsn), v0]), (.bool r.2)] ∧ FO kd59 w w' [(iI r.1.Lsn), v0] r.1 ∧ Ky [] w w'
theorem impl_PageRead.calls (a0 : (List Int)) (w : World) (F : Nat → Prop) (w0_0 : Value) (h0_0 : Yp.rd w [w0_0] a0 F) (r : Page × Bool) (m : impl_PageRead.f a0 = some r) :
  Calls prog 65 #[w0_0] w (RT (impl_PageRead.Q w F) r) := by
 obtain ⟨s0, rfl, kp0, z⟩ := Xl w F
 have A0_0 := z.rd h0_0
 refine Xd (args := [w0_0]) func65 ntmps65 rfl rfl m ?_
 unfold impl_PageRead.f
 refine sr (al' (cs := [(iI 0), (.slice none 0 0)]) 40 rfl o59 rfl (fun b2 s2 p2 B2 => ?_))
 refine Xc rfl (dn (sq (sr (Ya w0_0 rfl ?_))))
 have K4 := kp0.st p2 rfl
 refine Yo (A0_0.kp K4) u25 rfl (Xc rfl (dn (cd rfl (fun h6 => ?_) (fun h6 => ?_))))
 ·
  refine sr (bd' (cells := [(iI 0), (.slice none 0 0)]) pl59 o59 rfl rfl (Xw (vs := [(iI 0), (.slice none 0 0)]) B2 z59 rfl (Xb rfl (Xb rfl Xi)) rfl (fun s7 p7 B7 => ?_)))
  refine Xc rfl (dn ?_)
  have A9 : OwF kd59 s7 [(iI 0), (.slice none 0 0)] (Page.mk (0 : Int) ([] : (List (List Int)))) 41 := ow_z _ _ (Xz (fun x : Page => (x.Lsn, x.Slots)) (Page.mk (0 : Int) ([] : (List (List Int)))) (Xh (Xg .i64 (0 : Int)) (Yc 25 Yp)))
  have K11 := K4.st p7 rfl
  exact re rfl func65 rfl (r_b B7 u59 rfl z59 rfl (Xu rfl Xe)) rfl ⟨_, rfl, (.slice none 0 0), rfl, A9.fo K11 rfl z.l, z.ky K11⟩
 refine sk (sr (al' (cs := [(iI 0), (.slice none 0 0)]) 42 rfl o59 rfl (fun b12 s12 p12 B12 => ?_)))
 refine dn (sr (Ya w0_0 rfl ?_))
 have K14 := K4.st p12 rfl
 refine Ym 43 rfl func85 rfl (impl_GetNum.calls a0 (0 : Int) (4 : Int) s12.w (mm [0] s12) w0_0 (A0_0.kp K14)) (fun r16 s17 p17 n17 => ?_)
 refine Xc rfl (Xc (v := (iI r16.1)) rfl (Xc (v := (.bool r16.2)) rfl (Xs fa59_0 rfl ?_)))
 refine sv' (B12.st p17 rfl) z3 rfl rfl rfl (fun s19 p19 B19 => ?_)
 refine dn (sr (al' (cs := [(.slice none 0 0)]) 44 rfl o25 rfl (fun b21 s21 p21 B21 => ?_)))
 refine dn (sq (sr (Ya w0_0 rfl ?_)))
 have K23 := K14.st (Yi p17 p19 p21) rfl
 refine cl' rfl func91 rfl (slices_Chunk_byte_byte.calls a0 (64 : Int) s21.w (mm [0] s21) w0_0 (A0_0.kp K23)) ?_
 rintro r25 _ w25 m25 ⟨v25_0, v25_1, rfl, f25_0, f25_1, ky25⟩
 obtain ⟨s26, rfl, p26, n26⟩ := nwx s21 w25 45 ky25
 refine dn (bl ?_)
 refine rgC (te := 5) (K := (Kd.int .u8)) (v := w0_0) (n := (64 : Int)) (xs := a0) (C := [0]) (t1 := 25) (t2 := 3) (q1 := 45) (q2 := 45) (step_ := impl_PageRead.b0) (y0 := ([] : (List Int))) 46 (fun (Z29 : LpZ) (x29 : (List Int)) (s : St) => ∃ (vx29_0 : Value), Kp s0 s ∧ OwF Yp s [vx29_0] x29 47 ∧ LoopF Z29 46 .ready s ∧ BlF s v25_1 3 [(iI 64)] 45 ∧ BlF s v25_0 25 [w0_0] 45 ∧ BlF s b21 25 [vx29_0] 44 ∧ BlF s b12 59 [(iI r16.1), (.slice none 0 0)] 42 ∧ BlF s b2 59 [(iI 0), (.slice none 0 0)] 40) func119 rfl rfl rfl rfl ?_ ?_ ?_ ?_ ?_
 ·
  intro Z29 s78 p78 L78
  exact ⟨(.slice none 0 0), ((K23.st p26 rfl).st p78 rfl), (Yl 5 (Kd.int .u8) _ 47), L78, (BlF.st (f25_1.c n26) p78 rfl), (BlF.st (f25_0.c n26) p78 rfl), (B21.st (Xo p26 p78) rfl), (B19.st (Yi p21 p26 p78) rfl), (B2.st (tr6 p12 p17 p19 p21 p26 p78) rfl)⟩
 ·
  intro Z29 x29 s33 hI
  obtain ⟨vx29_0, Kx29, Ax29_0, Bx29_p97, Bx29_v25_1, Bx29_v25_0, Bx29_b21, Bx29_b12, Bx29_b2⟩ := hI
  exact ⟨Bx29_p97, Bx29_v25_0, Bx29_v25_1, (A0_0.kp Kx29)⟩
 ·
  exact fun J yl w hJ hJr hy hj r m => (slices_Chunk_byte_byte_1.calls impl_PageRead.b0 ([] : (List Int)) a0 (64 : Int) v25_0 v25_1 w0_0 J yl w hJ hJr hy hj r m).mono fun en w' ⟨v, e, _, h⟩ => ⟨v, e, h⟩
 ·
  intro Z29 x29 s33 s43 u43 l43 hI p43 A43
  obtain ⟨vx29_0, Kx29, Ax29_0, Bx29_p97, Bx29_v25_1, Bx29_v25_0, Bx29_b21, Bx29_b12, Bx29_b2⟩ := hI
  unfold impl_PageRead.b0
  refine rg (Ye u43 rfl (dn ?_))
  refine br (LoopF.st Bx29_p97 p43 rfl) rfl (fun s48 p48 L48 => ?_)
  refine bl (zdraw [[], [], [1], [0, 2], [3, 3, 0, 1, 2, 3]] [some 24, some 25, some 26, some 27, none] [[5], [6], [25], [24, 26], [5, 27]] [0, 1, 2, 3, 4] ⟨by kernel_rfl, by kernel_rfl, by kernel_rfl⟩ (by kernel_rfl) (fun s50 p50 l50 tb50 zd50 => ?_))
  refine Xv 2 [some 24] tb50 ((zd50.add 0 24 vx29_0 rfl).add 1 25 u43 rfl) (Xa (Xn u43 rfl) rfl (Xa (Xp (Bx29_b21.st (Yi p43 p48 p50) rfl) u25 rfl) rfl Xf)) (by kernel_rfl) rfl (fun l54 e54 zd54 => ?_)
  refine sla (A43.st (Xo p48 p50) rfl) u25 z5 rfl rfl rfl rfl rfl rfl rfl (fun v57 A57 => ?_)
  refine Xk (L' := [0]) (D' := [1, 2]) zd54 rfl (fun zd59 => ?_)
  refine zfin [3, 4] tb50 zd59 (Xa (Xp (Bx29_b21.st (Yi p43 p48 p50) rfl) u25 rfl) rfl Xf) (by kernel_rfl) (by decide) (apF' Xt sl25 (Ax29_0.st (Yi p43 p48 p50) rfl) A57 rfl (fun v62 s62 p62 A62 => ?_))
  refine sv' (Bx29_b21.st (tr4 p43 p48 p50 p62) rfl) z25 rfl A62.rd.one rfl (fun s65 p65 B65 => ?_)
  refine dn (ib ?_)
  refine rde (LoopF.st (LoopF.st (LoopF.st L48 p50 rfl) p62 rfl) p65 rfl) rfl rfl (fun s68 p68 L68 => ?_)
  exact ⟨rfl, s68, rfl, ⟨v62, (Kx29.st (tr6 p43 p48 p50 p62 p65 p68) rfl), (A62.st (Xo p65 p68) rfl), L68, (Bx29_v25_1.st (tr6 p43 p48 p50 p62 p65 p68) rfl), (Bx29_v25_0.st (tr6 p43 p48 p50 p62 p65 p68) rfl), (B65.st p68 rfl), (Bx29_b12.st (tr6 p43 p48 p50 p62 p65 p68) rfl), (Bx29_b2.st (tr6 p43 p48 p50 p62 p65 p68) rfl)⟩, (Kp.st (Kp.st (Kp.st (Kp.st (Kp.st (Kp.self s43) p48 rfl) p50 rfl) p62 rfl) p65 rfl) p68 rfl)⟩
 intro Z29 x29 s33 s101 hI p101 L101
 obtain ⟨vx29_0, Kx29, Ax29_0, Bx29_p97, Bx29_v25_1, Bx29_v25_0, Bx29_b21, Bx29_b12, Bx29_b2⟩ := hI
 refine ib (sr ?_)
 have A104 := Bx29_b21.st p101 rfl
 refine Yb A104 u25 rfl ?_
 have A105 := Ax29_0.st p101 rfl
 refine ix' A105.rd u25 z5 rfl (fun ad106 es106 h0_106 h1_106 he106 ce106 ia106 => ?_)
 obtain rfl := he106
 refine lc0' ce106 u5 rfl (cv' u3 u5 rfl (Xc rfl (dn (sr (Xc rfl (Xc rfl (Xc rfl (dn (sq (sr (Xc rfl (Xc rfl (dn (bl ?_))))))))))))))
 refine lpI (fun (x108 : Int × Int × (List (List Int))) e w => ∃ (s : St) (e0 : Env) (vx108_0 : Value), w = s.w ∧ e = upd (upd (upd (upd (upd (upd (upd e0 0 w0_0) 2 (pB b2)) 4 (pB b12)) 5 (pB b21)) 8 (iI x108.1)) 34 (iI (IntKind.wrap .i64 (at_ x29 (0 : Int))))) 35 (iI x108.2.1) ∧ Kp s0 s ∧ OwF (Kd.sl 25 Yp) s [vx108_0] x108.2.2 48 ∧ LoopF Z29 46 .exhausted s ∧ BlF s b21 25 [vx29_0] 44 ∧ BlF s b12 59 [(iI r16.1), vx108_0] 42 ∧ BlF s b2 59 [(iI 0), (.slice none 0 0)] 40 ∧ OwF Yp s [vx29_0] x29 47) ⟨s101, _, (.slice none 0 0), rfl, (ue (ue (ue (ue (ue (ue (ue rfl rfl) rfl) rfl) rfl) rfl) rfl) rfl), (Kx29.st p101 rfl), (Yl 25 Yp _ 48), L101, A104, (Bx29_b12.st p101 rfl), (Bx29_b2.st p101 rfl), A105⟩ (fun g108 ih108 => ?_)
 rintro x108 _ _ ⟨s112, _, vx108_0, rfl, rfl, Kx108, Ax108_0, Bx108_p97, Bx108_b21, Bx108_b12, Bx108_b2, Cx108_94⟩
 unfold impl_PageRead.b1
 refine sr (Xc rfl (dn (sq (cd rfl (fun h118 => ?_) (fun h118 => ?_)))))
 ·
  refine sk (sq (bl (sr (Xc rfl (Xc rfl (dn (sq (sq (zdraw [[], [], [1], [0, 2], [3], [4, 3], [5], [5], [5], [5], [9, 5], [8, 10, 5], [11, 5], [12, 5], [6, 7, 13, 5, 5], [14, 5], [5, 15]] [some 38, some 39, some 40, some 41, some 42, some 43, some 44, some 45, some 46, some 47, some 48, some 49, some 50, some 51, some 52, some 53, some 54] [[5], [9], [39], [38, 40], [41], [42], [5, 43], [8, 43], [5, 43], [9, 43], [47, 43], [46, 48, 43], [49, 43], [50, 43], [44, 45, 51, 43], [52, 43], [43, 53]] [0, 1, 2, 3, 4, 5, 6, 7, 8, 9, 10, 11, 12, 13, 14, 15, 16] ⟨by kernel_rfl, by kernel_rfl, by kernel_rfl⟩ (by kernel_rfl) (fun s119 p119 l119 tb119 zd119 => ?_))))))))))
  refine Xv 3 [] tb119 (((zd119.add 0 38 vx29_0 rfl).add 1 39 (iI x108.2.1) rfl).add 2 40 (iI (IntKind.wrap .i64 ((1 : Int) + x108.2.1))) rfl) (Xa (Xm rfl) rfl (Xa (Xm rfl) rfl (Xa (Xp (Bx108_b21.st p119 rfl) u25 rfl) rfl Xf))) (by kernel_rfl) rfl (fun l124 e124 zd124 => ?_)
  have A126 := Cx108_94.st p119 rfl
  refine Ym 49 rfl func92 rfl (impl_hasBytes.calls x29 (IntKind.wrap .i64 ((1 : Int) + x108.2.1)) (1 : Int) s119.w (mm [47] s119) vx29_0 A126.rd) (fun r127 s128 p128 n128 => ?_)
  refine Xk (L' := []) (D' := [1, 0, 2, 3]) zd124 rfl (fun zd129 => ?_)
  have zd131 := (zd129.add 4 42 (.bool (!r127)) rfl).add 5 43 (.bool (!r127)) rfl
  refine ji [] (fun (y132 : Bool) e w => ∃ (s : St) (e0 : Env), w = s.w ∧ e = upd (upd (upd (upd (upd (upd (upd (upd (upd e0 0 w0_0) 2 (pB b2)) 4 (pB b12)) 5 (pB b21)) 8 (iI x108.1)) 9 (iI x108.2.1)) 34 (iI (IntKind.wrap .i64 (at_ x29 (0 : Int))))) 35 (iI x108.2.1)) 54 (.bool y132) ∧ Kp s0 s ∧ LoopF Z29 46 .exhausted s ∧ BlF s b21 25 [vx29_0] 44 ∧ BlF s b12 59 [(iI r16.1), vx108_0] 42 ∧ BlF s b2 59 [(iI 0), (.slice none 0 0)] 40 ∧ OwF Yp s [vx29_0] x29 47 ∧ OwF (Kd.sl 25 Yp) s [vx108_0] x108.2.2 48) (fun Gj132 Kj132 => ?_) ?_
  ·
   rcases Yn (!r127) with hb132 | hb132
   ·
    rw [if_pos hb132]
    rw [hb132] at zd131
    try rw [hb132]
    refine zfin [14, 15, 16] tb119 ((((((((zd131.add 6 44 undef rfl).add 7 45 undef rfl).add 8 46 undef rfl).add 9 47 undef rfl).add 10 48 undef rfl).add 11 49 undef rfl).add 12 50 undef rfl).add 13 51 undef rfl) (Xa (uw_q rfl rfl rfl rfl rfl) rfl (Xa (uw_q rfl rfl rfl rfl rfl) rfl (Xa (uw_q rfl rfl rfl rfl rfl) rfl (Xa (uw_q rfl rfl rfl rfl rfl) rfl (Xa (uw_q rfl rfl rfl rfl rfl) rfl (Xa (uw_q rfl rfl rfl rfl rfl) rfl (Xa (uw_q rfl rfl rfl rfl rfl) rfl (Xa (uw_q rfl rfl rfl rfl rfl) rfl (Xa (Xm rfl) rfl (Xa (qv_b (Xm rfl) hb132) rfl Xf)))))))))) (by kernel_rfl) (by decide) (Xj rfl (Xj rfl (Xc rfl ?_)))
    exact Kj132 _ _ _ ⟨s128, _, rfl, (ue (ue (ue (ue (ue (ue (ue (ue (ue rfl rfl) rfl) rfl) rfl) rfl) rfl) rfl) rfl) rfl), (Kx108.st (Xo p119 p128) rfl), (LoopF.st (LoopF.st Bx108_p97 p119 rfl) p128 rfl), (Bx108_b21.st (Xo p119 p128) rfl), (Bx108_b12.st (Xo p119 p128) rfl), (Bx108_b2.st (Xo p119 p128) rfl), (A126.st p128 rfl), (Ax108_0.st (Xo p119 p128) rfl)⟩
   rw [if_neg (by rw [hb132]; decide)]
   rw [hb132] at zd131
   try rw [hb132]
   have A155 := A126.st p128 rfl
   refine mg fun hg156 => ?_
   obtain ⟨ad156, es156, he156, ce156, ia156⟩ := ix_e A155.rd rfl hg156.1 hg156.2
   obtain rfl := he156
   refine zfin [14, 15, 16] tb119 ((((((((zd131.add 6 44 vx29_0 rfl).add 7 45 (iI x108.1) rfl).add 8 46 vx29_0 rfl).add 9 47 (iI x108.2.1) rfl).add 10 48 (iI (IntKind.wrap .i64 ((1 : Int) + x108.2.1))) rfl).add 11 49 (.pointer (some ad156)) rfl).add 12 50 (.int .u8 (at_ x29 (IntKind.wrap .i64 ((1 : Int) + x108.2.1)))) rfl).add 13 51 (iI (IntKind.wrap .i64 (at_ x29 (IntKind.wrap .i64 ((1 : Int) + x108.2.1))))) rfl) (Xa (cv_q u3 u5 rfl rfl rfl rfl rfl rfl) rfl (Xa (lc0_q ce156 u5 rfl rfl rfl rfl rfl rfl rfl rfl) rfl (Xa (ix_q A155.rd u25 z5 hg156.1 hg156.2 ia156 rfl rfl rfl rfl rfl rfl rfl) rfl (Xa (Xm rfl) rfl (Xa (Xm rfl) rfl (Xa (Xp (Bx108_b21.st (Xo p119 p128) rfl) u25 rfl) rfl (Xa (Xm rfl) rfl (Xa (Xp (Bx108_b21.st (Xo p119 p128) rfl) u25 rfl) rfl (Xa (Xm rfl) rfl (Xa (qv_b (Xm rfl) hb132) rfl Xf)))))))))) (by kernel_rfl) (by decide) (Ym 50 rfl func92 rfl (impl_hasBytes.calls x29 x108.1 (IntKind.wrap .i64 (at_ x29 (IntKind.wrap .i64 ((1 : Int) + x108.2.1)))) s128.w (mm [47] s128) vx29_0 A155.rd) (fun r163 s164 p164 n164 => ?_))
   refine Xc rfl (Xc rfl ?_)
   exact Kj132 _ _ _ ⟨s164, _, rfl, (ue (ue (ue (ue (ue (ue (ue (ue (ue rfl rfl) rfl) rfl) rfl) rfl) rfl) rfl) rfl) rfl), (Kx108.st (Yi p119 p128 p164) rfl), (LoopF.st (LoopF.st (LoopF.st Bx108_p97 p119 rfl) p128 rfl) p164 rfl), (Bx108_b21.st (Yi p119 p128 p164) rfl), (Bx108_b12.st (Yi p119 p128 p164) rfl), (Bx108_b2.st (Yi p119 p128 p164) rfl), (A155.st p164 rfl), (Ax108_0.st (Yi p119 p128 p164) rfl)⟩
  rintro y132 _ _ ⟨s172, _, rfl, rfl, Ky132, By132_p97, By132_b21, By132_b12, By132_b2, Cy132_94, Cy132_113⟩
  refine dn (cd rfl (fun h177 => ?_) (fun h177 => ?_))
  ·
   refine sr (bd' (cells := [(iI 0), (.slice none 0 0)]) pl59 o59 rfl rfl (Xw (vs := [(iI 0), (.slice none 0 0)]) By132_b2 z59 rfl (Xb rfl (Xb rfl Xi)) rfl (fun s178 p178 B178 => ?_)))
   refine Xc rfl (dn (sgi ?_))
   refine reD (LoopF.st By132_p97 p178 rfl) rfl rfl rfl func65 rfl (fun s181 p181 => ?_)
   have A182 : OwF kd59 s181 [(iI 0), (.slice none 0 0)] (Page.mk (0 : Int) ([] : (List (List Int)))) 51 := ow_z _ _ (Xz (fun x : Page => (x.Lsn, x.Slots)) (Page.mk (0 : Int) ([] : (List (List Int)))) (Xh (Xg .i64 (0 : Int)) (Yc 25 Yp)))
   have K185 := Ky132.st (Xo p178 p181) rfl
   exact ⟨_, _, (r_b (B178.st p181 rfl) u59 rfl z59 rfl (Xu rfl Xe)), rfl, ⟨_, rfl, (.slice none 0 0), rfl, A182.fo K185 rfl z.l, z.ky K185⟩⟩
  refine sk (sr (Xc rfl (Yb By132_b21 u25 rfl (Xc rfl (Xc rfl (ix' Cy132_94.rd u25 z5 rfl (fun ad186 es186 h0_186 h1_186 he186 ce186 ia186 => ?_)))))))
  obtain rfl := he186
  refine lc0' ce186 u5 rfl (cv' u3 u5 rfl (Xc rfl (Xc rfl (dn (sq (zdraw [[], [0], [], [], [], [2, 3, 4], [5], [6], [1, 7, 6], [0, 1, 2, 3, 4, 5, 6, 7, 8], [9, 8, 8, 0, 1, 2, 3, 4, 5, 6, 7, 8]] [some 64, some 65, some 66, some 67, some 68, some 69, some 70, some 71, some 72, some 73, none] [[4], [64], [5], [8], [10], [66, 67, 68], [69], [70], [65, 71], [4], [73, 72]] [0, 1, 2, 3, 4, 5, 6, 7, 8, 9, 10] ⟨by kernel_rfl, by kernel_rfl, by kernel_rfl⟩ (by kernel_rfl) (fun s188 p188 l188 tb188 zd188 => ?_)))))))
  refine Xv 5 [some 65, some 64] tb188 (((((zd188.add 0 64 (pO b12 1) rfl).add 1 65 vx108_0 rfl).add 2 66 vx29_0 rfl).add 3 67 (iI x108.1) rfl).add 4 68 (iI (IntKind.wrap .i64 (x108.1 + (IntKind.wrap .i64 (at_ x29 (IntKind.wrap .i64 ((1 : Int) + x108.2.1))))))) rfl) (Xa (Xm rfl) rfl (Xa (Xm rfl) rfl (Xa (Xp (By132_b21.st p188 rfl) u25 rfl) rfl (Xa (Xp (By132_b12.st p188 rfl) u57 rfl) rfl (Xa (Xr fa59_1 rfl) rfl Xf))))) (by kernel_rfl) rfl (fun l196 e196 zd196 => ?_)
  have A199 := Cy132_94.st p188 rfl
  refine slb A199.rd u25 z5 rfl rfl rfl rfl rfl rfl rfl rfl (fun v200 A200 => ?_)
  refine Xk (L' := [1, 0]) (D' := [2, 3, 4, 5]) zd196 rfl (fun zd202 => ?_)
  refine Xv 6 [some 65, some 64] tb188 zd202 (Xa (Xp (By132_b12.st p188 rfl) u57 rfl) rfl (Xa (Xr fa59_1 rfl) rfl Xf)) (by kernel_rfl) rfl (fun l203 e203 zd203 => ?_)
  refine clO 52 rfl func64 rfl (slices_Clone_byte_byte.calls ((x29.take ((IntKind.wrap .i64 (x108.1 + (IntKind.wrap .i64 (at_ x29 (IntKind.wrap .i64 ((1 : Int) + x108.2.1))))))).toNat).drop (x108.1).toNat) s188.w (mm [47] s188) v200 A200) (fun r205 v205_0 s206 p206 A205_0 => ?_)
  refine Xk (L' := [1, 0]) (D' := [6, 2, 3, 4, 5]) zd203 rfl (fun zd208 => ?_)
  refine Xv 7 [some 65, some 64] tb188 zd208 (Xa (Xp (By132_b12.st (Xo p188 p206) rfl) u57 rfl) rfl (Xa (Xr fa59_1 rfl) rfl Xf)) (by kernel_rfl) rfl (fun l209 e209 zd209 => ?_)
  refine ltO (K := Yp) (cells := [v205_0]) [r205] 52 u57 z25 o25 (lo_one A205_0) rfl rfl rfl rfl rfl rfl rfl rfl rfl (lfill_pc (pc_c (oc A205_0.rd.one) pc_n) rfl) (fun v212 s212 p212 A212 => ?_)
  refine Xk (L' := [1, 0]) (D' := [7, 6, 2, 3, 4, 5]) zd209 rfl (fun zd214 => ?_)
  refine zfin [8, 9, 10] tb188 zd214 (Xa (Xp (By132_b12.st (Yi p188 p206 p212) rfl) u57 rfl) rfl (Xa (Xr fa59_1 rfl) rfl Xf)) (by kernel_rfl) (by decide) (apO sl57 (Cy132_113.st (Yi p188 p206 p212) rfl) A212 rfl rfl rfl rfl rfl rfl rfl rfl rfl (fun v217 s217 p217 A217 => ?_))
  refine Xs fa59_1 rfl (sv' (By132_b12.st (tr4 p188 p206 p212 p217) rfl) z57 rfl A217.rd.one rfl (fun s220 p220 B220 => ?_))
  refine dn (rg (Xc rfl (Xc rfl (dn (ib (rg (Xc rfl (Xc rfl (dn ?_)))))))))
  exact lb ih108 ⟨s220, _, v217, rfl, (ue (ue (ue (ue (ue (ue (ue rfl rfl) rfl) rfl) rfl) rfl) rfl) rfl), (Ky132.st (tr5 p188 p206 p212 p217 p220) rfl), (A217.st p220 rfl), (LoopF.st (LoopF.st (LoopF.st (LoopF.st (LoopF.st By132_p97 p188 rfl) p206 rfl) p212 rfl) p217 rfl) p220 rfl), (By132_b21.st (tr5 p188 p206 p212 p217 p220) rfl), B220, (By132_b2.st (tr5 p188 p206 p212 p217 p220) rfl), (A199.st (tr4 p206 p212 p217 p220) rfl)⟩
 refine xt rfl (sgb (sq (sr (Xy (es := [(iI r16.1), vx108_0]) Bx108_b12 u59 z59 rfl (clO 54 rfl func93 rfl (impl_PageBytes.calls (Page.mk r16.1 x108.2.2) s112.w (mm [48] s112) vx108_0 Ax108_0.rd) (fun r228 v228_0 s229 p229 A228_0 => ?_))))))
 refine Ya w0_0 rfl ?_
 have K231 := Kx108.st p229 rfl
 refine Ym 55 rfl func89 rfl (bytes_Equal.calls r228 a0 s229.w (mm [54, 0] s229) v228_0 w0_0 (A228_0.rd.sub (D := [54, 0]) rfl) ((A0_0.kp K231).sub (D := [54, 0]) rfl)) (fun r233 s234 p234 n234 => ?_)
 refine Xc rfl (dn (cd rfl (fun h235 => ?_) (fun h235 => ?_)))
 ·
  refine sr (bd' (cells := [(iI 0), (.slice none 0 0)]) pl59 o59 rfl rfl ?_)
  refine Xw (vs := [(iI 0), (.slice none 0 0)]) (Bx108_b2.st (Xo p229 p234) rfl) z59 rfl (Xb rfl (Xb rfl Xi)) rfl (fun s237 p237 B237 => ?_)
  refine Xc rfl (dn ?_)
  refine reD (LoopF.st (LoopF.st (LoopF.st Bx108_p97 p229 rfl) p234 rfl) p237 rfl) rfl rfl rfl func65 rfl (fun s240 p240 => ?_)
  have A241 : OwF kd59 s240 [(iI 0), (.slice none 0 0)] (Page.mk (0 : Int) ([] : (List (List Int)))) 56 := ow_z _ _ (Xz (fun x : Page => (x.Lsn, x.Slots)) (Page.mk (0 : Int) ([] : (List (List Int)))) (Xh (Xg .i64 (0 : Int)) (Yc 25 Yp)))
  have K244 := K231.st (Yi p234 p237 p240) rfl
  exact ⟨_, _, (r_b (B237.st p240 rfl) u59 rfl z59 rfl (Xu rfl Xe)), rfl, ⟨_, rfl, (.slice none 0 0), rfl, A241.fo K244 rfl z.l, z.ky K244⟩⟩
 refine sk (sr ?_)
 refine Xy (es := [(iI r16.1), vx108_0]) (Bx108_b12.st (Xo p229 p234) rfl) u59 z59 rfl ?_
 have A247 := Ax108_0.st (Xo p229 p234) rfl
 refine Xw (vs := [(iI r16.1), vx108_0]) (Bx108_b2.st (Xo p229 p234) rfl) z59 rfl (Xb rfl (Xb A247.rd.one Xi)) rfl (fun s248 p248 B248 => ?_)
 refine Xc rfl (dn ?_)
 refine reD (LoopF.st (LoopF.st (LoopF.st Bx108_p97 p229 rfl) p234 rfl) p248 rfl) rfl rfl rfl func65 rfl (fun s251 p251 => ?_)
 have A252 : OwF kd59 s251 [(iI r16.1), vx108_0] (Page.mk r16.1 x108.2.2) 48 := (Xq (fun x : Page => (x.Lsn, x.Slots)) (Page.mk r16.1 x108.2.2) (Yj (Xg .i64 r16.1) (A247.st (Xo p248 p251) rfl)))
 have K256 := K231.st (Yi p234 p248 p251) rfl
 exact ⟨_, _, (r_b (B248.st p251 rfl) u59 rfl z59 rfl (Xu rfl Xe)), rfl, ⟨_, rfl, vx108_0, rfl, A252.fo K256 rfl z.l, z.ky K256⟩⟩
def impl_Heap_with.b0 (a0 : Heap) (a1 : Int) (a2 : Page) (x14 : Int × (List Page)) : Option ((Int × (List Page)) ⊕ Heap) :=
 (if (decide (x14.1 < (a0.Pages.length : Int))) = true then (if 0 ≤ x14.1 ∧ x14.1 < (a0.Pages.length : Int) then ((impl_Page_slots.f (at_ a0.Pages x14.1)).bind fun r47 => (if x14.2.length + ([(Page.mk ((at_ a0.Pages x14.1).Lsn) r47)]).length ≤ Lim then (some (Sum.inl ((IntKind.wrap .i64 (x14.1 + (1 : Int))), (x14.2 ++ [(Page.mk ((at_ a0.Pages x14.1).Lsn) r47)])))) else none)) else none) else (((if (a1 == (x14.2.length : Int)) = true then (if x14.2.length + ([(Page.mk (0 : Int) ([] : (List (List Int))))]).length ≤ Lim then (some (x14.2 ++ [(Page.mk (0 : Int) ([] : (List (List Int))))])) else none) else (some x14.2)).bind fun y73 => (if 0 ≤ a1 ∧ a1 < (y73.length : Int) then (some (Heap.mk (y73.set (a1).toNat a2))) else none)).bind fun o => some (Sum.inr o)))
def impl_Heap_with.f (a0 : Heap) (a1 : Int) (a2 : Page) : Option (Heap) :=
 (iter (impl_Heap_with.b0 a0 a1 a2) ((0 : Int), ([] : (List Page))))
def impl_Heap_with.Q (w : World) (F : Nat → Prop) (os : List Nat) (r : Heap) (v : Value) (w' : World) : Prop :=
 ∃ (v0 : Value), v = (.agg #[v0]) ∧ FW kd32 os w w' [v0] r ∧ Ky os w w'
theorem impl_Heap_with.calls (a0 : Heap) (a1 : Int) (a2 : Page) (w : World) (F : Nat → Prop) (w0_0 : Value) (w2_0 : Value) (h0_0 : Yr.rd w [w0_0] a0.Pages F) (os : List Nat) (h2 : kd59.ow w [(iI a2.Lsn), w2_0] a2 os) (hn : os.Nodup) (hF : ∀ b, F b → b ∉ os) (r : Heap) (m : impl_Heap_with.f a0 a1 a2 = some r) :
  Calls prog 66 #[(.agg #[w0_0]), (iI a1), (.agg #[(iI a2.Lsn), w2_0])] w (RT (impl_Heap_with.Q w F os) r) := by
 obtain ⟨u2_0, q2_0, e2, eo2, h2_0⟩ := po59 h2
 obtain y2_0 : w2_0 = u2_0 := by simpa using e2
 subst y2_0
 subst eo2
 obtain ⟨s0, rfl, kp0, z⟩ := startN w F [(os, 40)] (by simpa [fl_] using hn) (fun b hb => by simpa [fl_] using hF b hb) rfl
 have ez : fl_ [(os, 40)] = os := by simp [fl_]
 have A0_0 := z.rd h0_0
 refine Xd (args := [(.agg #[w0_0]), (iI a1), (.agg #[(iI a2.Lsn), w2_0])]) func66 ntmps66 rfl rfl m ?_
 unfold impl_Heap_with.f
 refine sr (bx' (cs := [w0_0]) 41 rfl rfl (fun b3 s3 p3 B3 => ?_))
 refine bx' (cs := [(iI a2.Lsn), w2_0]) 42 rfl rfl (fun b5 s5 p5 B5 => ?_)
 refine al' (cs := [(.slice none 0 0)]) 43 rfl o32 rfl (fun b7 s7 p7 B7 => ?_)
 refine dn (sr (al' (cs := [(.slice none 0 0)]) 44 rfl o32 rfl (fun b9 s9 p9 B9 => ?_)))
 refine dn (sq (sr (Xs fa32_0 rfl ?_)))
 refine Yb (B3.st (Yi p5 p7 p9) rfl) u30 rfl ?_
 have K12 := kp0.st (tr4 p3 p5 p7 p9) rfl
 refine Yo (A0_0.kp K12) u30 rfl (Xc rfl (dn (bl ?_)))
 refine lpI (fun (x14 : Int × (List Page)) e w => ∃ (s : St) (e0 : Env) (vx14_0 : Value), w = s.w ∧ e = upd (upd (upd (upd (upd (upd (upd e0 1 (iI a1)) 5 (pB b5)) 6 (pB b7)) 7 (pB b9)) 11 w0_0) 12 (iI (a0.Pages.length : Int))) 13 (iI x14.1) ∧ Kp s0 s ∧ OwF Yr s [vx14_0] x14.2 45 ∧ BlF s b9 32 [vx14_0] 44 ∧ BlF s b7 32 [(.slice none 0 0)] 43 ∧ BlF s b5 59 [(iI a2.Lsn), w2_0] 42 ∧ OwF (Kd.sl 25 Yp) s [w2_0] a2.Slots 40) ⟨s9, _, (.slice none 0 0), rfl, (ue (ue (ue (ue (ue (ue (ue rfl rfl) rfl) rfl) rfl) rfl) rfl) rfl), K12, (Yl 59 kd59 _ 45), B9, (B7.st p9 rfl), (B5.st (Xo p7 p9) rfl), ((z.ow (c := 40) (by simp) hn h2_0).st (tr4 p3 p5 p7 p9) rfl)⟩ (fun g14 ih14 => ?_)
 rintro x14 _ _ ⟨s18, _, vx14_0, rfl, rfl, Kx14, Ax14_0, Bx14_b9, Bx14_b7, Bx14_b5, Cx14_2⟩
 unfold impl_Heap_with.b0
 refine sr (Xc rfl (dn (sq (cd rfl (fun h23 => ?_) (fun h23 => ?_)))))
 ·
  refine sk (sq (bl (sr ?_)))
  refine ix' (A0_0.kp Kx14) u30 z59 rfl (fun ad25 es25 h0_25 h1_25 he25 ce25 ia25 => ?_)
  obtain ⟨v25_0, rfl, A25_0⟩ := op59 he25
  refine lca ce25 u59 z59 rfl rfl rfl rfl rfl rfl rfl (al' (cs := [(iI 0), (.slice none 0 0)]) 46 rfl o59 rfl (fun b28 s28 p28 B28 => ?_))
  have A30 := A25_0.st p28 rfl
  refine Xw (vs := [(iI ((at_ a0.Pages x14.1).Lsn)), v25_0]) B28 z59 rfl (Xb rfl (Xb A30.one Xi)) rfl (fun s31 p31 B31 => ?_)
  refine dn (zdraw [[], [0], [], [2], [], [4], [3, 5], [6], [1, 7, 5], [0, 1, 2, 3, 4, 5, 6, 7, 8], [9, 8, 8, 0, 1, 2, 3, 4, 5, 6, 7, 8]] [some 17, some 18, some 19, some 20, some 21, some 22, some 23, some 24, some 25, some 26, none] [[7], [17], [9], [19], [9], [21], [20, 22], [23], [18, 24], [7], [26, 25]] [0, 1, 2, 3, 4, 5, 6, 7, 8, 9, 10] ⟨by kernel_rfl, by kernel_rfl, by kernel_rfl⟩ (by kernel_rfl) (fun s33 p33 l33 tb33 zd33 => ?_))
  refine Xv 5 [some 20, some 19, some 18, some 17] tb33 (((((zd33.add 0 17 (pB b9) rfl).add 1 18 vx14_0 rfl).add 2 19 (pB b28) rfl).add 3 20 (iI ((at_ a0.Pages x14.1).Lsn)) rfl).add 4 21 (.agg #[(iI ((at_ a0.Pages x14.1).Lsn)), v25_0]) rfl) (Xa (Yh (es := [(iI ((at_ a0.Pages x14.1).Lsn)), v25_0]) (B31.st p33 rfl) u59 z59 rfl) rfl (Xa (Xp (B31.st p33 rfl) u3 rfl) rfl (Xa (Xr fa59_0 rfl) rfl (Xa (Xp (Bx14_b9.st (Yi p28 p31 p33) rfl) u30 rfl) rfl (Xa (Xr fa32_0 rfl) rfl Xf))))) (by kernel_rfl) rfl (fun l42 e42 zd42 => ?_)
  refine clO 47 rfl func35 rfl (impl_Page_slots.calls (at_ a0.Pages x14.1) s33.w (mm [0] s33) v25_0 (A30.st (Xo p31 p33) rfl)) (fun r47 v47_0 s48 p48 A47_0 => ?_)
  refine Xk (L' := [3, 2, 1, 0]) (D' := [4, 5]) zd42 rfl (fun zd50 => ?_)
  refine Xv 7 [some 18, some 17] tb33 (zd50.add 6 23 (.agg #[(iI ((at_ a0.Pages x14.1).Lsn)), v47_0]) rfl) (Xa (bd_q (cells := [(iI ((at_ a0.Pages x14.1).Lsn)), v47_0]) pl59 o59 rfl rfl rfl rfl rfl (lfill_pc (pc_c rfl (pc_c (oc A47_0.rd.one) pc_n)) rfl)) rfl (Xa (Xp (B31.st (Xo p33 p48) rfl) u3 rfl) rfl (Xa (Xr fa59_0 rfl) rfl (Xa (Xp (Bx14_b9.st (tr4 p28 p31 p33 p48) rfl) u30 rfl) rfl (Xa (Xr fa32_0 rfl) rfl Xf))))) (by kernel_rfl) rfl (fun l52 e52 zd52 => ?_)
  have A55 : OwF kd59 s48 [(iI ((at_ a0.Pages x14.1).Lsn)), v47_0] (Page.mk ((at_ a0.Pages x14.1).Lsn) r47) 47 := (Xq (fun x : Page => (x.Lsn, x.Slots)) (Page.mk ((at_ a0.Pages x14.1).Lsn) r47) (Yj (Xg .i64 ((at_ a0.Pages x14.1).Lsn)) A47_0))
  refine ltO (K := kd59) (cells := [(iI ((at_ a0.Pages x14.1).Lsn)), v47_0]) [(Page.mk ((at_ a0.Pages x14.1).Lsn) r47)] 47 u30 z59 o59 (lo_one A55) rfl rfl rfl rfl rfl rfl rfl rfl rfl rfl (fun v58 s58 p58 A58 => ?_)
  refine Xk (L' := [1, 0]) (D' := [2, 3, 6, 7, 4, 5]) zd52 rfl (fun zd60 => ?_)
  refine zfin [8, 9, 10] tb33 zd60 (Xa (Xp (Bx14_b9.st (tr5 p28 p31 p33 p48 p58) rfl) u30 rfl) rfl (Xa (Xr fa32_0 rfl) rfl Xf)) (by kernel_rfl) (by decide) (apO sl30 (Ax14_0.st (tr5 p28 p31 p33 p48 p58) rfl) A58 rfl rfl rfl rfl rfl rfl rfl rfl rfl (fun v63 s63 p63 A63 => ?_))
  refine Xs fa32_0 rfl (sv' (Bx14_b9.st (tr6 p28 p31 p33 p48 p58 p63) rfl) z30 rfl A63.rd.one rfl (fun s66 p66 B66 => ?_))
  refine dn (ib (rg (Xc rfl (Xc rfl (dn ?_)))))
  exact lb ih14 ⟨s66, _, v63, rfl, (ue (ue (ue (ue (ue (ue (ue rfl rfl) rfl) rfl) rfl) rfl) rfl) rfl), (Kx14.st (tr7 p28 p31 p33 p48 p58 p63 p66) rfl), (A63.st p66 rfl), B66, (Bx14_b7.st (tr7 p28 p31 p33 p48 p58 p63 p66) rfl), (Bx14_b5.st (tr7 p28 p31 p33 p48 p58 p63 p66) rfl), (Cx14_2.st (tr7 p28 p31 p33 p48 p58 p63 p66) rfl)⟩
 refine xt rfl (sgb (sq (sr (Xc rfl (Xs fa32_0 rfl (Yb Bx14_b9 u30 rfl (Yo Ax14_0.rd u30 rfl (Xc rfl (dn (jc (fun (y73 : (List Page)) e w => ∃ (s : St) (e0 : Env) (vy73_0 : Value), w = s.w ∧ e = upd (upd (upd (upd e0 1 (iI a1)) 5 (pB b5)) 6 (pB b7)) 7 (pB b9) ∧ Kp s0 s ∧ OwF Yr s [vy73_0] y73 45 ∧ BlF s b9 32 [vy73_0] 44 ∧ BlF s b7 32 [(.slice none 0 0)] 43 ∧ BlF s b5 59 [(iI a2.Lsn), w2_0] 42 ∧ OwF (Kd.sl 25 Yp) s [w2_0] a2.Slots 40) (fun Gj73 Kj73 => ?_) ?_))))))))))
 ·
  refine cd rfl (fun h74 => ?_) (fun h74 => ?_)
  ·
   refine rg (Xs fa32_0 rfl (Yb Bx14_b9 u30 rfl (bd' (cells := [(iI 0), (.slice none 0 0)]) pl59 o59 rfl rfl ?_)))
   have A75 : OwF kd59 s18 [(iI 0), (.slice none 0 0)] (Page.mk (0 : Int) ([] : (List (List Int)))) 50 := ow_z _ _ (Xz (fun x : Page => (x.Lsn, x.Slots)) (Page.mk (0 : Int) ([] : (List (List Int)))) (Xh (Xg .i64 (0 : Int)) (Yc 25 Yp)))
   refine ltO (K := kd59) (cells := [(iI 0), (.slice none 0 0)]) [(Page.mk (0 : Int) ([] : (List (List Int))))] 50 u30 z59 o59 (lo_one A75) rfl rfl rfl rfl rfl rfl rfl rfl rfl rfl (fun v78 s78 p78 A78 => ?_)
   refine apO sl30 (Ax14_0.st p78 rfl) A78 rfl rfl rfl rfl rfl rfl rfl rfl rfl (fun v81 s81 p81 A81 => ?_)
   refine Xs fa32_0 rfl (sv' (Bx14_b9.st (Xo p78 p81) rfl) z30 rfl A81.rd.one rfl (fun s84 p84 B84 => ?_))
   exact dn (Kj73 _ _ _ ⟨s84, _, v81, rfl, (ue (ue (ue (ue rfl rfl) rfl) rfl) rfl), (Kx14.st (Yi p78 p81 p84) rfl), (A81.st p84 rfl), B84, (Bx14_b7.st (Yi p78 p81 p84) rfl), (Bx14_b5.st (Yi p78 p81 p84) rfl), (Cx14_2.st (Yi p78 p81 p84) rfl)⟩)
  exact sk (Kj73 _ _ _ ⟨s18, _, vx14_0, rfl, (ue (ue (ue (ue rfl rfl) rfl) rfl) rfl), Kx14, Ax14_0, Bx14_b9, Bx14_b7, Bx14_b5, Cx14_2⟩)
 rintro y73 _ _ ⟨s91, _, vy73_0, rfl, rfl, Ky73, Ay73_0, By73_b9, By73_b7, By73_b5, Cy73_2⟩
 refine sr (Xs fa32_0 rfl (Yb By73_b9 u30 rfl (Xc rfl (Xy (es := [(iI a2.Lsn), w2_0]) By73_b5 u59 z59 rfl (ix' Ay73_0.rd u30 z59 rfl (fun ad96 es96 h0_96 h1_96 he96 ce96 ia96 => ?_))))))
 obtain ⟨v96_0, rfl, A96_0⟩ := op59 he96
 have A99 : OwF kd59 s91 [(iI a2.Lsn), w2_0] a2 40 := (Xq (fun x : Page => (x.Lsn, x.Slots)) a2 (Yj (Xg .i64 a2.Lsn) Cy73_2))
 refine som (x' := a2) Ay73_0 ia96 h0_96 h1_96 A99 rfl rfl z59 rfl rfl rfl rfl rfl rfl (fun s101 p101 A101 => ?_)
 refine dn (sr ?_)
 refine Xy (es := [vy73_0]) (By73_b9.st p101 rfl) u32 z32 rfl (Xw (vs := [vy73_0]) (By73_b7.st p101 rfl) z32 rfl (Xb A101.rd.one Xi) rfl (fun s105 p105 B105 => ?_))
 refine dn ?_
 have A107 : OwF kd32 s105 [vy73_0] (Heap.mk (y73.set (a1).toNat a2)) 45 := (Xq (fun x : Heap => (x.Pages)) (Heap.mk (y73.set (a1).toNat a2)) (A101.st p105 rfl))
 have K110 := Ky73.st (Xo p101 p105) rfl
 exact re rfl func66 rfl (r_b B105 u32 rfl z32 rfl Xe) rfl ⟨_, rfl, vy73_0, rfl, z.fw' ez K110 (oc_ow A107) rfl, z.ky' ez K110⟩
def impl_PagePut.b0 (a1 : Int) (a2 : (List Int)) (a3 : Int) (x50 : (List (List Int))) : Option ((List (List Int)) ⊕ (Page × Bool)) :=
 (if (decide ((x50.length : Int) ≤ a1)) = true then (if x50.length + ([([] : (List Int))]).length ≤ Lim then (some (Sum.inl (x50 ++ [([] : (List Int))]))) else none) else (((slices_Clone_byte_byte.f a2).bind fun r83 => (if 0 ≤ a1 ∧ a1 < (x50.length : Int) then ((impl_PageUsed.f (Page.mk a3 (x50.set (a1).toNat r83))).bind fun r95 => (if (decide (r95 < (0 : Int))) = true then (some ((Page.mk (0 : Int) ([] : (List (List Int)))), false)) else (some ((Page.mk a3 (x50.set (a1).toNat r83)), true)))) else none)).bind fun o => some (Sum.inr o)))
def impl_PagePut.f (a0 : Page) (a1 : Int) (a2 : (List Int)) (a3 : Int) : Option (Page × Bool) :=
 ((impl_PageUsed.f a0).bind fun r10 => ((if (decide (r10 < (0 : Int))) = true then (some true) else ((impl_isSlot.f a1).bind fun r16 => (some (!r16)))).bind fun y12 => ((if (y12 || ((a2.length : Int) == (0 : Int))) = true then (some true) else ((impl_isLsn.f a3).bind fun r27 => (some (!r27)))).bind fun y26 => (if y26 = true then (some ((Page.mk (0 : Int) ([] : (List (List Int)))), false)) else ((impl_Page_slots.f a0).bind fun r42 => (iter (impl_PagePut.b0 a1 a2 a3) r42))))))
def impl_PagePut.Q (w : World) (F : Nat → Prop) (r : Page × Bool) (v : Value) (w' : World) : Prop :=
 ∃ (v0 : Value), v = .tuple #[(.agg #[(iI r.1.Lsn), v0]), (.bool r.2)] ∧ FO kd59 w w' [(iI r.1.Lsn), v0] r.1 ∧ Ky [] w w'
theorem impl_PagePut.calls (a0 : Page) (a1 : Int) (a2 : (List Int)) (a3 : Int) (w : World) (F : Nat → Prop) (w0_0 : Value) (w2_0 : Value) (h0_0 : (Kd.sl 25 Yp).rd w [w0_0] a0.Slots F) (h2_0 : Yp.rd w [w2_0] a2 F) (r : Page × Bool) (m : impl_PagePut.f a0 a1 a2 a3 = some r) :
  Calls prog 94 #[(.agg #[(iI a0.Lsn), w0_0]), (iI a1), w2_0, (iI a3)] w (RT (impl_PagePut.Q w F) r) := by
 obtain ⟨s0, rfl, kp0, z⟩ := Xl w F
 have A0_0 := z.rd h0_0
 have A2_0 := z.rd h2_0
 refine Xd (args := [(.agg #[(iI a0.Lsn), w0_0]), (iI a1), w2_0, (iI a3)]) func94 ntmps94 rfl rfl m ?_
 unfold impl_PagePut.f
 refine sr (bx' (cs := [(iI a0.Lsn), w0_0]) 40 rfl rfl (fun b3 s3 p3 B3 => ?_))
 refine al' (cs := [(iI 0), (.slice none 0 0)]) 41 rfl o59 rfl (fun b5 s5 p5 B5 => ?_)
 refine Xc rfl (dn (sq (sr ?_)))
 have A7 := B3.st p5 rfl
 refine Xy (es := [(iI a0.Lsn), w0_0]) A7 u59 z59 rfl ?_
 have K8 := kp0.st (Xo p3 p5) rfl
 refine Ym 42 rfl func55 rfl (impl_PageUsed.calls a0 s5.w (mm [0] s5) w0_0 (A0_0.kp K8)) (fun r10 s11 p11 n11 => ?_)
 refine Xc rfl (Xc rfl (ji [8, 9, 10, 11, 12, 13, 14, 15, 16, 17] (fun (y12 : Bool) e w => ∃ (s : St) (e0 : Env), w = s.w ∧ e = upd (upd (upd (upd (upd (upd e0 1 (iI a1)) 2 w2_0) 3 (iI a3)) 4 (pB b3)) 8 (pB b5)) 18 (.bool y12) ∧ Kp s0 s ∧ BlF s b5 59 [(iI 0), (.slice none 0 0)] 41 ∧ BlF s b3 59 [(iI a0.Lsn), w0_0] 40) (fun Gj12 Kj12 => ?_) ?_))
 ·
  rcases Yn (decide (r10 < (0 : Int))) with hb12 | hb12
  ·
   refine Xx hb12 ?_
   rw [if_pos hb12]
   refine Xj rfl (Xj rfl (Xj rfl (Xc rfl ?_)))
   exact Kj12 _ _ _ ⟨s11, _, rfl, (ue (ue (ue (ue (ue (ue rfl rfl) rfl) rfl) rfl) rfl) rfl), (K8.st p11 rfl), (B5.st p11 rfl), (A7.st p11 rfl)⟩
  refine Xx hb12 ?_
  rw [if_neg (by rw [hb12]; decide)]
  refine Xc rfl (Ym 43 rfl func61 rfl (impl_isSlot.calls a1 s11.w (mm [] s11)) (fun r16 s17 p17 n17 => ?_))
  refine Xc rfl (Xc rfl ?_)
  exact Kj12 _ _ _ ⟨s17, _, rfl, (ue (ue (ue (ue (ue (ue rfl rfl) rfl) rfl) rfl) rfl) rfl), (K8.st (Xo p11 p17) rfl), (B5.st (Xo p11 p17) rfl), (A7.st (Xo p11 p17) rfl)⟩
 rintro y12 _ _ ⟨s21, _, rfl, rfl, Ky12, By12_b5, By12_b3⟩
 refine Xc rfl (jy [19, 20, 21, 22, 23] [13, 14, 15, 16, 17] 23 (.bool (y12 || ((a2.length : Int) == (0 : Int)))) rfl (fun Kg24 => ?_) (fun j24 => ?_))
 ·
  rcases Yn y12 with hb24 | hb24
  ·
   exact Xx hb24 (Xj rfl (Xj rfl (Xj rfl (Xc rfl (Kg24 _ (Ag.put ((Ag.put ((Ag.put ((Ag.put (Ag.base rfl) rfl)) rfl)) rfl)) rfl) (by rw [hb24]; rfl))))))
  refine Xx hb24 (Ya w2_0 rfl ?_)
  exact Yo (A2_0.kp Ky12) u25 rfl (Xc rfl (Xc rfl (Kg24 _ (Ag.put ((Ag.put ((Ag.put ((Ag.put (Ag.base rfl) rfl)) rfl)) rfl)) rfl) (by rw [hb24]; rfl))))
 refine Xc rfl (ji [] (fun (y26 : Bool) e w => ∃ (s : St) (e0 : Env), w = s.w ∧ e = upd (upd (upd (upd (upd (upd e0 1 (iI a1)) 2 w2_0) 3 (iI a3)) 4 (pB b3)) 8 (pB b5)) 28 (.bool y26) ∧ Kp s0 s ∧ BlF s b5 59 [(iI 0), (.slice none 0 0)] 41 ∧ BlF s b3 59 [(iI a0.Lsn), w0_0] 40) (fun Gj26 Kj26 => ?_) ?_)
 ·
  rcases Yn (y12 || ((a2.length : Int) == (0 : Int))) with hb26 | hb26
  ·
   refine Xx hb26 ?_
   rw [if_pos hb26]
   exact Xj rfl (Xj rfl (Xj rfl (Xc rfl (Kj26 _ _ _ ⟨s21, _, rfl, (ue (ue (ue (ue (ue (ue rfl rfl) rfl) rfl) rfl) rfl) rfl), Ky12, By12_b5, By12_b3⟩))))
  refine Xx hb26 ?_
  rw [if_neg (by rw [hb26]; decide)]
  refine Xc rfl (Ym 44 rfl func59 rfl (impl_isLsn.calls a3 s21.w (mm [] s21)) (fun r27 s28 p28 n28 => ?_))
  refine Xc rfl (Xc rfl ?_)
  exact Kj26 _ _ _ ⟨s28, _, rfl, (ue (ue (ue (ue (ue (ue rfl rfl) rfl) rfl) rfl) rfl) rfl), (Ky12.st p28 rfl), (By12_b5.st p28 rfl), (By12_b3.st p28 rfl)⟩
 rintro y26 _ _ ⟨s32, _, rfl, rfl, Ky26, By26_b5, By26_b3⟩
 refine dn (cd rfl (fun h35 => ?_) (fun h35 => ?_))
 ·
  refine sr (bd' (cells := [(iI 0), (.slice none 0 0)]) pl59 o59 rfl rfl (Xw (vs := [(iI 0), (.slice none 0 0)]) By26_b5 z59 rfl (Xb rfl (Xb rfl Xi)) rfl (fun s36 p36 B36 => ?_)))
  refine Xc rfl (dn ?_)
  have A38 : OwF kd59 s36 [(iI 0), (.slice none 0 0)] (Page.mk (0 : Int) ([] : (List (List Int)))) 45 := ow_z _ _ (Xz (fun x : Page => (x.Lsn, x.Slots)) (Page.mk (0 : Int) ([] : (List (List Int)))) (Xh (Xg .i64 (0 : Int)) (Yc 25 Yp)))
  have K40 := Ky26.st p36 rfl
  exact re rfl func94 rfl (r_b B36 u59 rfl z59 rfl (Xu rfl Xe)) rfl ⟨_, rfl, (.slice none 0 0), rfl, A38.fo K40 rfl z.l, z.ky K40⟩
 refine sk (sr (Xc rfl (Xy (es := [(iI a0.Lsn), w0_0]) By26_b3 u59 z59 rfl ?_)))
 refine clO 46 rfl func35 rfl (impl_Page_slots.calls a0 s32.w (mm [0] s32) w0_0 (A0_0.kp Ky26)) (fun r42 v42_0 s43 p43 A42_0 => ?_)
 refine bd' (cells := [(iI a3), v42_0]) pl59 o59 rfl (lfill_pc (pc_c rfl (pc_c (oc A42_0.rd.one) pc_n)) rfl) (al' (cs := [(iI 0), (.slice none 0 0)]) 47 rfl o59 rfl (fun b45 s45 p45 B45 => ?_))
 have A47 := A42_0.st p45 rfl
 refine Xw (vs := [(iI a3), v42_0]) B45 z59 rfl (Xb rfl (Xb A47.rd.one Xi)) rfl (fun s48 p48 B48 => ?_)
 refine dn (sq (bl ?_))
 refine lpI (fun (x50 : (List (List Int))) e w => ∃ (s : St) (e0 : Env) (vx50_0 : Value), w = s.w ∧ e = upd (upd (upd (upd e0 1 (iI a1)) 2 w2_0) 8 (pB b5)) 10 (pB b45) ∧ Kp s0 s ∧ OwF (Kd.sl 25 Yp) s [vx50_0] x50 46 ∧ BlF s b45 59 [(iI a3), vx50_0] 47 ∧ BlF s b5 59 [(iI 0), (.slice none 0 0)] 41) ⟨s48, _, v42_0, rfl, (ue (ue (ue (ue rfl rfl) rfl) rfl) rfl), (Ky26.st (Yi p43 p45 p48) rfl), (A47.st p48 rfl), B48, (By26_b5.st (Yi p43 p45 p48) rfl)⟩ (fun g50 ih50 => ?_)
 rintro x50 _ _ ⟨s54, _, vx50_0, rfl, rfl, Kx50, Ax50_0, Bx50_b45, Bx50_b5⟩
 unfold impl_PagePut.b0
 refine sq (sr (Xs fa59_1 rfl (Yb Bx50_b45 u57 rfl (Yo Ax50_0.rd u57 rfl (Xc rfl (Xc rfl (dn (cd rfl (fun h58 => ?_) (fun h58 => ?_)))))))))
 ·
  refine sk (bl (rg (Xs fa59_1 rfl (Yb Bx50_b45 u57 rfl ?_))))
  have A59 : OwF Yp s54 [(.slice none 0 0)] ([] : (List Int)) 49 := ow_z _ _ (Yc 5 (Kd.int .u8))
  refine ltO (K := Yp) (cells := [(.slice none 0 0)]) [([] : (List Int))] 49 u57 z25 o25 (lo_one A59) rfl rfl rfl rfl rfl rfl rfl rfl rfl rfl (fun v62 s62 p62 A62 => ?_)
  refine apO sl57 (Ax50_0.st p62 rfl) A62 rfl rfl rfl rfl rfl rfl rfl rfl rfl (fun v65 s65 p65 A65 => ?_)
  refine Xs fa59_1 rfl (sv' (Bx50_b45.st (Xo p62 p65) rfl) z57 rfl A65.rd.one rfl (fun s68 p68 B68 => ?_))
  refine dn (ib ?_)
  exact lb ih50 ⟨s68, _, v65, rfl, (ue (ue (ue (ue rfl rfl) rfl) rfl) rfl), (Kx50.st (Yi p62 p65 p68) rfl), (A65.st p68 rfl), B68, (Bx50_b5.st (Yi p62 p65 p68) rfl)⟩
 refine xt rfl (sgb (sq (zdraw [[], [0], [], [], [3], [1, 2, 0, 1, 2, 3, 4], [5, 4, 4, 0, 1, 2, 3, 4]] [some 44, some 45, some 46, some 47, some 48, some 49, none] [[10], [44], [1], [2], [47], [45, 46], [49, 48]] [0, 1, 2, 3, 4, 5, 6] ⟨by kernel_rfl, by kernel_rfl, by kernel_rfl⟩ (by kernel_rfl) (fun s73 p73 l73 tb73 zd73 => ?_))))
 refine Xv 4 [some 46, some 45, some 44] tb73 ((((zd73.add 0 44 (pO b45 1) rfl).add 1 45 vx50_0 rfl).add 2 46 (iI a1) rfl).add 3 47 w2_0 rfl) (Xa (Xn w2_0 rfl) rfl (Xa (Xm rfl) rfl (Xa (Xp (Bx50_b45.st p73 rfl) u57 rfl) rfl (Xa (Xr fa59_1 rfl) rfl Xf)))) (by kernel_rfl) rfl (fun l79 e79 zd79 => ?_)
 have K81 := Kx50.st p73 rfl
 refine clO 50 rfl func64 rfl (slices_Clone_byte_byte.calls a2 s73.w (mm [0] s73) w2_0 (A2_0.kp K81)) (fun r83 v83_0 s84 p84 A83_0 => ?_)
 refine Xk (L' := [2, 1, 0]) (D' := [3, 4]) zd79 rfl (fun zd86 => ?_)
 refine zfin [5, 6] tb73 zd86 (Xa (Xm rfl) rfl (Xa (Xp (Bx50_b45.st (Xo p73 p84) rfl) u57 rfl) rfl (Xa (Xr fa59_1 rfl) rfl Xf))) (by kernel_rfl) (by decide) ?_
 have A88 := Ax50_0.st (Xo p73 p84) rfl
 refine ix' A88.rd u57 z25 rfl (fun ad89 es89 h0_89 h1_89 he89 ce89 ia89 => ?_)
 obtain ⟨v89, rfl, he89'⟩ := he89
 have A89 : RdF Yp s84 [v89] (at_ x50 a1) [46] := ⟨v89, rfl, he89'⟩
 refine sog (x' := r83) lg_id A88 ia89 h0_89 h1_89 A83_0 rfl rfl z25 rfl rfl rfl rfl rfl (oc A83_0.rd.one) (fun s92 p92 A92 => ?_)
 refine dn (sq (sr ?_))
 have A94 := Bx50_b45.st (Yi p73 p84 p92) rfl
 refine Xy (es := [(iI a3), vx50_0]) A94 u59 z59 rfl (Ym 51 rfl func55 rfl (impl_PageUsed.calls (Page.mk a3 (x50.set (a1).toNat r83)) s92.w (mm [46] s92) vx50_0 A92.rd) (fun r95 s96 p96 n96 => ?_))
 refine Xc rfl (dn (cd rfl (fun h97 => ?_) (fun h97 => ?_)))
 ·
  refine sr (bd' (cells := [(iI 0), (.slice none 0 0)]) pl59 o59 rfl rfl ?_)
  refine Xw (vs := [(iI 0), (.slice none 0 0)]) (Bx50_b5.st (tr4 p73 p84 p92 p96) rfl) z59 rfl (Xb rfl (Xb rfl Xi)) rfl (fun s99 p99 B99 => ?_)
  refine Xc rfl (dn ?_)
  have A101 : OwF kd59 s99 [(iI 0), (.slice none 0 0)] (Page.mk (0 : Int) ([] : (List (List Int)))) 52 := ow_z _ _ (Xz (fun x : Page => (x.Lsn, x.Slots)) (Page.mk (0 : Int) ([] : (List (List Int)))) (Xh (Xg .i64 (0 : Int)) (Yc 25 Yp)))
  have K103 := K81.st (tr4 p84 p92 p96 p99) rfl
  exact re rfl func94 rfl (r_b B99 u59 rfl z59 rfl (Xu rfl Xe)) rfl ⟨_, rfl, (.slice none 0 0), rfl, A101.fo K103 rfl z.l, z.ky K103⟩
 refine sk (sr ?_)
 refine Xy (es := [(iI a3), vx50_0]) (A94.st p96 rfl) u59 z59 rfl ?_
 have A106 := A92.st p96 rfl
 refine Xw (vs := [(iI a3), vx50_0]) (Bx50_b5.st (tr4 p73 p84 p92 p96) rfl) z59 rfl (Xb rfl (Xb A106.rd.one Xi)) rfl (fun s107 p107 B107 => ?_)
 refine Xc rfl (dn ?_)
 have A109 : OwF kd59 s107 [(iI a3), vx50_0] (Page.mk a3 (x50.set (a1).toNat r83)) 46 := (Xq (fun x : Page => (x.Lsn, x.Slots)) (Page.mk a3 (x50.set (a1).toNat r83)) (Yj (Xg .i64 a3) (A106.st p107 rfl)))
 have K112 := K81.st (tr4 p84 p92 p96 p107) rfl
 exact re rfl func94 rfl (r_b B107 u59 rfl z59 rfl (Xu rfl Xe)) rfl ⟨_, rfl, vx50_0, rfl, A109.fo K112 rfl z.l, z.ky K112⟩
def impl_Heap_put.f (a0 : Heap) (a1 : Int) (a2 : Int) (a3 : (List Int)) (a4 : Int) : Option (Heap × Bool) :=
 ((impl_within.f a1 (0 : Int) (IntKind.wrap .i64 ((a0.Pages.length : Int) - (1 : Int)))).bind fun r12 => ((if r12 = true then (if 0 ≤ a1 ∧ a1 < (a0.Pages.length : Int) then (some (Sum.inl ((at_ a0.Pages a1).Lsn, (at_ a0.Pages a1).Slots))) else none) else (if ((a1 != (a0.Pages.length : Int)) || (decide (a1 ≥ (16 : Int)))) = true then (some (Sum.inr ((Heap.mk ([] : (List Page))), false))) else (some (Sum.inl ((0 : Int), ([] : (List (List Int)))))))).bind (sel fun y14 => ((impl_PagePut.f (Page.mk y14.1 y14.2) a2 a3 a4).bind fun r48 => (if (!r48.2) = true then (some ((Heap.mk ([] : (List Page))), false)) else ((impl_Heap_with.f a0 a1 r48.1).bind fun r69 => (some (r69, true))))))))
def impl_Heap_put.Q (w : World) (F : Nat → Prop) (r : Heap × Bool) (v : Value) (w' : World) : Prop :=
 ∃ (v0 : Value), v = .tuple #[(.agg #[v0]), (.bool r.2)] ∧ FO kd32 w w' [v0] r.1 ∧ Ky [] w w'
theorem impl_Heap_put.calls (a0 : Heap) (a1 : Int) (a2 : Int) (a3 : (List Int)) (a4 : Int) (w : World) (F : Nat → Prop) (w0_0 : Value) (w3_0 : Value) (h0_0 : Yr.rd w [w0_0] a0.Pages F) (h3_0 : Yp.rd w [w3_0] a3 F) (r : Heap × Bool) (m : impl_Heap_put.f a0 a1 a2 a3 a4 = some r) :
  Calls prog 67 #[(.agg #[w0_0]), (iI a1), (iI a2), w3_0, (iI a4)] w (RT (impl_Heap_put.Q w F) r) := by
 obtain ⟨s0, rfl, kp0, z⟩ := Xl w F
 have A0_0 := z.rd h0_0
 refine Xd (args := [(.agg #[w0_0]), (iI a1), (iI a2), w3_0, (iI a4)]) func67 ntmps67 rfl rfl m ?_
 unfold impl_Heap_put.f
 refine sr (bx' (cs := [w0_0]) 40 rfl rfl (fun b3 s3 p3 B3 => ?_))
 refine al' (cs := [(.slice none 0 0)]) 41 rfl o32 rfl (fun b5 s5 p5 B5 => ?_)
 refine Xc rfl (dn (sr (al' (cs := [(iI 0), (.slice none 0 0)]) 42 rfl o59 rfl (fun b7 s7 p7 B7 => ?_))))
 refine dn (sq (sr (Xc rfl (Xs fa32_0 rfl ?_))))
 have A9 := B3.st (Xo p5 p7) rfl
 refine Yb A9 u30 rfl ?_
 have K10 := kp0.st (Yi p3 p5 p7) rfl
 refine Yo (A0_0.kp K10) u30 rfl (Xc rfl (Ym 43 rfl func63 rfl (impl_within.calls a1 (0 : Int) (IntKind.wrap .i64 ((a0.Pages.length : Int) - (1 : Int))) s7.w (mm [] s7)) (fun r12 s13 p13 n13 => ?_)))
 refine dn (jr (fun (y14 : Int × (List (List Int))) e w => ∃ (s : St) (e0 : Env) (vy14_0 : Value), w = s.w ∧ e = upd (upd (upd (upd (upd (upd (upd e0 1 (iI a1)) 2 (iI a2)) 3 w3_0) 4 (iI a4)) 5 (pB b3)) 10 (pB b5)) 12 (pB b7) ∧ Kp s0 s ∧ RdF (Kd.sl 25 Yp) s [vy14_0] y14.2 [0] ∧ BlF s b7 59 [(iI y14.1), vy14_0] 42 ∧ BlF s b5 32 [(.slice none 0 0)] 41 ∧ BlF s b3 32 [w0_0] 40) (fun Gj14 Kj14 hG14 => ?_) ?_)
 ·
  refine cd rfl (fun h15 => ?_) (fun h15 => ?_)
  ·
   refine rg (Xs fa32_0 rfl ?_)
   have A16 := A9.st p13 rfl
   refine Yb A16 u30 rfl (Xc rfl ?_)
   have K17 := K10.st p13 rfl
   refine ix' (A0_0.kp K17) u30 z59 rfl (fun ad19 es19 h0_19 h1_19 he19 ce19 ia19 => ?_)
   obtain ⟨v19_0, rfl, A19_0⟩ := op59 he19
   refine lca ce19 u59 z59 rfl rfl rfl rfl rfl rfl rfl (Xw (vs := [(iI ((at_ a0.Pages a1).Lsn)), v19_0]) (B7.st p13 rfl) z59 rfl (Xb rfl (Xb A19_0.one Xi)) rfl (fun s23 p23 B23 => ?_))
   exact dn (Kj14 _ _ _ ⟨s23, _, v19_0, rfl, (ue (ue (ue (ue (ue (ue (ue rfl rfl) rfl) rfl) rfl) rfl) rfl) rfl), (K17.st p23 rfl), (A19_0.st p23 rfl), B23, (B5.st (Yi p7 p13 p23) rfl), (A16.st p23 rfl)⟩)
  refine sr (Xc rfl (Xs fa32_0 rfl ?_))
  have A29 := A9.st p13 rfl
  refine Yb A29 u30 rfl ?_
  have K30 := K10.st p13 rfl
  refine Yo (A0_0.kp K30) u30 rfl (Xc rfl (Xc rfl (jy [31, 32, 33, 34] [] 34 (.bool ((a1 != (a0.Pages.length : Int)) || (decide (a1 ≥ (16 : Int))))) rfl (fun Kg32 => ?_) (fun j32 => ?_))))
  ·
   rcases Yn (a1 != (a0.Pages.length : Int)) with hb32 | hb32
   ·
    exact Xx hb32 (Xj rfl (Xj rfl (Xc rfl (Kg32 _ (Ag.put ((Ag.put ((Ag.put (Ag.base rfl) rfl)) rfl)) rfl) (by rw [hb32]; rfl)))))
   exact Xx hb32 (Xc rfl (Xc rfl (Xc rfl (Kg32 _ (Ag.put ((Ag.put ((Ag.put (Ag.base rfl) rfl)) rfl)) rfl) (by rw [hb32]; rfl)))))
  refine dn (cd rfl (fun h33 => ?_) (fun h33 => ?_))
  ·
   refine sr (bd' (cells := [(.slice none 0 0)]) pl32 o32 rfl rfl ?_)
   refine Xw (vs := [(.slice none 0 0)]) (B5.st (Xo p7 p13) rfl) z32 rfl (Xb rfl Xi) rfl (fun s35 p35 B35 => ?_)
   refine Xc rfl (dn (jri hG14 ?_))
   have A37 : OwF kd32 s35 [(.slice none 0 0)] (Heap.mk ([] : (List Page))) 44 := ow_z _ _ (Xz (fun x : Heap => (x.Pages)) (Heap.mk ([] : (List Page))) (Yc 59 kd59))
   have K39 := K30.st p35 rfl
   exact re rfl func67 rfl (r_b B35 u32 rfl z32 rfl (Xu rfl Xe)) rfl ⟨_, rfl, (.slice none 0 0), rfl, A37.fo K39 rfl z.l, z.ky K39⟩
  exact sk (Kj14 _ _ _ ⟨s13, _, (.slice none 0 0), rfl, (ue (ue (ue (ue (ue (ue (ue rfl rfl) rfl) rfl) rfl) rfl) rfl) rfl), K30, (rd_nil 25 Yp _ [0]), (B7.st p13 rfl), (B5.st (Xo p7 p13) rfl), A29⟩)
 rintro y14 _ _ ⟨s42, _, vy14_0, rfl, rfl, Ky14, Ay14_0, By14_b7, By14_b5, By14_b3⟩
 refine sr (Xy (es := [(iI y14.1), vy14_0]) By14_b7 u59 z59 rfl (Xc rfl (Ya w3_0 rfl (Xc rfl ?_))))
 refine cl' rfl func94 rfl (impl_PagePut.calls (Page.mk y14.1 y14.2) a2 a3 a4 s42.w (mm [0] s42) vy14_0 w3_0 Ay14_0 ((z.rd h3_0).kp Ky14)) ?_
 rintro r48 _ w48 m48 ⟨v48_0, rfl, f48_0, ky48⟩
 obtain ⟨s49, rfl, p49, n49⟩ := nwx s42 w48 45 ky48
 refine Xc rfl (Xc (v := (.agg #[(iI r48.1.Lsn), v48_0])) rfl (Xc (v := (.bool r48.2)) rfl (al' (cs := [(iI 0), (.slice none 0 0)]) 46 rfl o59 rfl (fun b51 s51 p51 B51 => ?_))))
 have A53 := (ap59 (f48_0.c n49)).st p51 rfl
 refine Xw (vs := [(iI r48.1.Lsn), v48_0]) B51 z59 rfl (Xb rfl (Xb A53.rd.one Xi)) rfl (fun s54 p54 B54 => ?_)
 refine Xc rfl (dn (sq (sr (Xc rfl (Xc rfl (dn (cd rfl (fun h56 => ?_) (fun h56 => ?_))))))))
 ·
  refine sr (bd' (cells := [(.slice none 0 0)]) pl32 o32 rfl rfl ?_)
  refine Xw (vs := [(.slice none 0 0)]) (By14_b5.st (Yi p49 p51 p54) rfl) z32 rfl (Xb rfl Xi) rfl (fun s58 p58 B58 => ?_)
  refine Xc rfl (dn ?_)
  have A60 : OwF kd32 s58 [(.slice none 0 0)] (Heap.mk ([] : (List Page))) 47 := ow_z _ _ (Xz (fun x : Heap => (x.Pages)) (Heap.mk ([] : (List Page))) (Yc 59 kd59))
  have K62 := Ky14.st (tr4 p49 p51 p54 p58) rfl
  exact re rfl func67 rfl (r_b B58 u32 rfl z32 rfl (Xu rfl Xe)) rfl ⟨_, rfl, (.slice none 0 0), rfl, A60.fo K62 rfl z.l, z.ky K62⟩
 refine sk (sr ?_)
 refine Xy (es := [w0_0]) (By14_b3.st (Yi p49 p51 p54) rfl) u32 z32 rfl (Xc rfl (Xy (es := [(iI r48.1.Lsn), v48_0]) B54 u59 z59 rfl ?_))
 have K64 := Ky14.st (Yi p49 p51 p54) rfl
 have A66 : OwF kd59 s54 [(iI r48.1.Lsn), v48_0] r48.1 45 := (Xq (fun x : Page => (x.Lsn, x.Slots)) r48.1 (Yj (Xg .i64 r48.1.Lsn) (A53.st p54 rfl)))
 obtain ⟨os69, ho69, hn69, hc69⟩ := A66
 refine cl' rfl func66 rfl (impl_Heap_with.calls a0 a1 r48.1 s54.w (mm [0] s54) w0_0 v48_0 (A0_0.kp K64) os69 ho69 hn69 (apart_of hc69 rfl)) ?_
 rintro r69 _ w69 m69 ⟨v69_0, rfl, f69_0, ky69⟩
 obtain ⟨s70, rfl, p70, n70⟩ := nwm 48 hc69 ky69 rfl
 have Au69_0_0 := ap32 (f69_0.m n70)
 refine Xw (vs := [v69_0]) (By14_b5.st (tr4 p49 p51 p54 p70) rfl) z32 rfl (Xb Au69_0_0.rd.one Xi) rfl (fun s73 p73 B73 => ?_)
 refine Xc rfl (dn ?_)
 have A75 : OwF kd32 s73 [v69_0] r69 48 := (Xq (fun x : Heap => (x.Pages)) r69 (Au69_0_0.st p73 rfl))
 have K78 := K64.st (Xo p70 p73) rfl
 exact re rfl func67 rfl (r_b B73 u32 rfl z32 rfl (Xu rfl Xe)) rfl ⟨_, rfl, v69_0, rfl, A75.fo K78 rfl z.l, z.ky K78⟩
def impl_Heap_at.f (a0 : Heap) (a1 : Int) (a2 : Int) : Option (Tuple × Bool) :=
 ((impl_within.f a1 (0 : Int) (IntKind.wrap .i64 ((a0.Pages.length : Int) - (1 : Int)))).bind fun r9 => ((if (!r9) = true then (some true) else (if 0 ≤ a1 ∧ a1 < (a0.Pages.length : Int) then ((impl_within.f a2 (0 : Int) (IntKind.wrap .i64 ((((at_ a0.Pages a1).Slots).length : Int) - (1 : Int)))).bind fun r21 => (some (!r21))) else none)).bind fun y11 => (if y11 = true then (some ((Tuple.mk (0 : Int) (0 : Int) (Item.mk (0 : Int) (0 : Int) (0 : Nat) ([] : (List Int))) (Item.mk (0 : Int) (0 : Int) (0 : Nat) ([] : (List Int)))), false)) else (if 0 ≤ a1 ∧ a1 < (a0.Pages.length : Int) then (if 0 ≤ a2 ∧ a2 < (((at_ a0.Pages a1).Slots).length : Int) then ((impl_TupleRead.f (at_ ((at_ a0.Pages a1).Slots) a2)).bind fun r42 => (some (r42.1, r42.2))) else none) else none))))
def impl_Heap_at.Q (w : World) (F : Nat → Prop) (r : Tuple × Bool) (v : Value) (w' : World) : Prop :=
 ∃ (v0 : Value) (v1 : Value) (v2 : Value) (v3 : Value), v = .tuple #[(.agg #[(iI r.1.Xmin), (iI r.1.Xmax), (iI r.1.Key.Kind), (iI r.1.Key.N), v0, v1, (iI r.1.Value.Kind), (iI r.1.Value.N), v2, v3]), (.bool r.2)] ∧ FO kd79 w w' [(iI r.1.Xmin), (iI r.1.Xmax), (iI r.1.Key.Kind), (iI r.1.Key.N), v0, v1, (iI r.1.Value.Kind), (iI r.1.Value.N), v2, v3] r.1 ∧ Ky [] w w'
theorem impl_Heap_at.calls (a0 : Heap) (a1 : Int) (a2 : Int) (w : World) (F : Nat → Prop) (w0_0 : Value) (h0_0 : Yr.rd w [w0_0] a0.Pages F) (r : Tuple × Bool) (m : impl_Heap_at.f a0 a1 a2 = some r) :
  Calls prog 120 #[(.agg #[w0_0]), (iI a1), (iI a2)] w (RT (impl_Heap_at.Q w F) r) := by
 obtain ⟨s0, rfl, kp0, z⟩ := Xl w F
 have A0_0 := z.rd h0_0
 refine Xd (args := [(.agg #[w0_0]), (iI a1), (iI a2)]) func120 ntmps120 rfl rfl m ?_
 unfold impl_Heap_at.f
 refine sr (bx' (cs := [w0_0]) 40 rfl rfl (fun b2 s2 p2 B2 => ?_))
 refine al' (cs := [(iI 0), (iI 0), (iI 0), (iI 0), (.float .f64 0), (.slice none 0 0), (iI 0), (iI 0), (.float .f64 0), (.slice none 0 0)]) 41 rfl o79 rfl (fun b4 s4 p4 B4 => ?_)
 refine Xc rfl (dn (sq (sr (Xc rfl (Xs fa32_0 rfl ?_)))))
 have A6 := B2.st p4 rfl
 refine Yb A6 u30 rfl ?_
 have K7 := kp0.st (Xo p2 p4) rfl
 refine Yo (A0_0.kp K7) u30 rfl (Xc rfl (Ym 42 rfl func63 rfl (impl_within.calls a1 (0 : Int) (IntKind.wrap .i64 ((a0.Pages.length : Int) - (1 : Int))) s4.w (mm [] s4)) (fun r9 s10 p10 n10 => ?_)))
 refine Xc rfl (Xc rfl (ji [] (fun (y11 : Bool) e w => ∃ (s : St) (e0 : Env), w = s.w ∧ e = upd (upd (upd (upd (upd e0 1 (iI a1)) 2 (iI a2)) 3 (pB b2)) 6 (pB b4)) 27 (.bool y11) ∧ Kp s0 s ∧ BlF s b4 79 [(iI 0), (iI 0), (iI 0), (iI 0), (.float .f64 0), (.slice none 0 0), (iI 0), (iI 0), (.float .f64 0), (.slice none 0 0)] 41 ∧ BlF s b2 32 [w0_0] 40) (fun Gj11 Kj11 => ?_) ?_))
 ·
  rcases Yn (!r9) with hb11 | hb11
  ·
   refine Xx hb11 ?_
   rw [if_pos hb11]
   refine Xj rfl (Xj rfl (Xj rfl (Xj rfl (Xj rfl (Xj rfl (Xj rfl (Xj rfl (Xj rfl (Xj rfl (Xj rfl (Xc rfl ?_)))))))))))
   exact Kj11 _ _ _ ⟨s10, _, rfl, (ue (ue (ue (ue (ue rfl rfl) rfl) rfl) rfl) rfl), (K7.st p10 rfl), (B4.st p10 rfl), (A6.st p10 rfl)⟩
  refine Xx hb11 ?_
  rw [if_neg (by rw [hb11]; decide)]
  refine Xc rfl (Xs fa32_0 rfl ?_)
  have A15 := A6.st p10 rfl
  refine Yb A15 u30 rfl (Xc rfl ?_)
  have K16 := K7.st p10 rfl
  refine ix' (A0_0.kp K16) u30 z59 rfl (fun ad18 es18 h0_18 h1_18 he18 ce18 ia18 => ?_)
  obtain ⟨v18_0, rfl, A18_0⟩ := op59 he18
  refine Xs fa59_1 rfl (lc ce18 u57 rfl rfl rfl rfl rfl rfl rfl rfl (Yo A18_0 u57 rfl (Xc rfl (Ym 43 rfl func63 rfl (impl_within.calls a2 (0 : Int) (IntKind.wrap .i64 ((((at_ a0.Pages a1).Slots).length : Int) - (1 : Int))) s10.w (mm [] s10)) (fun r21 s22 p22 n22 => ?_)))))
  refine Xc rfl (Xc rfl ?_)
  exact Kj11 _ _ _ ⟨s22, _, rfl, (ue (ue (ue (ue (ue rfl rfl) rfl) rfl) rfl) rfl), (K16.st p22 rfl), (B4.st (Xo p10 p22) rfl), (A15.st p22 rfl)⟩
 rintro y11 _ _ ⟨s26, _, rfl, rfl, Ky11, By11_b4, By11_b2⟩
 refine dn (cd rfl (fun h29 => ?_) (fun h29 => ?_))
 ·
  refine sr (bd' (cells := [(iI 0), (iI 0), (iI 0), (iI 0), (.float .f64 0), (.slice none 0 0), (iI 0), (iI 0), (.float .f64 0), (.slice none 0 0)]) pl79 o79 rfl rfl (Xw (vs := [(iI 0), (iI 0), (iI 0), (iI 0), (.float .f64 0), (.slice none 0 0), (iI 0), (iI 0), (.float .f64 0), (.slice none 0 0)]) By11_b4 z79 rfl (Xb rfl (Xb rfl (Xb rfl (Xb rfl (Xb (FL.one (Yg rfl)) (Xb rfl (Xb rfl (Xb rfl (Xb (FL.one (Yg rfl)) (Xb rfl Xi)))))))))) rfl (fun s30 p30 B30 => ?_)))
  refine Xc rfl (dn ?_)
  have A32 : OwF kd79 s30 [(iI 0), (iI 0), (iI 0), (iI 0), (.float .f64 0), (.slice none 0 0), (iI 0), (iI 0), (.float .f64 0), (.slice none 0 0)] (Tuple.mk (0 : Int) (0 : Int) (Item.mk (0 : Int) (0 : Int) (0 : Nat) ([] : (List Int))) (Item.mk (0 : Int) (0 : Int) (0 : Nat) ([] : (List Int)))) 44 := ow_z _ _ (Xz (fun x : Tuple => (x.Xmin, x.Xmax, x.Key, x.Value)) (Tuple.mk (0 : Int) (0 : Int) (Item.mk (0 : Int) (0 : Int) (0 : Nat) ([] : (List Int))) (Item.mk (0 : Int) (0 : Int) (0 : Nat) ([] : (List Int)))) (Xh (Xg .i64 (0 : Int)) (Xh (Xg .i64 (0 : Int)) (Xh (Xz (fun x : Item => (x.Kind, x.N, x.F, x.T)) (Item.mk (0 : Int) (0 : Int) (0 : Nat) ([] : (List Int))) (Xh (Xg .i64 (0 : Int)) (Xh (Xg .i64 (0 : Int)) (Xh (Yk (Yg rfl)) (Yc 5 (Kd.int .u8)))))) (Xz (fun x : Item => (x.Kind, x.N, x.F, x.T)) (Item.mk (0 : Int) (0 : Int) (0 : Nat) ([] : (List Int))) (Xh (Xg .i64 (0 : Int)) (Xh (Xg .i64 (0 : Int)) (Xh (Yk (Yg rfl)) (Yc 5 (Kd.int .u8))))))))))
  have K34 := Ky11.st p30 rfl
  exact re rfl func120 rfl (r_b B30 u79 rfl z79 rfl (Xu rfl Xe)) rfl ⟨_, rfl, (.float .f64 0), (.slice none 0 0), (.float .f64 0), (.slice none 0 0), rfl, A32.fo K34 rfl z.l, z.ky K34⟩
 refine sk (sr (Xs fa32_0 rfl (Yb By11_b2 u30 rfl (Xc rfl ?_))))
 refine ix' (A0_0.kp Ky11) u30 z59 rfl (fun ad36 es36 h0_36 h1_36 he36 ce36 ia36 => ?_)
 obtain ⟨v36_0, rfl, A36_0⟩ := op59 he36
 refine Xs fa59_1 rfl (lc ce36 u57 rfl rfl rfl rfl rfl rfl rfl rfl (Xc rfl (ix' A36_0 u57 z25 rfl (fun ad39 es39 h0_39 h1_39 he39 ce39 ia39 => ?_))))
 obtain ⟨v39, rfl, he39'⟩ := he39
 have A39 : RdF Yp s26 [v39] (at_ ((at_ a0.Pages a1).Slots) a2) [0] := ⟨v39, rfl, he39'⟩
 refine lc0' ce39 u25 rfl (cl' rfl func58 rfl (impl_TupleRead.calls (at_ ((at_ a0.Pages a1).Slots) a2) s26.w (mm [0] s26) v39 A39) ?_)
 rintro r42 _ w42 m42 ⟨v42_0, v42_1, v42_2, v42_3, rfl, f42_0, ky42⟩
 obtain ⟨s43, rfl, p43, n43⟩ := nwx s26 w42 45 ky42
 obtain ⟨s44, hw44, p44, hu42_0_0, Au42_0_1, hu42_0_2, Au42_0_3⟩ := ap79 46 (f42_0.c n43) rfl
 rw [hw44]
 refine Xc (v := (.agg #[(iI r42.1.Xmin), (iI r42.1.Xmax), (iI r42.1.Key.Kind), (iI r42.1.Key.N), v42_0, v42_1, (iI r42.1.Value.Kind), (iI r42.1.Value.N), v42_2, v42_3])) rfl (Xc (v := (.bool r42.2)) rfl ?_)
 refine Xw (vs := [(iI r42.1.Xmin), (iI r42.1.Xmax), (iI r42.1.Key.Kind), (iI r42.1.Key.N), v42_0, v42_1, (iI r42.1.Value.Kind), (iI r42.1.Value.N), v42_2, v42_3]) (By11_b4.st (Xo p43 p44) rfl) z79 rfl (Xb rfl (Xb rfl (Xb rfl (Xb rfl (Xb (FL.one hu42_0_0) (Xb Au42_0_1.rd.one (Xb rfl (Xb rfl (Xb (FL.one hu42_0_2) (Xb Au42_0_3.rd.one Xi)))))))))) rfl (fun s48 p48 B48 => ?_)
 refine Xc rfl (dn ?_)
 obtain ⟨s52, hw52, p52, A52⟩ := ow_2 (Xq (fun x : Item => (x.Kind, x.N, x.F, x.T)) r42.1.Key (Yj (Xg .i64 r42.1.Key.Kind) (Yj (Xg .i64 r42.1.Key.N) (Yj (Yk hu42_0_0) (Au42_0_1.st p48 rfl))))) (Xq (fun x : Item => (x.Kind, x.N, x.F, x.T)) r42.1.Value (Yj (Xg .i64 r42.1.Value.Kind) (Yj (Xg .i64 r42.1.Value.N) (Yj (Yk hu42_0_2) (Au42_0_3.st p48 rfl))))) rfl rfl
 rw [hw52]
 have A54 : OwF kd79 s52 [(iI r42.1.Xmin), (iI r42.1.Xmax), (iI r42.1.Key.Kind), (iI r42.1.Key.N), v42_0, v42_1, (iI r42.1.Value.Kind), (iI r42.1.Value.N), v42_2, v42_3] r42.1 45 := (Xq (fun x : Tuple => (x.Xmin, x.Xmax, x.Key, x.Value)) r42.1 (Yj (Xg .i64 r42.1.Xmin) (Yj (Xg .i64 r42.1.Xmax) A52)))
 have K57 := Ky11.st (tr4 p43 p44 p48 p52) rfl
 exact re rfl func120 rfl (r_b (B48.st p52 rfl) u79 rfl z79 rfl (Xu rfl Xe)) rfl ⟨_, rfl, v42_0, v42_1, v42_2, v42_3, rfl, A54.fo K57 rfl z.l, z.ky K57⟩
def impl_HeapAt.f (a0 : Heap) (a1 : Int) (a2 : Int) : Option (Tuple × Bool) :=
 ((impl_HeapOk.f a0).bind fun r9 => (if (!r9) = true then (some ((Tuple.mk (0 : Int) (0 : Int) (Item.mk (0 : Int) (0 : Int) (0 : Nat) ([] : (List Int))) (Item.mk (0 : Int) (0 : Int) (0 : Nat) ([] : (List Int)))), false)) else ((impl_Heap_at.f a0 a1 a2).bind fun r21 => (some (r21.1, r21.2)))))
def impl_HeapAt.Q (w : World) (F : Nat → Prop) (r : Tuple × Bool) (v : Value) (w' : World) : Prop :=
 ∃ (v0 : Value) (v1 : Value) (v2 : Value) (v3 : Value), v = .tuple #[(.agg #[(iI r.1.Xmin), (iI r.1.Xmax), (iI r.1.Key.Kind), (iI r.1.Key.N), v0, v1, (iI r.1.Value.Kind), (iI r.1.Value.N), v2, v3]), (.bool r.2)] ∧ FO kd79 w w' [(iI r.1.Xmin), (iI r.1.Xmax), (iI r.1.Key.Kind), (iI r.1.Key.N), v0, v1, (iI r.1.Value.Kind), (iI r.1.Value.N), v2, v3] r.1 ∧ Ky [] w w'
theorem impl_HeapAt.calls (a0 : Heap) (a1 : Int) (a2 : Int) (w : World) (F : Nat → Prop) (w0_0 : Value) (h0_0 : Yr.rd w [w0_0] a0.Pages F) (r : Tuple × Bool) (m : impl_HeapAt.f a0 a1 a2 = some r) :
  Calls prog 95 #[(.agg #[w0_0]), (iI a1), (iI a2)] w (RT (impl_HeapAt.Q w F) r) := by
 obtain ⟨s0, rfl, kp0, z⟩ := Xl w F
 have A0_0 := z.rd h0_0
 refine Xd (args := [(.agg #[w0_0]), (iI a1), (iI a2)]) func95 ntmps95 rfl rfl m ?_
 unfold impl_HeapAt.f
 refine sr (bx' (cs := [w0_0]) 40 rfl rfl (fun b2 s2 p2 B2 => ?_))
 refine al' (cs := [(iI 0), (iI 0), (iI 0), (iI 0), (.float .f64 0), (.slice none 0 0), (iI 0), (iI 0), (.float .f64 0), (.slice none 0 0)]) 41 rfl o79 rfl (fun b4 s4 p4 B4 => ?_)
 refine Xc rfl (dn (sq (sr ?_)))
 have A6 := B2.st p4 rfl
 refine Xy (es := [w0_0]) A6 u32 z32 rfl ?_
 have K7 := kp0.st (Xo p2 p4) rfl
 refine Ym 42 rfl func33 rfl (impl_HeapOk.calls a0 s4.w (mm [0] s4) w0_0 (A0_0.kp K7)) (fun r9 s10 p10 n10 => ?_)
 refine Xc rfl (dn (cd rfl (fun h11 => ?_) (fun h11 => ?_)))
 ·
  refine sr (bd' (cells := [(iI 0), (iI 0), (iI 0), (iI 0), (.float .f64 0), (.slice none 0 0), (iI 0), (iI 0), (.float .f64 0), (.slice none 0 0)]) pl79 o79 rfl rfl ?_)
  refine Xw (vs := [(iI 0), (iI 0), (iI 0), (iI 0), (.float .f64 0), (.slice none 0 0), (iI 0), (iI 0), (.float .f64 0), (.slice none 0 0)]) (B4.st p10 rfl) z79 rfl (Xb rfl (Xb rfl (Xb rfl (Xb rfl (Xb (FL.one (Yg rfl)) (Xb rfl (Xb rfl (Xb rfl (Xb (FL.one (Yg rfl)) (Xb rfl Xi)))))))))) rfl (fun s13 p13 B13 => ?_)
  refine Xc rfl (dn ?_)
  have A15 : OwF kd79 s13 [(iI 0), (iI 0), (iI 0), (iI 0), (.float .f64 0), (.slice none 0 0), (iI 0), (iI 0), (.float .f64 0), (.slice none 0 0)] (Tuple.mk (0 : Int) (0 : Int) (Item.mk (0 : Int) (0 : Int) (0 : Nat) ([] : (List Int))) (Item.mk (0 : Int) (0 : Int) (0 : Nat) ([] : (List Int)))) 43 := ow_z _ _ (Xz (fun x : Tuple => (x.Xmin, x.Xmax, x.Key, x.Value)) (Tuple.mk (0 : Int) (0 : Int) (Item.mk (0 : Int) (0 : Int) (0 : Nat) ([] : (List Int))) (Item.mk (0 : Int) (0 : Int) (0 : Nat) ([] : (List Int)))) (Xh (Xg .i64 (0 : Int)) (Xh (Xg .i64 (0 : Int)) (Xh (Xz (fun x : Item => (x.Kind, x.N, x.F, x.T)) (Item.mk (0 : Int) (0 : Int) (0 : Nat) ([] : (List Int))) (Xh (Xg .i64 (0 : Int)) (Xh (Xg .i64 (0 : Int)) (Xh (Yk (Yg rfl)) (Yc 5 (Kd.int .u8)))))) (Xz (fun x : Item => (x.Kind, x.N, x.F, x.T)) (Item.mk (0 : Int) (0 : Int) (0 : Nat) ([] : (List Int))) (Xh (Xg .i64 (0 : Int)) (Xh (Xg .i64 (0 : Int)) (Xh (Yk (Yg rfl)) (Yc 5 (Kd.int .u8))))))))))
  have K17 := K7.st (Xo p10 p13) rfl
  exact re rfl func95 rfl (r_b B13 u79 rfl z79 rfl (Xu rfl Xe)) rfl ⟨_, rfl, (.float .f64 0), (.slice none 0 0), (.float .f64 0), (.slice none 0 0), rfl, A15.fo K17 rfl z.l, z.ky K17⟩
 refine sk (sr ?_)
 refine Xy (es := [w0_0]) (A6.st p10 rfl) u32 z32 rfl (Xc rfl (Xc rfl ?_))
 have K19 := K7.st p10 rfl
 refine cl' rfl func120 rfl (impl_Heap_at.calls a0 a1 a2 s10.w (mm [0] s10) w0_0 (A0_0.kp K19)) ?_
 rintro r21 _ w21 m21 ⟨v21_0, v21_1, v21_2, v21_3, rfl, f21_0, ky21⟩
 obtain ⟨s22, rfl, p22, n22⟩ := nwx s10 w21 44 ky21
 obtain ⟨s23, hw23, p23, hu21_0_0, Au21_0_1, hu21_0_2, Au21_0_3⟩ := ap79 45 (f21_0.c n22) rfl
 rw [hw23]
 refine Xc (v := (.agg #[(iI r21.1.Xmin), (iI r21.1.Xmax), (iI r21.1.Key.Kind), (iI r21.1.Key.N), v21_0, v21_1, (iI r21.1.Value.Kind), (iI r21.1.Value.N), v21_2, v21_3])) rfl (Xc (v := (.bool r21.2)) rfl ?_)
 refine Xw (vs := [(iI r21.1.Xmin), (iI r21.1.Xmax), (iI r21.1.Key.Kind), (iI r21.1.Key.N), v21_0, v21_1, (iI r21.1.Value.Kind), (iI r21.1.Value.N), v21_2, v21_3]) (B4.st (Yi p10 p22 p23) rfl) z79 rfl (Xb rfl (Xb rfl (Xb rfl (Xb rfl (Xb (FL.one hu21_0_0) (Xb Au21_0_1.rd.one (Xb rfl (Xb rfl (Xb (FL.one hu21_0_2) (Xb Au21_0_3.rd.one Xi)))))))))) rfl (fun s27 p27 B27 => ?_)
 refine Xc rfl (dn ?_)
 obtain ⟨s31, hw31, p31, A31⟩ := ow_2 (Xq (fun x : Item => (x.Kind, x.N, x.F, x.T)) r21.1.Key (Yj (Xg .i64 r21.1.Key.Kind) (Yj (Xg .i64 r21.1.Key.N) (Yj (Yk hu21_0_0) (Au21_0_1.st p27 rfl))))) (Xq (fun x : Item => (x.Kind, x.N, x.F, x.T)) r21.1.Value (Yj (Xg .i64 r21.1.Value.Kind) (Yj (Xg .i64 r21.1.Value.N) (Yj (Yk hu21_0_2) (Au21_0_3.st p27 rfl))))) rfl rfl
 rw [hw31]
 have A33 : OwF kd79 s31 [(iI r21.1.Xmin), (iI r21.1.Xmax), (iI r21.1.Key.Kind), (iI r21.1.Key.N), v21_0, v21_1, (iI r21.1.Value.Kind), (iI r21.1.Value.N), v21_2, v21_3] r21.1 44 := (Xq (fun x : Tuple => (x.Xmin, x.Xmax, x.Key, x.Value)) r21.1 (Yj (Xg .i64 r21.1.Xmin) (Yj (Xg .i64 r21.1.Xmax) A31)))
 have K36 := K19.st (tr4 p22 p23 p27 p31) rfl
 exact re rfl func95 rfl (r_b (B27.st p31 rfl) u79 rfl z79 rfl (Xu rfl Xe)) rfl ⟨_, rfl, v21_0, v21_1, v21_2, v21_3, rfl, A33.fo K36 rfl z.l, z.ky K36⟩
def impl_HeapMark.f (a0 : Heap) (a1 : Int) (a2 : Int) (a3 : Int) (a4 : Int) : Option (Heap × Bool) :=
 ((impl_HeapAt.f a0 a1 a2).bind fun r9 => ((if (!r9.2) = true then (some true) else ((impl_within.f a3 (0 : Int) (400 : Int)).bind fun r26 => (some (!r26)))).bind fun y20 => (if y20 = true then (some ((Heap.mk ([] : (List Page))), false)) else ((impl_TupleBytes.f (Tuple.mk r9.1.Xmin a3 r9.1.Key r9.1.Value)).bind fun r59 => ((impl_Heap_put.f a0 a1 a2 r59 a4).bind fun r67 => (some (r67.1, r67.2)))))))
def impl_HeapMark.Q (w : World) (F : Nat → Prop) (r : Heap × Bool) (v : Value) (w' : World) : Prop :=
 ∃ (v0 : Value), v = .tuple #[(.agg #[v0]), (.bool r.2)] ∧ FO kd32 w w' [v0] r.1 ∧ Ky [] w w'
theorem impl_HeapMark.calls (a0 : Heap) (a1 : Int) (a2 : Int) (a3 : Int) (a4 : Int) (w : World) (F : Nat → Prop) (w0_0 : Value) (h0_0 : Yr.rd w [w0_0] a0.Pages F) (r : Heap × Bool) (m : impl_HeapMark.f a0 a1 a2 a3 a4 = some r) :
  Calls prog 68 #[(.agg #[w0_0]), (iI a1), (iI a2), (iI a3), (iI a4)] w (RT (impl_HeapMark.Q w F) r) := by
 obtain ⟨s0, rfl, kp0, z⟩ := Xl w F
 have A0_0 := z.rd h0_0
 refine Xd (args := [(.agg #[w0_0]), (iI a1), (iI a2), (iI a3), (iI a4)]) func68 ntmps68 rfl rfl m ?_
 unfold impl_HeapMark.f
 refine sr (bx' (cs := [w0_0]) 40 rfl rfl (fun b2 s2 p2 B2 => ?_))
 refine al' (cs := [(.slice none 0 0)]) 41 rfl o32 rfl (fun b4 s4 p4 B4 => ?_)
 refine Xc rfl (dn (sr ?_))
 have A6 := B2.st p4 rfl
 refine Xy (es := [w0_0]) A6 u32 z32 rfl (Xc rfl (Xc rfl ?_))
 have K7 := kp0.st (Xo p2 p4) rfl
 refine cl' rfl func95 rfl (impl_HeapAt.calls a0 a1 a2 s4.w (mm [0] s4) w0_0 (A0_0.kp K7)) ?_
 rintro r9 _ w9 m9 ⟨v9_0, v9_1, v9_2, v9_3, rfl, f9_0, ky9⟩
 obtain ⟨s10, rfl, p10, n10⟩ := nwx s4 w9 42 ky9
 obtain ⟨s11, hw11, p11, hu9_0_0, Au9_0_1, hu9_0_2, Au9_0_3⟩ := ap79 43 (f9_0.c n10) rfl
 rw [hw11]
 refine Xc rfl (Xc (v := (.agg #[(iI r9.1.Xmin), (iI r9.1.Xmax), (iI r9.1.Key.Kind), (iI r9.1.Key.N), v9_0, v9_1, (iI r9.1.Value.Kind), (iI r9.1.Value.N), v9_2, v9_3])) rfl (Xc (v := (.bool r9.2)) rfl (al' (cs := [(iI 0), (iI 0), (iI 0), (iI 0), (.float .f64 0), (.slice none 0 0), (iI 0), (iI 0), (.float .f64 0), (.slice none 0 0)]) 44 rfl o79 rfl (fun b14 s14 p14 B14 => ?_))))
 have A16 := Au9_0_3.st p14 rfl
 have A17 := Au9_0_1.st p14 rfl
 refine Xw (vs := [(iI r9.1.Xmin), (iI r9.1.Xmax), (iI r9.1.Key.Kind), (iI r9.1.Key.N), v9_0, v9_1, (iI r9.1.Value.Kind), (iI r9.1.Value.N), v9_2, v9_3]) B14 z79 rfl (Xb rfl (Xb rfl (Xb rfl (Xb rfl (Xb (FL.one hu9_0_0) (Xb A17.rd.one (Xb rfl (Xb rfl (Xb (FL.one hu9_0_2) (Xb A16.rd.one Xi)))))))))) rfl (fun s18 p18 B18 => ?_)
 refine Xc rfl (dn (sq (sr (Xc rfl (Xc rfl (Xc rfl (ji [] (fun (y20 : Bool) e w => ∃ (s : St) (e0 : Env), w = s.w ∧ e = upd (upd (upd (upd (upd (upd (upd (upd e0 1 (iI a1)) 2 (iI a2)) 3 (iI a3)) 4 (iI a4)) 5 (pB b2)) 10 (pB b4)) 12 (pB b14)) 27 (.bool y20) ∧ Kp s0 s ∧ BlF s b14 79 [(iI r9.1.Xmin), (iI r9.1.Xmax), (iI r9.1.Key.Kind), (iI r9.1.Key.N), v9_0, v9_1, (iI r9.1.Value.Kind), (iI r9.1.Value.N), v9_2, v9_3] 44 ∧ BlF s b4 32 [(.slice none 0 0)] 41 ∧ BlF s b2 32 [w0_0] 40 ∧ OwF Yp s [v9_1] r9.1.Key.T 42 ∧ OwF Yp s [v9_3] r9.1.Value.T 43) (fun Gj20 Kj20 => ?_) ?_)))))))
 ·
  rcases Yn (!r9.2) with hb20 | hb20
  ·
   refine Xx hb20 ?_
   rw [if_pos hb20]
   refine Xj rfl (Xj rfl (Xj rfl (Xc rfl ?_)))
   exact Kj20 _ _ _ ⟨s18, _, rfl, (ue (ue (ue (ue (ue (ue (ue (ue rfl rfl) rfl) rfl) rfl) rfl) rfl) rfl) rfl), (K7.st (tr4 p10 p11 p14 p18) rfl), B18, (B4.st (tr4 p10 p11 p14 p18) rfl), (A6.st (tr4 p10 p11 p14 p18) rfl), (A17.st p18 rfl), (A16.st p18 rfl)⟩
  refine Xx hb20 ?_
  rw [if_neg (by rw [hb20]; decide)]
  refine Xc rfl (Ym 45 rfl func63 rfl (impl_within.calls a3 (0 : Int) (400 : Int) s18.w (mm [] s18)) (fun r26 s27 p27 n27 => ?_))
  refine Xc rfl (Xc rfl ?_)
  exact Kj20 _ _ _ ⟨s27, _, rfl, (ue (ue (ue (ue (ue (ue (ue (ue rfl rfl) rfl) rfl) rfl) rfl) rfl) rfl) rfl), (K7.st (tr5 p10 p11 p14 p18 p27) rfl), (B18.st p27 rfl), (B4.st (tr5 p10 p11 p14 p18 p27) rfl), (A6.st (tr5 p10 p11 p14 p18 p27) rfl), (A17.st (Xo p18 p27) rfl), (A16.st (Xo p18 p27) rfl)⟩
 rintro y20 _ _ ⟨s34, _, rfl, rfl, Ky20, By20_b14, By20_b4, By20_b2, Cy20_12, Cy20_13⟩
 refine dn (cd rfl (fun h38 => ?_) (fun h38 => ?_))
 ·
  refine sr (bd' (cells := [(.slice none 0 0)]) pl32 o32 rfl rfl (Xw (vs := [(.slice none 0 0)]) By20_b4 z32 rfl (Xb rfl Xi) rfl (fun s39 p39 B39 => ?_)))
  refine Xc rfl (dn ?_)
  have A41 : OwF kd32 s39 [(.slice none 0 0)] (Heap.mk ([] : (List Page))) 46 := ow_z _ _ (Xz (fun x : Heap => (x.Pages)) (Heap.mk ([] : (List Page))) (Yc 59 kd59))
  have K43 := Ky20.st p39 rfl
  exact re rfl func68 rfl (r_b B39 u32 rfl z32 rfl (Xu rfl Xe)) rfl ⟨_, rfl, (.slice none 0 0), rfl, A41.fo K43 rfl z.l, z.ky K43⟩
 refine sk (sr (Xc rfl (Xs fa79_1 rfl (sv' By20_b14 z3 rfl rfl rfl (fun s44 p44 B44 => ?_)))))
 refine dn (sq (zdraw [[], [], [], [], [3], [], [0, 1, 2, 4, 5, 4], [6], [6], [7, 6, 0, 1, 2, 3, 4, 5, 6, 7, 8], [8, 9, 0, 1, 2, 3, 4, 5, 6, 7, 8, 9]] [some 31, some 32, some 33, some 34, some 35, some 36, some 37, some 38, some 39, none, some 11] [[5], [1], [2], [12], [34], [4], [31, 32, 33, 35, 36], [37], [37], [10, 38], [39]] [0, 1, 2, 3, 4, 5, 6, 7, 8, 9, 10] ⟨by kernel_rfl, by kernel_rfl, by kernel_rfl⟩ (by kernel_rfl) (fun s46 p46 l46 tb46 zd46 => ?_)))
 refine Xv 4 [some 36, some 33, some 32, some 31] tb46 (((((zd46.add 0 31 (.agg #[w0_0]) rfl).add 1 32 (iI a1) rfl).add 2 33 (iI a2) rfl).add 3 34 (.agg #[(iI r9.1.Xmin), (iI a3), (iI r9.1.Key.Kind), (iI r9.1.Key.N), v9_0, v9_1, (iI r9.1.Value.Kind), (iI r9.1.Value.N), v9_2, v9_3]) rfl).add 5 36 (iI a4) rfl) (Xa (Xm rfl) rfl (Xa (Yh (es := [(iI r9.1.Xmin), (iI a3), (iI r9.1.Key.Kind), (iI r9.1.Key.N), v9_0, v9_1, (iI r9.1.Value.Kind), (iI r9.1.Value.N), v9_2, v9_3]) (B44.st p46 rfl) u79 z79 rfl) rfl (Xa (Xm rfl) rfl (Xa (Xm rfl) rfl (Xa (Yh (es := [w0_0]) (By20_b2.st (Xo p44 p46) rfl) u32 z32 rfl) rfl Xf))))) (by kernel_rfl) rfl (fun l54 e54 zd54 => ?_)
 refine clO 47 rfl func90 rfl (impl_TupleBytes.calls (Tuple.mk r9.1.Xmin a3 r9.1.Key r9.1.Value) s46.w (mm [42, 43] s46) v9_0 v9_1 v9_2 v9_3 ((Yd (s := s46) hu9_0_0).sub (D := [42, 43]) rfl) ((Cy20_12.st (Xo p44 p46) rfl).rd.sub (D := [42, 43]) rfl) ((Yd (s := s46) hu9_0_2).sub (D := [42, 43]) rfl) ((Cy20_13.st (Xo p44 p46) rfl).rd.sub (D := [42, 43]) rfl)) (fun r59 v59_0 s60 p60 A59_0 => ?_)
 refine Xk (L' := [5, 2, 1, 0]) (D' := [3, 4]) zd54 rfl (fun zd62 => ?_)
 refine Xv 6 [] tb46 zd62 (Xa (Xm rfl) rfl (Xa (Xm rfl) rfl (Xa (Xm rfl) rfl (Xa (Yh (es := [w0_0]) (By20_b2.st (Yi p44 p46 p60) rfl) u32 z32 rfl) rfl Xf)))) (by kernel_rfl) rfl (fun l63 e63 zd63 => ?_)
 have K65 := Ky20.st (Yi p44 p46 p60) rfl
 refine cl' rfl func67 rfl (impl_Heap_put.calls a0 a1 a2 r59 a4 s60.w (mm [0, 47] s60) w0_0 v59_0 ((A0_0.kp K65).sub (D := [0, 47]) rfl) (A59_0.rd.sub (D := [0, 47]) rfl)) ?_
 rintro r67 _ w67 m67 ⟨v67_0, rfl, f67_0, ky67⟩
 obtain ⟨s68, rfl, p68, n68⟩ := nwx s60 w67 48 ky67
 have Au67_0_0 := ap32 (f67_0.c n68)
 refine Xk (L' := []) (D' := [0, 1, 2, 5, 6, 3, 4]) zd63 rfl (fun zd70 => ?_)
 refine zfin [9, 10] tb46 ((zd70.add 7 38 (.agg #[v67_0]) rfl).add 8 39 (.bool r67.2) rfl) (Xa (Xm (v := (.bool r67.2)) rfl) rfl (Xa (Xm (v := (.agg #[v67_0])) rfl) rfl Xf)) (by kernel_rfl) (by decide) (Xw (vs := [v67_0]) (By20_b4.st (tr4 p44 p46 p60 p68) rfl) z32 rfl (Xb Au67_0_0.rd.one Xi) rfl (fun s74 p74 B74 => ?_))
 refine Xc rfl (dn ?_)
 have A76 : OwF kd32 s74 [v67_0] r67.1 48 := (Xq (fun x : Heap => (x.Pages)) r67.1 (Au67_0_0.st p74 rfl))
 have K79 := K65.st (Xo p68 p74) rfl
 exact re rfl func68 rfl (r_b B74 u32 rfl z32 rfl (Xu rfl Xe)) rfl ⟨_, rfl, v67_0, rfl, A76.fo K79 rfl z.l, z.ky K79⟩
def impl_PageClear.b0 (a2 : Int) (x58 : (List (List Int))) : Option ((List (List Int)) ⊕ (Page × Bool)) :=
 ((if (decide ((x58.length : Int) > (0 : Int))) = true then (if 0 ≤ (IntKind.wrap .i64 ((x58.length : Int) - (1 : Int))) ∧ (IntKind.wrap .i64 ((x58.length : Int) - (1 : Int))) < (x58.length : Int) then (some (((at_ x58 (IntKind.wrap .i64 ((x58.length : Int) - (1 : Int)))).length : Int) == (0 : Int))) else none) else (some false)).bind fun y66 => (if y66 = true then (if 0 ≤ (IntKind.wrap .i64 ((x58.length : Int) - (1 : Int))) ∧ (IntKind.wrap .i64 ((x58.length : Int) - (1 : Int))) ≤ (x58.length : Int) then (some (Sum.inl (x58.take ((IntKind.wrap .i64 ((x58.length : Int) - (1 : Int)))).toNat))) else none) else ((some ((Page.mk a2 x58), true)).bind fun o => some (Sum.inr o))))
def impl_PageClear.f (a0 : Page) (a1 : Int) (a2 : Int) : Option (Page × Bool) :=
 ((impl_PageUsed.f a0).bind fun r9 => ((if (decide (r9 < (0 : Int))) = true then (some true) else ((impl_within.f a1 (0 : Int) (IntKind.wrap .i64 ((a0.Slots.length : Int) - (1 : Int)))).bind fun r18 => (some (!r18)))).bind fun y11 => ((if y11 = true then (some true) else ((impl_isLsn.f a2).bind fun r27 => (some (!r27)))).bind fun y26 => (if y26 = true then (some ((Page.mk (0 : Int) ([] : (List (List Int)))), false)) else ((impl_Page_slots.f a0).bind fun r42 => (if 0 ≤ a1 ∧ a1 < (r42.length : Int) then (iter (impl_PageClear.b0 a2) (r42.set (a1).toNat ([] : (List Int)))) else none))))))
def impl_PageClear.Q (w : World) (F : Nat → Prop) (r : Page × Bool) (v : Value) (w' : World) : Prop :=
 ∃ (v0 : Value), v = .tuple #[(.agg #[(iI r.1.Lsn), v0]), (.bool r.2)] ∧ FO kd59 w w' [(iI r.1.Lsn), v0] r.1 ∧ Ky [] w w'
theorem impl_PageClear.calls (a0 : Page) (a1 : Int) (a2 : Int) (w : World) (F : Nat → Prop) (w0_0 : Value) (h0_0 : (Kd.sl 25 Yp).rd w [w0_0] a0.Slots F) (r : Page × Bool) (m : impl_PageClear.f a0 a1 a2 = some r) :
  Calls prog 96 #[(.agg #[(iI a0.Lsn), w0_0]), (iI a1), (iI a2)] w (RT (impl_PageClear.Q w F) r) := by
 obtain ⟨s0, rfl, kp0, z⟩ := Xl w F
 have A0_0 := z.rd h0_0
 refine Xd (args := [(.agg #[(iI a0.Lsn), w0_0]), (iI a1), (iI a2)]) func96 ntmps96 rfl rfl m ?_
 unfold impl_PageClear.f
 refine sr (bx' (cs := [(iI a0.Lsn), w0_0]) 40 rfl rfl (fun b2 s2 p2 B2 => ?_))
 refine al' (cs := [(iI 0), (.slice none 0 0)]) 41 rfl o59 rfl (fun b4 s4 p4 B4 => ?_)
 refine Xc rfl (dn (sq (sr ?_)))
 have A6 := B2.st p4 rfl
 refine Xy (es := [(iI a0.Lsn), w0_0]) A6 u59 z59 rfl ?_
 have K7 := kp0.st (Xo p2 p4) rfl
 refine Ym 42 rfl func55 rfl (impl_PageUsed.calls a0 s4.w (mm [0] s4) w0_0 (A0_0.kp K7)) (fun r9 s10 p10 n10 => ?_)
 refine Xc rfl (Xc rfl (ji [12, 13, 14, 15, 16] (fun (y11 : Bool) e w => ∃ (s : St) (e0 : Env), w = s.w ∧ e = upd (upd (upd (upd (upd e0 1 (iI a1)) 2 (iI a2)) 3 (pB b2)) 6 (pB b4)) 20 (.bool y11) ∧ Kp s0 s ∧ BlF s b4 59 [(iI 0), (.slice none 0 0)] 41 ∧ BlF s b2 59 [(iI a0.Lsn), w0_0] 40) (fun Gj11 Kj11 => ?_) ?_))
 ·
  rcases Yn (decide (r9 < (0 : Int))) with hb11 | hb11
  ·
   refine Xx hb11 ?_
   rw [if_pos hb11]
   refine Xj rfl (Xj rfl (Xj rfl (Xj rfl (Xj rfl (Xj rfl (Xj rfl (Xc rfl ?_)))))))
   exact Kj11 _ _ _ ⟨s10, _, rfl, (ue (ue (ue (ue (ue rfl rfl) rfl) rfl) rfl) rfl), (K7.st p10 rfl), (B4.st p10 rfl), (A6.st p10 rfl)⟩
  refine Xx hb11 ?_
  rw [if_neg (by rw [hb11]; decide)]
  refine Xc rfl (Xs fa59_1 rfl ?_)
  have A15 := A6.st p10 rfl
  refine Yb A15 u57 rfl ?_
  have K16 := K7.st p10 rfl
  refine Yo (A0_0.kp K16) u57 rfl (Xc rfl (Ym 43 rfl func63 rfl (impl_within.calls a1 (0 : Int) (IntKind.wrap .i64 ((a0.Slots.length : Int) - (1 : Int))) s10.w (mm [] s10)) (fun r18 s19 p19 n19 => ?_)))
  refine Xc rfl (Xc rfl ?_)
  exact Kj11 _ _ _ ⟨s19, _, rfl, (ue (ue (ue (ue (ue rfl rfl) rfl) rfl) rfl) rfl), (K16.st p19 rfl), (B4.st (Xo p10 p19) rfl), (A15.st p19 rfl)⟩
 rintro y11 _ _ ⟨s23, _, rfl, rfl, Ky11, By11_b4, By11_b2⟩
 refine Xc rfl (ji [] (fun (y26 : Bool) e w => ∃ (s : St) (e0 : Env), w = s.w ∧ e = upd (upd (upd (upd (upd e0 1 (iI a1)) 2 (iI a2)) 3 (pB b2)) 6 (pB b4)) 25 (.bool y26) ∧ Kp s0 s ∧ BlF s b4 59 [(iI 0), (.slice none 0 0)] 41 ∧ BlF s b2 59 [(iI a0.Lsn), w0_0] 40) (fun Gj26 Kj26 => ?_) ?_)
 ·
  rcases Yn y11 with hb26 | hb26
  ·
   refine Xx hb26 ?_
   rw [if_pos hb26]
   exact Xj rfl (Xj rfl (Xj rfl (Xc rfl (Kj26 _ _ _ ⟨s23, _, rfl, (ue (ue (ue (ue (ue rfl rfl) rfl) rfl) rfl) rfl), Ky11, By11_b4, By11_b2⟩))))
  refine Xx hb26 ?_
  rw [if_neg (by rw [hb26]; decide)]
  refine Xc rfl (Ym 44 rfl func59 rfl (impl_isLsn.calls a2 s23.w (mm [] s23)) (fun r27 s28 p28 n28 => ?_))
  refine Xc rfl (Xc rfl ?_)
  exact Kj26 _ _ _ ⟨s28, _, rfl, (ue (ue (ue (ue (ue rfl rfl) rfl) rfl) rfl) rfl), (Ky11.st p28 rfl), (By11_b4.st p28 rfl), (By11_b2.st p28 rfl)⟩
 rintro y26 _ _ ⟨s32, _, rfl, rfl, Ky26, By26_b4, By26_b2⟩
 refine dn (cd rfl (fun h35 => ?_) (fun h35 => ?_))
 ·
  refine sr (bd' (cells := [(iI 0), (.slice none 0 0)]) pl59 o59 rfl rfl (Xw (vs := [(iI 0), (.slice none 0 0)]) By26_b4 z59 rfl (Xb rfl (Xb rfl Xi)) rfl (fun s36 p36 B36 => ?_)))
  refine Xc rfl (dn ?_)
  have A38 : OwF kd59 s36 [(iI 0), (.slice none 0 0)] (Page.mk (0 : Int) ([] : (List (List Int)))) 45 := ow_z _ _ (Xz (fun x : Page => (x.Lsn, x.Slots)) (Page.mk (0 : Int) ([] : (List (List Int)))) (Xh (Xg .i64 (0 : Int)) (Yc 25 Yp)))
  have K40 := Ky26.st p36 rfl
  exact re rfl func96 rfl (r_b B36 u59 rfl z59 rfl (Xu rfl Xe)) rfl ⟨_, rfl, (.slice none 0 0), rfl, A38.fo K40 rfl z.l, z.ky K40⟩
 refine sk (sr (Xc rfl (Xy (es := [(iI a0.Lsn), w0_0]) By26_b2 u59 z59 rfl ?_)))
 refine clO 46 rfl func35 rfl (impl_Page_slots.calls a0 s32.w (mm [0] s32) w0_0 (A0_0.kp Ky26)) (fun r42 v42_0 s43 p43 A42_0 => ?_)
 refine bd' (cells := [(iI a2), v42_0]) pl59 o59 rfl (lfill_pc (pc_c rfl (pc_c (oc A42_0.rd.one) pc_n)) rfl) (al' (cs := [(iI 0), (.slice none 0 0)]) 47 rfl o59 rfl (fun b45 s45 p45 B45 => ?_))
 have A47 := A42_0.st p45 rfl
 refine Xw (vs := [(iI a2), v42_0]) B45 z59 rfl (Xb rfl (Xb A47.rd.one Xi)) rfl (fun s48 p48 B48 => ?_)
 refine dn (sr (Xs fa59_1 rfl (Yb B48 u57 rfl (Xc rfl ?_))))
 have A50 := A47.st p48 rfl
 refine ix' A50.rd u57 z25 rfl (fun ad51 es51 h0_51 h1_51 he51 ce51 ia51 => ?_)
 obtain ⟨v51, rfl, he51'⟩ := he51
 have A51 : RdF Yp s48 [v51] (at_ r42 a1) [46] := ⟨v51, rfl, he51'⟩
 have A54 : OwF Yp s48 [(.slice none 0 0)] ([] : (List Int)) 48 := ow_z _ _ (Yc 5 (Kd.int .u8))
 refine sog (x' := ([] : (List Int))) lg_id A50 ia51 h0_51 h1_51 A54 rfl rfl z25 rfl rfl rfl rfl rfl rfl (fun s56 p56 A56 => ?_)
 refine dn (sq (bl ?_))
 refine lpI (fun (x58 : (List (List Int))) e w => ∃ (s : St) (e0 : Env) (vx58_0 : Value), w = s.w ∧ e = upd (upd e0 6 (pB b4)) 8 (pB b45) ∧ Kp s0 s ∧ OwF (Kd.sl 25 Yp) s [vx58_0] x58 46 ∧ BlF s b45 59 [(iI a2), vx58_0] 47 ∧ BlF s b4 59 [(iI 0), (.slice none 0 0)] 41) ⟨s56, _, v42_0, rfl, (ue (ue rfl rfl) rfl), (Ky26.st (tr4 p43 p45 p48 p56) rfl), A56, (B48.st p56 rfl), (By26_b4.st (tr4 p43 p45 p48 p56) rfl)⟩ (fun g58 ih58 => ?_)
 rintro x58 _ _ ⟨s62, _, vx58_0, rfl, rfl, Kx58, Ax58_0, Bx58_b45, Bx58_b4⟩
 unfold impl_PageClear.b0
 refine sq (sr (Xs fa59_1 rfl (Yb Bx58_b45 u57 rfl (Yo Ax58_0.rd u57 rfl (Xc rfl (Xc rfl (ji [] (fun (y66 : Bool) e w => ∃ (s : St) (e0 : Env), w = s.w ∧ e = upd (upd (upd e0 6 (pB b4)) 8 (pB b45)) 50 (.bool y66) ∧ Kp s0 s ∧ BlF s b45 59 [(iI a2), vx58_0] 47 ∧ BlF s b4 59 [(iI 0), (.slice none 0 0)] 41 ∧ OwF (Kd.sl 25 Yp) s [vx58_0] x58 46) (fun Gj66 Kj66 => ?_) ?_)))))))
 ·
  rcases Yn (decide ((x58.length : Int) > (0 : Int))) with hb66 | hb66
  ·
   refine Xx hb66 ?_
   rw [if_pos hb66]
   refine Xs fa59_1 rfl (Yb Bx58_b45 u57 rfl (Xs fa59_1 rfl (Yb Bx58_b45 u57 rfl (Yo Ax58_0.rd u57 rfl (Xc rfl (ix' Ax58_0.rd u57 z25 rfl (fun ad67 es67 h0_67 h1_67 he67 ce67 ia67 => ?_)))))))
   obtain ⟨v67, rfl, he67'⟩ := he67
   have A67 : RdF Yp s62 [v67] (at_ x58 (IntKind.wrap .i64 ((x58.length : Int) - (1 : Int)))) [46] := ⟨v67, rfl, he67'⟩
   exact lc0' ce67 u25 rfl (Yo A67 u25 rfl (Xc rfl (Xc rfl (Kj66 _ _ _ ⟨s62, _, rfl, (ue (ue (ue rfl rfl) rfl) rfl), Kx58, Bx58_b45, Bx58_b4, Ax58_0⟩))))
  refine Xx hb66 ?_
  rw [if_neg (by rw [hb66]; decide)]
  exact Xj rfl (Xj rfl (Xj rfl (Xj rfl (Xj rfl (Xj rfl (Xj rfl (Xj rfl (Xj rfl (Xj rfl (Xc rfl (Kj66 _ _ _ ⟨s62, _, rfl, (ue (ue (ue rfl rfl) rfl) rfl), Kx58, Bx58_b45, Bx58_b4, Ax58_0⟩)))))))))))
 rintro y66 _ _ ⟨s70, _, rfl, rfl, Ky66, By66_b45, By66_b4, Cy66_63⟩
 refine dn (cd rfl (fun h73 => ?_) (fun h73 => ?_))
 ·
  refine sk (bl (rg (Xs fa59_1 rfl (Yb By66_b45 u57 rfl (Xs fa59_1 rfl (Yb By66_b45 u57 rfl (Yo Cy66_63.rd u57 rfl (Xc rfl (slO Cy66_63 u57 z25 rfl rfl rfl rfl rfl rfl rfl (fun v74 A74 => ?_))))))))))
  refine Xs fa59_1 rfl (sv' By66_b45 z57 rfl A74.rd.one rfl (fun s76 p76 B76 => ?_))
  refine dn (ib ?_)
  exact lb ih58 ⟨s76, _, v74, rfl, (ue (ue rfl rfl) rfl), (Ky66.st p76 rfl), (A74.st p76 rfl), B76, (By66_b4.st p76 rfl)⟩
 refine xt rfl (sgb (sr (Xy (es := [(iI a2), vx58_0]) By66_b45 u59 z59 rfl (Xw (vs := [(iI a2), vx58_0]) By66_b4 z59 rfl (Xb rfl (Xb Cy66_63.rd.one Xi)) rfl (fun s81 p81 B81 => ?_)))))
 refine Xc rfl (dn ?_)
 have A83 : OwF kd59 s81 [(iI a2), vx58_0] (Page.mk a2 x58) 46 := (Xq (fun x : Page => (x.Lsn, x.Slots)) (Page.mk a2 x58) (Yj (Xg .i64 a2) (Cy66_63.st p81 rfl)))
 have K86 := Ky66.st p81 rfl
 exact re rfl func96 rfl (r_b B81 u59 rfl z59 rfl (Xu rfl Xe)) rfl ⟨_, rfl, vx58_0, rfl, A83.fo K86 rfl z.l, z.ky K86⟩
def impl_HeapClear.f (a0 : Heap) (a1 : Int) (a2 : Int) (a3 : Int) : Option (Heap × Bool) :=
 ((impl_HeapAt.f a0 a1 a2).bind fun r9 => (if (!r9.2) = true then (some ((Heap.mk ([] : (List Page))), false)) else (if 0 ≤ a1 ∧ a1 < (a0.Pages.length : Int) then ((impl_PageClear.f (at_ a0.Pages a1) a2 a3).bind fun r33 => (if (!r33.2) = true then (some ((Heap.mk ([] : (List Page))), false)) else ((impl_Heap_with.f a0 a1 r33.1).bind fun r54 => (some (r54, true))))) else none)))
def impl_HeapClear.Q (w : World) (F : Nat → Prop) (r : Heap × Bool) (v : Value) (w' : World) : Prop :=
 ∃ (v0 : Value), v = .tuple #[(.agg #[v0]), (.bool r.2)] ∧ FO kd32 w w' [v0] r.1 ∧ Ky [] w w'
theorem impl_HeapClear.calls (a0 : Heap) (a1 : Int) (a2 : Int) (a3 : Int) (w : World) (F : Nat → Prop) (w0_0 : Value) (h0_0 : Yr.rd w [w0_0] a0.Pages F) (r : Heap × Bool) (m : impl_HeapClear.f a0 a1 a2 a3 = some r) :
  Calls prog 69 #[(.agg #[w0_0]), (iI a1), (iI a2), (iI a3)] w (RT (impl_HeapClear.Q w F) r) := by
 obtain ⟨s0, rfl, kp0, z⟩ := Xl w F
 have A0_0 := z.rd h0_0
 refine Xd (args := [(.agg #[w0_0]), (iI a1), (iI a2), (iI a3)]) func69 ntmps69 rfl rfl m ?_
 unfold impl_HeapClear.f
 refine sr (bx' (cs := [w0_0]) 40 rfl rfl (fun b2 s2 p2 B2 => ?_))
 refine al' (cs := [(.slice none 0 0)]) 41 rfl o32 rfl (fun b4 s4 p4 B4 => ?_)
 refine Xc rfl (dn (sq (sr ?_)))
 have A6 := B2.st p4 rfl
 refine Xy (es := [w0_0]) A6 u32 z32 rfl (Xc rfl (Xc rfl ?_))
 have K7 := kp0.st (Xo p2 p4) rfl
 refine cl' rfl func95 rfl (impl_HeapAt.calls a0 a1 a2 s4.w (mm [0] s4) w0_0 (A0_0.kp K7)) ?_
 rintro r9 _ w9 m9 ⟨v9_0, v9_1, v9_2, v9_3, rfl, f9_0, ky9⟩
 obtain ⟨s10, rfl, p10, n10⟩ := nwx s4 w9 42 ky9
 obtain ⟨s11, hw11, p11, hu9_0_0, Au9_0_1, hu9_0_2, Au9_0_3⟩ := ap79 43 (f9_0.c n10) rfl
 rw [hw11]
 refine Xc rfl (Xc (v := (.agg #[(iI r9.1.Xmin), (iI r9.1.Xmax), (iI r9.1.Key.Kind), (iI r9.1.Key.N), v9_0, v9_1, (iI r9.1.Value.Kind), (iI r9.1.Value.N), v9_2, v9_3])) rfl (Xc (v := (.bool r9.2)) rfl (al' (cs := [(iI 0), (iI 0), (iI 0), (iI 0), (.float .f64 0), (.slice none 0 0), (iI 0), (iI 0), (.float .f64 0), (.slice none 0 0)]) 44 rfl o79 rfl (fun b14 s14 p14 B14 => ?_))))
 refine Xw (vs := [(iI r9.1.Xmin), (iI r9.1.Xmax), (iI r9.1.Key.Kind), (iI r9.1.Key.N), v9_0, v9_1, (iI r9.1.Value.Kind), (iI r9.1.Value.N), v9_2, v9_3]) B14 z79 rfl (Xb rfl (Xb rfl (Xb rfl (Xb rfl (Xb (FL.one hu9_0_0) (Xb (Au9_0_1.st p14 rfl).rd.one (Xb rfl (Xb rfl (Xb (FL.one hu9_0_2) (Xb (Au9_0_3.st p14 rfl).rd.one Xi)))))))))) rfl (fun s18 p18 B18 => ?_)
 refine Xc rfl (dn (sr (Xc rfl (Xc rfl (dn (cd rfl (fun h20 => ?_) (fun h20 => ?_)))))))
 ·
  refine sr (bd' (cells := [(.slice none 0 0)]) pl32 o32 rfl rfl ?_)
  refine Xw (vs := [(.slice none 0 0)]) (B4.st (tr4 p10 p11 p14 p18) rfl) z32 rfl (Xb rfl Xi) rfl (fun s22 p22 B22 => ?_)
  refine Xc rfl (dn ?_)
  have A24 : OwF kd32 s22 [(.slice none 0 0)] (Heap.mk ([] : (List Page))) 45 := ow_z _ _ (Xz (fun x : Heap => (x.Pages)) (Heap.mk ([] : (List Page))) (Yc 59 kd59))
  have K26 := K7.st (tr5 p10 p11 p14 p18 p22) rfl
  exact re rfl func69 rfl (r_b B22 u32 rfl z32 rfl (Xu rfl Xe)) rfl ⟨_, rfl, (.slice none 0 0), rfl, A24.fo K26 rfl z.l, z.ky K26⟩
 refine sk (sr (Xs fa32_0 rfl ?_))
 have A27 := A6.st (tr4 p10 p11 p14 p18) rfl
 refine Yb A27 u30 rfl (Xc rfl ?_)
 have K28 := K7.st (tr4 p10 p11 p14 p18) rfl
 refine ix' (A0_0.kp K28) u30 z59 rfl (fun ad30 es30 h0_30 h1_30 he30 ce30 ia30 => ?_)
 obtain ⟨v30_0, rfl, A30_0⟩ := op59 he30
 refine lca ce30 u59 z59 rfl rfl rfl rfl rfl rfl rfl (Xc rfl (Xc rfl (cl' rfl func96 rfl (impl_PageClear.calls (at_ a0.Pages a1) a2 a3 s18.w (mm [0] s18) v30_0 A30_0) ?_)))
 rintro r33 _ w33 m33 ⟨v33_0, rfl, f33_0, ky33⟩
 obtain ⟨s34, rfl, p34, n34⟩ := nwx s18 w33 46 ky33
 refine Xc rfl (Xc (v := (.agg #[(iI r33.1.Lsn), v33_0])) rfl (Xc (v := (.bool r33.2)) rfl (al' (cs := [(iI 0), (.slice none 0 0)]) 47 rfl o59 rfl (fun b36 s36 p36 B36 => ?_))))
 have A38 := (ap59 (f33_0.c n34)).st p36 rfl
 refine Xw (vs := [(iI r33.1.Lsn), v33_0]) B36 z59 rfl (Xb rfl (Xb A38.rd.one Xi)) rfl (fun s39 p39 B39 => ?_)
 refine Xc rfl (dn (sq (sr (Xc rfl (Xc rfl (dn (cd rfl (fun h41 => ?_) (fun h41 => ?_))))))))
 ·
  refine sr (bd' (cells := [(.slice none 0 0)]) pl32 o32 rfl rfl ?_)
  refine Xw (vs := [(.slice none 0 0)]) (B4.st (tr7 p10 p11 p14 p18 p34 p36 p39) rfl) z32 rfl (Xb rfl Xi) rfl (fun s43 p43 B43 => ?_)
  refine Xc rfl (dn ?_)
  have A45 : OwF kd32 s43 [(.slice none 0 0)] (Heap.mk ([] : (List Page))) 48 := ow_z _ _ (Xz (fun x : Heap => (x.Pages)) (Heap.mk ([] : (List Page))) (Yc 59 kd59))
  have K47 := K28.st (tr4 p34 p36 p39 p43) rfl
  exact re rfl func69 rfl (r_b B43 u32 rfl z32 rfl (Xu rfl Xe)) rfl ⟨_, rfl, (.slice none 0 0), rfl, A45.fo K47 rfl z.l, z.ky K47⟩
 refine sk (sr ?_)
 refine Xy (es := [w0_0]) (A27.st (Yi p34 p36 p39) rfl) u32 z32 rfl (Xc rfl (Xy (es := [(iI r33.1.Lsn), v33_0]) B39 u59 z59 rfl ?_))
 have K49 := K28.st (Yi p34 p36 p39) rfl
 have A51 : OwF kd59 s39 [(iI r33.1.Lsn), v33_0] r33.1 46 := (Xq (fun x : Page => (x.Lsn, x.Slots)) r33.1 (Yj (Xg .i64 r33.1.Lsn) (A38.st p39 rfl)))
 obtain ⟨os54, ho54, hn54, hc54⟩ := A51
 refine cl' rfl func66 rfl (impl_Heap_with.calls a0 a1 r33.1 s39.w (mm [0] s39) w0_0 v33_0 (A0_0.kp K49) os54 ho54 hn54 (apart_of hc54 rfl)) ?_
 rintro r54 _ w54 m54 ⟨v54_0, rfl, f54_0, ky54⟩
 obtain ⟨s55, rfl, p55, n55⟩ := nwm 49 hc54 ky54 rfl
 have Au54_0_0 := ap32 (f54_0.m n55)
 refine Xw (vs := [v54_0]) (B4.st (tr8 p10 p11 p14 p18 p34 p36 p39 p55) rfl) z32 rfl (Xb Au54_0_0.rd.one Xi) rfl (fun s58 p58 B58 => ?_)
 refine Xc rfl (dn ?_)
 have A60 : OwF kd32 s58 [v54_0] r54 49 := (Xq (fun x : Heap => (x.Pages)) r54 (Au54_0_0.st p58 rfl))
 have K63 := K49.st (Xo p55 p58) rfl
 exact re rfl func69 rfl (r_b B58 u32 rfl z32 rfl (Xu rfl Xe)) rfl ⟨_, rfl, v54_0, rfl, A60.fo K63 rfl z.l, z.ky K63⟩
def impl_Heap_changed.f (a0 : Heap) (a1 : Record) : Option (Heap × Bool) :=
 (if (a1.Kind == (1 : Int)) = true then ((impl_PageRead.f a1.Data).bind fun r13 => (if (!r13.2) = true then (some ((Heap.mk ([] : (List Page))), false)) else ((impl_Heap_with.f a0 a1.Page (Page.mk a1.Lsn r13.1.Slots)).bind fun r38 => (some (r38, true))))) else (if (a1.Kind == (2 : Int)) = true then ((impl_Heap_put.f a0 a1.Page a1.Slot a1.Data a1.Lsn).bind fun r53 => (some (r53.1, r53.2))) else (if (a1.Kind == (3 : Int)) = true then ((impl_HeapMark.f a0 a1.Page a1.Slot a1.Xid a1.Lsn).bind fun r67 => (some (r67.1, r67.2))) else ((impl_HeapClear.f a0 a1.Page a1.Slot a1.Lsn).bind fun r80 => (some (r80.1, r80.2))))))
def impl_Heap_changed.Q (w : World) (F : Nat → Prop) (r : Heap × Bool) (v : Value) (w' : World) : Prop :=
 ∃ (v0 : Value), v = .tuple #[(.agg #[v0]), (.bool r.2)] ∧ FO kd32 w w' [v0] r.1 ∧ Ky [] w w'
theorem impl_Heap_changed.calls (a0 : Heap) (a1 : Record) (w : World) (F : Nat → Prop) (w0_0 : Value) (w1_0 : Value) (h0_0 : Yr.rd w [w0_0] a0.Pages F) (h1_0 : Yp.rd w [w1_0] a1.Data F) (r : Heap × Bool) (m : impl_Heap_changed.f a0 a1 = some r) :
  Calls prog 36 #[(.agg #[w0_0]), (.agg #[(iI a1.Kind), (iI a1.Lsn), (iI a1.Xid), (iI a1.Page), (iI a1.Slot), w1_0])] w (RT (impl_Heap_changed.Q w F) r) := by
 obtain ⟨s0, rfl, kp0, z⟩ := Xl w F
 have A0_0 := z.rd h0_0
 have A1_0 := z.rd h1_0
 refine Xd (args := [(.agg #[w0_0]), (.agg #[(iI a1.Kind), (iI a1.Lsn), (iI a1.Xid), (iI a1.Page), (iI a1.Slot), w1_0])]) func36 ntmps36 rfl rfl m ?_
 unfold impl_Heap_changed.f
 refine sr (bx' (cs := [w0_0]) 40 rfl rfl (fun b3 s3 p3 B3 => ?_))
 refine bx' (cs := [(iI a1.Kind), (iI a1.Lsn), (iI a1.Xid), (iI a1.Page), (iI a1.Slot), w1_0]) 41 rfl rfl (fun b5 s5 p5 B5 => ?_)
 refine al' (cs := [(.slice none 0 0)]) 42 rfl o32 rfl (fun b7 s7 p7 B7 => ?_)
 refine Xc rfl (dn (sq (sr (Xs fa36_0 rfl ?_))))
 have A9 := B5.st p7 rfl
 refine Yb A9 u3 rfl (dn (bl (sr (Xc rfl (Xc rfl (dn (cd rfl (fun h10 => ?_) (fun h10 => ?_))))))))
 ·
  refine sr (Xs fa36_5 rfl (Yb A9 u25 rfl ?_))
  have K11 := kp0.st (Yi p3 p5 p7) rfl
  refine cl' rfl func65 rfl (impl_PageRead.calls a1.Data s7.w (mm [0] s7) w1_0 (A1_0.kp K11)) ?_
  rintro r13 _ w13 m13 ⟨v13_0, rfl, f13_0, ky13⟩
  obtain ⟨s14, rfl, p14, n14⟩ := nwx s7 w13 43 ky13
  refine Xc rfl (Xc (v := (.agg #[(iI r13.1.Lsn), v13_0])) rfl (Xc (v := (.bool r13.2)) rfl (al' (cs := [(iI 0), (.slice none 0 0)]) 44 rfl o59 rfl (fun b16 s16 p16 B16 => ?_))))
  have A18 := (ap59 (f13_0.c n14)).st p16 rfl
  refine Xw (vs := [(iI r13.1.Lsn), v13_0]) B16 z59 rfl (Xb rfl (Xb A18.rd.one Xi)) rfl (fun s19 p19 B19 => ?_)
  refine Xc rfl (dn (sr (Xs fa36_1 rfl ?_)))
  have A21 := A9.st (Yi p14 p16 p19) rfl
  refine Yb A21 u3 rfl (Xs fa59_0 rfl (sv' B19 z3 rfl rfl rfl (fun s22 p22 B22 => ?_)))
  refine dn (sq (sr (Xc rfl (Xc rfl (dn (cd rfl (fun h24 => ?_) (fun h24 => ?_)))))))
  ·
   refine sr (bd' (cells := [(.slice none 0 0)]) pl32 o32 rfl rfl ?_)
   refine Xw (vs := [(.slice none 0 0)]) (B7.st (tr4 p14 p16 p19 p22) rfl) z32 rfl (Xb rfl Xi) rfl (fun s26 p26 B26 => ?_)
   refine Xc rfl (dn ?_)
   have A28 : OwF kd32 s26 [(.slice none 0 0)] (Heap.mk ([] : (List Page))) 45 := ow_z _ _ (Xz (fun x : Heap => (x.Pages)) (Heap.mk ([] : (List Page))) (Yc 59 kd59))
   have K30 := K11.st (tr5 p14 p16 p19 p22 p26) rfl
   exact re rfl func36 rfl (r_b B26 u32 rfl z32 rfl (Xu rfl Xe)) rfl ⟨_, rfl, (.slice none 0 0), rfl, A28.fo K30 rfl z.l, z.ky K30⟩
  refine sk (sr ?_)
  refine Xy (es := [w0_0]) (B3.st (tr6 p5 p7 p14 p16 p19 p22) rfl) u32 z32 rfl (Xs fa36_3 rfl ?_)
  refine Yb (A21.st p22 rfl) u3 rfl (Xy (es := [(iI a1.Lsn), v13_0]) B22 u59 z59 rfl ?_)
  have K33 := K11.st (tr4 p14 p16 p19 p22) rfl
  have A35 : OwF kd59 s22 [(iI a1.Lsn), v13_0] (Page.mk a1.Lsn r13.1.Slots) 43 := (Xq (fun x : Page => (x.Lsn, x.Slots)) (Page.mk a1.Lsn r13.1.Slots) (Yj (Xg .i64 a1.Lsn) (A18.st (Xo p19 p22) rfl)))
  obtain ⟨os38, ho38, hn38, hc38⟩ := A35
  refine cl' rfl func66 rfl (impl_Heap_with.calls a0 a1.Page (Page.mk a1.Lsn r13.1.Slots) s22.w (mm [0] s22) w0_0 v13_0 (A0_0.kp K33) os38 ho38 hn38 (apart_of hc38 rfl)) ?_
  rintro r38 _ w38 m38 ⟨v38_0, rfl, f38_0, ky38⟩
  obtain ⟨s39, rfl, p39, n39⟩ := nwm 46 hc38 ky38 rfl
  have Au38_0_0 := ap32 (f38_0.m n39)
  refine Xw (vs := [v38_0]) (B7.st (tr5 p14 p16 p19 p22 p39) rfl) z32 rfl (Xb Au38_0_0.rd.one Xi) rfl (fun s42 p42 B42 => ?_)
  refine Xc rfl (dn ?_)
  have A44 : OwF kd32 s42 [v38_0] r38 46 := (Xq (fun x : Heap => (x.Pages)) r38 (Au38_0_0.st p42 rfl))
  have K47 := K33.st (Xo p39 p42) rfl
  exact re rfl func36 rfl (r_b B42 u32 rfl z32 rfl (Xu rfl Xe)) rfl ⟨_, rfl, v38_0, rfl, A44.fo K47 rfl z.l, z.ky K47⟩
 refine sr (Xc rfl (Xc rfl (dn (cd rfl (fun h48 => ?_) (fun h48 => ?_)))))
 ·
  refine sr (Xy (es := [w0_0]) (B3.st (Xo p5 p7) rfl) u32 z32 rfl (Xs fa36_3 rfl (Yb A9 u3 rfl (Xs fa36_4 rfl (Yb A9 u3 rfl (Xs fa36_5 rfl (Yb A9 u25 rfl (Xs fa36_1 rfl (Yb A9 u3 rfl ?_)))))))))
  have K50 := kp0.st (Yi p3 p5 p7) rfl
  refine cl' rfl func67 rfl (impl_Heap_put.calls a0 a1.Page a1.Slot a1.Data a1.Lsn s7.w (mm [0] s7) w0_0 w1_0 (A0_0.kp K50) (A1_0.kp K50)) ?_
  rintro r53 _ w53 m53 ⟨v53_0, rfl, f53_0, ky53⟩
  obtain ⟨s54, rfl, p54, n54⟩ := nwx s7 w53 47 ky53
  have Au53_0_0 := ap32 (f53_0.c n54)
  refine Xc (v := (.agg #[v53_0])) rfl (Xc (v := (.bool r53.2)) rfl ?_)
  refine Xw (vs := [v53_0]) (B7.st p54 rfl) z32 rfl (Xb Au53_0_0.rd.one Xi) rfl (fun s57 p57 B57 => ?_)
  refine Xc rfl (dn ?_)
  have A59 : OwF kd32 s57 [v53_0] r53.1 47 := (Xq (fun x : Heap => (x.Pages)) r53.1 (Au53_0_0.st p57 rfl))
  have K62 := K50.st (Xo p54 p57) rfl
  exact re rfl func36 rfl (r_b B57 u32 rfl z32 rfl (Xu rfl Xe)) rfl ⟨_, rfl, v53_0, rfl, A59.fo K62 rfl z.l, z.ky K62⟩
 refine sr (Xc rfl (Xc rfl (dn (cd rfl (fun h63 => ?_) (fun h63 => ?_)))))
 ·
  refine sr (Xy (es := [w0_0]) (B3.st (Xo p5 p7) rfl) u32 z32 rfl (Xs fa36_3 rfl (Yb A9 u3 rfl (Xs fa36_4 rfl (Yb A9 u3 rfl (Xs fa36_2 rfl (Yb A9 u3 rfl (Xs fa36_1 rfl (Yb A9 u3 rfl ?_)))))))))
  have K65 := kp0.st (Yi p3 p5 p7) rfl
  refine cl' rfl func68 rfl (impl_HeapMark.calls a0 a1.Page a1.Slot a1.Xid a1.Lsn s7.w (mm [0] s7) w0_0 (A0_0.kp K65)) ?_
  rintro r67 _ w67 m67 ⟨v67_0, rfl, f67_0, ky67⟩
  obtain ⟨s68, rfl, p68, n68⟩ := nwx s7 w67 48 ky67
  have Au67_0_0 := ap32 (f67_0.c n68)
  refine Xc (v := (.agg #[v67_0])) rfl (Xc (v := (.bool r67.2)) rfl ?_)
  refine Xw (vs := [v67_0]) (B7.st p68 rfl) z32 rfl (Xb Au67_0_0.rd.one Xi) rfl (fun s71 p71 B71 => ?_)
  refine Xc rfl (dn ?_)
  have A73 : OwF kd32 s71 [v67_0] r67.1 48 := (Xq (fun x : Heap => (x.Pages)) r67.1 (Au67_0_0.st p71 rfl))
  have K76 := K65.st (Xo p68 p71) rfl
  exact re rfl func36 rfl (r_b B71 u32 rfl z32 rfl (Xu rfl Xe)) rfl ⟨_, rfl, v67_0, rfl, A73.fo K76 rfl z.l, z.ky K76⟩
 refine sk (ib (sr ?_))
 refine Xy (es := [w0_0]) (B3.st (Xo p5 p7) rfl) u32 z32 rfl (Xs fa36_3 rfl (Yb A9 u3 rfl (Xs fa36_4 rfl (Yb A9 u3 rfl (Xs fa36_1 rfl (Yb A9 u3 rfl ?_))))))
 have K78 := kp0.st (Yi p3 p5 p7) rfl
 refine cl' rfl func69 rfl (impl_HeapClear.calls a0 a1.Page a1.Slot a1.Lsn s7.w (mm [0] s7) w0_0 (A0_0.kp K78)) ?_
 rintro r80 _ w80 m80 ⟨v80_0, rfl, f80_0, ky80⟩
 obtain ⟨s81, rfl, p81, n81⟩ := nwx s7 w80 49 ky80
 have Au80_0_0 := ap32 (f80_0.c n81)
 refine Xc (v := (.agg #[v80_0])) rfl (Xc (v := (.bool r80.2)) rfl ?_)
 refine Xw (vs := [v80_0]) (B7.st p81 rfl) z32 rfl (Xb Au80_0_0.rd.one Xi) rfl (fun s84 p84 B84 => ?_)
 refine Xc rfl (dn ?_)
 have A86 : OwF kd32 s84 [v80_0] r80.1 49 := (Xq (fun x : Heap => (x.Pages)) r80.1 (Au80_0_0.st p84 rfl))
 have K89 := K78.st (Xo p81 p84) rfl
 exact re rfl func36 rfl (r_b B84 u32 rfl z32 rfl (Xu rfl Xe)) rfl ⟨_, rfl, v80_0, rfl, A86.fo K89 rfl z.l, z.ky K89⟩
def impl_RedoOne.b1 (a1 : Record) (x107 : (List Page)) : Option ((List Page) ⊕ (Heap × Bool)) :=
 (if (decide ((x107.length : Int) ≤ a1.Page)) = true then (if x107.length + ([(Page.mk (0 : Int) ([] : (List (List Int))))]).length ≤ Lim then (some (Sum.inl (x107 ++ [(Page.mk (0 : Int) ([] : (List (List Int))))]))) else none) else ((if 0 ≤ a1.Page ∧ a1.Page < (x107.length : Int) then (if (decide ((at_ x107 a1.Page).Lsn ≥ a1.Lsn)) = true then (some ((Heap.mk x107), true)) else ((impl_Heap_changed.f (Heap.mk x107) a1).bind fun r162 => ((if (!r162.2) = true then (some true) else ((impl_HeapOk.f r162.1).bind fun r173 => (some (!r173)))).bind fun y168 => (if y168 = true then (some ((Heap.mk ([] : (List Page))), false)) else (some (r162.1, true)))))) else none).bind fun o => some (Sum.inr o)))
def impl_RedoOne.b0 (a0 : Heap) (a1 : Record) (x43 : Int × (List Page)) : Option ((Int × (List Page)) ⊕ (Heap × Bool)) :=
 (if (decide (x43.1 < (a0.Pages.length : Int))) = true then (if 0 ≤ x43.1 ∧ x43.1 < (a0.Pages.length : Int) then ((impl_Page_slots.f (at_ a0.Pages x43.1)).bind fun r75 => (if x43.2.length + ([(Page.mk ((at_ a0.Pages x43.1).Lsn) r75)]).length ≤ Lim then (some (Sum.inl ((IntKind.wrap .i64 (x43.1 + (1 : Int))), (x43.2 ++ [(Page.mk ((at_ a0.Pages x43.1).Lsn) r75)])))) else none)) else none) else ((if (a1.Kind == (5 : Int)) = true then (some ((Heap.mk x43.2), true)) else (iter (impl_RedoOne.b1 a1) x43.2)).bind fun o => some (Sum.inr o)))
def impl_RedoOne.f (a0 : Heap) (a1 : Record) : Option (Heap × Bool) :=
 ((impl_HeapOk.f a0).bind fun r12 => ((if (!r12) = true then (some true) else ((impl_RecordOk.f a1).bind fun r22 => (some (!r22)))).bind fun y14 => (if y14 = true then (some ((Heap.mk ([] : (List Page))), false)) else (iter (impl_RedoOne.b0 a0 a1) ((0 : Int), ([] : (List Page)))))))
def impl_RedoOne.Q (w : World) (F : Nat → Prop) (r : Heap × Bool) (v : Value) (w' : World) : Prop :=
 ∃ (v0 : Value), v = .tuple #[(.agg #[v0]), (.bool r.2)] ∧ FO kd32 w w' [v0] r.1 ∧ Ky [] w w'
theorem impl_RedoOne.calls (a0 : Heap) (a1 : Record) (w : World) (F : Nat → Prop) (w0_0 : Value) (w1_0 : Value) (h0_0 : Yr.rd w [w0_0] a0.Pages F) (h1_0 : Yp.rd w [w1_0] a1.Data F) (r : Heap × Bool) (m : impl_RedoOne.f a0 a1 = some r) :
  Calls prog 10 #[(.agg #[w0_0]), (.agg #[(iI a1.Kind), (iI a1.Lsn), (iI a1.Xid), (iI a1.Page), (iI a1.Slot), w1_0])] w (RT (impl_RedoOne.Q w F) r) := by
 obtain ⟨s0, rfl, kp0, z⟩ := Xl w F
 have A0_0 := z.rd h0_0
 have A1_0 := z.rd h1_0
 refine Xd (args := [(.agg #[w0_0]), (.agg #[(iI a1.Kind), (iI a1.Lsn), (iI a1.Xid), (iI a1.Page), (iI a1.Slot), w1_0])]) func10 ntmps10 rfl rfl m ?_
 unfold impl_RedoOne.f
 refine sr (bx' (cs := [w0_0]) 40 rfl rfl (fun b3 s3 p3 B3 => ?_))
 refine bx' (cs := [(iI a1.Kind), (iI a1.Lsn), (iI a1.Xid), (iI a1.Page), (iI a1.Slot), w1_0]) 41 rfl rfl (fun b5 s5 p5 B5 => ?_)
 refine al' (cs := [(.slice none 0 0)]) 42 rfl o32 rfl (fun b7 s7 p7 B7 => ?_)
 refine Xc rfl (dn (sq (sr ?_)))
 have A9 := B3.st (Xo p5 p7) rfl
 refine Xy (es := [w0_0]) A9 u32 z32 rfl ?_
 have K10 := kp0.st (Yi p3 p5 p7) rfl
 refine Ym 43 rfl func33 rfl (impl_HeapOk.calls a0 s7.w (mm [0] s7) w0_0 (A0_0.kp K10)) (fun r12 s13 p13 n13 => ?_)
 refine Xc rfl (Xc rfl (ji [] (fun (y14 : Bool) e w => ∃ (s : St) (e0 : Env), w = s.w ∧ e = upd (upd (upd (upd e0 2 (pB b3)) 3 (pB b5)) 4 (pB b7)) 17 (.bool y14) ∧ Kp s0 s ∧ BlF s b7 32 [(.slice none 0 0)] 42 ∧ BlF s b5 36 [(iI a1.Kind), (iI a1.Lsn), (iI a1.Xid), (iI a1.Page), (iI a1.Slot), w1_0] 41 ∧ BlF s b3 32 [w0_0] 40) (fun Gj14 Kj14 => ?_) ?_))
 ·
  rcases Yn (!r12) with hb14 | hb14
  ·
   refine Xx hb14 ?_
   rw [if_pos hb14]
   refine Xj rfl (Xj rfl (Xj rfl (Xc rfl ?_)))
   exact Kj14 _ _ _ ⟨s13, _, rfl, (ue (ue (ue (ue rfl rfl) rfl) rfl) rfl), (K10.st p13 rfl), (B7.st p13 rfl), (B5.st (Xo p7 p13) rfl), (A9.st p13 rfl)⟩
  refine Xx hb14 ?_
  rw [if_neg (by rw [hb14]; decide)]
  have A19 := B5.st (Xo p7 p13) rfl
  refine Xy (es := [(iI a1.Kind), (iI a1.Lsn), (iI a1.Xid), (iI a1.Page), (iI a1.Slot), w1_0]) A19 u36 z36 rfl ?_
  have K20 := K10.st p13 rfl
  refine Ym 44 rfl func34 rfl (impl_RecordOk.calls a1 s13.w (mm [0] s13) w1_0 (A1_0.kp K20)) (fun r22 s23 p23 n23 => ?_)
  refine Xc rfl (Xc rfl ?_)
  exact Kj14 _ _ _ ⟨s23, _, rfl, (ue (ue (ue (ue rfl rfl) rfl) rfl) rfl), (K20.st p23 rfl), (B7.st (Xo p13 p23) rfl), (A19.st p23 rfl), (A9.st (Xo p13 p23) rfl)⟩
 rintro y14 _ _ ⟨s28, _, rfl, rfl, Ky14, By14_b7, By14_b5, By14_b3⟩
 refine dn (cd rfl (fun h32 => ?_) (fun h32 => ?_))
 ·
  refine sr (bd' (cells := [(.slice none 0 0)]) pl32 o32 rfl rfl (Xw (vs := [(.slice none 0 0)]) By14_b7 z32 rfl (Xb rfl Xi) rfl (fun s33 p33 B33 => ?_)))
  refine Xc rfl (dn ?_)
  have A35 : OwF kd32 s33 [(.slice none 0 0)] (Heap.mk ([] : (List Page))) 45 := ow_z _ _ (Xz (fun x : Heap => (x.Pages)) (Heap.mk ([] : (List Page))) (Yc 59 kd59))
  have K37 := Ky14.st p33 rfl
  exact re rfl func10 rfl (r_b B33 u32 rfl z32 rfl (Xu rfl Xe)) rfl ⟨_, rfl, (.slice none 0 0), rfl, A35.fo K37 rfl z.l, z.ky K37⟩
 refine sk (sr (al' (cs := [(.slice none 0 0)]) 46 rfl o32 rfl (fun b38 s38 p38 B38 => ?_)))
 refine dn (sq (sr (Xs fa32_0 rfl ?_)))
 refine Yb (By14_b3.st p38 rfl) u30 rfl ?_
 have K41 := Ky14.st p38 rfl
 refine Yo (A0_0.kp K41) u30 rfl (Xc rfl (dn (bl ?_)))
 refine lpI (fun (x43 : Int × (List Page)) e w => ∃ (s : St) (e0 : Env) (vx43_0 : Value), w = s.w ∧ e = upd (upd (upd (upd (upd (upd e0 3 (pB b5)) 4 (pB b7)) 6 (pB b38)) 20 w0_0) 21 (iI (a0.Pages.length : Int))) 22 (iI x43.1) ∧ Kp s0 s ∧ OwF Yr s [vx43_0] x43.2 47 ∧ BlF s b38 32 [vx43_0] 46 ∧ BlF s b7 32 [(.slice none 0 0)] 42 ∧ BlF s b5 36 [(iI a1.Kind), (iI a1.Lsn), (iI a1.Xid), (iI a1.Page), (iI a1.Slot), w1_0] 41) ⟨s38, _, (.slice none 0 0), rfl, (ue (ue (ue (ue (ue (ue rfl rfl) rfl) rfl) rfl) rfl) rfl), K41, (Yl 59 kd59 _ 47), B38, (By14_b7.st p38 rfl), (By14_b5.st p38 rfl)⟩ (fun g43 ih43 => ?_)
 rintro x43 _ _ ⟨s46, _, vx43_0, rfl, rfl, Kx43, Ax43_0, Bx43_b38, Bx43_b7, Bx43_b5⟩
 unfold impl_RedoOne.b0
 refine sr (Xc rfl (dn (sq (cd rfl (fun h51 => ?_) (fun h51 => ?_)))))
 ·
  refine sk (sq (bl (sr ?_)))
  refine ix' (A0_0.kp Kx43) u30 z59 rfl (fun ad53 es53 h0_53 h1_53 he53 ce53 ia53 => ?_)
  obtain ⟨v53_0, rfl, A53_0⟩ := op59 he53
  refine lca ce53 u59 z59 rfl rfl rfl rfl rfl rfl rfl (al' (cs := [(iI 0), (.slice none 0 0)]) 48 rfl o59 rfl (fun b56 s56 p56 B56 => ?_))
  have A58 := A53_0.st p56 rfl
  refine Xw (vs := [(iI ((at_ a0.Pages x43.1).Lsn)), v53_0]) B56 z59 rfl (Xb rfl (Xb A58.one Xi)) rfl (fun s59 p59 B59 => ?_)
  refine dn (zdraw [[], [0], [], [2], [], [4], [3, 5], [6], [1, 7, 5], [0, 1, 2, 3, 4, 5, 6, 7, 8], [9, 8, 8, 0, 1, 2, 3, 4, 5, 6, 7, 8]] [some 26, some 27, some 28, some 29, some 30, some 31, some 32, some 33, some 34, some 35, none] [[6], [26], [8], [28], [8], [30], [29, 31], [32], [27, 33], [6], [35, 34]] [0, 1, 2, 3, 4, 5, 6, 7, 8, 9, 10] ⟨by kernel_rfl, by kernel_rfl, by kernel_rfl⟩ (by kernel_rfl) (fun s61 p61 l61 tb61 zd61 => ?_))
  refine Xv 5 [some 29, some 28, some 27, some 26] tb61 (((((zd61.add 0 26 (pB b38) rfl).add 1 27 vx43_0 rfl).add 2 28 (pB b56) rfl).add 3 29 (iI ((at_ a0.Pages x43.1).Lsn)) rfl).add 4 30 (.agg #[(iI ((at_ a0.Pages x43.1).Lsn)), v53_0]) rfl) (Xa (Yh (es := [(iI ((at_ a0.Pages x43.1).Lsn)), v53_0]) (B59.st p61 rfl) u59 z59 rfl) rfl (Xa (Xp (B59.st p61 rfl) u3 rfl) rfl (Xa (Xr fa59_0 rfl) rfl (Xa (Xp (Bx43_b38.st (Yi p56 p59 p61) rfl) u30 rfl) rfl (Xa (Xr fa32_0 rfl) rfl Xf))))) (by kernel_rfl) rfl (fun l70 e70 zd70 => ?_)
  refine clO 49 rfl func35 rfl (impl_Page_slots.calls (at_ a0.Pages x43.1) s61.w (mm [0] s61) v53_0 (A58.st (Xo p59 p61) rfl)) (fun r75 v75_0 s76 p76 A75_0 => ?_)
  refine Xk (L' := [3, 2, 1, 0]) (D' := [4, 5]) zd70 rfl (fun zd78 => ?_)
  refine Xv 7 [some 27, some 26] tb61 (zd78.add 6 32 (.agg #[(iI ((at_ a0.Pages x43.1).Lsn)), v75_0]) rfl) (Xa (bd_q (cells := [(iI ((at_ a0.Pages x43.1).Lsn)), v75_0]) pl59 o59 rfl rfl rfl rfl rfl (lfill_pc (pc_c rfl (pc_c (oc A75_0.rd.one) pc_n)) rfl)) rfl (Xa (Xp (B59.st (Xo p61 p76) rfl) u3 rfl) rfl (Xa (Xr fa59_0 rfl) rfl (Xa (Xp (Bx43_b38.st (tr4 p56 p59 p61 p76) rfl) u30 rfl) rfl (Xa (Xr fa32_0 rfl) rfl Xf))))) (by kernel_rfl) rfl (fun l80 e80 zd80 => ?_)
  have A83 : OwF kd59 s76 [(iI ((at_ a0.Pages x43.1).Lsn)), v75_0] (Page.mk ((at_ a0.Pages x43.1).Lsn) r75) 49 := (Xq (fun x : Page => (x.Lsn, x.Slots)) (Page.mk ((at_ a0.Pages x43.1).Lsn) r75) (Yj (Xg .i64 ((at_ a0.Pages x43.1).Lsn)) A75_0))
  refine ltO (K := kd59) (cells := [(iI ((at_ a0.Pages x43.1).Lsn)), v75_0]) [(Page.mk ((at_ a0.Pages x43.1).Lsn) r75)] 49 u30 z59 o59 (lo_one A83) rfl rfl rfl rfl rfl rfl rfl rfl rfl rfl (fun v86 s86 p86 A86 => ?_)
  refine Xk (L' := [1, 0]) (D' := [2, 3, 6, 7, 4, 5]) zd80 rfl (fun zd88 => ?_)
  refine zfin [8, 9, 10] tb61 zd88 (Xa (Xp (Bx43_b38.st (tr5 p56 p59 p61 p76 p86) rfl) u30 rfl) rfl (Xa (Xr fa32_0 rfl) rfl Xf)) (by kernel_rfl) (by decide) (apO sl30 (Ax43_0.st (tr5 p56 p59 p61 p76 p86) rfl) A86 rfl rfl rfl rfl rfl rfl rfl rfl rfl (fun v91 s91 p91 A91 => ?_))
  refine Xs fa32_0 rfl (sv' (Bx43_b38.st (tr6 p56 p59 p61 p76 p86 p91) rfl) z30 rfl A91.rd.one rfl (fun s94 p94 B94 => ?_))
  refine dn (ib (rg (Xc rfl (Xc rfl (dn ?_)))))
  exact lb ih43 ⟨s94, _, v91, rfl, (ue (ue (ue (ue (ue (ue rfl rfl) rfl) rfl) rfl) rfl) rfl), (Kx43.st (tr7 p56 p59 p61 p76 p86 p91 p94) rfl), (A91.st p94 rfl), B94, (Bx43_b7.st (tr7 p56 p59 p61 p76 p86 p91 p94) rfl), (Bx43_b5.st (tr7 p56 p59 p61 p76 p86 p91 p94) rfl)⟩
 refine xt rfl (sgb (sq (sr (Xs fa36_0 rfl (Yb Bx43_b5 u3 rfl (Xc rfl (dn (cd rfl (fun h100 => ?_) (fun h100 => ?_)))))))))
 ·
  refine sr (Xy (es := [vx43_0]) Bx43_b38 u32 z32 rfl (Xw (vs := [vx43_0]) Bx43_b7 z32 rfl (Xb Ax43_0.rd.one Xi) rfl (fun s101 p101 B101 => ?_)))
  refine Xc rfl (dn ?_)
  have A103 : OwF kd32 s101 [vx43_0] (Heap.mk x43.2) 47 := (Xq (fun x : Heap => (x.Pages)) (Heap.mk x43.2) (Ax43_0.st p101 rfl))
  have K106 := Kx43.st p101 rfl
  exact re rfl func10 rfl (r_b B101 u32 rfl z32 rfl (Xu rfl Xe)) rfl ⟨_, rfl, vx43_0, rfl, A103.fo K106 rfl z.l, z.ky K106⟩
 refine sk (sq (bl (lpI (fun (x107 : (List Page)) e w => ∃ (s : St) (e0 : Env) (vx107_0 : Value), w = s.w ∧ e = upd (upd (upd e0 3 (pB b5)) 4 (pB b7)) 6 (pB b38) ∧ Kp s0 s ∧ OwF Yr s [vx107_0] x107 47 ∧ BlF s b38 32 [vx107_0] 46 ∧ BlF s b7 32 [(.slice none 0 0)] 42 ∧ BlF s b5 36 [(iI a1.Kind), (iI a1.Lsn), (iI a1.Xid), (iI a1.Page), (iI a1.Slot), w1_0] 41) ⟨s46, _, vx43_0, rfl, (ue (ue (ue rfl rfl) rfl) rfl), Kx43, Ax43_0, Bx43_b38, Bx43_b7, Bx43_b5⟩ (fun g107 ih107 => ?_))))
 rintro x107 _ _ ⟨s108, _, vx107_0, rfl, rfl, Kx107, Ax107_0, Bx107_b38, Bx107_b7, Bx107_b5⟩
 unfold impl_RedoOne.b1
 refine sq (sr (Xs fa32_0 rfl (Yb Bx107_b38 u30 rfl (Yo Ax107_0.rd u30 rfl (Xs fa36_3 rfl (Yb Bx107_b5 u3 rfl (Xc rfl (dn (cd rfl (fun h113 => ?_) (fun h113 => ?_))))))))))
 ·
  refine sk (bl (rg (Xs fa32_0 rfl (Yb Bx107_b38 u30 rfl (bd' (cells := [(iI 0), (.slice none 0 0)]) pl59 o59 rfl rfl ?_)))))
  have A114 : OwF kd59 s108 [(iI 0), (.slice none 0 0)] (Page.mk (0 : Int) ([] : (List (List Int)))) 52 := ow_z _ _ (Xz (fun x : Page => (x.Lsn, x.Slots)) (Page.mk (0 : Int) ([] : (List (List Int)))) (Xh (Xg .i64 (0 : Int)) (Yc 25 Yp)))
  refine ltO (K := kd59) (cells := [(iI 0), (.slice none 0 0)]) [(Page.mk (0 : Int) ([] : (List (List Int))))] 52 u30 z59 o59 (lo_one A114) rfl rfl rfl rfl rfl rfl rfl rfl rfl rfl (fun v117 s117 p117 A117 => ?_)
  refine apO sl30 (Ax107_0.st p117 rfl) A117 rfl rfl rfl rfl rfl rfl rfl rfl rfl (fun v120 s120 p120 A120 => ?_)
  refine Xs fa32_0 rfl (sv' (Bx107_b38.st (Xo p117 p120) rfl) z30 rfl A120.rd.one rfl (fun s123 p123 B123 => ?_))
  refine dn (ib ?_)
  exact lb ih107 ⟨s123, _, v120, rfl, (ue (ue (ue rfl rfl) rfl) rfl), (Kx107.st (Yi p117 p120 p123) rfl), (A120.st p123 rfl), B123, (Bx107_b7.st (Yi p117 p120 p123) rfl), (Bx107_b5.st (Yi p117 p120 p123) rfl)⟩
 refine xt rfl (sgb (sq (sq (zdraw [[], [0], [], [2], [1, 3], [4], [5], [], [7], [6, 8]] [some 53, some 54, some 55, some 56, some 57, some 58, some 59, some 60, some 61, some 62] [[6], [53], [3], [55], [54, 56], [57], [58], [3], [60], [59, 61]] [0, 1, 2, 3, 4, 5, 6, 7, 8, 9] ⟨by kernel_rfl, by kernel_rfl, by kernel_rfl⟩ (by kernel_rfl) (fun s129 p129 l129 tb129 zd129 => ?_)))))
 have A136 := Ax107_0.st p129 rfl
 refine mg fun hg137 => ?_
 obtain ⟨ad137, es137, he137, ce137, ia137⟩ := ix_e A136.rd rfl hg137.1 hg137.2
 obtain ⟨v137_0, rfl, A137_0⟩ := op59 he137
 refine zfin [9] tb129 (((((((((zd129.add 0 53 (pB b38) rfl).add 1 54 vx107_0 rfl).add 2 55 (pO b5 3) rfl).add 3 56 (iI a1.Page) rfl).add 4 57 (.pointer (some ad137)) rfl).add 5 58 (.pointer (some ad137)) rfl).add 6 59 (iI ((at_ x107 a1.Page).Lsn)) rfl).add 7 60 (pO b5 1) rfl).add 8 61 (iI a1.Lsn) rfl) (Xa (Xp (Bx107_b5.st p129 rfl) u3 rfl) rfl (Xa (Xr fa36_1 rfl) rfl (Xa (lc0_q ce137 u3 rfl rfl rfl rfl rfl rfl rfl rfl) rfl (Xa (Xr fa59_0 rfl) rfl (Xa (ix_q A136.rd u30 z59 hg137.1 hg137.2 ia137 rfl rfl rfl rfl rfl rfl rfl) rfl (Xa (Xp (Bx107_b5.st p129 rfl) u3 rfl) rfl (Xa (Xr fa36_3 rfl) rfl (Xa (Xp (Bx107_b38.st p129 rfl) u30 rfl) rfl (Xa (Xr fa32_0 rfl) rfl Xf))))))))) (by kernel_rfl) (by decide) (Xc rfl (dn (cd rfl (fun h149 => ?_) (fun h149 => ?_))))
 ·
  refine sr (Xy (es := [vx107_0]) (Bx107_b38.st p129 rfl) u32 z32 rfl (Xw (vs := [vx107_0]) (Bx107_b7.st p129 rfl) z32 rfl (Xb A136.rd.one Xi) rfl (fun s152 p152 B152 => ?_)))
  refine Xc rfl (dn ?_)
  have A154 : OwF kd32 s152 [vx107_0] (Heap.mk x107) 47 := (Xq (fun x : Heap => (x.Pages)) (Heap.mk x107) (A136.st p152 rfl))
  have K157 := Kx107.st (Xo p129 p152) rfl
  exact re rfl func10 rfl (r_b B152 u32 rfl z32 rfl (Xu rfl Xe)) rfl ⟨_, rfl, vx107_0, rfl, A154.fo K157 rfl z.l, z.ky K157⟩
 refine sk (sr ?_)
 have A158 := Bx107_b38.st p129 rfl
 refine Xy (es := [vx107_0]) A158 u32 z32 rfl (Xy (es := [(iI a1.Kind), (iI a1.Lsn), (iI a1.Xid), (iI a1.Page), (iI a1.Slot), w1_0]) (Bx107_b5.st p129 rfl) u36 z36 rfl ?_)
 have K160 := Kx107.st p129 rfl
 refine cl' rfl func36 rfl (impl_Heap_changed.calls (Heap.mk x107) a1 s129.w (mm [47, 0] s129) vx107_0 w1_0 (A136.rd.sub (D := [47, 0]) rfl) ((A1_0.kp K160).sub (D := [47, 0]) rfl)) ?_
 rintro r162 _ w162 m162 ⟨v162_0, rfl, f162_0, ky162⟩
 obtain ⟨s163, rfl, p163, n163⟩ := nwx s129 w162 53 ky162
 have Au162_0_0 := ap32 (f162_0.c n163)
 refine Xc rfl (Xc (v := (.agg #[v162_0])) rfl (Xc (v := (.bool r162.2)) rfl ?_))
 refine Xw (vs := [v162_0]) (A158.st p163 rfl) z32 rfl (Xb Au162_0_0.rd.one Xi) rfl (fun s166 p166 B166 => ?_)
 refine Xc rfl (dn (sq (sr (Xc rfl (Xc rfl (Xc rfl (ji [] (fun (y168 : Bool) e w => ∃ (s : St) (e0 : Env), w = s.w ∧ e = upd (upd (upd e0 4 (pB b7)) 6 (pB b38)) 76 (.bool y168) ∧ Kp s0 s ∧ BlF s b38 32 [v162_0] 46 ∧ BlF s b7 32 [(.slice none 0 0)] 42 ∧ OwF Yr s [v162_0] r162.1.Pages 53) (fun Gj168 Kj168 => ?_) ?_)))))))
 ·
  rcases Yn (!r162.2) with hb168 | hb168
  ·
   refine Xx hb168 ?_
   rw [if_pos hb168]
   refine Xj rfl (Xj rfl (Xj rfl (Xc rfl ?_)))
   exact Kj168 _ _ _ ⟨s166, _, rfl, (ue (ue (ue rfl rfl) rfl) rfl), (K160.st (Xo p163 p166) rfl), B166, (Bx107_b7.st (Yi p129 p163 p166) rfl), (Au162_0_0.st p166 rfl)⟩
  refine Xx hb168 ?_
  rw [if_neg (by rw [hb168]; decide)]
  refine Xy (es := [v162_0]) B166 u32 z32 rfl ?_
  have A172 := Au162_0_0.st p166 rfl
  refine Ym 54 rfl func33 rfl (impl_HeapOk.calls r162.1 s166.w (mm [53] s166) v162_0 A172.rd) (fun r173 s174 p174 n174 => ?_)
  refine Xc rfl (Xc rfl ?_)
  exact Kj168 _ _ _ ⟨s174, _, rfl, (ue (ue (ue rfl rfl) rfl) rfl), (K160.st (Yi p163 p166 p174) rfl), (B166.st p174 rfl), (Bx107_b7.st (tr4 p129 p163 p166 p174) rfl), (A172.st p174 rfl)⟩
 rintro y168 _ _ ⟨s179, _, rfl, rfl, Ky168, By168_b38, By168_b7, Cy168_164⟩
 refine dn (cd rfl (fun h182 => ?_) (fun h182 => ?_))
 ·
  refine sr (bd' (cells := [(.slice none 0 0)]) pl32 o32 rfl rfl (Xw (vs := [(.slice none 0 0)]) By168_b7 z32 rfl (Xb rfl Xi) rfl (fun s183 p183 B183 => ?_)))
  refine Xc rfl (dn ?_)
  have A185 : OwF kd32 s183 [(.slice none 0 0)] (Heap.mk ([] : (List Page))) 55 := ow_z _ _ (Xz (fun x : Heap => (x.Pages)) (Heap.mk ([] : (List Page))) (Yc 59 kd59))
  have K187 := Ky168.st p183 rfl
  exact re rfl func10 rfl (r_b B183 u32 rfl z32 rfl (Xu rfl Xe)) rfl ⟨_, rfl, (.slice none 0 0), rfl, A185.fo K187 rfl z.l, z.ky K187⟩
 refine sk (sr (Xy (es := [v162_0]) By168_b38 u32 z32 rfl (Xw (vs := [v162_0]) By168_b7 z32 rfl (Xb Cy168_164.rd.one Xi) rfl (fun s188 p188 B188 => ?_))))
 refine Xc rfl (dn ?_)
 have A190 : OwF kd32 s188 [v162_0] r162.1 53 := (Xq (fun x : Heap => (x.Pages)) r162.1 (Cy168_164.st p188 rfl))
 have K193 := Ky168.st p188 rfl
 exact re rfl func10 rfl (r_b B188 u32 rfl z32 rfl (Xu rfl Xe)) rfl ⟨_, rfl, v162_0, rfl, A190.fo K193 rfl z.l, z.ky K193⟩
def laws_eqByteS.b0 (a0 : (List Int)) (a1 : (List Int)) (x4 : Int) : Option (Int ⊕ Bool) :=
 (if (decide (x4 < (a0.length : Int))) = true then (if 0 ≤ x4 ∧ x4 < (a0.length : Int) then (if 0 ≤ x4 ∧ x4 < (a1.length : Int) then (if ((at_ a0 x4) != (at_ a1 x4)) = true then (some (Sum.inr false)) else (some (Sum.inl (IntKind.wrap .i64 (x4 + (1 : Int)))))) else none) else none) else ((some true).bind fun o => some (Sum.inr o)))
def laws_eqByteS.f (a0 : (List Int)) (a1 : (List Int)) : Option (Bool) :=
 (if ((a0.length : Int) != (a1.length : Int)) = true then (some false) else (iter (laws_eqByteS.b0 a0 a1) (0 : Int)))
def laws_eqByteS.Q (w : World) (F : Nat → Prop) (r : Bool) (v : Value) (w' : World) : Prop :=
 v = (.bool r) ∧ Ky [] w w'
theorem laws_eqByteS.calls (a0 : (List Int)) (a1 : (List Int)) (w : World) (F : Nat → Prop) (w0_0 : Value) (w1_0 : Value) (h0_0 : Yp.rd w [w0_0] a0 F) (h1_0 : Yp.rd w [w1_0] a1 F) (r : Bool) (m : laws_eqByteS.f a0 a1 = some r) :
  Calls prog 38 #[w0_0, w1_0] w (RT (laws_eqByteS.Q w F) r) := by
 obtain ⟨s0, rfl, kp0, z⟩ := Xl w F
 have A0_0 := z.rd h0_0
 have A1_0 := z.rd h1_0
 refine Xd (args := [w0_0, w1_0]) func38 ntmps38 rfl rfl m ?_
 unfold laws_eqByteS.f
 refine sr (Xc rfl (dn (sq (sr (Ya w0_0 rfl (Yo A0_0 u25 rfl (Ya w1_0 rfl (Yo A1_0 u25 rfl (Xc rfl (dn (cd rfl (fun h3 => ?_) (fun h3 => ?_))))))))))))
 ·
  exact sr (Xc rfl (dn (re rfl func38 rfl (Xu rfl Xe) rfl ⟨_, rfl, rfl, z.ky kp0⟩)))
 refine sk (sq (sr (Xc rfl (dn (bl (lpI (fun (x4 : Int) e w => ∃ (s : St) (e0 : Env), w = s.w ∧ e = upd (upd (upd e0 0 w0_0) 1 w1_0) 5 (iI x4) ∧ Kp s0 s) ⟨s0, _, rfl, (ue (ue (ue rfl rfl) rfl) rfl), kp0⟩ (fun g4 ih4 => ?_)))))))
 rintro x4 _ _ ⟨s5, _, rfl, rfl, Kx4⟩
 unfold laws_eqByteS.b0
 refine sq (sr (Xc rfl (Ya w0_0 rfl ?_)))
 refine Yo (A0_0.kp Kx4) u25 rfl (Xc rfl (dn (cd rfl (fun h7 => ?_) (fun h7 => ?_))))
 ·
  refine sk (sq (bl (sq (zdraw [[], [], [0, 1], [2], [], [], [4, 5], [6], [3, 7]] [some 17, some 18, some 19, some 20, some 21, some 22, some 23, some 24, some 25] [[0], [5], [17, 18], [19], [1], [5], [21, 22], [23], [20, 24]] [0, 1, 2, 3, 4, 5, 6, 7, 8] ⟨by kernel_rfl, by kernel_rfl, by kernel_rfl⟩ (by kernel_rfl) (fun s8 p8 l8 tb8 zd8 => ?_)))))
  have K11 := Kx4.st p8 rfl
  have A12 := A0_0.kp K11
  refine mg fun hg13 => ?_
  obtain ⟨ad13, es13, he13, ce13, ia13⟩ := ix_e A12 rfl hg13.1 hg13.2
  obtain rfl := he13
  have A19 := A1_0.kp K11
  refine mg fun hg20 => ?_
  obtain ⟨ad20, es20, he20, ce20, ia20⟩ := ix_e A19 rfl hg20.1 hg20.2
  obtain rfl := he20
  refine zfin [8] tb8 ((((((((zd8.add 0 17 w0_0 rfl).add 1 18 (iI x4) rfl).add 2 19 (.pointer (some ad13)) rfl).add 3 20 (.int .u8 (at_ a0 x4)) rfl).add 4 21 w1_0 rfl).add 5 22 (iI x4) rfl).add 6 23 (.pointer (some ad20)) rfl).add 7 24 (.int .u8 (at_ a1 x4)) rfl) (Xa (lc0_q ce20 u5 rfl rfl rfl rfl rfl rfl rfl rfl) rfl (Xa (ix_q A19 u25 z5 hg20.1 hg20.2 ia20 rfl rfl rfl rfl rfl rfl rfl) rfl (Xa (Xm rfl) rfl (Xa (Xn w1_0 rfl) rfl (Xa (lc0_q ce13 u5 rfl rfl rfl rfl rfl rfl rfl rfl) rfl (Xa (ix_q A12 u25 z5 hg13.1 hg13.2 ia13 rfl rfl rfl rfl rfl rfl rfl) rfl (Xa (Xm rfl) rfl (Xa (Xn w0_0 rfl) rfl Xf)))))))) (by kernel_rfl) (by decide) (Xc rfl (dn (cd rfl (fun h24 => ?_) (fun h24 => ?_))))
  ·
   exact sr (Xc rfl (dn (sgi (re rfl func38 rfl (Xu rfl Xe) rfl ⟨_, rfl, rfl, z.ky K11⟩))))
  exact sk (ib (rg (Xc rfl (Xc rfl (Xc rfl (dn (lb ih4 ⟨s8, _, rfl, (ue (ue (ue rfl rfl) rfl) rfl), K11⟩)))))))
 exact xt rfl (sgb (sr (Xc rfl (dn (re rfl func38 rfl (Xu rfl Xe) rfl ⟨_, rfl, rfl, z.ky Kx4⟩)))))
def laws_eqByteSS.b0 (a0 : (List (List Int))) (a1 : (List (List Int))) (x4 : Int) : Option (Int ⊕ Bool) :=
 (if (decide (x4 < (a0.length : Int))) = true then (if 0 ≤ x4 ∧ x4 < (a0.length : Int) then (if 0 ≤ x4 ∧ x4 < (a1.length : Int) then ((laws_eqByteS.f (at_ a0 x4) (at_ a1 x4)).bind fun r26 => (if (!r26) = true then (some (Sum.inr false)) else (some (Sum.inl (IntKind.wrap .i64 (x4 + (1 : Int))))))) else none) else none) else ((some true).bind fun o => some (Sum.inr o)))
def laws_eqByteSS.f (a0 : (List (List Int))) (a1 : (List (List Int))) : Option (Bool) :=
 (if ((a0.length : Int) != (a1.length : Int)) = true then (some false) else (iter (laws_eqByteSS.b0 a0 a1) (0 : Int)))
def laws_eqByteSS.Q (w : World) (F : Nat → Prop) (r : Bool) (v : Value) (w' : World) : Prop :=
 v = (.bool r) ∧ Ky [] w w'
theorem laws_eqByteSS.calls (a0 : (List (List Int))) (a1 : (List (List Int))) (w : World) (F : Nat → Prop) (w0_0 : Value) (w1_0 : Value) (h0_0 : (Kd.sl 25 Yp).rd w [w0_0] a0 F) (h1_0 : (Kd.sl 25 Yp).rd w [w1_0] a1 F) (r : Bool) (m : laws_eqByteSS.f a0 a1 = some r) :
  Calls prog 97 #[w0_0, w1_0] w (RT (laws_eqByteSS.Q w F) r) := by
 obtain ⟨s0, rfl, kp0, z⟩ := Xl w F
 have A0_0 := z.rd h0_0
 have A1_0 := z.rd h1_0
 refine Xd (args := [w0_0, w1_0]) func97 ntmps97 rfl rfl m ?_
 unfold laws_eqByteSS.f
 refine sr (Xc rfl (dn (sq (sr (Ya w0_0 rfl (Yo A0_0 u57 rfl (Ya w1_0 rfl (Yo A1_0 u57 rfl (Xc rfl (dn (cd rfl (fun h3 => ?_) (fun h3 => ?_))))))))))))
 ·
  exact sr (Xc rfl (dn (re rfl func97 rfl (Xu rfl Xe) rfl ⟨_, rfl, rfl, z.ky kp0⟩)))
 refine sk (sq (sr (Xc rfl (dn (bl (lpI (fun (x4 : Int) e w => ∃ (s : St) (e0 : Env), w = s.w ∧ e = upd (upd (upd e0 0 w0_0) 1 w1_0) 5 (iI x4) ∧ Kp s0 s) ⟨s0, _, rfl, (ue (ue (ue rfl rfl) rfl) rfl), kp0⟩ (fun g4 ih4 => ?_)))))))
 rintro x4 _ _ ⟨s5, _, rfl, rfl, Kx4⟩
 unfold laws_eqByteSS.b0
 refine sq (sr (Xc rfl (Ya w0_0 rfl ?_)))
 refine Yo (A0_0.kp Kx4) u57 rfl (Xc rfl (dn (cd rfl (fun h7 => ?_) (fun h7 => ?_))))
 ·
  refine sk (sq (bl (sq (zdraw [[], [], [0, 1], [2], [], [], [4, 5], [6], [3, 7], [8]] [some 17, some 18, some 19, some 20, some 21, some 22, some 23, some 24, some 25, some 26] [[0], [5], [17, 18], [19], [1], [5], [21, 22], [23], [20, 24], [25]] [0, 1, 2, 3, 4, 5, 6, 7, 8, 9] ⟨by kernel_rfl, by kernel_rfl, by kernel_rfl⟩ (by kernel_rfl) (fun s8 p8 l8 tb8 zd8 => ?_)))))
  have K11 := Kx4.st p8 rfl
  have A12 := A0_0.kp K11
  refine mg fun hg13 => ?_
  obtain ⟨ad13, es13, he13, ce13, ia13⟩ := ix_e A12 rfl hg13.1 hg13.2
  obtain ⟨v13, rfl, he13'⟩ := he13
  have A13 : RdF Yp s8 [v13] (at_ a0 x4) [0] := ⟨v13, rfl, he13'⟩
  have A20 := A1_0.kp K11
  refine mg fun hg21 => ?_
  obtain ⟨ad21, es21, he21, ce21, ia21⟩ := ix_e A20 rfl hg21.1 hg21.2
  obtain ⟨v21, rfl, he21'⟩ := he21
  have A21 : RdF Yp s8 [v21] (at_ a1 x4) [0] := ⟨v21, rfl, he21'⟩
  refine zfin [8, 9] tb8 ((((((((zd8.add 0 17 w0_0 rfl).add 1 18 (iI x4) rfl).add 2 19 (.pointer (some ad13)) rfl).add 3 20 v13 rfl).add 4 21 w1_0 rfl).add 5 22 (iI x4) rfl).add 6 23 (.pointer (some ad21)) rfl).add 7 24 v21 rfl) (Xa (lc0_q ce21 u25 rfl rfl rfl rfl rfl rfl rfl rfl) rfl (Xa (ix_q A20 u57 z25 hg21.1 hg21.2 ia21 rfl rfl rfl rfl rfl rfl rfl) rfl (Xa (Xm rfl) rfl (Xa (Xn w1_0 rfl) rfl (Xa (lc0_q ce13 u25 rfl rfl rfl rfl rfl rfl rfl rfl) rfl (Xa (ix_q A12 u57 z25 hg13.1 hg13.2 ia13 rfl rfl rfl rfl rfl rfl rfl) rfl (Xa (Xm rfl) rfl (Xa (Xn w0_0 rfl) rfl Xf)))))))) (by kernel_rfl) (by decide) (Ym 40 rfl func38 rfl (laws_eqByteS.calls (at_ a0 x4) (at_ a1 x4) s8.w (mm [0] s8) v13 v21 A13 A21) (fun r26 s27 p27 n27 => ?_))
  refine Xc rfl (dn (cd rfl (fun h28 => ?_) (fun h28 => ?_)))
  ·
   refine sr (Xc rfl (dn (sgi ?_)))
   exact re rfl func97 rfl (Xu rfl Xe) rfl ⟨_, rfl, rfl, z.ky (K11.st p27 rfl)⟩
  refine sk (ib (rg (Xc rfl (Xc rfl (Xc rfl (dn ?_))))))
  exact lb ih4 ⟨s27, _, rfl, (ue (ue (ue rfl rfl) rfl) rfl), (K11.st p27 rfl)⟩
 exact xt rfl (sgb (sr (Xc rfl (dn (re rfl func97 rfl (Xu rfl Xe) rfl ⟨_, rfl, rfl, z.ky Kx4⟩)))))
def laws_eqPage.f (a0 : Page) (a1 : Page) : Option (Bool) :=
 (if (a0.Lsn != a1.Lsn) = true then (some false) else ((laws_eqByteSS.f a0.Slots a1.Slots).bind fun r13 => (if (!r13) = true then (some false) else (some true))))
def laws_eqPage.Q (w : World) (F : Nat → Prop) (r : Bool) (v : Value) (w' : World) : Prop :=
 v = (.bool r) ∧ Ky [] w w'
theorem laws_eqPage.calls (a0 : Page) (a1 : Page) (w : World) (F : Nat → Prop) (w0_0 : Value) (w1_0 : Value) (h0_0 : (Kd.sl 25 Yp).rd w [w0_0] a0.Slots F) (h1_0 : (Kd.sl 25 Yp).rd w [w1_0] a1.Slots F) (r : Bool) (m : laws_eqPage.f a0 a1 = some r) :
  Calls prog 70 #[(.agg #[(iI a0.Lsn), w0_0]), (.agg #[(iI a1.Lsn), w1_0])] w (RT (laws_eqPage.Q w F) r) := by
 obtain ⟨s0, rfl, kp0, z⟩ := Xl w F
 refine Xd (args := [(.agg #[(iI a0.Lsn), w0_0]), (.agg #[(iI a1.Lsn), w1_0])]) func70 ntmps70 rfl rfl m ?_
 unfold laws_eqPage.f
 refine sr (bx' (cs := [(iI a0.Lsn), w0_0]) 40 rfl rfl (fun b3 s3 p3 B3 => ?_))
 refine bx' (cs := [(iI a1.Lsn), w1_0]) 41 rfl rfl (fun b5 s5 p5 B5 => ?_)
 refine Xc rfl (dn (sq (sr (Xs fa59_0 rfl ?_))))
 have A7 := B3.st p5 rfl
 refine Yb A7 u3 rfl (Xs fa59_0 rfl (Yb B5 u3 rfl (Xc rfl (dn (cd rfl (fun h8 => ?_) (fun h8 => ?_))))))
 ·
  refine sr (Xc rfl (dn ?_))
  exact re rfl func70 rfl (Xu rfl Xe) rfl ⟨_, rfl, rfl, z.ky (kp0.st (Xo p3 p5) rfl)⟩
 refine sk (sq (sr (Xs fa59_1 rfl (Yb A7 u57 rfl (Xs fa59_1 rfl (Yb B5 u57 rfl ?_))))))
 have K10 := kp0.st (Xo p3 p5) rfl
 refine Ym 42 rfl func97 rfl (laws_eqByteSS.calls a0.Slots a1.Slots s5.w (mm [0] s5) w0_0 w1_0 ((z.rd h0_0).kp K10) ((z.rd h1_0).kp K10)) (fun r13 s14 p14 n14 => ?_)
 refine Xc rfl (dn (cd rfl (fun h15 => ?_) (fun h15 => ?_)))
 ·
  refine sr (Xc rfl (dn ?_))
  exact re rfl func70 rfl (Xu rfl Xe) rfl ⟨_, rfl, rfl, z.ky (K10.st p14 rfl)⟩
 refine sk (sr (Xc rfl (dn ?_)))
 exact re rfl func70 rfl (Xu rfl Xe) rfl ⟨_, rfl, rfl, z.ky (K10.st p14 rfl)⟩
def laws_eqPageS.b0 (a0 : (List Page)) (a1 : (List Page)) (x4 : Int) : Option (Int ⊕ Bool) :=
 (if (decide (x4 < (a0.length : Int))) = true then (if 0 ≤ x4 ∧ x4 < (a0.length : Int) then (if 0 ≤ x4 ∧ x4 < (a1.length : Int) then ((laws_eqPage.f (at_ a0 x4) (at_ a1 x4)).bind fun r26 => (if (!r26) = true then (some (Sum.inr false)) else (some (Sum.inl (IntKind.wrap .i64 (x4 + (1 : Int))))))) else none) else none) else ((some true).bind fun o => some (Sum.inr o)))
def laws_eqPageS.f (a0 : (List Page)) (a1 : (List Page)) : Option (Bool) :=
 (if ((a0.length : Int) != (a1.length : Int)) = true then (some false) else (iter (laws_eqPageS.b0 a0 a1) (0 : Int)))
def laws_eqPageS.Q (w : World) (F : Nat → Prop) (r : Bool) (v : Value) (w' : World) : Prop :=
 v = (.bool r) ∧ Ky [] w w'
theorem laws_eqPageS.calls (a0 : (List Page)) (a1 : (List Page)) (w : World) (F : Nat → Prop) (w0_0 : Value) (w1_0 : Value) (h0_0 : Yr.rd w [w0_0] a0 F) (h1_0 : Yr.rd w [w1_0] a1 F) (r : Bool) (m : laws_eqPageS.f a0 a1 = some r) :
  Calls prog 37 #[w0_0, w1_0] w (RT (laws_eqPageS.Q w F) r) := by
 obtain ⟨s0, rfl, kp0, z⟩ := Xl w F
 have A0_0 := z.rd h0_0
 have A1_0 := z.rd h1_0
 refine Xd (args := [w0_0, w1_0]) func37 ntmps37 rfl rfl m ?_
 unfold laws_eqPageS.f
 refine sr (Xc rfl (dn (sq (sr (Ya w0_0 rfl (Yo A0_0 u30 rfl (Ya w1_0 rfl (Yo A1_0 u30 rfl (Xc rfl (dn (cd rfl (fun h3 => ?_) (fun h3 => ?_))))))))))))
 ·
  exact sr (Xc rfl (dn (re rfl func37 rfl (Xu rfl Xe) rfl ⟨_, rfl, rfl, z.ky kp0⟩)))
 refine sk (sq (sr (Xc rfl (dn (bl (lpI (fun (x4 : Int) e w => ∃ (s : St) (e0 : Env), w = s.w ∧ e = upd (upd (upd e0 0 w0_0) 1 w1_0) 5 (iI x4) ∧ Kp s0 s) ⟨s0, _, rfl, (ue (ue (ue rfl rfl) rfl) rfl), kp0⟩ (fun g4 ih4 => ?_)))))))
 rintro x4 _ _ ⟨s5, _, rfl, rfl, Kx4⟩
 unfold laws_eqPageS.b0
 refine sq (sr (Xc rfl (Ya w0_0 rfl ?_)))
 refine Yo (A0_0.kp Kx4) u30 rfl (Xc rfl (dn (cd rfl (fun h7 => ?_) (fun h7 => ?_))))
 ·
  refine sk (sq (bl (sq (zdraw [[], [], [0, 1], [2], [], [], [4, 5], [6], [3, 7], [8]] [some 17, some 18, some 19, some 20, some 21, some 22, some 23, some 24, some 25, some 26] [[0], [5], [17, 18], [19], [1], [5], [21, 22], [23], [20, 24], [25]] [0, 1, 2, 3, 4, 5, 6, 7, 8, 9] ⟨by kernel_rfl, by kernel_rfl, by kernel_rfl⟩ (by kernel_rfl) (fun s8 p8 l8 tb8 zd8 => ?_)))))
  have K11 := Kx4.st p8 rfl
  have A12 := A0_0.kp K11
  refine mg fun hg13 => ?_
  obtain ⟨ad13, es13, he13, ce13, ia13⟩ := ix_e A12 rfl hg13.1 hg13.2
  obtain ⟨v13_0, rfl, A13_0⟩ := op59 he13
  have A20 := A1_0.kp K11
  refine mg fun hg21 => ?_
  obtain ⟨ad21, es21, he21, ce21, ia21⟩ := ix_e A20 rfl hg21.1 hg21.2
  obtain ⟨v21_0, rfl, A21_0⟩ := op59 he21
  refine zfin [8, 9] tb8 ((((((((zd8.add 0 17 w0_0 rfl).add 1 18 (iI x4) rfl).add 2 19 (.pointer (some ad13)) rfl).add 3 20 (.agg #[(iI ((at_ a0 x4).Lsn)), v13_0]) rfl).add 4 21 w1_0 rfl).add 5 22 (iI x4) rfl).add 6 23 (.pointer (some ad21)) rfl).add 7 24 (.agg #[(iI ((at_ a1 x4).Lsn)), v21_0]) rfl) (Xa (lca_q ce21 u59 z59 rfl rfl rfl rfl rfl rfl rfl) rfl (Xa (ix_q A20 u30 z59 hg21.1 hg21.2 ia21 rfl rfl rfl rfl rfl rfl rfl) rfl (Xa (Xm rfl) rfl (Xa (Xn w1_0 rfl) rfl (Xa (lca_q ce13 u59 z59 rfl rfl rfl rfl rfl rfl rfl) rfl (Xa (ix_q A12 u30 z59 hg13.1 hg13.2 ia13 rfl rfl rfl rfl rfl rfl rfl) rfl (Xa (Xm rfl) rfl (Xa (Xn w0_0 rfl) rfl Xf)))))))) (by kernel_rfl) (by decide) (Ym 40 rfl func70 rfl (laws_eqPage.calls (at_ a0 x4) (at_ a1 x4) s8.w (mm [0] s8) v13_0 v21_0 A13_0 A21_0) (fun r26 s27 p27 n27 => ?_))
  refine Xc rfl (dn (cd rfl (fun h28 => ?_) (fun h28 => ?_)))
  ·
   refine sr (Xc rfl (dn (sgi ?_)))
   exact re rfl func37 rfl (Xu rfl Xe) rfl ⟨_, rfl, rfl, z.ky (K11.st p27 rfl)⟩
  refine sk (ib (rg (Xc rfl (Xc rfl (Xc rfl (dn ?_))))))
  exact lb ih4 ⟨s27, _, rfl, (ue (ue (ue rfl rfl) rfl) rfl), (K11.st p27 rfl)⟩
 exact xt rfl (sgb (sr (Xc rfl (dn (re rfl func37 rfl (Xu rfl Xe) rfl ⟨_, rfl, rfl, z.ky Kx4⟩)))))
def laws_eqHeap.f (a0 : Heap) (a1 : Heap) : Option (Bool) :=
 ((laws_eqPageS.f a0.Pages a1.Pages).bind fun r11 => (if (!r11) = true then (some false) else (some true)))
def laws_eqHeap.Q (w : World) (F : Nat → Prop) (r : Bool) (v : Value) (w' : World) : Prop :=
 v = (.bool r) ∧ Ky [] w w'
theorem laws_eqHeap.calls (a0 : Heap) (a1 : Heap) (w : World) (F : Nat → Prop) (w0_0 : Value) (w1_0 : Value) (h0_0 : Yr.rd w [w0_0] a0.Pages F) (h1_0 : Yr.rd w [w1_0] a1.Pages F) (r : Bool) (m : laws_eqHeap.f a0 a1 = some r) :
  Calls prog 11 #[(.agg #[w0_0]), (.agg #[w1_0])] w (RT (laws_eqHeap.Q w F) r) := by
 obtain ⟨s0, rfl, kp0, z⟩ := Xl w F
 refine Xd (args := [(.agg #[w0_0]), (.agg #[w1_0])]) func11 ntmps11 rfl rfl m ?_
 unfold laws_eqHeap.f
 refine sr (bx' (cs := [w0_0]) 40 rfl rfl (fun b3 s3 p3 B3 => ?_))
 refine bx' (cs := [w1_0]) 41 rfl rfl (fun b5 s5 p5 B5 => ?_)
 refine Xc rfl (dn (sq (sr (Xs fa32_0 rfl ?_))))
 refine Yb (B3.st p5 rfl) u30 rfl (Xs fa32_0 rfl (Yb B5 u30 rfl ?_))
 have K8 := kp0.st (Xo p3 p5) rfl
 refine Ym 42 rfl func37 rfl (laws_eqPageS.calls a0.Pages a1.Pages s5.w (mm [0] s5) w0_0 w1_0 ((z.rd h0_0).kp K8) ((z.rd h1_0).kp K8)) (fun r11 s12 p12 n12 => ?_)
 refine Xc rfl (dn (cd rfl (fun h13 => ?_) (fun h13 => ?_)))
 ·
  refine sr (Xc rfl (dn ?_))
  exact re rfl func11 rfl (Xu rfl Xe) rfl ⟨_, rfl, rfl, z.ky (K8.st p12 rfl)⟩
 refine sk (sr (Xc rfl (dn ?_)))
 exact re rfl func11 rfl (Xu rfl Xe) rfl ⟨_, rfl, rfl, z.ky (K8.st p12 rfl)⟩
def laws_eqRecord.f (a0 : Record) (a1 : Record) : Option (Bool) :=
 (if (a0.Kind != a1.Kind) = true then (some false) else (if (a0.Lsn != a1.Lsn) = true then (some false) else (if (a0.Xid != a1.Xid) = true then (some false) else (if (a0.Page != a1.Page) = true then (some false) else (if (a0.Slot != a1.Slot) = true then (some false) else ((laws_eqByteS.f a0.Data a1.Data).bind fun r21 => (if (!r21) = true then (some false) else (some true))))))))
def laws_eqRecord.Q (w : World) (F : Nat → Prop) (r : Bool) (v : Value) (w' : World) : Prop :=
 v = (.bool r) ∧ Ky [] w w'
theorem laws_eqRecord.calls (a0 : Record) (a1 : Record) (w : World) (F : Nat → Prop) (w0_0 : Value) (w1_0 : Value) (h0_0 : Yp.rd w [w0_0] a0.Data F) (h1_0 : Yp.rd w [w1_0] a1.Data F) (r : Bool) (m : laws_eqRecord.f a0 a1 = some r) :
  Calls prog 12 #[(.agg #[(iI a0.Kind), (iI a0.Lsn), (iI a0.Xid), (iI a0.Page), (iI a0.Slot), w0_0]), (.agg #[(iI a1.Kind), (iI a1.Lsn), (iI a1.Xid), (iI a1.Page), (iI a1.Slot), w1_0])] w (RT (laws_eqRecord.Q w F) r) := by
 obtain ⟨s0, rfl, kp0, z⟩ := Xl w F
 refine Xd (args := [(.agg #[(iI a0.Kind), (iI a0.Lsn), (iI a0.Xid), (iI a0.Page), (iI a0.Slot), w0_0]), (.agg #[(iI a1.Kind), (iI a1.Lsn), (iI a1.Xid), (iI a1.Page), (iI a1.Slot), w1_0])]) func12 ntmps12 rfl rfl m ?_
 unfold laws_eqRecord.f
 refine sr (bx' (cs := [(iI a0.Kind), (iI a0.Lsn), (iI a0.Xid), (iI a0.Page), (iI a0.Slot), w0_0]) 40 rfl rfl (fun b3 s3 p3 B3 => ?_))
 refine bx' (cs := [(iI a1.Kind), (iI a1.Lsn), (iI a1.Xid), (iI a1.Page), (iI a1.Slot), w1_0]) 41 rfl rfl (fun b5 s5 p5 B5 => ?_)
 refine Xc rfl (dn (sq (sr (Xs fa36_0 rfl ?_))))
 have A7 := B3.st p5 rfl
 refine Yb A7 u3 rfl (Xs fa36_0 rfl (Yb B5 u3 rfl (Xc rfl (dn (cd rfl (fun h8 => ?_) (fun h8 => ?_))))))
 ·
  refine sr (Xc rfl (dn ?_))
  exact re rfl func12 rfl (Xu rfl Xe) rfl ⟨_, rfl, rfl, z.ky (kp0.st (Xo p3 p5) rfl)⟩
 refine sk (sq (sr (Xs fa36_1 rfl (Yb A7 u3 rfl (Xs fa36_1 rfl (Yb B5 u3 rfl (Xc rfl (dn (cd rfl (fun h10 => ?_) (fun h10 => ?_))))))))))
 ·
  refine sr (Xc rfl (dn ?_))
  exact re rfl func12 rfl (Xu rfl Xe) rfl ⟨_, rfl, rfl, z.ky (kp0.st (Xo p3 p5) rfl)⟩
 refine sk (sq (sr (Xs fa36_2 rfl (Yb A7 u3 rfl (Xs fa36_2 rfl (Yb B5 u3 rfl (Xc rfl (dn (cd rfl (fun h12 => ?_) (fun h12 => ?_))))))))))
 ·
  refine sr (Xc rfl (dn ?_))
  exact re rfl func12 rfl (Xu rfl Xe) rfl ⟨_, rfl, rfl, z.ky (kp0.st (Xo p3 p5) rfl)⟩
 refine sk (sq (sr (Xs fa36_3 rfl (Yb A7 u3 rfl (Xs fa36_3 rfl (Yb B5 u3 rfl (Xc rfl (dn (cd rfl (fun h14 => ?_) (fun h14 => ?_))))))))))
 ·
  refine sr (Xc rfl (dn ?_))
  exact re rfl func12 rfl (Xu rfl Xe) rfl ⟨_, rfl, rfl, z.ky (kp0.st (Xo p3 p5) rfl)⟩
 refine sk (sq (sr (Xs fa36_4 rfl (Yb A7 u3 rfl (Xs fa36_4 rfl (Yb B5 u3 rfl (Xc rfl (dn (cd rfl (fun h16 => ?_) (fun h16 => ?_))))))))))
 ·
  refine sr (Xc rfl (dn ?_))
  exact re rfl func12 rfl (Xu rfl Xe) rfl ⟨_, rfl, rfl, z.ky (kp0.st (Xo p3 p5) rfl)⟩
 refine sk (sq (sr (Xs fa36_5 rfl (Yb A7 u25 rfl (Xs fa36_5 rfl (Yb B5 u25 rfl ?_))))))
 have K18 := kp0.st (Xo p3 p5) rfl
 refine Ym 42 rfl func38 rfl (laws_eqByteS.calls a0.Data a1.Data s5.w (mm [0] s5) w0_0 w1_0 ((z.rd h0_0).kp K18) ((z.rd h1_0).kp K18)) (fun r21 s22 p22 n22 => ?_)
 refine Xc rfl (dn (cd rfl (fun h23 => ?_) (fun h23 => ?_)))
 ·
  refine sr (Xc rfl (dn ?_))
  exact re rfl func12 rfl (Xu rfl Xe) rfl ⟨_, rfl, rfl, z.ky (K18.st p22 rfl)⟩
 refine sk (sr (Xc rfl (dn ?_)))
 exact re rfl func12 rfl (Xu rfl Xe) rfl ⟨_, rfl, rfl, z.ky (K18.st p22 rfl)⟩
def laws_markByteS.b0  (x2 : (List Int) × Int × Int) : Option (((List Int) × Int × Int) ⊕ (Int × (List Int))) :=
 (if (decide (x2.2.2 < (x2.1.length : Int))) = true then (if 0 ≤ x2.2.2 ∧ x2.2.2 < (x2.1.length : Int) then (some (Sum.inl ((x2.1.set (x2.2.2).toNat (IntKind.wrap .u8 x2.2.1)), (IntKind.wrap .i64 (x2.2.1 + (1 : Int))), (IntKind.wrap .i64 (x2.2.2 + (1 : Int)))))) else none) else ((some (x2.2.1, x2.1)).bind fun o => some (Sum.inr o)))
def laws_markByteS.f (a0 : (List Int)) (a1 : Int) : Option (Int × (List Int)) :=
 (iter laws_markByteS.b0 (a0, a1, (0 : Int)))
def laws_markByteS.Q (w : World) (F : Nat → Prop) (os : List Nat) (w0_0 : Value) (r : Int × (List Int)) (v : Value) (w' : World) : Prop :=
 v = (iI r.1) ∧ FW Yp os w w' [w0_0] r.2 ∧ Ky os w w'
theorem laws_markByteS.calls (a0 : (List Int)) (a1 : Int) (w : World) (F : Nat → Prop) (w0_0 : Value) (os : List Nat) (h0_0 : Yp.ow w [w0_0] a0 os) (hn : os.Nodup) (hF : ∀ b, F b → b ∉ os) (r : Int × (List Int)) (m : laws_markByteS.f a0 a1 = some r) :
  Calls prog 40 #[w0_0, (iI a1)] w (RT (laws_markByteS.Q w F os w0_0) r) := by
 obtain ⟨s0, rfl, kp0, z⟩ := start1 w F os hF
 refine Xd (args := [w0_0, (iI a1)]) func40 ntmps40 rfl rfl m ?_
 unfold laws_markByteS.f
 refine sr (Xc rfl (dn (sq (sr (Xc rfl (dn (bl (lpI (fun (x2 : (List Int) × Int × Int) e w => ∃ (s : St) (e0 : Env), w = s.w ∧ e = upd (upd (upd e0 0 w0_0) 1 (iI x2.2.1)) 5 (iI x2.2.2) ∧ Kp s0 s ∧ OwF Yp s [w0_0] x2.1 2) ⟨s0, _, rfl, (ue (ue (ue rfl rfl) rfl) rfl), kp0, (z.ow h0_0 hn)⟩ (fun g2 ih2 => ?_)))))))))
 rintro x2 _ _ ⟨s3, _, rfl, rfl, Kx2, Ax2_0⟩
 unfold laws_markByteS.b0
 refine sq (sr (Xc rfl (Ya w0_0 rfl (Yo Ax2_0.rd u25 rfl (Xc rfl (dn (cd rfl (fun h5 => ?_) (fun h5 => ?_))))))))
 ·
  refine sk (sq (bl (sr (Ya w0_0 rfl (Xc rfl (Xc rfl (cv' u5 u3 rfl (ix' Ax2_0.rd u25 z5 rfl (fun ad6 es6 h0_6 h1_6 he6 ce6 ia6 => ?_)))))))))
  obtain rfl := he6
  refine so (x' := (IntKind.wrap .u8 x2.2.1)) Ax2_0 ia6 h0_6 h1_6 cs_flat z5 rfl rfl rfl rfl rfl rfl (fun s8 p8 A8 => ?_)
  refine dn (rg (Xc rfl (Xc rfl (Xc rfl (dn (ib (rg (Xc rfl (Xc rfl (Xc rfl (dn ?_)))))))))))
  exact lb ih2 ⟨s8, _, rfl, (ue (ue (ue rfl rfl) rfl) rfl), (Kx2.st p8 rfl), A8⟩
 exact xt rfl (sgb (sr (Xc rfl (Xc rfl (dn (re rfl func40 rfl (Xu rfl Xe) rfl ⟨_, rfl, rfl, z.fw Kx2 Ax2_0, z.ky Kx2⟩))))))
def laws_markByteSS.b0  (x2 : (List (List Int)) × Int × Int) : Option (((List (List Int)) × Int × Int) ⊕ (Int × (List (List Int)))) :=
 (if (decide (x2.2.2 < (x2.1.length : Int))) = true then (if 0 ≤ x2.2.2 ∧ x2.2.2 < (x2.1.length : Int) then ((laws_markByteS.f (at_ x2.1 x2.2.2) x2.2.1).bind fun r9 => (some (Sum.inl ((x2.1.set (x2.2.2).toNat r9.2), r9.1, (IntKind.wrap .i64 (x2.2.2 + (1 : Int))))))) else none) else ((some (x2.2.1, x2.1)).bind fun o => some (Sum.inr o)))
def laws_markByteSS.f (a0 : (List (List Int))) (a1 : Int) : Option (Int × (List (List Int))) :=
 (iter laws_markByteSS.b0 (a0, a1, (0 : Int)))
def laws_markByteSS.Q (w : World) (F : Nat → Prop) (os : List Nat) (w0_0 : Value) (r : Int × (List (List Int))) (v : Value) (w' : World) : Prop :=
 v = (iI r.1) ∧ FW (Kd.sl 25 Yp) os w w' [w0_0] r.2 ∧ Ky os w w'
theorem laws_markByteSS.calls (a0 : (List (List Int))) (a1 : Int) (w : World) (F : Nat → Prop) (w0_0 : Value) (os : List Nat) (h0_0 : (Kd.sl 25 Yp).ow w [w0_0] a0 os) (hn : os.Nodup) (hF : ∀ b, F b → b ∉ os) (r : Int × (List (List Int))) (m : laws_markByteSS.f a0 a1 = some r) :
  Calls prog 71 #[w0_0, (iI a1)] w (RT (laws_markByteSS.Q w F os w0_0) r) := by
 obtain ⟨s0, rfl, kp0, z⟩ := start1 w F os hF
 refine Xd (args := [w0_0, (iI a1)]) func71 ntmps71 rfl rfl m ?_
 unfold laws_markByteSS.f
 refine sr (Xc rfl (dn (sq (sr (Xc rfl (dn (bl (lpI (fun (x2 : (List (List Int)) × Int × Int) e w => ∃ (s : St) (e0 : Env), w = s.w ∧ e = upd (upd (upd e0 0 w0_0) 1 (iI x2.2.1)) 5 (iI x2.2.2) ∧ Kp s0 s ∧ OwF (Kd.sl 25 Yp) s [w0_0] x2.1 2) ⟨s0, _, rfl, (ue (ue (ue rfl rfl) rfl) rfl), kp0, (z.ow h0_0 hn)⟩ (fun g2 ih2 => ?_)))))))))
 rintro x2 _ _ ⟨s3, _, rfl, rfl, Kx2, Ax2_0⟩
 unfold laws_markByteSS.b0
 refine sq (sr (Xc rfl (Ya w0_0 rfl (Yo Ax2_0.rd u57 rfl (Xc rfl (dn (cd rfl (fun h5 => ?_) (fun h5 => ?_))))))))
 ·
  refine sk (sq (bl (rg (Ya w0_0 rfl (Xc rfl (ix' Ax2_0.rd u57 z25 rfl (fun ad6 es6 h0_6 h1_6 he6 ce6 ia6 => ?_)))))))
  obtain ⟨v6, rfl, he6'⟩ := he6
  have A6 : RdF Yp s3 [v6] (at_ x2.1 x2.2.2) [2] := ⟨v6, rfl, he6'⟩
  refine lc0' ce6 u25 rfl (Xc rfl ?_)
  obtain ⟨os9, ho9, hn9, hc9, put9⟩ := focus ln_sl Ax2_0 h0_6 h1_6 ia6 ce6 rfl rfl
  refine cl' rfl func40 rfl (laws_markByteS.calls (at_ x2.1 x2.2.2) x2.2.1 s3.w (mm [] s3) v6 os9 ho9 hn9 (apart_of hc9 rfl)) ?_
  rintro r9 _ w9 m9 ⟨rfl, w9_, ky9⟩
  obtain ⟨s10, rfl, p10, A10⟩ := put9 w9 _ 40 ky9 w9_
  refine Xc rfl (dn (ib (rg (Xc rfl (Xc rfl (Xc rfl (dn ?_)))))))
  exact lb ih2 ⟨s10, _, rfl, (ue (ue (ue rfl rfl) rfl) rfl), (Kx2.st p10 rfl), A10⟩
 exact xt rfl (sgb (sr (Xc rfl (Xc rfl (dn (re rfl func71 rfl (Xu rfl Xe) rfl ⟨_, rfl, rfl, z.fw Kx2 Ax2_0, z.ky Kx2⟩))))))
def laws_markPageS.b0  (x2 : (List Page) × Int × Int) : Option (((List Page) × Int × Int) ⊕ (Int × (List Page))) :=
 (if (decide (x2.2.2 < (x2.1.length : Int))) = true then (if 0 ≤ x2.2.2 ∧ x2.2.2 < (x2.1.length : Int) then (if 0 ≤ x2.2.2 ∧ x2.2.2 < ((x2.1.set (x2.2.2).toNat (Page.mk x2.2.1 (at_ x2.1 x2.2.2).Slots)).length : Int) then ((laws_markByteSS.f ((at_ (x2.1.set (x2.2.2).toNat (Page.mk x2.2.1 (at_ x2.1 x2.2.2).Slots)) x2.2.2).Slots) (IntKind.wrap .i64 (x2.2.1 + (1 : Int)))).bind fun r14 => ((some ((x2.1.set (x2.2.2).toNat (Page.mk x2.2.1 (at_ x2.1 x2.2.2).Slots)).set (x2.2.2).toNat (Page.mk (at_ (x2.1.set (x2.2.2).toNat (Page.mk x2.2.1 (at_ x2.1 x2.2.2).Slots)) x2.2.2).Lsn r14.2))).bind fun y17 => (some (Sum.inl (y17, r14.1, (IntKind.wrap .i64 (x2.2.2 + (1 : Int)))))))) else none) else none) else ((some (x2.2.1, x2.1)).bind fun o => some (Sum.inr o)))
def laws_markPageS.f (a0 : (List Page)) (a1 : Int) : Option (Int × (List Page)) :=
 (iter laws_markPageS.b0 (a0, a1, (0 : Int)))
def laws_markPageS.Q (w : World) (F : Nat → Prop) (os : List Nat) (w0_0 : Value) (r : Int × (List Page)) (v : Value) (w' : World) : Prop :=
 v = (iI r.1) ∧ FW Yr os w w' [w0_0] r.2 ∧ Ky os w w'
theorem laws_markPageS.calls (a0 : (List Page)) (a1 : Int) (w : World) (F : Nat → Prop) (w0_0 : Value) (os : List Nat) (h0_0 : Yr.ow w [w0_0] a0 os) (hn : os.Nodup) (hF : ∀ b, F b → b ∉ os) (r : Int × (List Page)) (m : laws_markPageS.f a0 a1 = some r) :
  Calls prog 39 #[w0_0, (iI a1)] w (RT (laws_markPageS.Q w F os w0_0) r) := by
 obtain ⟨s0, rfl, kp0, z⟩ := start1 w F os hF
 refine Xd (args := [w0_0, (iI a1)]) func39 ntmps39 rfl rfl m ?_
 unfold laws_markPageS.f
 refine sr (Xc rfl (dn (sq (sr (Xc rfl (dn (bl (lpI (fun (x2 : (List Page) × Int × Int) e w => ∃ (s : St) (e0 : Env), w = s.w ∧ e = upd (upd (upd e0 0 w0_0) 1 (iI x2.2.1)) 5 (iI x2.2.2) ∧ Kp s0 s ∧ OwF Yr s [w0_0] x2.1 2) ⟨s0, _, rfl, (ue (ue (ue rfl rfl) rfl) rfl), kp0, (z.ow h0_0 hn)⟩ (fun g2 ih2 => ?_)))))))))
 rintro x2 _ _ ⟨s3, _, rfl, rfl, Kx2, Ax2_0⟩
 unfold laws_markPageS.b0
 refine sq (sr (Xc rfl (Ya w0_0 rfl (Yo Ax2_0.rd u30 rfl (Xc rfl (dn (cd rfl (fun h5 => ?_) (fun h5 => ?_))))))))
 ·
  refine sk (sq (bl (sr (Ya w0_0 rfl (Xc rfl (Xc rfl (ix' Ax2_0.rd u30 z59 rfl (fun ad6 es6 h0_6 h1_6 he6 ce6 ia6 => ?_))))))))
  obtain ⟨v6_0, rfl, A6_0⟩ := op59 he6
  refine Xs fa59_0 rfl (so (x' := (Page.mk x2.2.1 (at_ x2.1 x2.2.2).Slots)) Ax2_0 ia6 h0_6 h1_6 (cs_iso (cs_left cs_flat)) z3 rfl rfl rfl rfl rfl rfl (fun s9 p9 A9 => ?_))
  refine dn (sr (Xc rfl (Xc rfl (Xc rfl (dn (rg (Ya w0_0 rfl (Xc rfl (ix' A9.rd u30 z59 rfl (fun ad11 es11 h0_11 h1_11 he11 ce11 ia11 => ?_))))))))))
  obtain ⟨v11_0, rfl, A11_0⟩ := op59 he11
  refine Xs fa59_1 rfl (lc ce11 u57 rfl rfl rfl rfl rfl rfl rfl rfl (Xc rfl ?_))
  obtain ⟨os14, ho14, hn14, hc14, put14⟩ := focus (ln_iso (fun x : Page => (x.Lsn, x.Slots)) (fun x => x.Slots) (fun x y => (Page.mk x.Lsn y)) (ln_right ln_sl) (fun _ => rfl) (fun _ _ => rfl)) A9 h0_11 h1_11 ia11 ce11 rfl rfl
  refine cl' rfl func71 rfl (laws_markByteSS.calls ((at_ (x2.1.set (x2.2.2).toNat (Page.mk x2.2.1 (at_ x2.1 x2.2.2).Slots)) x2.2.2).Slots) (IntKind.wrap .i64 (x2.2.1 + (1 : Int))) s9.w (mm [] s9) v11_0 os14 ho14 hn14 (apart_of hc14 rfl)) ?_
  rintro r14 _ w14 m14 ⟨rfl, w14_, ky14⟩
  obtain ⟨s15, rfl, p15, A15⟩ := put14 w14 _ 40 ky14 w14_
  refine nb (fun y17 h17 => ?_)
  have A17 : OwF Yr s15 [w0_0] y17 2 := by rw [h17]; exact A15
  refine Xc rfl (dn (ib (rg (Xc rfl (Xc rfl (Xc rfl (dn ?_)))))))
  exact lb ih2 ⟨s15, _, rfl, (ue (ue (ue rfl rfl) rfl) rfl), (Kx2.st (Xo p9 p15) rfl), A17⟩
 exact xt rfl (sgb (sr (Xc rfl (Xc rfl (dn (re rfl func39 rfl (Xu rfl Xe) rfl ⟨_, rfl, rfl, z.fw Kx2 Ax2_0, z.ky Kx2⟩))))))
def laws_markHeap.f (a0 : Heap) (a1 : Int) : Option (Int × (List Page)) :=
 ((laws_markPageS.f a0.Pages a1).bind fun r4 => (some (r4.1, r4.2)))
def laws_markHeap.Q (w : World) (F : Nat → Prop) (os : List Nat) (w0_0 : Value) (r : Int × (List Page)) (v : Value) (w' : World) : Prop :=
 v = (iI r.1) ∧ FW Yr os w w' [w0_0] r.2 ∧ Ky os w w'
theorem laws_markHeap.calls (a0 : Heap) (a1 : Int) (w : World) (F : Nat → Prop) (w0_0 : Value) (os : List Nat) (h0_0 : Yr.ow w [w0_0] a0.Pages os) (hn : os.Nodup) (hF : ∀ b, F b → b ∉ os) (r : Int × (List Page)) (m : laws_markHeap.f a0 a1 = some r) :
  Calls prog 13 #[(.agg #[w0_0]), (iI a1)] w (RT (laws_markHeap.Q w F os w0_0) r) := by
 obtain ⟨s0, rfl, kp0, z⟩ := start1 w F os hF
 refine Xd (args := [(.agg #[w0_0]), (iI a1)]) func13 ntmps13 rfl rfl m ?_
 unfold laws_markHeap.f
 refine sr (bx' (cs := [w0_0]) 40 rfl rfl (fun b2 s2 p2 B2 => ?_))
 refine Xc rfl (dn (sr (Xs fa32_0 rfl (Yb B2 u30 rfl (Xc rfl ?_)))))
 obtain ⟨os4, ho4, hn4, hc4⟩ := (z.ow h0_0 hn).st p2 rfl
 refine cl' rfl func39 rfl (laws_markPageS.calls a0.Pages a1 s2.w (mm [] s2) w0_0 os4 ho4 hn4 (apart_of hc4 rfl)) ?_
 rintro r4 _ w4 m4 ⟨rfl, w4_, ky4⟩
 obtain ⟨s6, rfl, p6, A6⟩ := nwo 41 hc4 ky4 w4_
 refine Xc rfl (dn (sr (Xc rfl (Xc rfl (dn ?_)))))
 have K8 := kp0.st (Xo p2 p6) rfl
 exact re rfl func13 rfl (Xu rfl Xe) rfl ⟨_, rfl, rfl, z.fw K8 A6, z.ky K8⟩
def laws_markRecord.f (a0 : Record) (a1 : Int) : Option (Int × (List Int)) :=
 ((laws_markByteS.f a0.Data a1).bind fun r4 => (some (r4.1, r4.2)))
def laws_markRecord.Q (w : World) (F : Nat → Prop) (os : List Nat) (w0_0 : Value) (r : Int × (List Int)) (v : Value) (w' : World) : Prop :=
 v = (iI r.1) ∧ FW Yp os w w' [w0_0] r.2 ∧ Ky os w w'
theorem laws_markRecord.calls (a0 : Record) (a1 : Int) (w : World) (F : Nat → Prop) (w0_0 : Value) (os : List Nat) (h0_0 : Yp.ow w [w0_0] a0.Data os) (hn : os.Nodup) (hF : ∀ b, F b → b ∉ os) (r : Int × (List Int)) (m : laws_markRecord.f a0 a1 = some r) :
  Calls prog 14 #[(.agg #[(iI a0.Kind), (iI a0.Lsn), (iI a0.Xid), (iI a0.Page), (iI a0.Slot), w0_0]), (iI a1)] w (RT (laws_markRecord.Q w F os w0_0) r) := by
 obtain ⟨s0, rfl, kp0, z⟩ := start1 w F os hF
 refine Xd (args := [(.agg #[(iI a0.Kind), (iI a0.Lsn), (iI a0.Xid), (iI a0.Page), (iI a0.Slot), w0_0]), (iI a1)]) func14 ntmps14 rfl rfl m ?_
 unfold laws_markRecord.f
 refine sr (bx' (cs := [(iI a0.Kind), (iI a0.Lsn), (iI a0.Xid), (iI a0.Page), (iI a0.Slot), w0_0]) 40 rfl rfl (fun b2 s2 p2 B2 => ?_))
 refine Xc rfl (dn (sr (Xs fa36_5 rfl (Yb B2 u25 rfl (Xc rfl ?_)))))
 obtain ⟨os4, ho4, hn4, hc4⟩ := (z.ow h0_0 hn).st p2 rfl
 refine cl' rfl func40 rfl (laws_markByteS.calls a0.Data a1 s2.w (mm [] s2) w0_0 os4 ho4 hn4 (apart_of hc4 rfl)) ?_
 rintro r4 _ w4 m4 ⟨rfl, w4_, ky4⟩
 obtain ⟨s6, rfl, p6, A6⟩ := nwo 41 hc4 ky4 w4_
 refine Xc rfl (dn (sr (Xc rfl (Xc rfl (dn ?_)))))
 have K8 := kp0.st (Xo p2 p6) rfl
 exact re rfl func14 rfl (Xu rfl Xe) rfl ⟨_, rfl, rfl, z.fw K8 A6, z.ky K8⟩
def laws_heldByteS.b0 (a0 : (List Int)) (x2 : Int × Int) : Option ((Int × Int) ⊕ Int) :=
 (if (decide (x2.2 < (a0.length : Int))) = true then (if 0 ≤ x2.2 ∧ x2.2 < (a0.length : Int) then (if ((at_ a0 x2.2) != (IntKind.wrap .u8 x2.1)) = true then (some (Sum.inr (-1 : Int))) else (some (Sum.inl ((IntKind.wrap .i64 (x2.1 + (1 : Int))), (IntKind.wrap .i64 (x2.2 + (1 : Int))))))) else none) else ((some x2.1).bind fun o => some (Sum.inr o)))
def laws_heldByteS.f (a0 : (List Int)) (a1 : Int) : Option (Int) :=
 (iter (laws_heldByteS.b0 a0) (a1, (0 : Int)))
def laws_heldByteS.Q (w : World) (F : Nat → Prop) (r : Int) (v : Value) (w' : World) : Prop :=
 v = (iI r) ∧ Ky [] w w'
theorem laws_heldByteS.calls (a0 : (List Int)) (a1 : Int) (w : World) (F : Nat → Prop) (w0_0 : Value) (h0_0 : Yp.rd w [w0_0] a0 F) (r : Int) (m : laws_heldByteS.f a0 a1 = some r) :
  Calls prog 98 #[w0_0, (iI a1)] w (RT (laws_heldByteS.Q w F) r) := by
 obtain ⟨s0, rfl, kp0, z⟩ := Xl w F
 refine Xd (args := [w0_0, (iI a1)]) func98 ntmps98 rfl rfl m ?_
 unfold laws_heldByteS.f
 refine sr (Xc rfl (dn (sq (sr (Xc rfl (dn (bl (lpI (fun (x2 : Int × Int) e w => ∃ (s : St) (e0 : Env), w = s.w ∧ e = upd (upd (upd e0 0 w0_0) 1 (iI x2.1)) 5 (iI x2.2) ∧ Kp s0 s) ⟨s0, _, rfl, (ue (ue (ue rfl rfl) rfl) rfl), kp0⟩ (fun g2 ih2 => ?_)))))))))
 rintro x2 _ _ ⟨s3, _, rfl, rfl, Kx2⟩
 unfold laws_heldByteS.b0
 refine sq (sr (Xc rfl (Ya w0_0 rfl ?_)))
 have A4 := (z.rd h0_0).kp Kx2
 refine Yo A4 u25 rfl (Xc rfl (dn (cd rfl (fun h5 => ?_) (fun h5 => ?_))))
 ·
  refine sk (sq (bl (sq (sr (Ya w0_0 rfl (Xc rfl (ix' A4 u25 z5 rfl (fun ad6 es6 h0_6 h1_6 he6 ce6 ia6 => ?_))))))))
  obtain rfl := he6
  refine lc0' ce6 u5 rfl (Xc rfl (cv' u5 u3 rfl (Xc rfl (dn (cd rfl (fun h8 => ?_) (fun h8 => ?_))))))
  ·
   exact sr (Xc rfl (dn (sgi (re rfl func98 rfl (Xu rfl Xe) rfl ⟨_, rfl, rfl, z.ky Kx2⟩))))
  exact sk (rg (Xc rfl (Xc rfl (Xc rfl (dn (ib (rg (Xc rfl (Xc rfl (Xc rfl (dn (lb ih2 ⟨s3, _, rfl, (ue (ue (ue rfl rfl) rfl) rfl), Kx2⟩))))))))))))
 exact xt rfl (sgb (sr (Xc rfl (Xc rfl (dn (re rfl func98 rfl (Xu rfl Xe) rfl ⟨_, rfl, rfl, z.ky Kx2⟩))))))
def laws_heldByteSS.b0 (a0 : (List (List Int))) (x2 : Int × Int) : Option ((Int × Int) ⊕ Int) :=
 (if (decide (x2.2 < (a0.length : Int))) = true then (if 0 ≤ x2.2 ∧ x2.2 < (a0.length : Int) then ((laws_heldByteS.f (at_ a0 x2.2) x2.1).bind fun r9 => (if (decide (r9 < (0 : Int))) = true then (some (Sum.inr (-1 : Int))) else (some (Sum.inl (r9, (IntKind.wrap .i64 (x2.2 + (1 : Int)))))))) else none) else ((some x2.1).bind fun o => some (Sum.inr o)))
def laws_heldByteSS.f (a0 : (List (List Int))) (a1 : Int) : Option (Int) :=
 (iter (laws_heldByteSS.b0 a0) (a1, (0 : Int)))
def laws_heldByteSS.Q (w : World) (F : Nat → Prop) (r : Int) (v : Value) (w' : World) : Prop :=
 v = (iI r) ∧ Ky [] w w'
theorem laws_heldByteSS.calls (a0 : (List (List Int))) (a1 : Int) (w : World) (F : Nat → Prop) (w0_0 : Value) (h0_0 : (Kd.sl 25 Yp).rd w [w0_0] a0 F) (r : Int) (m : laws_heldByteSS.f a0 a1 = some r) :
  Calls prog 72 #[w0_0, (iI a1)] w (RT (laws_heldByteSS.Q w F) r) := by
 obtain ⟨s0, rfl, kp0, z⟩ := Xl w F
 refine Xd (args := [w0_0, (iI a1)]) func72 ntmps72 rfl rfl m ?_
 unfold laws_heldByteSS.f
 refine sr (Xc rfl (dn (sq (sr (Xc rfl (dn (bl (lpI (fun (x2 : Int × Int) e w => ∃ (s : St) (e0 : Env), w = s.w ∧ e = upd (upd (upd e0 0 w0_0) 1 (iI x2.1)) 5 (iI x2.2) ∧ Kp s0 s) ⟨s0, _, rfl, (ue (ue (ue rfl rfl) rfl) rfl), kp0⟩ (fun g2 ih2 => ?_)))))))))
 rintro x2 _ _ ⟨s3, _, rfl, rfl, Kx2⟩
 unfold laws_heldByteSS.b0
 refine sq (sr (Xc rfl (Ya w0_0 rfl ?_)))
 have A4 := (z.rd h0_0).kp Kx2
 refine Yo A4 u57 rfl (Xc rfl (dn (cd rfl (fun h5 => ?_) (fun h5 => ?_))))
 ·
  refine sk (sq (bl (sr (Ya w0_0 rfl (Xc rfl (ix' A4 u57 z25 rfl (fun ad6 es6 h0_6 h1_6 he6 ce6 ia6 => ?_)))))))
  obtain ⟨v6, rfl, he6'⟩ := he6
  have A6 : RdF Yp s3 [v6] (at_ a0 x2.2) [0] := ⟨v6, rfl, he6'⟩
  refine lc0' ce6 u25 rfl (Xc rfl (Ym 40 rfl func98 rfl (laws_heldByteS.calls (at_ a0 x2.2) x2.1 s3.w (mm [0] s3) v6 A6) (fun r9 s10 p10 n10 => ?_)))
  refine Xc rfl (dn (sr (Xc rfl (Xc rfl (dn (cd rfl (fun h11 => ?_) (fun h11 => ?_)))))))
  ·
   refine sr (Xc rfl (dn (sgi ?_)))
   exact re rfl func72 rfl (Xu rfl Xe) rfl ⟨_, rfl, rfl, z.ky (Kx2.st p10 rfl)⟩
  refine sk (ib (rg (Xc rfl (Xc rfl (Xc rfl (dn ?_))))))
  exact lb ih2 ⟨s10, _, rfl, (ue (ue (ue rfl rfl) rfl) rfl), (Kx2.st p10 rfl)⟩
 exact xt rfl (sgb (sr (Xc rfl (Xc rfl (dn (re rfl func72 rfl (Xu rfl Xe) rfl ⟨_, rfl, rfl, z.ky Kx2⟩))))))
def laws_heldPageS.b0 (a0 : (List Page)) (x2 : Int × Int) : Option ((Int × Int) ⊕ Int) :=
 (if (decide (x2.2 < (a0.length : Int))) = true then (if 0 ≤ x2.2 ∧ x2.2 < (a0.length : Int) then (if ((at_ a0 x2.2).Lsn != x2.1) = true then (some (Sum.inr (-1 : Int))) else (if 0 ≤ x2.2 ∧ x2.2 < (a0.length : Int) then ((laws_heldByteSS.f ((at_ a0 x2.2).Slots) (IntKind.wrap .i64 (x2.1 + (1 : Int)))).bind fun r13 => (if (decide (r13 < (0 : Int))) = true then (some (Sum.inr (-1 : Int))) else (some (Sum.inl (r13, (IntKind.wrap .i64 (x2.2 + (1 : Int)))))))) else none)) else none) else ((some x2.1).bind fun o => some (Sum.inr o)))
def laws_heldPageS.f (a0 : (List Page)) (a1 : Int) : Option (Int) :=
 (iter (laws_heldPageS.b0 a0) (a1, (0 : Int)))
def laws_heldPageS.Q (w : World) (F : Nat → Prop) (r : Int) (v : Value) (w' : World) : Prop :=
 v = (iI r) ∧ Ky [] w w'
theorem laws_heldPageS.calls (a0 : (List Page)) (a1 : Int) (w : World) (F : Nat → Prop) (w0_0 : Value) (h0_0 : Yr.rd w [w0_0] a0 F) (r : Int) (m : laws_heldPageS.f a0 a1 = some r) :
  Calls prog 41 #[w0_0, (iI a1)] w (RT (laws_heldPageS.Q w F) r) := by
 obtain ⟨s0, rfl, kp0, z⟩ := Xl w F
 refine Xd (args := [w0_0, (iI a1)]) func41 ntmps41 rfl rfl m ?_
 unfold laws_heldPageS.f
 refine sr (Xc rfl (dn (sq (sr (Xc rfl (dn (bl (lpI (fun (x2 : Int × Int) e w => ∃ (s : St) (e0 : Env), w = s.w ∧ e = upd (upd (upd e0 0 w0_0) 1 (iI x2.1)) 5 (iI x2.2) ∧ Kp s0 s) ⟨s0, _, rfl, (ue (ue (ue rfl rfl) rfl) rfl), kp0⟩ (fun g2 ih2 => ?_)))))))))
 rintro x2 _ _ ⟨s3, _, rfl, rfl, Kx2⟩
 unfold laws_heldPageS.b0
 refine sq (sr (Xc rfl (Ya w0_0 rfl ?_)))
 have A4 := (z.rd h0_0).kp Kx2
 refine Yo A4 u30 rfl (Xc rfl (dn (cd rfl (fun h5 => ?_) (fun h5 => ?_))))
 ·
  refine sk (sq (bl (sq (sr (Ya w0_0 rfl (Xc rfl (ix' A4 u30 z59 rfl (fun ad6 es6 h0_6 h1_6 he6 ce6 ia6 => ?_))))))))
  obtain ⟨v6_0, rfl, A6_0⟩ := op59 he6
  refine Xs fa59_0 rfl (lc0' ce6 u3 rfl (Xc rfl (Xc rfl (dn (cd rfl (fun h9 => ?_) (fun h9 => ?_))))))
  ·
   exact sr (Xc rfl (dn (sgi (re rfl func41 rfl (Xu rfl Xe) rfl ⟨_, rfl, rfl, z.ky Kx2⟩))))
  refine sk (sr (Xc rfl (Xc rfl (Xc rfl (dn (sr (Ya w0_0 rfl (Xc rfl (ix' A4 u30 z59 rfl (fun ad10 es10 h0_10 h1_10 he10 ce10 ia10 => ?_))))))))))
  obtain ⟨v10_0, rfl, A10_0⟩ := op59 he10
  refine Xs fa59_1 rfl (lc ce10 u57 rfl rfl rfl rfl rfl rfl rfl rfl (Xc rfl (Ym 40 rfl func72 rfl (laws_heldByteSS.calls ((at_ a0 x2.2).Slots) (IntKind.wrap .i64 (x2.1 + (1 : Int))) s3.w (mm [0] s3) v10_0 A10_0) (fun r13 s14 p14 n14 => ?_))))
  refine Xc rfl (dn (sr (Xc rfl (Xc rfl (dn (cd rfl (fun h15 => ?_) (fun h15 => ?_)))))))
  ·
   refine sr (Xc rfl (dn (sgi ?_)))
   exact re rfl func41 rfl (Xu rfl Xe) rfl ⟨_, rfl, rfl, z.ky (Kx2.st p14 rfl)⟩
  refine sk (ib (rg (Xc rfl (Xc rfl (Xc rfl (dn ?_))))))
  exact lb ih2 ⟨s14, _, rfl, (ue (ue (ue rfl rfl) rfl) rfl), (Kx2.st p14 rfl)⟩
 exact xt rfl (sgb (sr (Xc rfl (Xc rfl (dn (re rfl func41 rfl (Xu rfl Xe) rfl ⟨_, rfl, rfl, z.ky Kx2⟩))))))
def laws_heldHeap.f (a0 : Heap) (a1 : Int) : Option (Int) :=
 ((laws_heldPageS.f a0.Pages a1).bind fun r6 => (if (decide (r6 < (0 : Int))) = true then (some (-1 : Int)) else (some r6)))
def laws_heldHeap.Q (w : World) (F : Nat → Prop) (r : Int) (v : Value) (w' : World) : Prop :=
 v = (iI r) ∧ Ky [] w w'
theorem laws_heldHeap.calls (a0 : Heap) (a1 : Int) (w : World) (F : Nat → Prop) (w0_0 : Value) (h0_0 : Yr.rd w [w0_0] a0.Pages F) (r : Int) (m : laws_heldHeap.f a0 a1 = some r) :
  Calls prog 15 #[(.agg #[w0_0]), (iI a1)] w (RT (laws_heldHeap.Q w F) r) := by
 obtain ⟨s0, rfl, kp0, z⟩ := Xl w F
 refine Xd (args := [(.agg #[w0_0]), (iI a1)]) func15 ntmps15 rfl rfl m ?_
 unfold laws_heldHeap.f
 refine sr (bx' (cs := [w0_0]) 40 rfl rfl (fun b2 s2 p2 B2 => ?_))
 refine Xc rfl (dn (sr (Xs fa32_0 rfl (Yb B2 u30 rfl (Xc rfl ?_)))))
 have K4 := kp0.st p2 rfl
 refine Ym 41 rfl func41 rfl (laws_heldPageS.calls a0.Pages a1 s2.w (mm [0] s2) w0_0 ((z.rd h0_0).kp K4)) (fun r6 s7 p7 n7 => ?_)
 refine Xc rfl (dn (sq (sr (Xc rfl (Xc rfl (dn (cd rfl (fun h8 => ?_) (fun h8 => ?_))))))))
 ·
  refine sr (Xc rfl (dn ?_))
  exact re rfl func15 rfl (Xu rfl Xe) rfl ⟨_, rfl, rfl, z.ky (K4.st p7 rfl)⟩
 refine sk (sr (Xc rfl (Xc rfl (dn ?_))))
 exact re rfl func15 rfl (Xu rfl Xe) rfl ⟨_, rfl, rfl, z.ky (K4.st p7 rfl)⟩
def laws_FnExactRedoOne.f (a0 : Heap) (a1 : Record) : Option (Bool) :=
 ((laws_szHeap.f a0 (1048576 : Int)).bind fun r10 => (if (decide (r10 < (0 : Int))) = true then (some true) else ((laws_szRecord.f a1 r10).bind fun r17 => (if (decide (r17 < (0 : Int))) = true then (some true) else (((laws_toHeap.f a0).bind fun r33 => ((laws_toRecord.f a1).bind fun r42 => ((spec_RedoOne.f r33 r42).bind fun r49 => (some (r49.1.Pages, r49.2))))).bind fun y26 => ((laws_toHeap.f a0).bind fun r180 => ((laws_toRecord.f a1).bind fun r191 => ((impl_RedoOne.f r180 r191).bind fun r202 => ((laws_eqHeap.f r202.1 (Heap.mk y26.1)).bind fun r213 => (if ((!r213) || (!(r202.2 == y26.2))) = true then (some false) else ((laws_toHeap.f a0).bind fun r228 => ((laws_eqHeap.f r180 r228).bind fun r234 => (if (!r234) = true then (some false) else ((laws_toRecord.f a1).bind fun r248 => ((laws_eqRecord.f r191 r248).bind fun r254 => (if (!r254) = true then (some false) else ((laws_markHeap.f r180 (1 : Int)).bind fun r259 => ((laws_markRecord.f r191 r259.1).bind fun r264 => ((if (decide (r264.1 < (0 : Int))) = true then (some true) else ((laws_eqHeap.f r202.1 (Heap.mk y26.1)).bind fun r280 => (some (!r280)))).bind fun y268 => (if (y268 || (!(r202.2 == y26.2))) = true then (some false) else ((laws_markHeap.f r202.1 (1 : Int)).bind fun r296 => ((laws_heldHeap.f (Heap.mk r296.2) (1 : Int)).bind fun r300 => (if (decide (r300 < (0 : Int))) = true then (some false) else (if (r300 != r296.1) = true then (some false) else (((laws_toHeap.f a0).bind fun r318 => ((laws_toRecord.f a1).bind fun r327 => ((impl_RedoOne.f r318 r327).bind fun r334 => (some (r334.1.Pages, r334.2))))).bind fun y311 => ((laws_eqHeap.f (Heap.mk y311.1) (Heap.mk y26.1)).bind fun r472 => (if ((!r472) || (!(y311.2 == y26.2))) = true then (some false) else ((laws_heldHeap.f (Heap.mk r296.2) (1 : Int)).bind fun r479 => (if (decide (r479 < (0 : Int))) = true then (some false) else (if (r479 != r296.1) = true then (some false) else (some true)))))))))))))))))))))))))))))))
def laws_FnExactRedoOne.Q (w : World) (F : Nat → Prop) (r : Bool) (v : Value) (w' : World) : Prop :=
 v = (.bool r) ∧ Ky [] w w'
theorem laws_FnExactRedoOne.calls (a0 : Heap) (a1 : Record) (w : World) (F : Nat → Prop) (w0_0 : Value) (w1_0 : Value) (h0_0 : (Kd.sl 73 kd73).rd w [w0_0] a0.Pages F) (h1_0 : Yp.rd w [w1_0] a1.Data F) (r : Bool) (m : laws_FnExactRedoOne.f a0 a1 = some r) :
  Calls prog 3 #[(.agg #[w0_0]), (.agg #[(iI a1.Kind), (iI a1.Lsn), (iI a1.Xid), (iI a1.Page), (iI a1.Slot), w1_0])] w (RT (laws_FnExactRedoOne.Q w F) r) := by
 obtain ⟨s0, rfl, kp0, z⟩ := Xl w F
 have A0_0 := z.rd h0_0
 have A1_0 := z.rd h1_0
 refine Xd (args := [(.agg #[w0_0]), (.agg #[(iI a1.Kind), (iI a1.Lsn), (iI a1.Xid), (iI a1.Page), (iI a1.Slot), w1_0])]) func3 ntmps3 rfl rfl m ?_
 unfold laws_FnExactRedoOne.f
 refine sr (bx' (cs := [w0_0]) 40 rfl rfl (fun b3 s3 p3 B3 => ?_))
 refine bx' (cs := [(iI a1.Kind), (iI a1.Lsn), (iI a1.Xid), (iI a1.Page), (iI a1.Slot), w1_0]) 41 rfl rfl (fun b5 s5 p5 B5 => ?_)
 refine Xc rfl (dn (sr (Xc rfl (dn (sr ?_)))))
 have A7 := B3.st p5 rfl
 refine Xy (es := [w0_0]) A7 u24 z24 rfl (Xc rfl ?_)
 have K8 := kp0.st (Xo p3 p5) rfl
 refine Ym 42 rfl func5 rfl (laws_szHeap.calls a0 (1048576 : Int) s5.w (mm [0] s5) w0_0 (A0_0.kp K8)) (fun r10 s11 p11 n11 => ?_)
 refine Xc rfl (dn (sq (sr (Xc rfl (Xc rfl (dn (cd rfl (fun h12 => ?_) (fun h12 => ?_))))))))
 ·
  refine sr (Xc rfl (dn ?_))
  exact re rfl func3 rfl (Xu rfl Xe) rfl ⟨_, rfl, rfl, z.ky (K8.st p11 rfl)⟩
 refine sk (sr ?_)
 have A14 := B5.st p11 rfl
 refine Xy (es := [(iI a1.Kind), (iI a1.Lsn), (iI a1.Xid), (iI a1.Page), (iI a1.Slot), w1_0]) A14 u27 z27 rfl (Xc rfl ?_)
 have K15 := K8.st p11 rfl
 refine Ym 43 rfl func6 rfl (laws_szRecord.calls a1 r10 s11.w (mm [0] s11) w1_0 (A1_0.kp K15)) (fun r17 s18 p18 n18 => ?_)
 refine Xc rfl (dn (sq (sr (Xc rfl (Xc rfl (dn (cd rfl (fun h19 => ?_) (fun h19 => ?_))))))))
 ·
  refine sr (Xc rfl (dn ?_))
  exact re rfl func3 rfl (Xu rfl Xe) rfl ⟨_, rfl, rfl, z.ky (K15.st p18 rfl)⟩
 refine sk (sq (zdraw [[], [0], [], [2, 1], [1, 3, 3], [4], [5], [5], [], [8, 6, 4, 0, 1, 2, 3, 4, 5, 6, 8], [7, 9, 0, 1, 2, 3, 4, 5, 6, 7, 8, 9]] [some 28, some 29, some 30, some 31, some 32, some 27, some 33, some 34, some 6, none, some 7] [[2], [28], [3], [30], [29, 31], [32], [27], [27], [], [6, 33], [34]] [0, 1, 2, 3, 4, 5, 6, 9, 7, 8, 10] ⟨by kernel_rfl, by kernel_rfl, by kernel_rfl⟩ (by kernel_rfl) (fun s21 p21 l21 tb21 zd21 => ?_)))
 refine ji [10] (fun (y26 : (List Page) × Bool) e w => ∃ (s : St) (e0 : Env) (vy26_0 : Value) (by26_0 : Nat), w = s.w ∧ e = upd (upd (upd (upd e0 2 (pB b3)) 3 (pB b5)) 6 (pB by26_0)) 34 (.bool y26.2) ∧ Kp s0 s ∧ OwF Yr s [vy26_0] y26.1 44 ∧ BlF s b5 27 [(iI a1.Kind), (iI a1.Lsn), (iI a1.Xid), (iI a1.Page), (iI a1.Slot), w1_0] 41 ∧ BlF s b3 24 [w0_0] 40 ∧ BlF s by26_0 32 [vy26_0] 45) (fun Gj26 Kj26 => ?_) ?_
 ·
  refine zstep2 1 8 [some 30] [some 30, some 28] tb21 ((zd21.add 0 28 (.agg #[w0_0]) rfl).add 2 30 (.agg #[(iI a1.Kind), (iI a1.Lsn), (iI a1.Xid), (iI a1.Page), (iI a1.Slot), w1_0]) rfl) (Xa (Yh (es := [(iI a1.Kind), (iI a1.Lsn), (iI a1.Xid), (iI a1.Page), (iI a1.Slot), w1_0]) (A14.st (Xo p18 p21) rfl) u27 z27 rfl) rfl (Xa (Yh (es := [w0_0]) (A7.st (Yi p11 p18 p21) rfl) u24 z24 rfl) rfl Xf)) (by kernel_rfl) (by kernel_rfl) (fun l27 e27 zd27 => ?_) (fun l28 e28 zd28 => ?_)
  ·
   have K31 := K15.st (Xo p18 p21) rfl
   refine cl' rfl func8 rfl (laws_toHeap.calls a0 s21.w (mm [0] s21) w0_0 (A0_0.kp K31)) ?_
   rintro r33 _ w33 m33 ⟨v33_0, rfl, f33_0, ky33⟩
   obtain ⟨s34, rfl, p34, n34⟩ := nwx s21 w33 46 ky33
   have Au33_0_0 := ap32 (f33_0.c n34)
   refine Xk (L' := [2]) (D' := [0, 1]) zd27 rfl (fun zd36 => ?_)
   refine zstep2 3 8 [] [some 30] tb21 zd36 (Xa (Yh (es := [(iI a1.Kind), (iI a1.Lsn), (iI a1.Xid), (iI a1.Page), (iI a1.Slot), w1_0]) (A14.st (Yi p18 p21 p34) rfl) u27 z27 rfl) rfl Xf) (by kernel_rfl) (by kernel_rfl) (fun l37 e37 zd37 => ?_) (fun l38 e38 zd38 => ?_)
   ·
    have K40 := K31.st p34 rfl
    refine cl' rfl func9 rfl (laws_toRecord.calls a1 s34.w (mm [0] s34) w1_0 (A1_0.kp K40)) ?_
    rintro r42 _ w42 m42 ⟨v42_0, rfl, f42_0, ky42⟩
    obtain ⟨s43, rfl, p43, n43⟩ := nwx s34 w42 47 ky42
    have Au42_0_0 := ap36 (f42_0.c n43)
    refine Xk (L' := []) (D' := [2, 3, 0, 1]) zd37 rfl (fun zd45 => ?_)
    refine zstep2 4 8 [] [] tb21 zd45 Xf (by kernel_rfl) (by kernel_rfl) (fun l46 e46 zd46 => ?_) (fun l47 e47 zd47 => ?_)
    ·
     refine cl' rfl func7 rfl (spec_RedoOne.calls r33 r42 s43.w (mm [46, 47] s43) v33_0 v42_0 ((Au33_0_0.st p43 rfl).rd.sub (D := [46, 47]) rfl) (Au42_0_0.rd.sub (D := [46, 47]) rfl)) ?_
     rintro r49 _ w49 m49 ⟨v49_0, rfl, f49_0, ky49⟩
     obtain ⟨s50, rfl, p50, n50⟩ := nwx s43 w49 48 ky49
     refine Xk (L' := []) (D' := [4, 2, 3, 0, 1]) zd46 rfl (fun zd52 => ?_)
     refine Xv 8 [some 34, some 33, some 27] tb21 (((zd52.add 5 27 (.tuple #[(.agg #[v49_0]), (.bool r49.2)]) rfl).add 6 33 (.agg #[v49_0]) rfl).add 7 34 (.bool r49.2) rfl) (Xa (Xm (v := (.bool r49.2)) rfl) rfl (Xa (Xm (v := (.agg #[v49_0])) rfl) rfl (Xa (Xm rfl) rfl Xf))) (by kernel_rfl) rfl (fun l56 e56 zd56 => ?_)
     refine al' (cs := [(.slice none 0 0)]) 49 rfl o32 rfl (fun b57 s57 p57 B57 => ?_)
     refine Xk (L' := [7, 6, 5]) (D' := [8, 4, 2, 3, 0, 1]) zd56 rfl (fun zd59 => ?_)
     refine Xv 9 [some 34] tb21 zd59 (Xa (Xm (v := (.bool r49.2)) rfl) rfl (Xa (Xm (v := (.agg #[v49_0])) rfl) rfl (Xa (Xm rfl) rfl Xf))) (by kernel_rfl) rfl (fun l60 e60 zd60 => ?_)
     have A61 := (ap32 (f49_0.c n50)).st p57 rfl
     refine Xw (vs := [v49_0]) B57 z32 rfl (Xb A61.rd.one Xi) rfl (fun s62 p62 B62 => ?_)
     refine zdone0 (L' := [7]) (D' := [6, 5, 6, 9, 8, 4, 2, 3, 0, 1]) zd60 rfl rfl rfl (fun zd64 => ?_)
     refine zfin [10] tb21 zd64 (Xa (Xm (v := (.bool r49.2)) rfl) rfl Xf) (by kernel_rfl) (by decide) ?_
     obtain ⟨s65, hw65, p65, D65⟩ := BlF.rc B62 45 rfl
     rw [hw65]
     obtain ⟨s68, hw68, p68, A68⟩ := (A61.st (Xo p62 p65) rfl).rc 44 rfl
     rw [hw68]
     exact Kj26 _ _ _ ⟨s68, _, v49_0, b57, rfl, (ue (ue (ue (ue rfl rfl) rfl) rfl) rfl), (K40.st (tr6 p43 p50 p57 p62 p65 p68) rfl), A68, (A14.st (tr9 p18 p21 p34 p43 p50 p57 p62 p65 p68) rfl), (A7.st (tr10 p11 p18 p21 p34 p43 p50 p57 p62 p65 p68) rfl), (D65.st p68 rfl)⟩
    refine al' (cs := [(.slice none 0 0)]) 50 rfl o32 rfl (fun b73 s73 p73 B73 => ?_)
    refine Xk (L' := []) (D' := [8, 2, 3, 0, 1]) zd47 rfl (fun zd75 => ?_)
    refine Xv 4 [] tb21 zd75 Xf (by kernel_rfl) rfl (fun l76 e76 zd76 => ?_)
    refine cl' rfl func7 rfl (spec_RedoOne.calls r33 r42 s73.w (mm [46, 47] s73) v33_0 v42_0 ((Au33_0_0.st (Xo p43 p73) rfl).rd.sub (D := [46, 47]) rfl) ((Au42_0_0.st p73 rfl).rd.sub (D := [46, 47]) rfl)) ?_
    rintro r79 _ w79 m79 ⟨v79_0, rfl, f79_0, ky79⟩
    obtain ⟨s80, rfl, p80, n80⟩ := nwx s73 w79 51 ky79
    have Au79_0_0 := ap32 (f79_0.c n80)
    refine Xk (L' := []) (D' := [4, 8, 2, 3, 0, 1]) zd76 rfl (fun zd82 => ?_)
    refine Xv 9 [some 34] tb21 (((zd82.add 5 27 (.tuple #[(.agg #[v79_0]), (.bool r79.2)]) rfl).add 6 33 (.agg #[v79_0]) rfl).add 7 34 (.bool r79.2) rfl) (Xa (Xm (v := (.bool r79.2)) rfl) rfl (Xa (Xm (v := (.agg #[v79_0])) rfl) rfl (Xa (Xm rfl) rfl Xf))) (by kernel_rfl) rfl (fun l86 e86 zd86 => ?_)
    refine Xw (vs := [v79_0]) (B73.st p80 rfl) z32 rfl (Xb Au79_0_0.rd.one Xi) rfl (fun s88 p88 B88 => ?_)
    refine zdone0 (L' := [7]) (D' := [6, 5, 6, 9, 4, 8, 2, 3, 0, 1]) zd86 rfl rfl rfl (fun zd90 => ?_)
    refine zfin [10] tb21 zd90 (Xa (Xm (v := (.bool r79.2)) rfl) rfl Xf) (by kernel_rfl) (by decide) ?_
    obtain ⟨s91, hw91, p91, D91⟩ := BlF.rc B88 45 rfl
    rw [hw91]
    obtain ⟨s94, hw94, p94, A94⟩ := (Au79_0_0.st (Xo p88 p91) rfl).rc 44 rfl
    rw [hw94]
    exact Kj26 _ _ _ ⟨s94, _, v79_0, b73, rfl, (ue (ue (ue (ue rfl rfl) rfl) rfl) rfl), (K40.st (tr6 p43 p73 p80 p88 p91 p94) rfl), A94, (A14.st (tr9 p18 p21 p34 p43 p73 p80 p88 p91 p94) rfl), (A7.st (tr10 p11 p18 p21 p34 p43 p73 p80 p88 p91 p94) rfl), (D91.st p94 rfl)⟩
   refine al' (cs := [(.slice none 0 0)]) 52 rfl o32 rfl (fun b99 s99 p99 B99 => ?_)
   refine Xk (L' := [2]) (D' := [8, 0, 1]) zd38 rfl (fun zd101 => ?_)
   refine Xv 3 [] tb21 zd101 (Xa (Yh (es := [(iI a1.Kind), (iI a1.Lsn), (iI a1.Xid), (iI a1.Page), (iI a1.Slot), w1_0]) (A14.st (tr4 p18 p21 p34 p99) rfl) u27 z27 rfl) rfl Xf) (by kernel_rfl) rfl (fun l102 e102 zd102 => ?_)
   have K104 := K31.st (Xo p34 p99) rfl
   refine cl' rfl func9 rfl (laws_toRecord.calls a1 s99.w (mm [0] s99) w1_0 (A1_0.kp K104)) ?_
   rintro r106 _ w106 m106 ⟨v106_0, rfl, f106_0, ky106⟩
   obtain ⟨s107, rfl, p107, n107⟩ := nwx s99 w106 53 ky106
   refine Xk (L' := []) (D' := [2, 3, 8, 0, 1]) zd102 rfl (fun zd109 => ?_)
   refine Xv 4 [] tb21 zd109 Xf (by kernel_rfl) rfl (fun l110 e110 zd110 => ?_)
   refine cl' rfl func7 rfl (spec_RedoOne.calls r33 r106 s107.w (mm [46, 53] s107) v33_0 v106_0 ((Au33_0_0.st (Xo p99 p107) rfl).rd.sub (D := [46, 53]) rfl) ((ap36 (f106_0.c n107)).rd.sub (D := [46, 53]) rfl)) ?_
   rintro r112 _ w112 m112 ⟨v112_0, rfl, f112_0, ky112⟩
   obtain ⟨s113, rfl, p113, n113⟩ := nwx s107 w112 54 ky112
   have Au112_0_0 := ap32 (f112_0.c n113)
   refine Xk (L' := []) (D' := [4, 2, 3, 8, 0, 1]) zd110 rfl (fun zd115 => ?_)
   refine Xv 9 [some 34] tb21 (((zd115.add 5 27 (.tuple #[(.agg #[v112_0]), (.bool r112.2)]) rfl).add 6 33 (.agg #[v112_0]) rfl).add 7 34 (.bool r112.2) rfl) (Xa (Xm (v := (.bool r112.2)) rfl) rfl (Xa (Xm (v := (.agg #[v112_0])) rfl) rfl (Xa (Xm rfl) rfl Xf))) (by kernel_rfl) rfl (fun l119 e119 zd119 => ?_)
   refine Xw (vs := [v112_0]) (B99.st (Xo p107 p113) rfl) z32 rfl (Xb Au112_0_0.rd.one Xi) rfl (fun s121 p121 B121 => ?_)
   refine zdone0 (L' := [7]) (D' := [6, 5, 6, 9, 4, 2, 3, 8, 0, 1]) zd119 rfl rfl rfl (fun zd123 => ?_)
   refine zfin [10] tb21 zd123 (Xa (Xm (v := (.bool r112.2)) rfl) rfl Xf) (by kernel_rfl) (by decide) ?_
   obtain ⟨s124, hw124, p124, D124⟩ := BlF.rc B121 45 rfl
   rw [hw124]
   obtain ⟨s127, hw127, p127, A127⟩ := (Au112_0_0.st (Xo p121 p124) rfl).rc 44 rfl
   rw [hw127]
   exact Kj26 _ _ _ ⟨s127, _, v112_0, b99, rfl, (ue (ue (ue (ue rfl rfl) rfl) rfl) rfl), (K104.st (tr5 p107 p113 p121 p124 p127) rfl), A127, (A14.st (tr9 p18 p21 p34 p99 p107 p113 p121 p124 p127) rfl), (A7.st (tr10 p11 p18 p21 p34 p99 p107 p113 p121 p124 p127) rfl), (D124.st p127 rfl)⟩
  refine al' (cs := [(.slice none 0 0)]) 55 rfl o32 rfl (fun b132 s132 p132 B132 => ?_)
  refine Xk (L' := [2, 0]) (D' := [8]) zd28 rfl (fun zd134 => ?_)
  refine Xv 1 [some 30] tb21 zd134 (Xa (Yh (es := [(iI a1.Kind), (iI a1.Lsn), (iI a1.Xid), (iI a1.Page), (iI a1.Slot), w1_0]) (A14.st (Yi p18 p21 p132) rfl) u27 z27 rfl) rfl (Xa (Yh (es := [w0_0]) (A7.st (tr4 p11 p18 p21 p132) rfl) u24 z24 rfl) rfl Xf)) (by kernel_rfl) rfl (fun l135 e135 zd135 => ?_)
  have K138 := K15.st (Yi p18 p21 p132) rfl
  refine cl' rfl func8 rfl (laws_toHeap.calls a0 s132.w (mm [0] s132) w0_0 (A0_0.kp K138)) ?_
  rintro r140 _ w140 m140 ⟨v140_0, rfl, f140_0, ky140⟩
  obtain ⟨s141, rfl, p141, n141⟩ := nwx s132 w140 56 ky140
  refine Xk (L' := [2]) (D' := [0, 1, 8]) zd135 rfl (fun zd143 => ?_)
  refine Xv 3 [] tb21 zd143 (Xa (Yh (es := [(iI a1.Kind), (iI a1.Lsn), (iI a1.Xid), (iI a1.Page), (iI a1.Slot), w1_0]) (A14.st (tr4 p18 p21 p132 p141) rfl) u27 z27 rfl) rfl Xf) (by kernel_rfl) rfl (fun l144 e144 zd144 => ?_)
  have K146 := K138.st p141 rfl
  refine cl' rfl func9 rfl (laws_toRecord.calls a1 s141.w (mm [0] s141) w1_0 (A1_0.kp K146)) ?_
  rintro r148 _ w148 m148 ⟨v148_0, rfl, f148_0, ky148⟩
  obtain ⟨s149, rfl, p149, n149⟩ := nwx s141 w148 57 ky148
  refine Xk (L' := []) (D' := [2, 3, 0, 1, 8]) zd144 rfl (fun zd151 => ?_)
  refine Xv 4 [] tb21 zd151 Xf (by kernel_rfl) rfl (fun l152 e152 zd152 => ?_)
  refine cl' rfl func7 rfl (spec_RedoOne.calls r140 r148 s149.w (mm [56, 57] s149) v140_0 v148_0 (((ap32 (f140_0.c n141)).st p149 rfl).rd.sub (D := [56, 57]) rfl) ((ap36 (f148_0.c n149)).rd.sub (D := [56, 57]) rfl)) ?_
  rintro r154 _ w154 m154 ⟨v154_0, rfl, f154_0, ky154⟩
  obtain ⟨s155, rfl, p155, n155⟩ := nwx s149 w154 58 ky154
  have Au154_0_0 := ap32 (f154_0.c n155)
  refine Xk (L' := []) (D' := [4, 2, 3, 0, 1, 8]) zd152 rfl (fun zd157 => ?_)
  refine Xv 9 [some 34] tb21 (((zd157.add 5 27 (.tuple #[(.agg #[v154_0]), (.bool r154.2)]) rfl).add 6 33 (.agg #[v154_0]) rfl).add 7 34 (.bool r154.2) rfl) (Xa (Xm (v := (.bool r154.2)) rfl) rfl (Xa (Xm (v := (.agg #[v154_0])) rfl) rfl (Xa (Xm rfl) rfl Xf))) (by kernel_rfl) rfl (fun l161 e161 zd161 => ?_)
  refine Xw (vs := [v154_0]) (B132.st (Yi p141 p149 p155) rfl) z32 rfl (Xb Au154_0_0.rd.one Xi) rfl (fun s163 p163 B163 => ?_)
  refine zdone0 (L' := [7]) (D' := [6, 5, 6, 9, 4, 2, 3, 0, 1, 8]) zd161 rfl rfl rfl (fun zd165 => ?_)
  refine zfin [10] tb21 zd165 (Xa (Xm (v := (.bool r154.2)) rfl) rfl Xf) (by kernel_rfl) (by decide) ?_
  obtain ⟨s166, hw166, p166, D166⟩ := BlF.rc B163 45 rfl
  rw [hw166]
  obtain ⟨s169, hw169, p169, A169⟩ := (Au154_0_0.st (Xo p163 p166) rfl).rc 44 rfl
  rw [hw169]
  exact Kj26 _ _ _ ⟨s169, _, v154_0, b132, rfl, (ue (ue (ue (ue rfl rfl) rfl) rfl) rfl), (K146.st (tr5 p149 p155 p163 p166 p169) rfl), A169, (A14.st (tr9 p18 p21 p132 p141 p149 p155 p163 p166 p169) rfl), (A7.st (tr10 p11 p18 p21 p132 p141 p149 p155 p163 p166 p169) rfl), (D166.st p169 rfl)⟩
 rintro y26 _ _ ⟨s174, _, vy26_0, by26_0, rfl, rfl, Ky26, Ay26_0, By26_b5, By26_b3, Dy26_0⟩
 refine Xc rfl (dn (sr (Xy (es := [w0_0]) By26_b3 u24 z24 rfl ?_)))
 refine cl' rfl func8 rfl (laws_toHeap.calls a0 s174.w (mm [0] s174) w0_0 (A0_0.kp Ky26)) ?_
 rintro r180 _ w180 m180 ⟨v180_0, rfl, f180_0, ky180⟩
 obtain ⟨s181, rfl, p181, n181⟩ := nwx s174 w180 59 ky180
 refine al' (cs := [(.slice none 0 0)]) 60 rfl o32 rfl (fun b183 s183 p183 B183 => ?_)
 have A185 := (ap32 (f180_0.c n181)).st p183 rfl
 refine Xw (vs := [v180_0]) B183 z32 rfl (Xb A185.rd.one Xi) rfl (fun s186 p186 B186 => ?_)
 refine dn (sr ?_)
 have A188 := By26_b5.st (Yi p181 p183 p186) rfl
 refine Xy (es := [(iI a1.Kind), (iI a1.Lsn), (iI a1.Xid), (iI a1.Page), (iI a1.Slot), w1_0]) A188 u27 z27 rfl ?_
 have K189 := Ky26.st (Yi p181 p183 p186) rfl
 refine cl' rfl func9 rfl (laws_toRecord.calls a1 s186.w (mm [0] s186) w1_0 (A1_0.kp K189)) ?_
 rintro r191 _ w191 m191 ⟨v191_0, rfl, f191_0, ky191⟩
 obtain ⟨s192, rfl, p192, n192⟩ := nwx s186 w191 61 ky191
 refine al' (cs := [(iI 0), (iI 0), (iI 0), (iI 0), (iI 0), (.slice none 0 0)]) 62 rfl o36 rfl (fun b194 s194 p194 B194 => ?_)
 have A196 := (ap36 (f191_0.c n192)).st p194 rfl
 refine Xw (vs := [(iI r191.Kind), (iI r191.Lsn), (iI r191.Xid), (iI r191.Page), (iI r191.Slot), v191_0]) B194 z36 rfl (Xb rfl (Xb rfl (Xb rfl (Xb rfl (Xb rfl (Xb A196.rd.one Xi)))))) rfl (fun s197 p197 B197 => ?_)
 refine dn (sr ?_)
 have A199 := B186.st (Yi p192 p194 p197) rfl
 refine Xy (es := [v180_0]) A199 u32 z32 rfl (Xy (es := [(iI r191.Kind), (iI r191.Lsn), (iI r191.Xid), (iI r191.Page), (iI r191.Slot), v191_0]) B197 u36 z36 rfl ?_)
 have A200 := A185.st (tr4 p186 p192 p194 p197) rfl
 have A201 := A196.st p197 rfl
 refine cl' rfl func10 rfl (impl_RedoOne.calls r180 r191 s197.w (mm [59, 61] s197) v180_0 v191_0 (A200.rd.sub (D := [59, 61]) rfl) (A201.rd.sub (D := [59, 61]) rfl)) ?_
 rintro r202 _ w202 m202 ⟨v202_0, rfl, f202_0, ky202⟩
 obtain ⟨s203, rfl, p203, n203⟩ := nwx s197 w202 63 ky202
 refine Xc rfl (Xc (v := (.agg #[v202_0])) rfl (Xc (v := (.bool r202.2)) rfl (al' (cs := [(.slice none 0 0)]) 64 rfl o32 rfl (fun b205 s205 p205 B205 => ?_))))
 have A207 := (ap32 (f202_0.c n203)).st p205 rfl
 refine Xw (vs := [v202_0]) B205 z32 rfl (Xb A207.rd.one Xi) rfl (fun s208 p208 B208 => ?_)
 refine Xc rfl (dn (sq (sr (Xy (es := [v202_0]) B208 u32 z32 rfl ?_))))
 have A210 := Dy26_0.st (tr9 p181 p183 p186 p192 p194 p197 p203 p205 p208) rfl
 refine Xy (es := [vy26_0]) A210 u32 z32 rfl ?_
 have A211 := A207.st p208 rfl
 have A212 := Ay26_0.st (tr9 p181 p183 p186 p192 p194 p197 p203 p205 p208) rfl
 refine Ym 65 rfl func11 rfl (laws_eqHeap.calls r202.1 (Heap.mk y26.1) s208.w (mm [63, 44] s208) v202_0 vy26_0 (A211.rd.sub (D := [63, 44]) rfl) (A212.rd.sub (D := [63, 44]) rfl)) (fun r213 s214 p214 n214 => ?_)
 refine Xc rfl (Xc rfl (jy [49, 50, 51, 52, 53] [] 53 (.bool ((!r213) || (!(r202.2 == y26.2)))) rfl (fun Kg215 => ?_) (fun j215 => ?_)))
 ·
  rcases Yn (!r213) with hb215 | hb215
  ·
   exact Xx hb215 (Xj rfl (Xj rfl (Xj rfl (Xc rfl (Kg215 _ (Ag.put ((Ag.put ((Ag.put ((Ag.put (Ag.base rfl) rfl)) rfl)) rfl)) rfl) (by rw [hb215]; rfl))))))
  exact Xx hb215 (Xc rfl (Xc rfl (bne_ u4 rfl rfl rfl rfl rfl rfl rfl (Xc rfl (Kg215 _ (Ag.put ((Ag.put ((Ag.put ((Ag.put (Ag.base rfl) rfl)) rfl)) rfl)) rfl) (by rw [hb215]; rfl))))))
 refine dn (cd rfl (fun h216 => ?_) (fun h216 => ?_))
 ·
  refine sr (Xc rfl (dn ?_))
  exact re rfl func3 rfl (Xu rfl Xe) rfl ⟨_, rfl, rfl, z.ky (K189.st (tr7 p192 p194 p197 p203 p205 p208 p214) rfl)⟩
 refine sk (sq (sq (zdraw [[], [], [1], [0, 2, 2], [3]] [some 54, some 55, some 56, some 57, some 58] [[8], [2], [55], [54, 56], [57]] [0, 1, 2, 3, 4] ⟨by kernel_rfl, by kernel_rfl, by kernel_rfl⟩ (by kernel_rfl) (fun s218 p218 l218 tb218 zd218 => ?_))))
 refine Xv 2 [some 54] tb218 ((zd218.add 0 54 (.agg #[v180_0]) rfl).add 1 55 (.agg #[w0_0]) rfl) (Xa (Yh (es := [w0_0]) (By26_b3.st (tr11 p181 p183 p186 p192 p194 p197 p203 p205 p208 p214 p218) rfl) u24 z24 rfl) rfl (Xa (Yh (es := [v180_0]) (A199.st (tr5 p203 p205 p208 p214 p218) rfl) u32 z32 rfl) rfl Xf)) (by kernel_rfl) rfl (fun l223 e223 zd223 => ?_)
 have K226 := K189.st (tr8 p192 p194 p197 p203 p205 p208 p214 p218) rfl
 refine cl' rfl func8 rfl (laws_toHeap.calls a0 s218.w (mm [0] s218) w0_0 (A0_0.kp K226)) ?_
 rintro r228 _ w228 m228 ⟨v228_0, rfl, f228_0, ky228⟩
 obtain ⟨s229, rfl, p229, n229⟩ := nwx s218 w228 66 ky228
 refine Xk (L' := [0]) (D' := [1, 2]) zd223 rfl (fun zd231 => ?_)
 refine zfin [3, 4] tb218 zd231 (Xa (Yh (es := [v180_0]) (A199.st (tr6 p203 p205 p208 p214 p218 p229) rfl) u32 z32 rfl) rfl Xf) (by kernel_rfl) (by decide) ?_
 have A233 := A200.st (tr6 p203 p205 p208 p214 p218 p229) rfl
 refine Ym 67 rfl func11 rfl (laws_eqHeap.calls r180 r228 s229.w (mm [59, 66] s229) v180_0 v228_0 (A233.rd.sub (D := [59, 66]) rfl) ((ap32 (f228_0.c n229)).rd.sub (D := [59, 66]) rfl)) (fun r234 s235 p235 n235 => ?_)
 refine Xc rfl (dn (cd rfl (fun h236 => ?_) (fun h236 => ?_)))
 ·
  refine sr (Xc rfl (dn ?_))
  exact re rfl func3 rfl (Xu rfl Xe) rfl ⟨_, rfl, rfl, z.ky (K226.st (Xo p229 p235) rfl)⟩
 refine sk (sq (sq (zdraw [[], [], [1], [0, 2, 2], [3]] [some 59, some 60, some 61, some 62, some 63] [[9], [3], [60], [59, 61], [62]] [0, 1, 2, 3, 4] ⟨by kernel_rfl, by kernel_rfl, by kernel_rfl⟩ (by kernel_rfl) (fun s238 p238 l238 tb238 zd238 => ?_))))
 refine Xv 2 [some 59] tb238 ((zd238.add 0 59 (.agg #[(iI r191.Kind), (iI r191.Lsn), (iI r191.Xid), (iI r191.Page), (iI r191.Slot), v191_0]) rfl).add 1 60 (.agg #[(iI a1.Kind), (iI a1.Lsn), (iI a1.Xid), (iI a1.Page), (iI a1.Slot), w1_0]) rfl) (Xa (Yh (es := [(iI a1.Kind), (iI a1.Lsn), (iI a1.Xid), (iI a1.Page), (iI a1.Slot), w1_0]) (A188.st (tr11 p192 p194 p197 p203 p205 p208 p214 p218 p229 p235 p238) rfl) u27 z27 rfl) rfl (Xa (Yh (es := [(iI r191.Kind), (iI r191.Lsn), (iI r191.Xid), (iI r191.Page), (iI r191.Slot), v191_0]) (B197.st (tr8 p203 p205 p208 p214 p218 p229 p235 p238) rfl) u36 z36 rfl) rfl Xf)) (by kernel_rfl) rfl (fun l243 e243 zd243 => ?_)
 have K246 := K226.st (Yi p229 p235 p238) rfl
 refine cl' rfl func9 rfl (laws_toRecord.calls a1 s238.w (mm [0] s238) w1_0 (A1_0.kp K246)) ?_
 rintro r248 _ w248 m248 ⟨v248_0, rfl, f248_0, ky248⟩
 obtain ⟨s249, rfl, p249, n249⟩ := nwx s238 w248 68 ky248
 refine Xk (L' := [0]) (D' := [1, 2]) zd243 rfl (fun zd251 => ?_)
 refine zfin [3, 4] tb238 zd251 (Xa (Yh (es := [(iI r191.Kind), (iI r191.Lsn), (iI r191.Xid), (iI r191.Page), (iI r191.Slot), v191_0]) (B197.st (tr9 p203 p205 p208 p214 p218 p229 p235 p238 p249) rfl) u36 z36 rfl) rfl Xf) (by kernel_rfl) (by decide) ?_
 have A253 := A201.st (tr9 p203 p205 p208 p214 p218 p229 p235 p238 p249) rfl
 refine Ym 69 rfl func12 rfl (laws_eqRecord.calls r191 r248 s249.w (mm [61, 68] s249) v191_0 v248_0 (A253.rd.sub (D := [61, 68]) rfl) ((ap36 (f248_0.c n249)).rd.sub (D := [61, 68]) rfl)) (fun r254 s255 p255 n255 => ?_)
 refine Xc rfl (dn (cd rfl (fun h256 => ?_) (fun h256 => ?_)))
 ·
  refine sr (Xc rfl (dn ?_))
  exact re rfl func3 rfl (Xu rfl Xe) rfl ⟨_, rfl, rfl, z.ky (K246.st (Xo p249 p255) rfl)⟩
 refine sk (sr (Xc rfl (dn (sr ?_))))
 refine Xy (es := [v180_0]) (A199.st (tr10 p203 p205 p208 p214 p218 p229 p235 p238 p249 p255) rfl) u32 z32 rfl (Xc rfl ?_)
 obtain ⟨os259, ho259, hn259, hc259⟩ := A233.st (tr4 p235 p238 p249 p255) rfl
 refine cl' rfl func13 rfl (laws_markHeap.calls r180 (1 : Int) s255.w (mm [] s255) v180_0 os259 ho259 hn259 (apart_of hc259 rfl)) ?_
 rintro r259 _ w259 m259 ⟨rfl, w259_, ky259⟩
 obtain ⟨s261, rfl, p261, A261⟩ := nwo 70 hc259 ky259 w259_
 refine Xc rfl (dn (sr ?_))
 refine Xy (es := [(iI r191.Kind), (iI r191.Lsn), (iI r191.Xid), (iI r191.Page), (iI r191.Slot), v191_0]) (B197.st (tr11 p203 p205 p208 p214 p218 p229 p235 p238 p249 p255 p261) rfl) u36 z36 rfl (Xc rfl ?_)
 obtain ⟨os264, ho264, hn264, hc264⟩ := A253.st (Xo p255 p261) rfl
 refine cl' rfl func14 rfl (laws_markRecord.calls r191 r259.1 s261.w (mm [] s261) v191_0 os264 ho264 hn264 (apart_of hc264 rfl)) ?_
 rintro r264 _ w264 m264 ⟨rfl, w264_, ky264⟩
 obtain ⟨s266, rfl, p266, A266⟩ := nwo 71 hc264 ky264 w264_
 refine Xc rfl (dn (sq (sr (Xc rfl (Xc rfl (Xc rfl (ji [8, 9, 10, 11, 12] (fun (y268 : Bool) e w => ∃ (s : St) (e0 : Env), w = s.w ∧ e = upd (upd (upd (upd (upd (upd (upd e0 2 (pB b3)) 3 (pB b5)) 6 (pB by26_0)) 7 (.bool y26.2)) 10 (pB b205)) 11 (.bool r202.2)) 77 (.bool y268) ∧ Kp s0 s ∧ BlF s b205 32 [v202_0] 64 ∧ BlF s by26_0 32 [vy26_0] 45 ∧ BlF s b5 27 [(iI a1.Kind), (iI a1.Lsn), (iI a1.Xid), (iI a1.Page), (iI a1.Slot), w1_0] 41 ∧ BlF s b3 24 [w0_0] 40 ∧ OwF Yr s [v202_0] r202.1.Pages 63 ∧ OwF Yr s [vy26_0] y26.1 44) (fun Gj268 Kj268 => ?_) ?_)))))))
 ·
  rcases Yn (decide (r264.1 < (0 : Int))) with hb268 | hb268
  ·
   refine Xx hb268 ?_
   rw [if_pos hb268]
   refine Xj rfl (Xj rfl (Xj rfl (Xj rfl (Xc rfl ?_))))
   exact Kj268 _ _ _ ⟨s266, _, rfl, (ue (ue (ue (ue (ue (ue (ue rfl rfl) rfl) rfl) rfl) rfl) rfl) rfl), (K246.st (tr4 p249 p255 p261 p266) rfl), (B208.st (tr9 p214 p218 p229 p235 p238 p249 p255 p261 p266) rfl), (A210.st (tr9 p214 p218 p229 p235 p238 p249 p255 p261 p266) rfl), (A188.st (tr4 (tr12 p192 p194 p197 p203 p205 p208 p214 p218 p229 p235 p238 p249) p255 p261 p266) rfl), (By26_b3.st (tr7 (tr12 p181 p183 p186 p192 p194 p197 p203 p205 p208 p214 p218 p229) p235 p238 p249 p255 p261 p266) rfl), (A211.st (tr9 p214 p218 p229 p235 p238 p249 p255 p261 p266) rfl), (A212.st (tr9 p214 p218 p229 p235 p238 p249 p255 p261 p266) rfl)⟩
  refine Xx hb268 ?_
  rw [if_neg (by rw [hb268]; decide)]
  have A276 := B208.st (tr9 p214 p218 p229 p235 p238 p249 p255 p261 p266) rfl
  refine Xy (es := [v202_0]) A276 u32 z32 rfl ?_
  have A277 := A210.st (tr9 p214 p218 p229 p235 p238 p249 p255 p261 p266) rfl
  refine Xy (es := [vy26_0]) A277 u32 z32 rfl ?_
  have A278 := A211.st (tr9 p214 p218 p229 p235 p238 p249 p255 p261 p266) rfl
  have A279 := A212.st (tr9 p214 p218 p229 p235 p238 p249 p255 p261 p266) rfl
  refine Ym 72 rfl func11 rfl (laws_eqHeap.calls r202.1 (Heap.mk y26.1) s266.w (mm [63, 44] s266) v202_0 vy26_0 (A278.rd.sub (D := [63, 44]) rfl) (A279.rd.sub (D := [63, 44]) rfl)) (fun r280 s281 p281 n281 => ?_)
  refine Xc rfl (Xc rfl ?_)
  exact Kj268 _ _ _ ⟨s281, _, rfl, (ue (ue (ue (ue (ue (ue (ue rfl rfl) rfl) rfl) rfl) rfl) rfl) rfl), (K246.st (tr5 p249 p255 p261 p266 p281) rfl), (A276.st p281 rfl), (A277.st p281 rfl), (A188.st (tr5 (tr12 p192 p194 p197 p203 p205 p208 p214 p218 p229 p235 p238 p249) p255 p261 p266 p281) rfl), (By26_b3.st (tr8 (tr12 p181 p183 p186 p192 p194 p197 p203 p205 p208 p214 p218 p229) p235 p238 p249 p255 p261 p266 p281) rfl), (A278.st p281 rfl), (A279.st p281 rfl)⟩
 rintro y268 _ _ ⟨s289, _, rfl, rfl, Ky268, By268_b205, By268_by26_0, By268_b5, By268_b3, Cy268_204, Cy268_175⟩
 refine Xc rfl (jy [78, 79, 80, 81, 82] [] 82 (.bool (y268 || (!(r202.2 == y26.2)))) rfl (fun Kg294 => ?_) (fun j294 => ?_))
 ·
  rcases Yn y268 with hb294 | hb294
  ·
   exact Xx hb294 (Xj rfl (Xj rfl (Xj rfl (Xc rfl (Kg294 _ (Ag.put ((Ag.put ((Ag.put ((Ag.put (Ag.base rfl) rfl)) rfl)) rfl)) rfl) (by rw [hb294]; rfl))))))
  exact Xx hb294 (Xc rfl (Xc rfl (bne_ u4 rfl rfl rfl rfl rfl rfl rfl (Xc rfl (Kg294 _ (Ag.put ((Ag.put ((Ag.put ((Ag.put (Ag.base rfl) rfl)) rfl)) rfl)) rfl) (by rw [hb294]; rfl))))))
 refine dn (cd rfl (fun h295 => ?_) (fun h295 => ?_))
 ·
  exact sr (Xc rfl (dn (re rfl func3 rfl (Xu rfl Xe) rfl ⟨_, rfl, rfl, z.ky Ky268⟩)))
 refine sk (sr (Xc rfl (dn (sr (Xy (es := [v202_0]) By268_b205 u32 z32 rfl (Xc rfl ?_))))))
 obtain ⟨os296, ho296, hn296, hc296⟩ := Cy268_204
 refine cl' rfl func13 rfl (laws_markHeap.calls r202.1 (1 : Int) s289.w (mm [] s289) v202_0 os296 ho296 hn296 (apart_of hc296 rfl)) ?_
 rintro r296 _ w296 m296 ⟨rfl, w296_, ky296⟩
 obtain ⟨s297, rfl, p297, A297⟩ := nwo 73 hc296 ky296 w296_
 refine Xc rfl (dn (sr (Xc rfl (dn (sr ?_)))))
 have A299 := By268_b205.st p297 rfl
 refine Xy (es := [v202_0]) A299 u32 z32 rfl (Xc rfl (Ym 74 rfl func15 rfl (laws_heldHeap.calls (Heap.mk r296.2) (1 : Int) s297.w (mm [63] s297) v202_0 A297.rd) (fun r300 s301 p301 n301 => ?_)))
 refine Xc rfl (dn (sq (sr (Xc rfl (Xc rfl (dn (cd rfl (fun h302 => ?_) (fun h302 => ?_))))))))
 ·
  refine sr (Xc rfl (dn ?_))
  exact re rfl func3 rfl (Xu rfl Xe) rfl ⟨_, rfl, rfl, z.ky (Ky268.st (Xo p297 p301) rfl)⟩
 refine sk (sq (sr (Xc rfl (Xc rfl (Xc rfl (dn (cd rfl (fun h304 => ?_) (fun h304 => ?_))))))))
 ·
  refine sr (Xc rfl (dn ?_))
  exact re rfl func3 rfl (Xu rfl Xe) rfl ⟨_, rfl, rfl, z.ky (Ky268.st (Xo p297 p301) rfl)⟩
 refine sk (sq (zdraw [[], [0], [], [2, 1], [1, 3, 3], [4], [5], [5], [], [8, 6, 4, 0, 1, 2, 3, 4, 5, 6, 8], [7, 9, 0, 1, 2, 3, 4, 5, 6, 7, 8, 9]] [some 95, some 96, some 97, some 98, some 99, some 94, some 100, some 101, some 15, none, some 16] [[2], [95], [3], [97], [96, 98], [99], [94], [94], [], [15, 100], [101]] [0, 1, 2, 3, 4, 5, 6, 9, 7, 8, 10] ⟨by kernel_rfl, by kernel_rfl, by kernel_rfl⟩ (by kernel_rfl) (fun s306 p306 l306 tb306 zd306 => ?_)))
 refine ji [10] (fun (y311 : (List Page) × Bool) e w => ∃ (s : St) (e0 : Env) (vy311_0 : Value) (by311_0 : Nat), w = s.w ∧ e = upd (upd (upd (upd (upd (upd e0 6 (pB by26_0)) 7 (.bool y26.2)) 10 (pB b205)) 13 (iI r296.1)) 15 (pB by311_0)) 101 (.bool y311.2) ∧ Kp s0 s ∧ OwF Yr s [vy311_0] y311.1 75 ∧ BlF s b205 32 [v202_0] 64 ∧ BlF s by26_0 32 [vy26_0] 45 ∧ BlF s by311_0 32 [vy311_0] 76 ∧ OwF Yr s [v202_0] r296.2 63 ∧ OwF Yr s [vy26_0] y26.1 44) (fun Gj311 Kj311 => ?_) ?_
 ·
  refine zstep2 1 8 [some 97] [some 97, some 95] tb306 ((zd306.add 0 95 (.agg #[w0_0]) rfl).add 2 97 (.agg #[(iI a1.Kind), (iI a1.Lsn), (iI a1.Xid), (iI a1.Page), (iI a1.Slot), w1_0]) rfl) (Xa (Yh (es := [(iI a1.Kind), (iI a1.Lsn), (iI a1.Xid), (iI a1.Page), (iI a1.Slot), w1_0]) (By268_b5.st (Yi p297 p301 p306) rfl) u27 z27 rfl) rfl (Xa (Yh (es := [w0_0]) (By268_b3.st (Yi p297 p301 p306) rfl) u24 z24 rfl) rfl Xf)) (by kernel_rfl) (by kernel_rfl) (fun l312 e312 zd312 => ?_) (fun l313 e313 zd313 => ?_)
  ·
   have K316 := Ky268.st (Yi p297 p301 p306) rfl
   refine cl' rfl func8 rfl (laws_toHeap.calls a0 s306.w (mm [0] s306) w0_0 (A0_0.kp K316)) ?_
   rintro r318 _ w318 m318 ⟨v318_0, rfl, f318_0, ky318⟩
   obtain ⟨s319, rfl, p319, n319⟩ := nwx s306 w318 77 ky318
   have Au318_0_0 := ap32 (f318_0.c n319)
   refine Xk (L' := [2]) (D' := [0, 1]) zd312 rfl (fun zd321 => ?_)
   refine zstep2 3 8 [] [some 97] tb306 zd321 (Xa (Yh (es := [(iI a1.Kind), (iI a1.Lsn), (iI a1.Xid), (iI a1.Page), (iI a1.Slot), w1_0]) (By268_b5.st (tr4 p297 p301 p306 p319) rfl) u27 z27 rfl) rfl Xf) (by kernel_rfl) (by kernel_rfl) (fun l322 e322 zd322 => ?_) (fun l323 e323 zd323 => ?_)
   ·
    have K325 := K316.st p319 rfl
    refine cl' rfl func9 rfl (laws_toRecord.calls a1 s319.w (mm [0] s319) w1_0 (A1_0.kp K325)) ?_
    rintro r327 _ w327 m327 ⟨v327_0, rfl, f327_0, ky327⟩
    obtain ⟨s328, rfl, p328, n328⟩ := nwx s319 w327 78 ky327
    have Au327_0_0 := ap36 (f327_0.c n328)
    refine Xk (L' := []) (D' := [2, 3, 0, 1]) zd322 rfl (fun zd330 => ?_)
    refine zstep2 4 8 [] [] tb306 zd330 Xf (by kernel_rfl) (by kernel_rfl) (fun l331 e331 zd331 => ?_) (fun l332 e332 zd332 => ?_)
    ·
     refine cl' rfl func10 rfl (impl_RedoOne.calls r318 r327 s328.w (mm [77, 78] s328) v318_0 v327_0 ((Au318_0_0.st p328 rfl).rd.sub (D := [77, 78]) rfl) (Au327_0_0.rd.sub (D := [77, 78]) rfl)) ?_
     rintro r334 _ w334 m334 ⟨v334_0, rfl, f334_0, ky334⟩
     obtain ⟨s335, rfl, p335, n335⟩ := nwx s328 w334 79 ky334
     refine Xk (L' := []) (D' := [4, 2, 3, 0, 1]) zd331 rfl (fun zd337 => ?_)
     refine Xv 8 [some 101, some 100, some 94] tb306 (((zd337.add 5 94 (.tuple #[(.agg #[v334_0]), (.bool r334.2)]) rfl).add 6 100 (.agg #[v334_0]) rfl).add 7 101 (.bool r334.2) rfl) (Xa (Xm (v := (.bool r334.2)) rfl) rfl (Xa (Xm (v := (.agg #[v334_0])) rfl) rfl (Xa (Xm rfl) rfl Xf))) (by kernel_rfl) rfl (fun l341 e341 zd341 => ?_)
     refine al' (cs := [(.slice none 0 0)]) 80 rfl o32 rfl (fun b342 s342 p342 B342 => ?_)
     refine Xk (L' := [7, 6, 5]) (D' := [8, 4, 2, 3, 0, 1]) zd341 rfl (fun zd344 => ?_)
     refine Xv 9 [some 101] tb306 zd344 (Xa (Xm (v := (.bool r334.2)) rfl) rfl (Xa (Xm (v := (.agg #[v334_0])) rfl) rfl (Xa (Xm rfl) rfl Xf))) (by kernel_rfl) rfl (fun l345 e345 zd345 => ?_)
     have A346 := (ap32 (f334_0.c n335)).st p342 rfl
     refine Xw (vs := [v334_0]) B342 z32 rfl (Xb A346.rd.one Xi) rfl (fun s347 p347 B347 => ?_)
     refine zdone0 (L' := [7]) (D' := [6, 5, 6, 9, 8, 4, 2, 3, 0, 1]) zd345 rfl rfl rfl (fun zd349 => ?_)
     refine zfin [10] tb306 zd349 (Xa (Xm (v := (.bool r334.2)) rfl) rfl Xf) (by kernel_rfl) (by decide) ?_
     obtain ⟨s350, hw350, p350, D350⟩ := BlF.rc B347 76 rfl
     rw [hw350]
     obtain ⟨s353, hw353, p353, A353⟩ := (A346.st (Xo p347 p350) rfl).rc 75 rfl
     rw [hw353]
     exact Kj311 _ _ _ ⟨s353, _, v334_0, b342, rfl, (ue (ue (ue (ue (ue (ue rfl rfl) rfl) rfl) rfl) rfl) rfl), (K325.st (tr6 p328 p335 p342 p347 p350 p353) rfl), A353, (A299.st (tr9 p301 p306 p319 p328 p335 p342 p347 p350 p353) rfl), (By268_by26_0.st (tr10 p297 p301 p306 p319 p328 p335 p342 p347 p350 p353) rfl), (D350.st p353 rfl), (A297.st (tr9 p301 p306 p319 p328 p335 p342 p347 p350 p353) rfl), (Cy268_175.st (tr10 p297 p301 p306 p319 p328 p335 p342 p347 p350 p353) rfl)⟩
    refine al' (cs := [(.slice none 0 0)]) 81 rfl o32 rfl (fun b360 s360 p360 B360 => ?_)
    refine Xk (L' := []) (D' := [8, 2, 3, 0, 1]) zd332 rfl (fun zd362 => ?_)
    refine Xv 4 [] tb306 zd362 Xf (by kernel_rfl) rfl (fun l363 e363 zd363 => ?_)
    refine cl' rfl func10 rfl (impl_RedoOne.calls r318 r327 s360.w (mm [77, 78] s360) v318_0 v327_0 ((Au318_0_0.st (Xo p328 p360) rfl).rd.sub (D := [77, 78]) rfl) ((Au327_0_0.st p360 rfl).rd.sub (D := [77, 78]) rfl)) ?_
    rintro r366 _ w366 m366 ⟨v366_0, rfl, f366_0, ky366⟩
    obtain ⟨s367, rfl, p367, n367⟩ := nwx s360 w366 82 ky366
    have Au366_0_0 := ap32 (f366_0.c n367)
    refine Xk (L' := []) (D' := [4, 8, 2, 3, 0, 1]) zd363 rfl (fun zd369 => ?_)
    refine Xv 9 [some 101] tb306 (((zd369.add 5 94 (.tuple #[(.agg #[v366_0]), (.bool r366.2)]) rfl).add 6 100 (.agg #[v366_0]) rfl).add 7 101 (.bool r366.2) rfl) (Xa (Xm (v := (.bool r366.2)) rfl) rfl (Xa (Xm (v := (.agg #[v366_0])) rfl) rfl (Xa (Xm rfl) rfl Xf))) (by kernel_rfl) rfl (fun l373 e373 zd373 => ?_)
    refine Xw (vs := [v366_0]) (B360.st p367 rfl) z32 rfl (Xb Au366_0_0.rd.one Xi) rfl (fun s375 p375 B375 => ?_)
    refine zdone0 (L' := [7]) (D' := [6, 5, 6, 9, 4, 8, 2, 3, 0, 1]) zd373 rfl rfl rfl (fun zd377 => ?_)
    refine zfin [10] tb306 zd377 (Xa (Xm (v := (.bool r366.2)) rfl) rfl Xf) (by kernel_rfl) (by decide) ?_
    obtain ⟨s378, hw378, p378, D378⟩ := BlF.rc B375 76 rfl
    rw [hw378]
    obtain ⟨s381, hw381, p381, A381⟩ := (Au366_0_0.st (Xo p375 p378) rfl).rc 75 rfl
    rw [hw381]
    exact Kj311 _ _ _ ⟨s381, _, v366_0, b360, rfl, (ue (ue (ue (ue (ue (ue rfl rfl) rfl) rfl) rfl) rfl) rfl), (K325.st (tr6 p328 p360 p367 p375 p378 p381) rfl), A381, (A299.st (tr9 p301 p306 p319 p328 p360 p367 p375 p378 p381) rfl), (By268_by26_0.st (tr10 p297 p301 p306 p319 p328 p360 p367 p375 p378 p381) rfl), (D378.st p381 rfl), (A297.st (tr9 p301 p306 p319 p328 p360 p367 p375 p378 p381) rfl), (Cy268_175.st (tr10 p297 p301 p306 p319 p328 p360 p367 p375 p378 p381) rfl)⟩
   refine al' (cs := [(.slice none 0 0)]) 83 rfl o32 rfl (fun b388 s388 p388 B388 => ?_)
   refine Xk (L' := [2]) (D' := [8, 0, 1]) zd323 rfl (fun zd390 => ?_)
   refine Xv 3 [] tb306 zd390 (Xa (Yh (es := [(iI a1.Kind), (iI a1.Lsn), (iI a1.Xid), (iI a1.Page), (iI a1.Slot), w1_0]) (By268_b5.st (tr5 p297 p301 p306 p319 p388) rfl) u27 z27 rfl) rfl Xf) (by kernel_rfl) rfl (fun l391 e391 zd391 => ?_)
   have K393 := K316.st (Xo p319 p388) rfl
   refine cl' rfl func9 rfl (laws_toRecord.calls a1 s388.w (mm [0] s388) w1_0 (A1_0.kp K393)) ?_
   rintro r395 _ w395 m395 ⟨v395_0, rfl, f395_0, ky395⟩
   obtain ⟨s396, rfl, p396, n396⟩ := nwx s388 w395 84 ky395
   refine Xk (L' := []) (D' := [2, 3, 8, 0, 1]) zd391 rfl (fun zd398 => ?_)
   refine Xv 4 [] tb306 zd398 Xf (by kernel_rfl) rfl (fun l399 e399 zd399 => ?_)
   refine cl' rfl func10 rfl (impl_RedoOne.calls r318 r395 s396.w (mm [77, 84] s396) v318_0 v395_0 ((Au318_0_0.st (Xo p388 p396) rfl).rd.sub (D := [77, 84]) rfl) ((ap36 (f395_0.c n396)).rd.sub (D := [77, 84]) rfl)) ?_
   rintro r401 _ w401 m401 ⟨v401_0, rfl, f401_0, ky401⟩
   obtain ⟨s402, rfl, p402, n402⟩ := nwx s396 w401 85 ky401
   have Au401_0_0 := ap32 (f401_0.c n402)
   refine Xk (L' := []) (D' := [4, 2, 3, 8, 0, 1]) zd399 rfl (fun zd404 => ?_)
   refine Xv 9 [some 101] tb306 (((zd404.add 5 94 (.tuple #[(.agg #[v401_0]), (.bool r401.2)]) rfl).add 6 100 (.agg #[v401_0]) rfl).add 7 101 (.bool r401.2) rfl) (Xa (Xm (v := (.bool r401.2)) rfl) rfl (Xa (Xm (v := (.agg #[v401_0])) rfl) rfl (Xa (Xm rfl) rfl Xf))) (by kernel_rfl) rfl (fun l408 e408 zd408 => ?_)
   refine Xw (vs := [v401_0]) (B388.st (Xo p396 p402) rfl) z32 rfl (Xb Au401_0_0.rd.one Xi) rfl (fun s410 p410 B410 => ?_)
   refine zdone0 (L' := [7]) (D' := [6, 5, 6, 9, 4, 2, 3, 8, 0, 1]) zd408 rfl rfl rfl (fun zd412 => ?_)
   refine zfin [10] tb306 zd412 (Xa (Xm (v := (.bool r401.2)) rfl) rfl Xf) (by kernel_rfl) (by decide) ?_
   obtain ⟨s413, hw413, p413, D413⟩ := BlF.rc B410 76 rfl
   rw [hw413]
   obtain ⟨s416, hw416, p416, A416⟩ := (Au401_0_0.st (Xo p410 p413) rfl).rc 75 rfl
   rw [hw416]
   exact Kj311 _ _ _ ⟨s416, _, v401_0, b388, rfl, (ue (ue (ue (ue (ue (ue rfl rfl) rfl) rfl) rfl) rfl) rfl), (K393.st (tr5 p396 p402 p410 p413 p416) rfl), A416, (A299.st (tr9 p301 p306 p319 p388 p396 p402 p410 p413 p416) rfl), (By268_by26_0.st (tr10 p297 p301 p306 p319 p388 p396 p402 p410 p413 p416) rfl), (D413.st p416 rfl), (A297.st (tr9 p301 p306 p319 p388 p396 p402 p410 p413 p416) rfl), (Cy268_175.st (tr10 p297 p301 p306 p319 p388 p396 p402 p410 p413 p416) rfl)⟩
  refine al' (cs := [(.slice none 0 0)]) 86 rfl o32 rfl (fun b423 s423 p423 B423 => ?_)
  refine Xk (L' := [2, 0]) (D' := [8]) zd313 rfl (fun zd425 => ?_)
  refine Xv 1 [some 97] tb306 zd425 (Xa (Yh (es := [(iI a1.Kind), (iI a1.Lsn), (iI a1.Xid), (iI a1.Page), (iI a1.Slot), w1_0]) (By268_b5.st (tr4 p297 p301 p306 p423) rfl) u27 z27 rfl) rfl (Xa (Yh (es := [w0_0]) (By268_b3.st (tr4 p297 p301 p306 p423) rfl) u24 z24 rfl) rfl Xf)) (by kernel_rfl) rfl (fun l426 e426 zd426 => ?_)
  have K429 := Ky268.st (tr4 p297 p301 p306 p423) rfl
  refine cl' rfl func8 rfl (laws_toHeap.calls a0 s423.w (mm [0] s423) w0_0 (A0_0.kp K429)) ?_
  rintro r431 _ w431 m431 ⟨v431_0, rfl, f431_0, ky431⟩
  obtain ⟨s432, rfl, p432, n432⟩ := nwx s423 w431 87 ky431
  refine Xk (L' := [2]) (D' := [0, 1, 8]) zd426 rfl (fun zd434 => ?_)
  refine Xv 3 [] tb306 zd434 (Xa (Yh (es := [(iI a1.Kind), (iI a1.Lsn), (iI a1.Xid), (iI a1.Page), (iI a1.Slot), w1_0]) (By268_b5.st (tr5 p297 p301 p306 p423 p432) rfl) u27 z27 rfl) rfl Xf) (by kernel_rfl) rfl (fun l435 e435 zd435 => ?_)
  have K437 := K429.st p432 rfl
  refine cl' rfl func9 rfl (laws_toRecord.calls a1 s432.w (mm [0] s432) w1_0 (A1_0.kp K437)) ?_
  rintro r439 _ w439 m439 ⟨v439_0, rfl, f439_0, ky439⟩
  obtain ⟨s440, rfl, p440, n440⟩ := nwx s432 w439 88 ky439
  refine Xk (L' := []) (D' := [2, 3, 0, 1, 8]) zd435 rfl (fun zd442 => ?_)
  refine Xv 4 [] tb306 zd442 Xf (by kernel_rfl) rfl (fun l443 e443 zd443 => ?_)
  refine cl' rfl func10 rfl (impl_RedoOne.calls r431 r439 s440.w (mm [87, 88] s440) v431_0 v439_0 (((ap32 (f431_0.c n432)).st p440 rfl).rd.sub (D := [87, 88]) rfl) ((ap36 (f439_0.c n440)).rd.sub (D := [87, 88]) rfl)) ?_
  rintro r445 _ w445 m445 ⟨v445_0, rfl, f445_0, ky445⟩
  obtain ⟨s446, rfl, p446, n446⟩ := nwx s440 w445 89 ky445
  have Au445_0_0 := ap32 (f445_0.c n446)
  refine Xk (L' := []) (D' := [4, 2, 3, 0, 1, 8]) zd443 rfl (fun zd448 => ?_)
  refine Xv 9 [some 101] tb306 (((zd448.add 5 94 (.tuple #[(.agg #[v445_0]), (.bool r445.2)]) rfl).add 6 100 (.agg #[v445_0]) rfl).add 7 101 (.bool r445.2) rfl) (Xa (Xm (v := (.bool r445.2)) rfl) rfl (Xa (Xm (v := (.agg #[v445_0])) rfl) rfl (Xa (Xm rfl) rfl Xf))) (by kernel_rfl) rfl (fun l452 e452 zd452 => ?_)
  refine Xw (vs := [v445_0]) (B423.st (Yi p432 p440 p446) rfl) z32 rfl (Xb Au445_0_0.rd.one Xi) rfl (fun s454 p454 B454 => ?_)
  refine zdone0 (L' := [7]) (D' := [6, 5, 6, 9, 4, 2, 3, 0, 1, 8]) zd452 rfl rfl rfl (fun zd456 => ?_)
  refine zfin [10] tb306 zd456 (Xa (Xm (v := (.bool r445.2)) rfl) rfl Xf) (by kernel_rfl) (by decide) ?_
  obtain ⟨s457, hw457, p457, D457⟩ := BlF.rc B454 76 rfl
  rw [hw457]
  obtain ⟨s460, hw460, p460, A460⟩ := (Au445_0_0.st (Xo p454 p457) rfl).rc 75 rfl
  rw [hw460]
  exact Kj311 _ _ _ ⟨s460, _, v445_0, b423, rfl, (ue (ue (ue (ue (ue (ue rfl rfl) rfl) rfl) rfl) rfl) rfl), (K437.st (tr5 p440 p446 p454 p457 p460) rfl), A460, (A299.st (tr9 p301 p306 p423 p432 p440 p446 p454 p457 p460) rfl), (By268_by26_0.st (tr10 p297 p301 p306 p423 p432 p440 p446 p454 p457 p460) rfl), (D457.st p460 rfl), (A297.st (tr9 p301 p306 p423 p432 p440 p446 p454 p457 p460) rfl), (Cy268_175.st (tr10 p297 p301 p306 p423 p432 p440 p446 p454 p457 p460) rfl)⟩
 rintro y311 _ _ ⟨s467, _, vy311_0, by311_0, rfl, rfl, Ky311, Ay311_0, By311_b205, By311_by26_0, Dy311_0, Cy311_298, Cy311_175⟩
 refine Xc rfl (dn (sq (sr (Xy (es := [vy311_0]) Dy311_0 u32 z32 rfl (Xy (es := [vy26_0]) By311_by26_0 u32 z32 rfl (Ym 90 rfl func11 rfl (laws_eqHeap.calls (Heap.mk y311.1) (Heap.mk y26.1) s467.w (mm [75, 44] s467) vy311_0 vy26_0 (Ay311_0.rd.sub (D := [75, 44]) rfl) (Cy311_175.rd.sub (D := [75, 44]) rfl)) (fun r472 s473 p473 n473 => ?_)))))))
 refine Xc rfl (Xc rfl (jy [106, 107, 108, 109, 110] [] 110 (.bool ((!r472) || (!(y311.2 == y26.2)))) rfl (fun Kg474 => ?_) (fun j474 => ?_)))
 ·
  rcases Yn (!r472) with hb474 | hb474
  ·
   exact Xx hb474 (Xj rfl (Xj rfl (Xj rfl (Xc rfl (Kg474 _ (Ag.put ((Ag.put ((Ag.put ((Ag.put (Ag.base rfl) rfl)) rfl)) rfl)) rfl) (by rw [hb474]; rfl))))))
  exact Xx hb474 (Xc rfl (Xc rfl (bne_ u4 rfl rfl rfl rfl rfl rfl rfl (Xc rfl (Kg474 _ (Ag.put ((Ag.put ((Ag.put ((Ag.put (Ag.base rfl) rfl)) rfl)) rfl)) rfl) (by rw [hb474]; rfl))))))
 refine dn (cd rfl (fun h475 => ?_) (fun h475 => ?_))
 ·
  refine sr (Xc rfl (dn ?_))
  exact re rfl func3 rfl (Xu rfl Xe) rfl ⟨_, rfl, rfl, z.ky (Ky311.st p473 rfl)⟩
 refine sk (sr (Xc rfl (dn (sr ?_))))
 refine Xy (es := [v202_0]) (By311_b205.st p473 rfl) u32 z32 rfl (Xc rfl ?_)
 refine Ym 91 rfl func15 rfl (laws_heldHeap.calls (Heap.mk r296.2) (1 : Int) s473.w (mm [63] s473) v202_0 (Cy311_298.st p473 rfl).rd) (fun r479 s480 p480 n480 => ?_)
 refine Xc rfl (dn (sq (sr (Xc rfl (Xc rfl (dn (cd rfl (fun h481 => ?_) (fun h481 => ?_))))))))
 ·
  refine sr (Xc rfl (dn ?_))
  exact re rfl func3 rfl (Xu rfl Xe) rfl ⟨_, rfl, rfl, z.ky (Ky311.st (Xo p473 p480) rfl)⟩
 refine sk (sq (sr (Xc rfl (Xc rfl (Xc rfl (dn (cd rfl (fun h483 => ?_) (fun h483 => ?_))))))))
 ·
  refine sr (Xc rfl (dn ?_))
  exact re rfl func3 rfl (Xu rfl Xe) rfl ⟨_, rfl, rfl, z.ky (Ky311.st (Xo p473 p480) rfl)⟩
 refine sk (sr (Xc rfl (dn ?_)))
 exact re rfl func3 rfl (Xu rfl Xe) rfl ⟨_, rfl, rfl, z.ky (Ky311.st (Xo p473 p480) rfl)⟩
end Go.Proofs.YtkkpplnhcpjmgaaGreat
