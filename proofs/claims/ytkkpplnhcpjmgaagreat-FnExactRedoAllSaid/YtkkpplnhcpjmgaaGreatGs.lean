/- The functions as models, and that the calls come to what the models tell. -/
import Derived.Test.YtkkpplnhcpjmgaaGreatGsb
set_option linter.unusedVariables false
set_option linter.unusedSimpArgs false
set_option maxHeartbeats 4000000
set_option maxRecDepth 100000
noncomputable section
namespace Go.Proofs.YtkkpplnhcpjmgaaGreat
open Go V Tryz
def impl_Heap_with.b0 (a0 : Heap) (a1 : Int) (a2 : Page) (x14 : Int × (List Page)) : Option ((Int × (List Page)) ⊕ Heap) :=
 (if (decide (x14.1 < (a0.Pages.length : Int))) = true then (if 0 ≤ x14.1 ∧ x14.1 < (a0.Pages.length : Int) then ((impl_Page_slots.f (at_ a0.Pages x14.1)).bind fun r47 => (if x14.2.length + ([(Page.mk ((at_ a0.Pages x14.1).Lsn) r47)]).length ≤ Lim then (some (Sum.inl ((IntKind.wrap .i64 (x14.1 + (1 : Int))), (x14.2 ++ [(Page.mk ((at_ a0.Pages x14.1).Lsn) r47)])))) else none)) else none) else (((if (a1 == (x14.2.length : Int)) = true then (if x14.2.length + ([(Page.mk (0 : Int) ([] : (List (List Int))))]).length ≤ Lim then (some (x14.2 ++ [(Page.mk (0 : Int) ([] : (List (List Int))))])) else none) else (some x14.2)).bind fun y73 => (if 0 ≤ a1 ∧ a1 < (y73.length : Int) then (some (Heap.mk (y73.set (a1).toNat a2))) else none)).bind fun o => some (Sum.inr o)))
def impl_Heap_with.f (a0 : Heap) (a1 : Int) (a2 : Page) : Option (Heap) :=
 (iter (impl_Heap_with.b0 a0 a1 a2) ((0 : Int), ([] : (List Page))))
def impl_Heap_with.Q (w : World) (F : Nat → Prop) (os : List Nat) (r : Heap) (v : Value) (w' : World) : Prop :=
 ∃ (v0 : Value), v = (.agg #[v0]) ∧ FW kd32 os w w' [v0] r ∧ Ky os w w'
theorem impl_Heap_with.calls (a0 : Heap) (a1 : Int) (a2 : Page) (w : World) (F : Nat → Prop) (w0_0 : Value) (w2_0 : Value) (h0_0 : Yp.rd w [w0_0] a0.Pages F) (os : List Nat) (h2 : kd59.ow w [(iI a2.Lsn), w2_0] a2 os) (hn : os.Nodup) (hF : ∀ b, F b → b ∉ os) (r : Heap) (m : impl_Heap_with.f a0 a1 a2 = some r) :
  Calls prog 66 #[(.agg #[w0_0]), (iI a1), (.agg #[(iI a2.Lsn), w2_0])] w (RT (impl_Heap_with.Q w F os) r) := by
 obtain ⟨u2_0, q2_0, e2, eo2, h2_0⟩ := po59 h2
 obtain y2_0 : w2_0 = u2_0 := by simpa using e2
 subst y2_0
 subst eo2
 obtain ⟨s0, rfl, kp0, z⟩ := startN w F [(os, 40)] (by simpa [fl_] using hn) (fun b hb => by simpa [fl_] using hF b hb) rfl
 have ez : fl_ [(os, 40)] = os := by simp [fl_]
 have A0_0 := z.rd h0_0
 refine Xd (args := [(.agg #[w0_0]), (iI a1), (.agg #[(iI a2.Lsn), w2_0])]) func66 ntmps66 rfl rfl m ?_
 unfold impl_Heap_with.f
 refine sr (bx' (cs := [w0_0]) 41 rfl rfl (fun b3 s3 p3 B3 => ?_))
 refine bx' (cs := [(iI a2.Lsn), w2_0]) 42 rfl rfl (fun b5 s5 p5 B5 => ?_)
 refine al' (cs := [(.slice none 0 0)]) 43 rfl o32 rfl (fun b7 s7 p7 B7 => ?_)
 refine dn (sr (al' (cs := [(.slice none 0 0)]) 44 rfl o32 rfl (fun b9 s9 p9 B9 => ?_)))
 refine dn (sq (sr (Xt fa32_0 rfl ?_)))
 refine Yb (B3.st (Yi p5 p7 p9) rfl) u30 rfl ?_
 have K12 := kp0.st (tr4 p3 p5 p7 p9) rfl
 refine Yl (A0_0.kp K12) u30 rfl (Xc rfl (dn (bl ?_)))
 refine lpI (fun (x14 : Int × (List Page)) e w => ∃ (s : St) (e0 : Env) (vx14_0 : Value), w = s.w ∧ e = upd (upd (upd (upd (upd (upd (upd e0 1 (iI a1)) 5 (pB b5)) 6 (pB b7)) 7 (pB b9)) 11 w0_0) 12 (iI (a0.Pages.length : Int))) 13 (iI x14.1) ∧ Kp s0 s ∧ OwF Yp s [vx14_0] x14.2 45 ∧ BlF s b9 32 [vx14_0] 44 ∧ BlF s b7 32 [(.slice none 0 0)] 43 ∧ BlF s b5 59 [(iI a2.Lsn), w2_0] 42 ∧ OwF (Kd.sl 25 Yo) s [w2_0] a2.Slots 40) ⟨s9, _, (.slice none 0 0), rfl, (ue (ue (ue (ue (ue (ue (ue rfl rfl) rfl) rfl) rfl) rfl) rfl) rfl), K12, (Yk 59 kd59 _ 45), B9, (B7.st p9 rfl), (B5.st (Xq p7 p9) rfl), ((z.ow (c := 40) (by simp) hn h2_0).st (tr4 p3 p5 p7 p9) rfl)⟩ (fun g14 ih14 => ?_)
 rintro x14 _ _ ⟨s18, _, vx14_0, rfl, rfl, Kx14, Ax14_0, Bx14_b9, Bx14_b7, Bx14_b5, Cx14_2⟩
 unfold impl_Heap_with.b0
 refine sr (Xc rfl (dn (sq (cd rfl (fun h23 => ?_) (fun h23 => ?_)))))
 ·
  refine sk (sq (bl (sr ?_)))
  refine ix' (A0_0.kp Kx14) u30 z59 rfl (fun ad25 es25 h0_25 h1_25 he25 ce25 ia25 => ?_)
  obtain ⟨v25_0, rfl, A25_0⟩ := op59 he25
  refine lca ce25 u59 z59 rfl rfl rfl rfl rfl rfl rfl (al' (cs := [(iI 0), (.slice none 0 0)]) 46 rfl o59 rfl (fun b28 s28 p28 B28 => ?_))
  have A30 := A25_0.st p28 rfl
  refine Xu (vs := [(iI ((at_ a0.Pages x14.1).Lsn)), v25_0]) B28 z59 rfl (Xb rfl (Xb A30.one Xi)) rfl (fun s31 p31 B31 => ?_)
  refine dn (zdraw [[], [0], [], [2], [], [4], [3, 5], [6], [1, 7, 5], [0, 1, 2, 3, 4, 5, 6, 7, 8], [9, 8, 8, 0, 1, 2, 3, 4, 5, 6, 7, 8]] [some 17, some 18, some 19, some 20, some 21, some 22, some 23, some 24, some 25, some 26, none] [[7], [17], [9], [19], [9], [21], [20, 22], [23], [18, 24], [7], [26, 25]] [0, 1, 2, 3, 4, 5, 6, 7, 8, 9, 10] ⟨by kernel_rfl, by kernel_rfl, by kernel_rfl⟩ (by kernel_rfl) (fun s33 p33 l33 tb33 zd33 => ?_))
  refine Yc 5 [some 20, some 19, some 18, some 17] tb33 (((((zd33.add 0 17 (pB b9) rfl).add 1 18 vx14_0 rfl).add 2 19 (pB b28) rfl).add 3 20 (iI ((at_ a0.Pages x14.1).Lsn)) rfl).add 4 21 (.agg #[(iI ((at_ a0.Pages x14.1).Lsn)), v25_0]) rfl) (Xa (lda_q' (es := [(iI ((at_ a0.Pages x14.1).Lsn)), v25_0]) (B31.st p33 rfl) u59 z59 rfl) rfl (Xa (Xp (B31.st p33 rfl) u3 rfl) rfl (Xa (Xr fa59_0 rfl) rfl (Xa (Xp (Bx14_b9.st (Yi p28 p31 p33) rfl) u30 rfl) rfl (Xa (Xr fa32_0 rfl) rfl Xg))))) (by kernel_rfl) rfl (fun l42 e42 zd42 => ?_)
  refine clO 47 rfl func35 rfl (impl_Page_slots.calls (at_ a0.Pages x14.1) s33.w (mm [0] s33) v25_0 (A30.st (Xq p31 p33) rfl)) (fun r47 v47_0 s48 p48 A47_0 => ?_)
  refine Xl (L' := [3, 2, 1, 0]) (D' := [4, 5]) zd42 rfl (fun zd50 => ?_)
  refine Yc 7 [some 18, some 17] tb33 (zd50.add 6 23 (.agg #[(iI ((at_ a0.Pages x14.1).Lsn)), v47_0]) rfl) (Xa (bd_q (cells := [(iI ((at_ a0.Pages x14.1).Lsn)), v47_0]) pl59 o59 rfl rfl rfl rfl rfl (lfill_pc (pc_c rfl (pc_c (oc A47_0.rd.one) pc_n)) rfl)) rfl (Xa (Xp (B31.st (Xq p33 p48) rfl) u3 rfl) rfl (Xa (Xr fa59_0 rfl) rfl (Xa (Xp (Bx14_b9.st (tr4 p28 p31 p33 p48) rfl) u30 rfl) rfl (Xa (Xr fa32_0 rfl) rfl Xg))))) (by kernel_rfl) rfl (fun l52 e52 zd52 => ?_)
  have A55 : OwF kd59 s48 [(iI ((at_ a0.Pages x14.1).Lsn)), v47_0] (Page.mk ((at_ a0.Pages x14.1).Lsn) r47) 47 := (Xo (fun x : Page => (x.Lsn, x.Slots)) (Page.mk ((at_ a0.Pages x14.1).Lsn) r47) (Yg (Xf .i64 ((at_ a0.Pages x14.1).Lsn)) A47_0))
  refine ltO (K := kd59) (cells := [(iI ((at_ a0.Pages x14.1).Lsn)), v47_0]) [(Page.mk ((at_ a0.Pages x14.1).Lsn) r47)] 47 u30 z59 o59 (lo_one A55) rfl rfl rfl rfl rfl rfl rfl rfl rfl rfl (fun v58 s58 p58 A58 => ?_)
  refine Xl (L' := [1, 0]) (D' := [2, 3, 6, 7, 4, 5]) zd52 rfl (fun zd60 => ?_)
  refine zfin [8, 9, 10] tb33 zd60 (Xa (Xp (Bx14_b9.st (tr5 p28 p31 p33 p48 p58) rfl) u30 rfl) rfl (Xa (Xr fa32_0 rfl) rfl Xg)) (by kernel_rfl) (by decide) (apO sl30 (Ax14_0.st (tr5 p28 p31 p33 p48 p58) rfl) A58 rfl rfl rfl rfl rfl rfl rfl rfl rfl (fun v63 s63 p63 A63 => ?_))
  refine Xt fa32_0 rfl (sv' (Bx14_b9.st (tr6 p28 p31 p33 p48 p58 p63) rfl) z30 rfl A63.rd.one rfl (fun s66 p66 B66 => ?_))
  refine dn (ib (rg (Xc rfl (Xc rfl (dn ?_)))))
  exact lb ih14 ⟨s66, _, v63, rfl, (ue (ue (ue (ue (ue (ue (ue rfl rfl) rfl) rfl) rfl) rfl) rfl) rfl), (Kx14.st (tr7 p28 p31 p33 p48 p58 p63 p66) rfl), (A63.st p66 rfl), B66, (Bx14_b7.st (tr7 p28 p31 p33 p48 p58 p63 p66) rfl), (Bx14_b5.st (tr7 p28 p31 p33 p48 p58 p63 p66) rfl), (Cx14_2.st (tr7 p28 p31 p33 p48 p58 p63 p66) rfl)⟩
 refine xt rfl (sgb (sq (sr (Xc rfl (Xt fa32_0 rfl (Yb Bx14_b9 u30 rfl (Yl Ax14_0.rd u30 rfl (Xc rfl (dn (jc (fun (y73 : (List Page)) e w => ∃ (s : St) (e0 : Env) (vy73_0 : Value), w = s.w ∧ e = upd (upd (upd (upd e0 1 (iI a1)) 5 (pB b5)) 6 (pB b7)) 7 (pB b9) ∧ Kp s0 s ∧ OwF Yp s [vy73_0] y73 45 ∧ BlF s b9 32 [vy73_0] 44 ∧ BlF s b7 32 [(.slice none 0 0)] 43 ∧ BlF s b5 59 [(iI a2.Lsn), w2_0] 42 ∧ OwF (Kd.sl 25 Yo) s [w2_0] a2.Slots 40) (fun Gj73 Kj73 => ?_) ?_))))))))))
 ·
  refine cd rfl (fun h74 => ?_) (fun h74 => ?_)
  ·
   refine rg (Xt fa32_0 rfl (Yb Bx14_b9 u30 rfl (bd' (cells := [(iI 0), (.slice none 0 0)]) pl59 o59 rfl rfl ?_)))
   have A75 : OwF kd59 s18 [(iI 0), (.slice none 0 0)] (Page.mk (0 : Int) ([] : (List (List Int)))) 50 := ow_z _ _ (Xz (fun x : Page => (x.Lsn, x.Slots)) (Page.mk (0 : Int) ([] : (List (List Int)))) (Xh (Xf .i64 (0 : Int)) (Ya 25 Yo)))
   refine ltO (K := kd59) (cells := [(iI 0), (.slice none 0 0)]) [(Page.mk (0 : Int) ([] : (List (List Int))))] 50 u30 z59 o59 (lo_one A75) rfl rfl rfl rfl rfl rfl rfl rfl rfl rfl (fun v78 s78 p78 A78 => ?_)
   refine apO sl30 (Ax14_0.st p78 rfl) A78 rfl rfl rfl rfl rfl rfl rfl rfl rfl (fun v81 s81 p81 A81 => ?_)
   refine Xt fa32_0 rfl (sv' (Bx14_b9.st (Xq p78 p81) rfl) z30 rfl A81.rd.one rfl (fun s84 p84 B84 => ?_))
   exact dn (Kj73 _ _ _ ⟨s84, _, v81, rfl, (ue (ue (ue (ue rfl rfl) rfl) rfl) rfl), (Kx14.st (Yi p78 p81 p84) rfl), (A81.st p84 rfl), B84, (Bx14_b7.st (Yi p78 p81 p84) rfl), (Bx14_b5.st (Yi p78 p81 p84) rfl), (Cx14_2.st (Yi p78 p81 p84) rfl)⟩)
  exact sk (Kj73 _ _ _ ⟨s18, _, vx14_0, rfl, (ue (ue (ue (ue rfl rfl) rfl) rfl) rfl), Kx14, Ax14_0, Bx14_b9, Bx14_b7, Bx14_b5, Cx14_2⟩)
 rintro y73 _ _ ⟨s91, _, vy73_0, rfl, rfl, Ky73, Ay73_0, By73_b9, By73_b7, By73_b5, Cy73_2⟩
 refine sr (Xt fa32_0 rfl (Yb By73_b9 u30 rfl (Xc rfl (Xw (es := [(iI a2.Lsn), w2_0]) By73_b5 u59 z59 rfl (ix' Ay73_0.rd u30 z59 rfl (fun ad96 es96 h0_96 h1_96 he96 ce96 ia96 => ?_))))))
 obtain ⟨v96_0, rfl, A96_0⟩ := op59 he96
 have A99 : OwF kd59 s91 [(iI a2.Lsn), w2_0] a2 40 := (Xo (fun x : Page => (x.Lsn, x.Slots)) a2 (Yg (Xf .i64 a2.Lsn) Cy73_2))
 refine som (x' := a2) Ay73_0 ia96 h0_96 h1_96 A99 rfl rfl z59 rfl rfl rfl rfl rfl rfl (fun s101 p101 A101 => ?_)
 refine dn (sr ?_)
 refine Xw (es := [vy73_0]) (By73_b9.st p101 rfl) u32 z32 rfl (Xu (vs := [vy73_0]) (By73_b7.st p101 rfl) z32 rfl (Xb A101.rd.one Xi) rfl (fun s105 p105 B105 => ?_))
 refine dn ?_
 have A107 : OwF kd32 s105 [vy73_0] (Heap.mk (y73.set (a1).toNat a2)) 45 := (Xo (fun x : Heap => (x.Pages)) (Heap.mk (y73.set (a1).toNat a2)) (A101.st p105 rfl))
 have K110 := Ky73.st (Xq p101 p105) rfl
 exact re rfl func66 rfl (r_b B105 u32 rfl z32 rfl Xe) rfl ⟨_, rfl, vy73_0, rfl, z.fw' ez K110 (oc_ow A107) rfl, z.ky' ez K110⟩
def impl_PagePut.b0 (a1 : Int) (a2 : (List Int)) (a3 : Int) (x50 : (List (List Int))) : Option ((List (List Int)) ⊕ (Page × Bool)) :=
 (if (decide ((x50.length : Int) ≤ a1)) = true then (if x50.length + ([([] : (List Int))]).length ≤ Lim then (some (Sum.inl (x50 ++ [([] : (List Int))]))) else none) else (((slices_Clone_byte_byte.f a2).bind fun r83 => (if 0 ≤ a1 ∧ a1 < (x50.length : Int) then ((impl_PageUsed.f (Page.mk a3 (x50.set (a1).toNat r83))).bind fun r95 => (if (decide (r95 < (0 : Int))) = true then (some ((Page.mk (0 : Int) ([] : (List (List Int)))), false)) else (some ((Page.mk a3 (x50.set (a1).toNat r83)), true)))) else none)).bind fun o => some (Sum.inr o)))
def impl_PagePut.f (a0 : Page) (a1 : Int) (a2 : (List Int)) (a3 : Int) : Option (Page × Bool) :=
 ((impl_PageUsed.f a0).bind fun r10 => ((if (decide (r10 < (0 : Int))) = true then (some true) else ((impl_isSlot.f a1).bind fun r16 => (some (!r16)))).bind fun y12 => ((if (y12 || ((a2.length : Int) == (0 : Int))) = true then (some true) else ((impl_isLsn.f a3).bind fun r27 => (some (!r27)))).bind fun y26 => (if y26 = true then (some ((Page.mk (0 : Int) ([] : (List (List Int)))), false)) else ((impl_Page_slots.f a0).bind fun r42 => (iter (impl_PagePut.b0 a1 a2 a3) r42))))))
def impl_PagePut.Q (w : World) (F : Nat → Prop) (r : Page × Bool) (v : Value) (w' : World) : Prop :=
 ∃ (v0 : Value), v = .tuple #[(.agg #[(iI r.1.Lsn), v0]), (.bool r.2)] ∧ FO kd59 w w' [(iI r.1.Lsn), v0] r.1 ∧ Ky [] w w'
theorem impl_PagePut.calls (a0 : Page) (a1 : Int) (a2 : (List Int)) (a3 : Int) (w : World) (F : Nat → Prop) (w0_0 : Value) (w2_0 : Value) (h0_0 : (Kd.sl 25 Yo).rd w [w0_0] a0.Slots F) (h2_0 : Yo.rd w [w2_0] a2 F) (r : Page × Bool) (m : impl_PagePut.f a0 a1 a2 a3 = some r) :
  Calls prog 94 #[(.agg #[(iI a0.Lsn), w0_0]), (iI a1), w2_0, (iI a3)] w (RT (impl_PagePut.Q w F) r) := by
 obtain ⟨s0, rfl, kp0, z⟩ := Xk w F
 have A0_0 := z.rd h0_0
 have A2_0 := z.rd h2_0
 refine Xd (args := [(.agg #[(iI a0.Lsn), w0_0]), (iI a1), w2_0, (iI a3)]) func94 ntmps94 rfl rfl m ?_
 unfold impl_PagePut.f
 refine sr (bx' (cs := [(iI a0.Lsn), w0_0]) 40 rfl rfl (fun b3 s3 p3 B3 => ?_))
 refine al' (cs := [(iI 0), (.slice none 0 0)]) 41 rfl o59 rfl (fun b5 s5 p5 B5 => ?_)
 refine Xc rfl (dn (sq (sr ?_)))
 have A7 := B3.st p5 rfl
 refine Xw (es := [(iI a0.Lsn), w0_0]) A7 u59 z59 rfl ?_
 have K8 := kp0.st (Xq p3 p5) rfl
 refine Ym 42 rfl func55 rfl (impl_PageUsed.calls a0 s5.w (mm [0] s5) w0_0 (A0_0.kp K8)) (fun r10 s11 p11 n11 => ?_)
 refine Xc rfl (Xc rfl (ji [8, 9, 10, 11, 12, 13, 14, 15, 16, 17] (fun (y12 : Bool) e w => ∃ (s : St) (e0 : Env), w = s.w ∧ e = upd (upd (upd (upd (upd (upd e0 1 (iI a1)) 2 w2_0) 3 (iI a3)) 4 (pB b3)) 8 (pB b5)) 18 (.bool y12) ∧ Kp s0 s ∧ BlF s b5 59 [(iI 0), (.slice none 0 0)] 41 ∧ BlF s b3 59 [(iI a0.Lsn), w0_0] 40) (fun Gj12 Kj12 => ?_) ?_))
 ·
  rcases Yn (decide (r10 < (0 : Int))) with hb12 | hb12
  ·
   refine Xy hb12 ?_
   rw [if_pos hb12]
   refine Xj rfl (Xj rfl (Xj rfl (Xc rfl ?_)))
   exact Kj12 _ _ _ ⟨s11, _, rfl, (ue (ue (ue (ue (ue (ue rfl rfl) rfl) rfl) rfl) rfl) rfl), (K8.st p11 rfl), (B5.st p11 rfl), (A7.st p11 rfl)⟩
  refine Xy hb12 ?_
  rw [if_neg (by rw [hb12]; decide)]
  refine Xc rfl (Ym 43 rfl func61 rfl (impl_isSlot.calls a1 s11.w (mm [] s11)) (fun r16 s17 p17 n17 => ?_))
  refine Xc rfl (Xc rfl ?_)
  exact Kj12 _ _ _ ⟨s17, _, rfl, (ue (ue (ue (ue (ue (ue rfl rfl) rfl) rfl) rfl) rfl) rfl), (K8.st (Xq p11 p17) rfl), (B5.st (Xq p11 p17) rfl), (A7.st (Xq p11 p17) rfl)⟩
 rintro y12 _ _ ⟨s21, _, rfl, rfl, Ky12, By12_b5, By12_b3⟩
 refine Xc rfl (jy [19, 20, 21, 22, 23] [13, 14, 15, 16, 17] 23 (.bool (y12 || ((a2.length : Int) == (0 : Int)))) rfl (fun Kg24 => ?_) (fun j24 => ?_))
 ·
  rcases Yn y12 with hb24 | hb24
  ·
   exact Xy hb24 (Xj rfl (Xj rfl (Xj rfl (Xc rfl (Kg24 _ (Ag.put ((Ag.put ((Ag.put ((Ag.put (Ag.base rfl) rfl)) rfl)) rfl)) rfl) (by rw [hb24]; rfl))))))
  refine Xy hb24 (Xx w2_0 rfl ?_)
  exact Yl (A2_0.kp Ky12) u25 rfl (Xc rfl (Xc rfl (Kg24 _ (Ag.put ((Ag.put ((Ag.put ((Ag.put (Ag.base rfl) rfl)) rfl)) rfl)) rfl) (by rw [hb24]; rfl))))
 refine Xc rfl (ji [] (fun (y26 : Bool) e w => ∃ (s : St) (e0 : Env), w = s.w ∧ e = upd (upd (upd (upd (upd (upd e0 1 (iI a1)) 2 w2_0) 3 (iI a3)) 4 (pB b3)) 8 (pB b5)) 28 (.bool y26) ∧ Kp s0 s ∧ BlF s b5 59 [(iI 0), (.slice none 0 0)] 41 ∧ BlF s b3 59 [(iI a0.Lsn), w0_0] 40) (fun Gj26 Kj26 => ?_) ?_)
 ·
  rcases Yn (y12 || ((a2.length : Int) == (0 : Int))) with hb26 | hb26
  ·
   refine Xy hb26 ?_
   rw [if_pos hb26]
   exact Xj rfl (Xj rfl (Xj rfl (Xc rfl (Kj26 _ _ _ ⟨s21, _, rfl, (ue (ue (ue (ue (ue (ue rfl rfl) rfl) rfl) rfl) rfl) rfl), Ky12, By12_b5, By12_b3⟩))))
  refine Xy hb26 ?_
  rw [if_neg (by rw [hb26]; decide)]
  refine Xc rfl (Ym 44 rfl func59 rfl (impl_isLsn.calls a3 s21.w (mm [] s21)) (fun r27 s28 p28 n28 => ?_))
  refine Xc rfl (Xc rfl ?_)
  exact Kj26 _ _ _ ⟨s28, _, rfl, (ue (ue (ue (ue (ue (ue rfl rfl) rfl) rfl) rfl) rfl) rfl), (Ky12.st p28 rfl), (By12_b5.st p28 rfl), (By12_b3.st p28 rfl)⟩
 rintro y26 _ _ ⟨s32, _, rfl, rfl, Ky26, By26_b5, By26_b3⟩
 refine dn (cd rfl (fun h35 => ?_) (fun h35 => ?_))
 ·
  refine sr (bd' (cells := [(iI 0), (.slice none 0 0)]) pl59 o59 rfl rfl (Xu (vs := [(iI 0), (.slice none 0 0)]) By26_b5 z59 rfl (Xb rfl (Xb rfl Xi)) rfl (fun s36 p36 B36 => ?_)))
  refine Xc rfl (dn ?_)
  have A38 : OwF kd59 s36 [(iI 0), (.slice none 0 0)] (Page.mk (0 : Int) ([] : (List (List Int)))) 45 := ow_z _ _ (Xz (fun x : Page => (x.Lsn, x.Slots)) (Page.mk (0 : Int) ([] : (List (List Int)))) (Xh (Xf .i64 (0 : Int)) (Ya 25 Yo)))
  have K40 := Ky26.st p36 rfl
  exact re rfl func94 rfl (r_b B36 u59 rfl z59 rfl (Xs rfl Xe)) rfl ⟨_, rfl, (.slice none 0 0), rfl, A38.fo K40 rfl z.l, z.ky K40⟩
 refine sk (sr (Xc rfl (Xw (es := [(iI a0.Lsn), w0_0]) By26_b3 u59 z59 rfl ?_)))
 refine clO 46 rfl func35 rfl (impl_Page_slots.calls a0 s32.w (mm [0] s32) w0_0 (A0_0.kp Ky26)) (fun r42 v42_0 s43 p43 A42_0 => ?_)
 refine bd' (cells := [(iI a3), v42_0]) pl59 o59 rfl (lfill_pc (pc_c rfl (pc_c (oc A42_0.rd.one) pc_n)) rfl) (al' (cs := [(iI 0), (.slice none 0 0)]) 47 rfl o59 rfl (fun b45 s45 p45 B45 => ?_))
 have A47 := A42_0.st p45 rfl
 refine Xu (vs := [(iI a3), v42_0]) B45 z59 rfl (Xb rfl (Xb A47.rd.one Xi)) rfl (fun s48 p48 B48 => ?_)
 refine dn (sq (bl ?_))
 refine lpI (fun (x50 : (List (List Int))) e w => ∃ (s : St) (e0 : Env) (vx50_0 : Value), w = s.w ∧ e = upd (upd (upd (upd e0 1 (iI a1)) 2 w2_0) 8 (pB b5)) 10 (pB b45) ∧ Kp s0 s ∧ OwF (Kd.sl 25 Yo) s [vx50_0] x50 46 ∧ BlF s b45 59 [(iI a3), vx50_0] 47 ∧ BlF s b5 59 [(iI 0), (.slice none 0 0)] 41) ⟨s48, _, v42_0, rfl, (ue (ue (ue (ue rfl rfl) rfl) rfl) rfl), (Ky26.st (Yi p43 p45 p48) rfl), (A47.st p48 rfl), B48, (By26_b5.st (Yi p43 p45 p48) rfl)⟩ (fun g50 ih50 => ?_)
 rintro x50 _ _ ⟨s54, _, vx50_0, rfl, rfl, Kx50, Ax50_0, Bx50_b45, Bx50_b5⟩
 unfold impl_PagePut.b0
 refine sq (sr (Xt fa59_1 rfl (Yb Bx50_b45 u57 rfl (Yl Ax50_0.rd u57 rfl (Xc rfl (Xc rfl (dn (cd rfl (fun h58 => ?_) (fun h58 => ?_)))))))))
 ·
  refine sk (bl (rg (Xt fa59_1 rfl (Yb Bx50_b45 u57 rfl ?_))))
  have A59 : OwF Yo s54 [(.slice none 0 0)] ([] : (List Int)) 49 := ow_z _ _ (Ya 5 (Kd.int .u8))
  refine ltO (K := Yo) (cells := [(.slice none 0 0)]) [([] : (List Int))] 49 u57 z25 o25 (lo_one A59) rfl rfl rfl rfl rfl rfl rfl rfl rfl rfl (fun v62 s62 p62 A62 => ?_)
  refine apO sl57 (Ax50_0.st p62 rfl) A62 rfl rfl rfl rfl rfl rfl rfl rfl rfl (fun v65 s65 p65 A65 => ?_)
  refine Xt fa59_1 rfl (sv' (Bx50_b45.st (Xq p62 p65) rfl) z57 rfl A65.rd.one rfl (fun s68 p68 B68 => ?_))
  refine dn (ib ?_)
  exact lb ih50 ⟨s68, _, v65, rfl, (ue (ue (ue (ue rfl rfl) rfl) rfl) rfl), (Kx50.st (Yi p62 p65 p68) rfl), (A65.st p68 rfl), B68, (Bx50_b5.st (Yi p62 p65 p68) rfl)⟩
 refine xt rfl (sgb (sq (zdraw [[], [0], [], [], [3], [1, 2, 0, 1, 2, 3, 4], [5, 4, 4, 0, 1, 2, 3, 4]] [some 44, some 45, some 46, some 47, some 48, some 49, none] [[10], [44], [1], [2], [47], [45, 46], [49, 48]] [0, 1, 2, 3, 4, 5, 6] ⟨by kernel_rfl, by kernel_rfl, by kernel_rfl⟩ (by kernel_rfl) (fun s73 p73 l73 tb73 zd73 => ?_))))
 refine Yc 4 [some 46, some 45, some 44] tb73 ((((zd73.add 0 44 (pO b45 1) rfl).add 1 45 vx50_0 rfl).add 2 46 (iI a1) rfl).add 3 47 w2_0 rfl) (Xa (Xn w2_0 rfl) rfl (Xa (Xm rfl) rfl (Xa (Xp (Bx50_b45.st p73 rfl) u57 rfl) rfl (Xa (Xr fa59_1 rfl) rfl Xg)))) (by kernel_rfl) rfl (fun l79 e79 zd79 => ?_)
 have K81 := Kx50.st p73 rfl
 refine clO 50 rfl func64 rfl (slices_Clone_byte_byte.calls a2 s73.w (mm [0] s73) w2_0 (A2_0.kp K81)) (fun r83 v83_0 s84 p84 A83_0 => ?_)
 refine Xl (L' := [2, 1, 0]) (D' := [3, 4]) zd79 rfl (fun zd86 => ?_)
 refine zfin [5, 6] tb73 zd86 (Xa (Xm rfl) rfl (Xa (Xp (Bx50_b45.st (Xq p73 p84) rfl) u57 rfl) rfl (Xa (Xr fa59_1 rfl) rfl Xg))) (by kernel_rfl) (by decide) ?_
 have A88 := Ax50_0.st (Xq p73 p84) rfl
 refine ix' A88.rd u57 z25 rfl (fun ad89 es89 h0_89 h1_89 he89 ce89 ia89 => ?_)
 obtain ⟨v89, rfl, he89'⟩ := he89
 have A89 : RdF Yo s84 [v89] (at_ x50 a1) [46] := ⟨v89, rfl, he89'⟩
 refine sog (x' := r83) lg_id A88 ia89 h0_89 h1_89 A83_0 rfl rfl z25 rfl rfl rfl rfl rfl (oc A83_0.rd.one) (fun s92 p92 A92 => ?_)
 refine dn (sq (sr ?_))
 have A94 := Bx50_b45.st (Yi p73 p84 p92) rfl
 refine Xw (es := [(iI a3), vx50_0]) A94 u59 z59 rfl (Ym 51 rfl func55 rfl (impl_PageUsed.calls (Page.mk a3 (x50.set (a1).toNat r83)) s92.w (mm [46] s92) vx50_0 A92.rd) (fun r95 s96 p96 n96 => ?_))
 refine Xc rfl (dn (cd rfl (fun h97 => ?_) (fun h97 => ?_)))
 ·
  refine sr (bd' (cells := [(iI 0), (.slice none 0 0)]) pl59 o59 rfl rfl ?_)
  refine Xu (vs := [(iI 0), (.slice none 0 0)]) (Bx50_b5.st (tr4 p73 p84 p92 p96) rfl) z59 rfl (Xb rfl (Xb rfl Xi)) rfl (fun s99 p99 B99 => ?_)
  refine Xc rfl (dn ?_)
  have A101 : OwF kd59 s99 [(iI 0), (.slice none 0 0)] (Page.mk (0 : Int) ([] : (List (List Int)))) 52 := ow_z _ _ (Xz (fun x : Page => (x.Lsn, x.Slots)) (Page.mk (0 : Int) ([] : (List (List Int)))) (Xh (Xf .i64 (0 : Int)) (Ya 25 Yo)))
  have K103 := K81.st (tr4 p84 p92 p96 p99) rfl
  exact re rfl func94 rfl (r_b B99 u59 rfl z59 rfl (Xs rfl Xe)) rfl ⟨_, rfl, (.slice none 0 0), rfl, A101.fo K103 rfl z.l, z.ky K103⟩
 refine sk (sr ?_)
 refine Xw (es := [(iI a3), vx50_0]) (A94.st p96 rfl) u59 z59 rfl ?_
 have A106 := A92.st p96 rfl
 refine Xu (vs := [(iI a3), vx50_0]) (Bx50_b5.st (tr4 p73 p84 p92 p96) rfl) z59 rfl (Xb rfl (Xb A106.rd.one Xi)) rfl (fun s107 p107 B107 => ?_)
 refine Xc rfl (dn ?_)
 have A109 : OwF kd59 s107 [(iI a3), vx50_0] (Page.mk a3 (x50.set (a1).toNat r83)) 46 := (Xo (fun x : Page => (x.Lsn, x.Slots)) (Page.mk a3 (x50.set (a1).toNat r83)) (Yg (Xf .i64 a3) (A106.st p107 rfl)))
 have K112 := K81.st (tr4 p84 p92 p96 p107) rfl
 exact re rfl func94 rfl (r_b B107 u59 rfl z59 rfl (Xs rfl Xe)) rfl ⟨_, rfl, vx50_0, rfl, A109.fo K112 rfl z.l, z.ky K112⟩
def impl_Heap_put.f (a0 : Heap) (a1 : Int) (a2 : Int) (a3 : (List Int)) (a4 : Int) : Option (Heap × Bool) :=
 ((impl_within.f a1 (0 : Int) (IntKind.wrap .i64 ((a0.Pages.length : Int) - (1 : Int)))).bind fun r12 => ((if r12 = true then (if 0 ≤ a1 ∧ a1 < (a0.Pages.length : Int) then (some (Sum.inl ((at_ a0.Pages a1).Lsn, (at_ a0.Pages a1).Slots))) else none) else (if ((a1 != (a0.Pages.length : Int)) || (decide (a1 ≥ (16 : Int)))) = true then (some (Sum.inr ((Heap.mk ([] : (List Page))), false))) else (some (Sum.inl ((0 : Int), ([] : (List (List Int)))))))).bind (sel fun y14 => ((impl_PagePut.f (Page.mk y14.1 y14.2) a2 a3 a4).bind fun r48 => (if (!r48.2) = true then (some ((Heap.mk ([] : (List Page))), false)) else ((impl_Heap_with.f a0 a1 r48.1).bind fun r69 => (some (r69, true))))))))
def impl_Heap_put.Q (w : World) (F : Nat → Prop) (r : Heap × Bool) (v : Value) (w' : World) : Prop :=
 ∃ (v0 : Value), v = .tuple #[(.agg #[v0]), (.bool r.2)] ∧ FO kd32 w w' [v0] r.1 ∧ Ky [] w w'
theorem impl_Heap_put.calls (a0 : Heap) (a1 : Int) (a2 : Int) (a3 : (List Int)) (a4 : Int) (w : World) (F : Nat → Prop) (w0_0 : Value) (w3_0 : Value) (h0_0 : Yp.rd w [w0_0] a0.Pages F) (h3_0 : Yo.rd w [w3_0] a3 F) (r : Heap × Bool) (m : impl_Heap_put.f a0 a1 a2 a3 a4 = some r) :
  Calls prog 67 #[(.agg #[w0_0]), (iI a1), (iI a2), w3_0, (iI a4)] w (RT (impl_Heap_put.Q w F) r) := by
 obtain ⟨s0, rfl, kp0, z⟩ := Xk w F
 have A0_0 := z.rd h0_0
 refine Xd (args := [(.agg #[w0_0]), (iI a1), (iI a2), w3_0, (iI a4)]) func67 ntmps67 rfl rfl m ?_
 unfold impl_Heap_put.f
 refine sr (bx' (cs := [w0_0]) 40 rfl rfl (fun b3 s3 p3 B3 => ?_))
 refine al' (cs := [(.slice none 0 0)]) 41 rfl o32 rfl (fun b5 s5 p5 B5 => ?_)
 refine Xc rfl (dn (sr (al' (cs := [(iI 0), (.slice none 0 0)]) 42 rfl o59 rfl (fun b7 s7 p7 B7 => ?_))))
 refine dn (sq (sr (Xc rfl (Xt fa32_0 rfl ?_))))
 have A9 := B3.st (Xq p5 p7) rfl
 refine Yb A9 u30 rfl ?_
 have K10 := kp0.st (Yi p3 p5 p7) rfl
 refine Yl (A0_0.kp K10) u30 rfl (Xc rfl (Ym 43 rfl func63 rfl (impl_within.calls a1 (0 : Int) (IntKind.wrap .i64 ((a0.Pages.length : Int) - (1 : Int))) s7.w (mm [] s7)) (fun r12 s13 p13 n13 => ?_)))
 refine dn (jr (fun (y14 : Int × (List (List Int))) e w => ∃ (s : St) (e0 : Env) (vy14_0 : Value), w = s.w ∧ e = upd (upd (upd (upd (upd (upd (upd e0 1 (iI a1)) 2 (iI a2)) 3 w3_0) 4 (iI a4)) 5 (pB b3)) 10 (pB b5)) 12 (pB b7) ∧ Kp s0 s ∧ RdF (Kd.sl 25 Yo) s [vy14_0] y14.2 [0] ∧ BlF s b7 59 [(iI y14.1), vy14_0] 42 ∧ BlF s b5 32 [(.slice none 0 0)] 41 ∧ BlF s b3 32 [w0_0] 40) (fun Gj14 Kj14 hG14 => ?_) ?_)
 ·
  refine cd rfl (fun h15 => ?_) (fun h15 => ?_)
  ·
   refine rg (Xt fa32_0 rfl ?_)
   have A16 := A9.st p13 rfl
   refine Yb A16 u30 rfl (Xc rfl ?_)
   have K17 := K10.st p13 rfl
   refine ix' (A0_0.kp K17) u30 z59 rfl (fun ad19 es19 h0_19 h1_19 he19 ce19 ia19 => ?_)
   obtain ⟨v19_0, rfl, A19_0⟩ := op59 he19
   refine lca ce19 u59 z59 rfl rfl rfl rfl rfl rfl rfl (Xu (vs := [(iI ((at_ a0.Pages a1).Lsn)), v19_0]) (B7.st p13 rfl) z59 rfl (Xb rfl (Xb A19_0.one Xi)) rfl (fun s23 p23 B23 => ?_))
   exact dn (Kj14 _ _ _ ⟨s23, _, v19_0, rfl, (ue (ue (ue (ue (ue (ue (ue rfl rfl) rfl) rfl) rfl) rfl) rfl) rfl), (K17.st p23 rfl), (A19_0.st p23 rfl), B23, (B5.st (Yi p7 p13 p23) rfl), (A16.st p23 rfl)⟩)
  refine sr (Xc rfl (Xt fa32_0 rfl ?_))
  have A29 := A9.st p13 rfl
  refine Yb A29 u30 rfl ?_
  have K30 := K10.st p13 rfl
  refine Yl (A0_0.kp K30) u30 rfl (Xc rfl (Xc rfl (jy [31, 32, 33, 34] [] 34 (.bool ((a1 != (a0.Pages.length : Int)) || (decide (a1 ≥ (16 : Int))))) rfl (fun Kg32 => ?_) (fun j32 => ?_))))
  ·
   rcases Yn (a1 != (a0.Pages.length : Int)) with hb32 | hb32
   ·
    exact Xy hb32 (Xj rfl (Xj rfl (Xc rfl (Kg32 _ (Ag.put ((Ag.put ((Ag.put (Ag.base rfl) rfl)) rfl)) rfl) (by rw [hb32]; rfl)))))
   exact Xy hb32 (Xc rfl (Xc rfl (Xc rfl (Kg32 _ (Ag.put ((Ag.put ((Ag.put (Ag.base rfl) rfl)) rfl)) rfl) (by rw [hb32]; rfl)))))
  refine dn (cd rfl (fun h33 => ?_) (fun h33 => ?_))
  ·
   refine sr (bd' (cells := [(.slice none 0 0)]) pl32 o32 rfl rfl ?_)
   refine Xu (vs := [(.slice none 0 0)]) (B5.st (Xq p7 p13) rfl) z32 rfl (Xb rfl Xi) rfl (fun s35 p35 B35 => ?_)
   refine Xc rfl (dn (jri hG14 ?_))
   have A37 : OwF kd32 s35 [(.slice none 0 0)] (Heap.mk ([] : (List Page))) 44 := ow_z _ _ (Xz (fun x : Heap => (x.Pages)) (Heap.mk ([] : (List Page))) (Ya 59 kd59))
   have K39 := K30.st p35 rfl
   exact re rfl func67 rfl (r_b B35 u32 rfl z32 rfl (Xs rfl Xe)) rfl ⟨_, rfl, (.slice none 0 0), rfl, A37.fo K39 rfl z.l, z.ky K39⟩
  exact sk (Kj14 _ _ _ ⟨s13, _, (.slice none 0 0), rfl, (ue (ue (ue (ue (ue (ue (ue rfl rfl) rfl) rfl) rfl) rfl) rfl) rfl), K30, (rd_nil 25 Yo _ [0]), (B7.st p13 rfl), (B5.st (Xq p7 p13) rfl), A29⟩)
 rintro y14 _ _ ⟨s42, _, vy14_0, rfl, rfl, Ky14, Ay14_0, By14_b7, By14_b5, By14_b3⟩
 refine sr (Xw (es := [(iI y14.1), vy14_0]) By14_b7 u59 z59 rfl (Xc rfl (Xx w3_0 rfl (Xc rfl ?_))))
 refine cl' rfl func94 rfl (impl_PagePut.calls (Page.mk y14.1 y14.2) a2 a3 a4 s42.w (mm [0] s42) vy14_0 w3_0 Ay14_0 ((z.rd h3_0).kp Ky14)) ?_
 rintro r48 _ w48 m48 ⟨v48_0, rfl, f48_0, ky48⟩
 obtain ⟨s49, rfl, p49, n49⟩ := nwx s42 w48 45 ky48
 refine Xc rfl (Xc (v := (.agg #[(iI r48.1.Lsn), v48_0])) rfl (Xc (v := (.bool r48.2)) rfl (al' (cs := [(iI 0), (.slice none 0 0)]) 46 rfl o59 rfl (fun b51 s51 p51 B51 => ?_))))
 have A53 := (ap59 (f48_0.c n49)).st p51 rfl
 refine Xu (vs := [(iI r48.1.Lsn), v48_0]) B51 z59 rfl (Xb rfl (Xb A53.rd.one Xi)) rfl (fun s54 p54 B54 => ?_)
 refine Xc rfl (dn (sq (sr (Xc rfl (Xc rfl (dn (cd rfl (fun h56 => ?_) (fun h56 => ?_))))))))
 ·
  refine sr (bd' (cells := [(.slice none 0 0)]) pl32 o32 rfl rfl ?_)
  refine Xu (vs := [(.slice none 0 0)]) (By14_b5.st (Yi p49 p51 p54) rfl) z32 rfl (Xb rfl Xi) rfl (fun s58 p58 B58 => ?_)
  refine Xc rfl (dn ?_)
  have A60 : OwF kd32 s58 [(.slice none 0 0)] (Heap.mk ([] : (List Page))) 47 := ow_z _ _ (Xz (fun x : Heap => (x.Pages)) (Heap.mk ([] : (List Page))) (Ya 59 kd59))
  have K62 := Ky14.st (tr4 p49 p51 p54 p58) rfl
  exact re rfl func67 rfl (r_b B58 u32 rfl z32 rfl (Xs rfl Xe)) rfl ⟨_, rfl, (.slice none 0 0), rfl, A60.fo K62 rfl z.l, z.ky K62⟩
 refine sk (sr ?_)
 refine Xw (es := [w0_0]) (By14_b3.st (Yi p49 p51 p54) rfl) u32 z32 rfl (Xc rfl (Xw (es := [(iI r48.1.Lsn), v48_0]) B54 u59 z59 rfl ?_))
 have K64 := Ky14.st (Yi p49 p51 p54) rfl
 have A66 : OwF kd59 s54 [(iI r48.1.Lsn), v48_0] r48.1 45 := (Xo (fun x : Page => (x.Lsn, x.Slots)) r48.1 (Yg (Xf .i64 r48.1.Lsn) (A53.st p54 rfl)))
 obtain ⟨os69, ho69, hn69, hc69⟩ := A66
 refine cl' rfl func66 rfl (impl_Heap_with.calls a0 a1 r48.1 s54.w (mm [0] s54) w0_0 v48_0 (A0_0.kp K64) os69 ho69 hn69 (apart_of hc69 rfl)) ?_
 rintro r69 _ w69 m69 ⟨v69_0, rfl, f69_0, ky69⟩
 obtain ⟨s70, rfl, p70, n70⟩ := nwm 48 hc69 ky69 rfl
 have Au69_0_0 := ap32 (f69_0.m n70)
 refine Xu (vs := [v69_0]) (By14_b5.st (tr4 p49 p51 p54 p70) rfl) z32 rfl (Xb Au69_0_0.rd.one Xi) rfl (fun s73 p73 B73 => ?_)
 refine Xc rfl (dn ?_)
 have A75 : OwF kd32 s73 [v69_0] r69 48 := (Xo (fun x : Heap => (x.Pages)) r69 (Au69_0_0.st p73 rfl))
 have K78 := K64.st (Xq p70 p73) rfl
 exact re rfl func67 rfl (r_b B73 u32 rfl z32 rfl (Xs rfl Xe)) rfl ⟨_, rfl, v69_0, rfl, A75.fo K78 rfl z.l, z.ky K78⟩
def impl_Heap_at.f (a0 : Heap) (a1 : Int) (a2 : Int) : Option (Tuple × Bool) :=
 ((impl_within.f a1 (0 : Int) (IntKind.wrap .i64 ((a0.Pages.length : Int) - (1 : Int)))).bind fun r9 => ((if (!r9) = true then (some true) else (if 0 ≤ a1 ∧ a1 < (a0.Pages.length : Int) then ((impl_within.f a2 (0 : Int) (IntKind.wrap .i64 ((((at_ a0.Pages a1).Slots).length : Int) - (1 : Int)))).bind fun r21 => (some (!r21))) else none)).bind fun y11 => (if y11 = true then (some ((Tuple.mk (0 : Int) (0 : Int) (Item.mk (0 : Int) (0 : Int) (0 : Nat) ([] : (List Int))) (Item.mk (0 : Int) (0 : Int) (0 : Nat) ([] : (List Int)))), false)) else (if 0 ≤ a1 ∧ a1 < (a0.Pages.length : Int) then (if 0 ≤ a2 ∧ a2 < (((at_ a0.Pages a1).Slots).length : Int) then ((impl_TupleRead.f (at_ ((at_ a0.Pages a1).Slots) a2)).bind fun r42 => (some (r42.1, r42.2))) else none) else none))))
def impl_Heap_at.Q (w : World) (F : Nat → Prop) (r : Tuple × Bool) (v : Value) (w' : World) : Prop :=
 ∃ (v0 : Value) (v1 : Value) (v2 : Value) (v3 : Value), v = .tuple #[(.agg #[(iI r.1.Xmin), (iI r.1.Xmax), (iI r.1.Key.Kind), (iI r.1.Key.N), v0, v1, (iI r.1.Value.Kind), (iI r.1.Value.N), v2, v3]), (.bool r.2)] ∧ FO kd79 w w' [(iI r.1.Xmin), (iI r.1.Xmax), (iI r.1.Key.Kind), (iI r.1.Key.N), v0, v1, (iI r.1.Value.Kind), (iI r.1.Value.N), v2, v3] r.1 ∧ Ky [] w w'
theorem impl_Heap_at.calls (a0 : Heap) (a1 : Int) (a2 : Int) (w : World) (F : Nat → Prop) (w0_0 : Value) (h0_0 : Yp.rd w [w0_0] a0.Pages F) (r : Tuple × Bool) (m : impl_Heap_at.f a0 a1 a2 = some r) :
  Calls prog 120 #[(.agg #[w0_0]), (iI a1), (iI a2)] w (RT (impl_Heap_at.Q w F) r) := by
 obtain ⟨s0, rfl, kp0, z⟩ := Xk w F
 have A0_0 := z.rd h0_0
 refine Xd (args := [(.agg #[w0_0]), (iI a1), (iI a2)]) func120 ntmps120 rfl rfl m ?_
 unfold impl_Heap_at.f
 refine sr (bx' (cs := [w0_0]) 40 rfl rfl (fun b2 s2 p2 B2 => ?_))
 refine al' (cs := [(iI 0), (iI 0), (iI 0), (iI 0), (.float .f64 0), (.slice none 0 0), (iI 0), (iI 0), (.float .f64 0), (.slice none 0 0)]) 41 rfl o79 rfl (fun b4 s4 p4 B4 => ?_)
 refine Xc rfl (dn (sq (sr (Xc rfl (Xt fa32_0 rfl ?_)))))
 have A6 := B2.st p4 rfl
 refine Yb A6 u30 rfl ?_
 have K7 := kp0.st (Xq p2 p4) rfl
 refine Yl (A0_0.kp K7) u30 rfl (Xc rfl (Ym 42 rfl func63 rfl (impl_within.calls a1 (0 : Int) (IntKind.wrap .i64 ((a0.Pages.length : Int) - (1 : Int))) s4.w (mm [] s4)) (fun r9 s10 p10 n10 => ?_)))
 refine Xc rfl (Xc rfl (ji [] (fun (y11 : Bool) e w => ∃ (s : St) (e0 : Env), w = s.w ∧ e = upd (upd (upd (upd (upd e0 1 (iI a1)) 2 (iI a2)) 3 (pB b2)) 6 (pB b4)) 27 (.bool y11) ∧ Kp s0 s ∧ BlF s b4 79 [(iI 0), (iI 0), (iI 0), (iI 0), (.float .f64 0), (.slice none 0 0), (iI 0), (iI 0), (.float .f64 0), (.slice none 0 0)] 41 ∧ BlF s b2 32 [w0_0] 40) (fun Gj11 Kj11 => ?_) ?_))
 ·
  rcases Yn (!r9) with hb11 | hb11
  ·
   refine Xy hb11 ?_
   rw [if_pos hb11]
   refine Xj rfl (Xj rfl (Xj rfl (Xj rfl (Xj rfl (Xj rfl (Xj rfl (Xj rfl (Xj rfl (Xj rfl (Xj rfl (Xc rfl ?_)))))))))))
   exact Kj11 _ _ _ ⟨s10, _, rfl, (ue (ue (ue (ue (ue rfl rfl) rfl) rfl) rfl) rfl), (K7.st p10 rfl), (B4.st p10 rfl), (A6.st p10 rfl)⟩
  refine Xy hb11 ?_
  rw [if_neg (by rw [hb11]; decide)]
  refine Xc rfl (Xt fa32_0 rfl ?_)
  have A15 := A6.st p10 rfl
  refine Yb A15 u30 rfl (Xc rfl ?_)
  have K16 := K7.st p10 rfl
  refine ix' (A0_0.kp K16) u30 z59 rfl (fun ad18 es18 h0_18 h1_18 he18 ce18 ia18 => ?_)
  obtain ⟨v18_0, rfl, A18_0⟩ := op59 he18
  refine Xt fa59_1 rfl (lc ce18 u57 rfl rfl rfl rfl rfl rfl rfl rfl (Yl A18_0 u57 rfl (Xc rfl (Ym 43 rfl func63 rfl (impl_within.calls a2 (0 : Int) (IntKind.wrap .i64 ((((at_ a0.Pages a1).Slots).length : Int) - (1 : Int))) s10.w (mm [] s10)) (fun r21 s22 p22 n22 => ?_)))))
  refine Xc rfl (Xc rfl ?_)
  exact Kj11 _ _ _ ⟨s22, _, rfl, (ue (ue (ue (ue (ue rfl rfl) rfl) rfl) rfl) rfl), (K16.st p22 rfl), (B4.st (Xq p10 p22) rfl), (A15.st p22 rfl)⟩
 rintro y11 _ _ ⟨s26, _, rfl, rfl, Ky11, By11_b4, By11_b2⟩
 refine dn (cd rfl (fun h29 => ?_) (fun h29 => ?_))
 ·
  refine sr (bd' (cells := [(iI 0), (iI 0), (iI 0), (iI 0), (.float .f64 0), (.slice none 0 0), (iI 0), (iI 0), (.float .f64 0), (.slice none 0 0)]) pl79 o79 rfl rfl (Xu (vs := [(iI 0), (iI 0), (iI 0), (iI 0), (.float .f64 0), (.slice none 0 0), (iI 0), (iI 0), (.float .f64 0), (.slice none 0 0)]) By11_b4 z79 rfl (Xb rfl (Xb rfl (Xb rfl (Xb rfl (Xb (FL.one (Yh rfl)) (Xb rfl (Xb rfl (Xb rfl (Xb (FL.one (Yh rfl)) (Xb rfl Xi)))))))))) rfl (fun s30 p30 B30 => ?_)))
  refine Xc rfl (dn ?_)
  have A32 : OwF kd79 s30 [(iI 0), (iI 0), (iI 0), (iI 0), (.float .f64 0), (.slice none 0 0), (iI 0), (iI 0), (.float .f64 0), (.slice none 0 0)] (Tuple.mk (0 : Int) (0 : Int) (Item.mk (0 : Int) (0 : Int) (0 : Nat) ([] : (List Int))) (Item.mk (0 : Int) (0 : Int) (0 : Nat) ([] : (List Int)))) 44 := ow_z _ _ (Xz (fun x : Tuple => (x.Xmin, x.Xmax, x.Key, x.Value)) (Tuple.mk (0 : Int) (0 : Int) (Item.mk (0 : Int) (0 : Int) (0 : Nat) ([] : (List Int))) (Item.mk (0 : Int) (0 : Int) (0 : Nat) ([] : (List Int)))) (Xh (Xf .i64 (0 : Int)) (Xh (Xf .i64 (0 : Int)) (Xh (Xz (fun x : Item => (x.Kind, x.N, x.F, x.T)) (Item.mk (0 : Int) (0 : Int) (0 : Nat) ([] : (List Int))) (Xh (Xf .i64 (0 : Int)) (Xh (Xf .i64 (0 : Int)) (Xh (Yj (Yh rfl)) (Ya 5 (Kd.int .u8)))))) (Xz (fun x : Item => (x.Kind, x.N, x.F, x.T)) (Item.mk (0 : Int) (0 : Int) (0 : Nat) ([] : (List Int))) (Xh (Xf .i64 (0 : Int)) (Xh (Xf .i64 (0 : Int)) (Xh (Yj (Yh rfl)) (Ya 5 (Kd.int .u8))))))))))
  have K34 := Ky11.st p30 rfl
  exact re rfl func120 rfl (r_b B30 u79 rfl z79 rfl (Xs rfl Xe)) rfl ⟨_, rfl, (.float .f64 0), (.slice none 0 0), (.float .f64 0), (.slice none 0 0), rfl, A32.fo K34 rfl z.l, z.ky K34⟩
 refine sk (sr (Xt fa32_0 rfl (Yb By11_b2 u30 rfl (Xc rfl ?_))))
 refine ix' (A0_0.kp Ky11) u30 z59 rfl (fun ad36 es36 h0_36 h1_36 he36 ce36 ia36 => ?_)
 obtain ⟨v36_0, rfl, A36_0⟩ := op59 he36
 refine Xt fa59_1 rfl (lc ce36 u57 rfl rfl rfl rfl rfl rfl rfl rfl (Xc rfl (ix' A36_0 u57 z25 rfl (fun ad39 es39 h0_39 h1_39 he39 ce39 ia39 => ?_))))
 obtain ⟨v39, rfl, he39'⟩ := he39
 have A39 : RdF Yo s26 [v39] (at_ ((at_ a0.Pages a1).Slots) a2) [0] := ⟨v39, rfl, he39'⟩
 refine lc0' ce39 u25 rfl (cl' rfl func58 rfl (impl_TupleRead.calls (at_ ((at_ a0.Pages a1).Slots) a2) s26.w (mm [0] s26) v39 A39) ?_)
 rintro r42 _ w42 m42 ⟨v42_0, v42_1, v42_2, v42_3, rfl, f42_0, ky42⟩
 obtain ⟨s43, rfl, p43, n43⟩ := nwx s26 w42 45 ky42
 obtain ⟨s44, hw44, p44, hu42_0_0, Au42_0_1, hu42_0_2, Au42_0_3⟩ := ap79 46 (f42_0.c n43) rfl
 rw [hw44]
 refine Xc (v := (.agg #[(iI r42.1.Xmin), (iI r42.1.Xmax), (iI r42.1.Key.Kind), (iI r42.1.Key.N), v42_0, v42_1, (iI r42.1.Value.Kind), (iI r42.1.Value.N), v42_2, v42_3])) rfl (Xc (v := (.bool r42.2)) rfl ?_)
 refine Xu (vs := [(iI r42.1.Xmin), (iI r42.1.Xmax), (iI r42.1.Key.Kind), (iI r42.1.Key.N), v42_0, v42_1, (iI r42.1.Value.Kind), (iI r42.1.Value.N), v42_2, v42_3]) (By11_b4.st (Xq p43 p44) rfl) z79 rfl (Xb rfl (Xb rfl (Xb rfl (Xb rfl (Xb (FL.one hu42_0_0) (Xb Au42_0_1.rd.one (Xb rfl (Xb rfl (Xb (FL.one hu42_0_2) (Xb Au42_0_3.rd.one Xi)))))))))) rfl (fun s48 p48 B48 => ?_)
 refine Xc rfl (dn ?_)
 obtain ⟨s52, hw52, p52, A52⟩ := ow_2 (Xo (fun x : Item => (x.Kind, x.N, x.F, x.T)) r42.1.Key (Yg (Xf .i64 r42.1.Key.Kind) (Yg (Xf .i64 r42.1.Key.N) (Yg (Yj hu42_0_0) (Au42_0_1.st p48 rfl))))) (Xo (fun x : Item => (x.Kind, x.N, x.F, x.T)) r42.1.Value (Yg (Xf .i64 r42.1.Value.Kind) (Yg (Xf .i64 r42.1.Value.N) (Yg (Yj hu42_0_2) (Au42_0_3.st p48 rfl))))) rfl rfl
 rw [hw52]
 have A54 : OwF kd79 s52 [(iI r42.1.Xmin), (iI r42.1.Xmax), (iI r42.1.Key.Kind), (iI r42.1.Key.N), v42_0, v42_1, (iI r42.1.Value.Kind), (iI r42.1.Value.N), v42_2, v42_3] r42.1 45 := (Xo (fun x : Tuple => (x.Xmin, x.Xmax, x.Key, x.Value)) r42.1 (Yg (Xf .i64 r42.1.Xmin) (Yg (Xf .i64 r42.1.Xmax) A52)))
 have K57 := Ky11.st (tr4 p43 p44 p48 p52) rfl
 exact re rfl func120 rfl (r_b (B48.st p52 rfl) u79 rfl z79 rfl (Xs rfl Xe)) rfl ⟨_, rfl, v42_0, v42_1, v42_2, v42_3, rfl, A54.fo K57 rfl z.l, z.ky K57⟩
def impl_HeapAt.f (a0 : Heap) (a1 : Int) (a2 : Int) : Option (Tuple × Bool) :=
 ((impl_HeapOk.f a0).bind fun r9 => (if (!r9) = true then (some ((Tuple.mk (0 : Int) (0 : Int) (Item.mk (0 : Int) (0 : Int) (0 : Nat) ([] : (List Int))) (Item.mk (0 : Int) (0 : Int) (0 : Nat) ([] : (List Int)))), false)) else ((impl_Heap_at.f a0 a1 a2).bind fun r21 => (some (r21.1, r21.2)))))
def impl_HeapAt.Q (w : World) (F : Nat → Prop) (r : Tuple × Bool) (v : Value) (w' : World) : Prop :=
 ∃ (v0 : Value) (v1 : Value) (v2 : Value) (v3 : Value), v = .tuple #[(.agg #[(iI r.1.Xmin), (iI r.1.Xmax), (iI r.1.Key.Kind), (iI r.1.Key.N), v0, v1, (iI r.1.Value.Kind), (iI r.1.Value.N), v2, v3]), (.bool r.2)] ∧ FO kd79 w w' [(iI r.1.Xmin), (iI r.1.Xmax), (iI r.1.Key.Kind), (iI r.1.Key.N), v0, v1, (iI r.1.Value.Kind), (iI r.1.Value.N), v2, v3] r.1 ∧ Ky [] w w'
theorem impl_HeapAt.calls (a0 : Heap) (a1 : Int) (a2 : Int) (w : World) (F : Nat → Prop) (w0_0 : Value) (h0_0 : Yp.rd w [w0_0] a0.Pages F) (r : Tuple × Bool) (m : impl_HeapAt.f a0 a1 a2 = some r) :
  Calls prog 95 #[(.agg #[w0_0]), (iI a1), (iI a2)] w (RT (impl_HeapAt.Q w F) r) := by
 obtain ⟨s0, rfl, kp0, z⟩ := Xk w F
 have A0_0 := z.rd h0_0
 refine Xd (args := [(.agg #[w0_0]), (iI a1), (iI a2)]) func95 ntmps95 rfl rfl m ?_
 unfold impl_HeapAt.f
 refine sr (bx' (cs := [w0_0]) 40 rfl rfl (fun b2 s2 p2 B2 => ?_))
 refine al' (cs := [(iI 0), (iI 0), (iI 0), (iI 0), (.float .f64 0), (.slice none 0 0), (iI 0), (iI 0), (.float .f64 0), (.slice none 0 0)]) 41 rfl o79 rfl (fun b4 s4 p4 B4 => ?_)
 refine Xc rfl (dn (sq (sr ?_)))
 have A6 := B2.st p4 rfl
 refine Xw (es := [w0_0]) A6 u32 z32 rfl ?_
 have K7 := kp0.st (Xq p2 p4) rfl
 refine Ym 42 rfl func33 rfl (impl_HeapOk.calls a0 s4.w (mm [0] s4) w0_0 (A0_0.kp K7)) (fun r9 s10 p10 n10 => ?_)
 refine Xc rfl (dn (cd rfl (fun h11 => ?_) (fun h11 => ?_)))
 ·
  refine sr (bd' (cells := [(iI 0), (iI 0), (iI 0), (iI 0), (.float .f64 0), (.slice none 0 0), (iI 0), (iI 0), (.float .f64 0), (.slice none 0 0)]) pl79 o79 rfl rfl ?_)
  refine Xu (vs := [(iI 0), (iI 0), (iI 0), (iI 0), (.float .f64 0), (.slice none 0 0), (iI 0), (iI 0), (.float .f64 0), (.slice none 0 0)]) (B4.st p10 rfl) z79 rfl (Xb rfl (Xb rfl (Xb rfl (Xb rfl (Xb (FL.one (Yh rfl)) (Xb rfl (Xb rfl (Xb rfl (Xb (FL.one (Yh rfl)) (Xb rfl Xi)))))))))) rfl (fun s13 p13 B13 => ?_)
  refine Xc rfl (dn ?_)
  have A15 : OwF kd79 s13 [(iI 0), (iI 0), (iI 0), (iI 0), (.float .f64 0), (.slice none 0 0), (iI 0), (iI 0), (.float .f64 0), (.slice none 0 0)] (Tuple.mk (0 : Int) (0 : Int) (Item.mk (0 : Int) (0 : Int) (0 : Nat) ([] : (List Int))) (Item.mk (0 : Int) (0 : Int) (0 : Nat) ([] : (List Int)))) 43 := ow_z _ _ (Xz (fun x : Tuple => (x.Xmin, x.Xmax, x.Key, x.Value)) (Tuple.mk (0 : Int) (0 : Int) (Item.mk (0 : Int) (0 : Int) (0 : Nat) ([] : (List Int))) (Item.mk (0 : Int) (0 : Int) (0 : Nat) ([] : (List Int)))) (Xh (Xf .i64 (0 : Int)) (Xh (Xf .i64 (0 : Int)) (Xh (Xz (fun x : Item => (x.Kind, x.N, x.F, x.T)) (Item.mk (0 : Int) (0 : Int) (0 : Nat) ([] : (List Int))) (Xh (Xf .i64 (0 : Int)) (Xh (Xf .i64 (0 : Int)) (Xh (Yj (Yh rfl)) (Ya 5 (Kd.int .u8)))))) (Xz (fun x : Item => (x.Kind, x.N, x.F, x.T)) (Item.mk (0 : Int) (0 : Int) (0 : Nat) ([] : (List Int))) (Xh (Xf .i64 (0 : Int)) (Xh (Xf .i64 (0 : Int)) (Xh (Yj (Yh rfl)) (Ya 5 (Kd.int .u8))))))))))
  have K17 := K7.st (Xq p10 p13) rfl
  exact re rfl func95 rfl (r_b B13 u79 rfl z79 rfl (Xs rfl Xe)) rfl ⟨_, rfl, (.float .f64 0), (.slice none 0 0), (.float .f64 0), (.slice none 0 0), rfl, A15.fo K17 rfl z.l, z.ky K17⟩
 refine sk (sr ?_)
 refine Xw (es := [w0_0]) (A6.st p10 rfl) u32 z32 rfl (Xc rfl (Xc rfl ?_))
 have K19 := K7.st p10 rfl
 refine cl' rfl func120 rfl (impl_Heap_at.calls a0 a1 a2 s10.w (mm [0] s10) w0_0 (A0_0.kp K19)) ?_
 rintro r21 _ w21 m21 ⟨v21_0, v21_1, v21_2, v21_3, rfl, f21_0, ky21⟩
 obtain ⟨s22, rfl, p22, n22⟩ := nwx s10 w21 44 ky21
 obtain ⟨s23, hw23, p23, hu21_0_0, Au21_0_1, hu21_0_2, Au21_0_3⟩ := ap79 45 (f21_0.c n22) rfl
 rw [hw23]
 refine Xc (v := (.agg #[(iI r21.1.Xmin), (iI r21.1.Xmax), (iI r21.1.Key.Kind), (iI r21.1.Key.N), v21_0, v21_1, (iI r21.1.Value.Kind), (iI r21.1.Value.N), v21_2, v21_3])) rfl (Xc (v := (.bool r21.2)) rfl ?_)
 refine Xu (vs := [(iI r21.1.Xmin), (iI r21.1.Xmax), (iI r21.1.Key.Kind), (iI r21.1.Key.N), v21_0, v21_1, (iI r21.1.Value.Kind), (iI r21.1.Value.N), v21_2, v21_3]) (B4.st (Yi p10 p22 p23) rfl) z79 rfl (Xb rfl (Xb rfl (Xb rfl (Xb rfl (Xb (FL.one hu21_0_0) (Xb Au21_0_1.rd.one (Xb rfl (Xb rfl (Xb (FL.one hu21_0_2) (Xb Au21_0_3.rd.one Xi)))))))))) rfl (fun s27 p27 B27 => ?_)
 refine Xc rfl (dn ?_)
 obtain ⟨s31, hw31, p31, A31⟩ := ow_2 (Xo (fun x : Item => (x.Kind, x.N, x.F, x.T)) r21.1.Key (Yg (Xf .i64 r21.1.Key.Kind) (Yg (Xf .i64 r21.1.Key.N) (Yg (Yj hu21_0_0) (Au21_0_1.st p27 rfl))))) (Xo (fun x : Item => (x.Kind, x.N, x.F, x.T)) r21.1.Value (Yg (Xf .i64 r21.1.Value.Kind) (Yg (Xf .i64 r21.1.Value.N) (Yg (Yj hu21_0_2) (Au21_0_3.st p27 rfl))))) rfl rfl
 rw [hw31]
 have A33 : OwF kd79 s31 [(iI r21.1.Xmin), (iI r21.1.Xmax), (iI r21.1.Key.Kind), (iI r21.1.Key.N), v21_0, v21_1, (iI r21.1.Value.Kind), (iI r21.1.Value.N), v21_2, v21_3] r21.1 44 := (Xo (fun x : Tuple => (x.Xmin, x.Xmax, x.Key, x.Value)) r21.1 (Yg (Xf .i64 r21.1.Xmin) (Yg (Xf .i64 r21.1.Xmax) A31)))
 have K36 := K19.st (tr4 p22 p23 p27 p31) rfl
 exact re rfl func95 rfl (r_b (B27.st p31 rfl) u79 rfl z79 rfl (Xs rfl Xe)) rfl ⟨_, rfl, v21_0, v21_1, v21_2, v21_3, rfl, A33.fo K36 rfl z.l, z.ky K36⟩
def impl_HeapMark.f (a0 : Heap) (a1 : Int) (a2 : Int) (a3 : Int) (a4 : Int) : Option (Heap × Bool) :=
 ((impl_HeapAt.f a0 a1 a2).bind fun r9 => ((if (!r9.2) = true then (some true) else ((impl_within.f a3 (0 : Int) (400 : Int)).bind fun r26 => (some (!r26)))).bind fun y20 => (if y20 = true then (some ((Heap.mk ([] : (List Page))), false)) else ((impl_TupleBytes.f (Tuple.mk r9.1.Xmin a3 r9.1.Key r9.1.Value)).bind fun r59 => ((impl_Heap_put.f a0 a1 a2 r59 a4).bind fun r67 => (some (r67.1, r67.2)))))))
def impl_HeapMark.Q (w : World) (F : Nat → Prop) (r : Heap × Bool) (v : Value) (w' : World) : Prop :=
 ∃ (v0 : Value), v = .tuple #[(.agg #[v0]), (.bool r.2)] ∧ FO kd32 w w' [v0] r.1 ∧ Ky [] w w'
theorem impl_HeapMark.calls (a0 : Heap) (a1 : Int) (a2 : Int) (a3 : Int) (a4 : Int) (w : World) (F : Nat → Prop) (w0_0 : Value) (h0_0 : Yp.rd w [w0_0] a0.Pages F) (r : Heap × Bool) (m : impl_HeapMark.f a0 a1 a2 a3 a4 = some r) :
  Calls prog 68 #[(.agg #[w0_0]), (iI a1), (iI a2), (iI a3), (iI a4)] w (RT (impl_HeapMark.Q w F) r) := by
 obtain ⟨s0, rfl, kp0, z⟩ := Xk w F
 have A0_0 := z.rd h0_0
 refine Xd (args := [(.agg #[w0_0]), (iI a1), (iI a2), (iI a3), (iI a4)]) func68 ntmps68 rfl rfl m ?_
 unfold impl_HeapMark.f
 refine sr (bx' (cs := [w0_0]) 40 rfl rfl (fun b2 s2 p2 B2 => ?_))
 refine al' (cs := [(.slice none 0 0)]) 41 rfl o32 rfl (fun b4 s4 p4 B4 => ?_)
 refine Xc rfl (dn (sr ?_))
 have A6 := B2.st p4 rfl
 refine Xw (es := [w0_0]) A6 u32 z32 rfl (Xc rfl (Xc rfl ?_))
 have K7 := kp0.st (Xq p2 p4) rfl
 refine cl' rfl func95 rfl (impl_HeapAt.calls a0 a1 a2 s4.w (mm [0] s4) w0_0 (A0_0.kp K7)) ?_
 rintro r9 _ w9 m9 ⟨v9_0, v9_1, v9_2, v9_3, rfl, f9_0, ky9⟩
 obtain ⟨s10, rfl, p10, n10⟩ := nwx s4 w9 42 ky9
 obtain ⟨s11, hw11, p11, hu9_0_0, Au9_0_1, hu9_0_2, Au9_0_3⟩ := ap79 43 (f9_0.c n10) rfl
 rw [hw11]
 refine Xc rfl (Xc (v := (.agg #[(iI r9.1.Xmin), (iI r9.1.Xmax), (iI r9.1.Key.Kind), (iI r9.1.Key.N), v9_0, v9_1, (iI r9.1.Value.Kind), (iI r9.1.Value.N), v9_2, v9_3])) rfl (Xc (v := (.bool r9.2)) rfl (al' (cs := [(iI 0), (iI 0), (iI 0), (iI 0), (.float .f64 0), (.slice none 0 0), (iI 0), (iI 0), (.float .f64 0), (.slice none 0 0)]) 44 rfl o79 rfl (fun b14 s14 p14 B14 => ?_))))
 have A16 := Au9_0_3.st p14 rfl
 have A17 := Au9_0_1.st p14 rfl
 refine Xu (vs := [(iI r9.1.Xmin), (iI r9.1.Xmax), (iI r9.1.Key.Kind), (iI r9.1.Key.N), v9_0, v9_1, (iI r9.1.Value.Kind), (iI r9.1.Value.N), v9_2, v9_3]) B14 z79 rfl (Xb rfl (Xb rfl (Xb rfl (Xb rfl (Xb (FL.one hu9_0_0) (Xb A17.rd.one (Xb rfl (Xb rfl (Xb (FL.one hu9_0_2) (Xb A16.rd.one Xi)))))))))) rfl (fun s18 p18 B18 => ?_)
 refine Xc rfl (dn (sq (sr (Xc rfl (Xc rfl (Xc rfl (ji [] (fun (y20 : Bool) e w => ∃ (s : St) (e0 : Env), w = s.w ∧ e = upd (upd (upd (upd (upd (upd (upd (upd e0 1 (iI a1)) 2 (iI a2)) 3 (iI a3)) 4 (iI a4)) 5 (pB b2)) 10 (pB b4)) 12 (pB b14)) 27 (.bool y20) ∧ Kp s0 s ∧ BlF s b14 79 [(iI r9.1.Xmin), (iI r9.1.Xmax), (iI r9.1.Key.Kind), (iI r9.1.Key.N), v9_0, v9_1, (iI r9.1.Value.Kind), (iI r9.1.Value.N), v9_2, v9_3] 44 ∧ BlF s b4 32 [(.slice none 0 0)] 41 ∧ BlF s b2 32 [w0_0] 40 ∧ OwF Yo s [v9_1] r9.1.Key.T 42 ∧ OwF Yo s [v9_3] r9.1.Value.T 43) (fun Gj20 Kj20 => ?_) ?_)))))))
 ·
  rcases Yn (!r9.2) with hb20 | hb20
  ·
   refine Xy hb20 ?_
   rw [if_pos hb20]
   refine Xj rfl (Xj rfl (Xj rfl (Xc rfl ?_)))
   exact Kj20 _ _ _ ⟨s18, _, rfl, (ue (ue (ue (ue (ue (ue (ue (ue rfl rfl) rfl) rfl) rfl) rfl) rfl) rfl) rfl), (K7.st (tr4 p10 p11 p14 p18) rfl), B18, (B4.st (tr4 p10 p11 p14 p18) rfl), (A6.st (tr4 p10 p11 p14 p18) rfl), (A17.st p18 rfl), (A16.st p18 rfl)⟩
  refine Xy hb20 ?_
  rw [if_neg (by rw [hb20]; decide)]
  refine Xc rfl (Ym 45 rfl func63 rfl (impl_within.calls a3 (0 : Int) (400 : Int) s18.w (mm [] s18)) (fun r26 s27 p27 n27 => ?_))
  refine Xc rfl (Xc rfl ?_)
  exact Kj20 _ _ _ ⟨s27, _, rfl, (ue (ue (ue (ue (ue (ue (ue (ue rfl rfl) rfl) rfl) rfl) rfl) rfl) rfl) rfl), (K7.st (tr5 p10 p11 p14 p18 p27) rfl), (B18.st p27 rfl), (B4.st (tr5 p10 p11 p14 p18 p27) rfl), (A6.st (tr5 p10 p11 p14 p18 p27) rfl), (A17.st (Xq p18 p27) rfl), (A16.st (Xq p18 p27) rfl)⟩
 rintro y20 _ _ ⟨s34, _, rfl, rfl, Ky20, By20_b14, By20_b4, By20_b2, Cy20_12, Cy20_13⟩
 refine dn (cd rfl (fun h38 => ?_) (fun h38 => ?_))
 ·
  refine sr (bd' (cells := [(.slice none 0 0)]) pl32 o32 rfl rfl (Xu (vs := [(.slice none 0 0)]) By20_b4 z32 rfl (Xb rfl Xi) rfl (fun s39 p39 B39 => ?_)))
  refine Xc rfl (dn ?_)
  have A41 : OwF kd32 s39 [(.slice none 0 0)] (Heap.mk ([] : (List Page))) 46 := ow_z _ _ (Xz (fun x : Heap => (x.Pages)) (Heap.mk ([] : (List Page))) (Ya 59 kd59))
  have K43 := Ky20.st p39 rfl
  exact re rfl func68 rfl (r_b B39 u32 rfl z32 rfl (Xs rfl Xe)) rfl ⟨_, rfl, (.slice none 0 0), rfl, A41.fo K43 rfl z.l, z.ky K43⟩
 refine sk (sr (Xc rfl (Xt fa79_1 rfl (sv' By20_b14 z3 rfl rfl rfl (fun s44 p44 B44 => ?_)))))
 refine dn (sq (zdraw [[], [], [], [], [3], [], [0, 1, 2, 4, 5, 4], [6], [6], [7, 6, 0, 1, 2, 3, 4, 5, 6, 7, 8], [8, 9, 0, 1, 2, 3, 4, 5, 6, 7, 8, 9]] [some 31, some 32, some 33, some 34, some 35, some 36, some 37, some 38, some 39, none, some 11] [[5], [1], [2], [12], [34], [4], [31, 32, 33, 35, 36], [37], [37], [10, 38], [39]] [0, 1, 2, 3, 4, 5, 6, 7, 8, 9, 10] ⟨by kernel_rfl, by kernel_rfl, by kernel_rfl⟩ (by kernel_rfl) (fun s46 p46 l46 tb46 zd46 => ?_)))
 refine Yc 4 [some 36, some 33, some 32, some 31] tb46 (((((zd46.add 0 31 (.agg #[w0_0]) rfl).add 1 32 (iI a1) rfl).add 2 33 (iI a2) rfl).add 3 34 (.agg #[(iI r9.1.Xmin), (iI a3), (iI r9.1.Key.Kind), (iI r9.1.Key.N), v9_0, v9_1, (iI r9.1.Value.Kind), (iI r9.1.Value.N), v9_2, v9_3]) rfl).add 5 36 (iI a4) rfl) (Xa (Xm rfl) rfl (Xa (lda_q' (es := [(iI r9.1.Xmin), (iI a3), (iI r9.1.Key.Kind), (iI r9.1.Key.N), v9_0, v9_1, (iI r9.1.Value.Kind), (iI r9.1.Value.N), v9_2, v9_3]) (B44.st p46 rfl) u79 z79 rfl) rfl (Xa (Xm rfl) rfl (Xa (Xm rfl) rfl (Xa (lda_q' (es := [w0_0]) (By20_b2.st (Xq p44 p46) rfl) u32 z32 rfl) rfl Xg))))) (by kernel_rfl) rfl (fun l54 e54 zd54 => ?_)
 refine clO 47 rfl func90 rfl (impl_TupleBytes.calls (Tuple.mk r9.1.Xmin a3 r9.1.Key r9.1.Value) s46.w (mm [42, 43] s46) v9_0 v9_1 v9_2 v9_3 ((Ye (s := s46) hu9_0_0).sub (D := [42, 43]) rfl) ((Cy20_12.st (Xq p44 p46) rfl).rd.sub (D := [42, 43]) rfl) ((Ye (s := s46) hu9_0_2).sub (D := [42, 43]) rfl) ((Cy20_13.st (Xq p44 p46) rfl).rd.sub (D := [42, 43]) rfl)) (fun r59 v59_0 s60 p60 A59_0 => ?_)
 refine Xl (L' := [5, 2, 1, 0]) (D' := [3, 4]) zd54 rfl (fun zd62 => ?_)
 refine Yc 6 [] tb46 zd62 (Xa (Xm rfl) rfl (Xa (Xm rfl) rfl (Xa (Xm rfl) rfl (Xa (lda_q' (es := [w0_0]) (By20_b2.st (Yi p44 p46 p60) rfl) u32 z32 rfl) rfl Xg)))) (by kernel_rfl) rfl (fun l63 e63 zd63 => ?_)
 have K65 := Ky20.st (Yi p44 p46 p60) rfl
 refine cl' rfl func67 rfl (impl_Heap_put.calls a0 a1 a2 r59 a4 s60.w (mm [0, 47] s60) w0_0 v59_0 ((A0_0.kp K65).sub (D := [0, 47]) rfl) (A59_0.rd.sub (D := [0, 47]) rfl)) ?_
 rintro r67 _ w67 m67 ⟨v67_0, rfl, f67_0, ky67⟩
 obtain ⟨s68, rfl, p68, n68⟩ := nwx s60 w67 48 ky67
 have Au67_0_0 := ap32 (f67_0.c n68)
 refine Xl (L' := []) (D' := [0, 1, 2, 5, 6, 3, 4]) zd63 rfl (fun zd70 => ?_)
 refine zfin [9, 10] tb46 ((zd70.add 7 38 (.agg #[v67_0]) rfl).add 8 39 (.bool r67.2) rfl) (Xa (Xm (v := (.bool r67.2)) rfl) rfl (Xa (Xm (v := (.agg #[v67_0])) rfl) rfl Xg)) (by kernel_rfl) (by decide) (Xu (vs := [v67_0]) (By20_b4.st (tr4 p44 p46 p60 p68) rfl) z32 rfl (Xb Au67_0_0.rd.one Xi) rfl (fun s74 p74 B74 => ?_))
 refine Xc rfl (dn ?_)
 have A76 : OwF kd32 s74 [v67_0] r67.1 48 := (Xo (fun x : Heap => (x.Pages)) r67.1 (Au67_0_0.st p74 rfl))
 have K79 := K65.st (Xq p68 p74) rfl
 exact re rfl func68 rfl (r_b B74 u32 rfl z32 rfl (Xs rfl Xe)) rfl ⟨_, rfl, v67_0, rfl, A76.fo K79 rfl z.l, z.ky K79⟩
def impl_PageClear.b0 (a2 : Int) (x58 : (List (List Int))) : Option ((List (List Int)) ⊕ (Page × Bool)) :=
 ((if (decide ((x58.length : Int) > (0 : Int))) = true then (if 0 ≤ (IntKind.wrap .i64 ((x58.length : Int) - (1 : Int))) ∧ (IntKind.wrap .i64 ((x58.length : Int) - (1 : Int))) < (x58.length : Int) then (some (((at_ x58 (IntKind.wrap .i64 ((x58.length : Int) - (1 : Int)))).length : Int) == (0 : Int))) else none) else (some false)).bind fun y66 => (if y66 = true then (if 0 ≤ (IntKind.wrap .i64 ((x58.length : Int) - (1 : Int))) ∧ (IntKind.wrap .i64 ((x58.length : Int) - (1 : Int))) ≤ (x58.length : Int) then (some (Sum.inl (x58.take ((IntKind.wrap .i64 ((x58.length : Int) - (1 : Int)))).toNat))) else none) else ((some ((Page.mk a2 x58), true)).bind fun o => some (Sum.inr o))))
def impl_PageClear.f (a0 : Page) (a1 : Int) (a2 : Int) : Option (Page × Bool) :=
 ((impl_PageUsed.f a0).bind fun r9 => ((if (decide (r9 < (0 : Int))) = true then (some true) else ((impl_within.f a1 (0 : Int) (IntKind.wrap .i64 ((a0.Slots.length : Int) - (1 : Int)))).bind fun r18 => (some (!r18)))).bind fun y11 => ((if y11 = true then (some true) else ((impl_isLsn.f a2).bind fun r27 => (some (!r27)))).bind fun y26 => (if y26 = true then (some ((Page.mk (0 : Int) ([] : (List (List Int)))), false)) else ((impl_Page_slots.f a0).bind fun r42 => (if 0 ≤ a1 ∧ a1 < (r42.length : Int) then (iter (impl_PageClear.b0 a2) (r42.set (a1).toNat ([] : (List Int)))) else none))))))
def impl_PageClear.Q (w : World) (F : Nat → Prop) (r : Page × Bool) (v : Value) (w' : World) : Prop :=
 ∃ (v0 : Value), v = .tuple #[(.agg #[(iI r.1.Lsn), v0]), (.bool r.2)] ∧ FO kd59 w w' [(iI r.1.Lsn), v0] r.1 ∧ Ky [] w w'
theorem impl_PageClear.calls (a0 : Page) (a1 : Int) (a2 : Int) (w : World) (F : Nat → Prop) (w0_0 : Value) (h0_0 : (Kd.sl 25 Yo).rd w [w0_0] a0.Slots F) (r : Page × Bool) (m : impl_PageClear.f a0 a1 a2 = some r) :
  Calls prog 96 #[(.agg #[(iI a0.Lsn), w0_0]), (iI a1), (iI a2)] w (RT (impl_PageClear.Q w F) r) := by
 obtain ⟨s0, rfl, kp0, z⟩ := Xk w F
 have A0_0 := z.rd h0_0
 refine Xd (args := [(.agg #[(iI a0.Lsn), w0_0]), (iI a1), (iI a2)]) func96 ntmps96 rfl rfl m ?_
 unfold impl_PageClear.f
 refine sr (bx' (cs := [(iI a0.Lsn), w0_0]) 40 rfl rfl (fun b2 s2 p2 B2 => ?_))
 refine al' (cs := [(iI 0), (.slice none 0 0)]) 41 rfl o59 rfl (fun b4 s4 p4 B4 => ?_)
 refine Xc rfl (dn (sq (sr ?_)))
 have A6 := B2.st p4 rfl
 refine Xw (es := [(iI a0.Lsn), w0_0]) A6 u59 z59 rfl ?_
 have K7 := kp0.st (Xq p2 p4) rfl
 refine Ym 42 rfl func55 rfl (impl_PageUsed.calls a0 s4.w (mm [0] s4) w0_0 (A0_0.kp K7)) (fun r9 s10 p10 n10 => ?_)
 refine Xc rfl (Xc rfl (ji [12, 13, 14, 15, 16] (fun (y11 : Bool) e w => ∃ (s : St) (e0 : Env), w = s.w ∧ e = upd (upd (upd (upd (upd e0 1 (iI a1)) 2 (iI a2)) 3 (pB b2)) 6 (pB b4)) 20 (.bool y11) ∧ Kp s0 s ∧ BlF s b4 59 [(iI 0), (.slice none 0 0)] 41 ∧ BlF s b2 59 [(iI a0.Lsn), w0_0] 40) (fun Gj11 Kj11 => ?_) ?_))
 ·
  rcases Yn (decide (r9 < (0 : Int))) with hb11 | hb11
  ·
   refine Xy hb11 ?_
   rw [if_pos hb11]
   refine Xj rfl (Xj rfl (Xj rfl (Xj rfl (Xj rfl (Xj rfl (Xj rfl (Xc rfl ?_)))))))
   exact Kj11 _ _ _ ⟨s10, _, rfl, (ue (ue (ue (ue (ue rfl rfl) rfl) rfl) rfl) rfl), (K7.st p10 rfl), (B4.st p10 rfl), (A6.st p10 rfl)⟩
  refine Xy hb11 ?_
  rw [if_neg (by rw [hb11]; decide)]
  refine Xc rfl (Xt fa59_1 rfl ?_)
  have A15 := A6.st p10 rfl
  refine Yb A15 u57 rfl ?_
  have K16 := K7.st p10 rfl
  refine Yl (A0_0.kp K16) u57 rfl (Xc rfl (Ym 43 rfl func63 rfl (impl_within.calls a1 (0 : Int) (IntKind.wrap .i64 ((a0.Slots.length : Int) - (1 : Int))) s10.w (mm [] s10)) (fun r18 s19 p19 n19 => ?_)))
  refine Xc rfl (Xc rfl ?_)
  exact Kj11 _ _ _ ⟨s19, _, rfl, (ue (ue (ue (ue (ue rfl rfl) rfl) rfl) rfl) rfl), (K16.st p19 rfl), (B4.st (Xq p10 p19) rfl), (A15.st p19 rfl)⟩
 rintro y11 _ _ ⟨s23, _, rfl, rfl, Ky11, By11_b4, By11_b2⟩
 refine Xc rfl (ji [] (fun (y26 : Bool) e w => ∃ (s : St) (e0 : Env), w = s.w ∧ e = upd (upd (upd (upd (upd e0 1 (iI a1)) 2 (iI a2)) 3 (pB b2)) 6 (pB b4)) 25 (.bool y26) ∧ Kp s0 s ∧ BlF s b4 59 [(iI 0), (.slice none 0 0)] 41 ∧ BlF s b2 59 [(iI a0.Lsn), w0_0] 40) (fun Gj26 Kj26 => ?_) ?_)
 ·
  rcases Yn y11 with hb26 | hb26
  ·
   refine Xy hb26 ?_
   rw [if_pos hb26]
   exact Xj rfl (Xj rfl (Xj rfl (Xc rfl (Kj26 _ _ _ ⟨s23, _, rfl, (ue (ue (ue (ue (ue rfl rfl) rfl) rfl) rfl) rfl), Ky11, By11_b4, By11_b2⟩))))
  refine Xy hb26 ?_
  rw [if_neg (by rw [hb26]; decide)]
  refine Xc rfl (Ym 44 rfl func59 rfl (impl_isLsn.calls a2 s23.w (mm [] s23)) (fun r27 s28 p28 n28 => ?_))
  refine Xc rfl (Xc rfl ?_)
  exact Kj26 _ _ _ ⟨s28, _, rfl, (ue (ue (ue (ue (ue rfl rfl) rfl) rfl) rfl) rfl), (Ky11.st p28 rfl), (By11_b4.st p28 rfl), (By11_b2.st p28 rfl)⟩
 rintro y26 _ _ ⟨s32, _, rfl, rfl, Ky26, By26_b4, By26_b2⟩
 refine dn (cd rfl (fun h35 => ?_) (fun h35 => ?_))
 ·
  refine sr (bd' (cells := [(iI 0), (.slice none 0 0)]) pl59 o59 rfl rfl (Xu (vs := [(iI 0), (.slice none 0 0)]) By26_b4 z59 rfl (Xb rfl (Xb rfl Xi)) rfl (fun s36 p36 B36 => ?_)))
  refine Xc rfl (dn ?_)
  have A38 : OwF kd59 s36 [(iI 0), (.slice none 0 0)] (Page.mk (0 : Int) ([] : (List (List Int)))) 45 := ow_z _ _ (Xz (fun x : Page => (x.Lsn, x.Slots)) (Page.mk (0 : Int) ([] : (List (List Int)))) (Xh (Xf .i64 (0 : Int)) (Ya 25 Yo)))
  have K40 := Ky26.st p36 rfl
  exact re rfl func96 rfl (r_b B36 u59 rfl z59 rfl (Xs rfl Xe)) rfl ⟨_, rfl, (.slice none 0 0), rfl, A38.fo K40 rfl z.l, z.ky K40⟩
 refine sk (sr (Xc rfl (Xw (es := [(iI a0.Lsn), w0_0]) By26_b2 u59 z59 rfl ?_)))
 refine clO 46 rfl func35 rfl (impl_Page_slots.calls a0 s32.w (mm [0] s32) w0_0 (A0_0.kp Ky26)) (fun r42 v42_0 s43 p43 A42_0 => ?_)
 refine bd' (cells := [(iI a2), v42_0]) pl59 o59 rfl (lfill_pc (pc_c rfl (pc_c (oc A42_0.rd.one) pc_n)) rfl) (al' (cs := [(iI 0), (.slice none 0 0)]) 47 rfl o59 rfl (fun b45 s45 p45 B45 => ?_))
 have A47 := A42_0.st p45 rfl
 refine Xu (vs := [(iI a2), v42_0]) B45 z59 rfl (Xb rfl (Xb A47.rd.one Xi)) rfl (fun s48 p48 B48 => ?_)
 refine dn (sr (Xt fa59_1 rfl (Yb B48 u57 rfl (Xc rfl ?_))))
 have A50 := A47.st p48 rfl
 refine ix' A50.rd u57 z25 rfl (fun ad51 es51 h0_51 h1_51 he51 ce51 ia51 => ?_)
 obtain ⟨v51, rfl, he51'⟩ := he51
 have A51 : RdF Yo s48 [v51] (at_ r42 a1) [46] := ⟨v51, rfl, he51'⟩
 have A54 : OwF Yo s48 [(.slice none 0 0)] ([] : (List Int)) 48 := ow_z _ _ (Ya 5 (Kd.int .u8))
 refine sog (x' := ([] : (List Int))) lg_id A50 ia51 h0_51 h1_51 A54 rfl rfl z25 rfl rfl rfl rfl rfl rfl (fun s56 p56 A56 => ?_)
 refine dn (sq (bl ?_))
 refine lpI (fun (x58 : (List (List Int))) e w => ∃ (s : St) (e0 : Env) (vx58_0 : Value), w = s.w ∧ e = upd (upd e0 6 (pB b4)) 8 (pB b45) ∧ Kp s0 s ∧ OwF (Kd.sl 25 Yo) s [vx58_0] x58 46 ∧ BlF s b45 59 [(iI a2), vx58_0] 47 ∧ BlF s b4 59 [(iI 0), (.slice none 0 0)] 41) ⟨s56, _, v42_0, rfl, (ue (ue rfl rfl) rfl), (Ky26.st (tr4 p43 p45 p48 p56) rfl), A56, (B48.st p56 rfl), (By26_b4.st (tr4 p43 p45 p48 p56) rfl)⟩ (fun g58 ih58 => ?_)
 rintro x58 _ _ ⟨s62, _, vx58_0, rfl, rfl, Kx58, Ax58_0, Bx58_b45, Bx58_b4⟩
 unfold impl_PageClear.b0
 refine sq (sr (Xt fa59_1 rfl (Yb Bx58_b45 u57 rfl (Yl Ax58_0.rd u57 rfl (Xc rfl (Xc rfl (ji [] (fun (y66 : Bool) e w => ∃ (s : St) (e0 : Env), w = s.w ∧ e = upd (upd (upd e0 6 (pB b4)) 8 (pB b45)) 50 (.bool y66) ∧ Kp s0 s ∧ BlF s b45 59 [(iI a2), vx58_0] 47 ∧ BlF s b4 59 [(iI 0), (.slice none 0 0)] 41 ∧ OwF (Kd.sl 25 Yo) s [vx58_0] x58 46) (fun Gj66 Kj66 => ?_) ?_)))))))
 ·
  rcases Yn (decide ((x58.length : Int) > (0 : Int))) with hb66 | hb66
  ·
   refine Xy hb66 ?_
   rw [if_pos hb66]
   refine Xt fa59_1 rfl (Yb Bx58_b45 u57 rfl (Xt fa59_1 rfl (Yb Bx58_b45 u57 rfl (Yl Ax58_0.rd u57 rfl (Xc rfl (ix' Ax58_0.rd u57 z25 rfl (fun ad67 es67 h0_67 h1_67 he67 ce67 ia67 => ?_)))))))
   obtain ⟨v67, rfl, he67'⟩ := he67
   have A67 : RdF Yo s62 [v67] (at_ x58 (IntKind.wrap .i64 ((x58.length : Int) - (1 : Int)))) [46] := ⟨v67, rfl, he67'⟩
   exact lc0' ce67 u25 rfl (Yl A67 u25 rfl (Xc rfl (Xc rfl (Kj66 _ _ _ ⟨s62, _, rfl, (ue (ue (ue rfl rfl) rfl) rfl), Kx58, Bx58_b45, Bx58_b4, Ax58_0⟩))))
  refine Xy hb66 ?_
  rw [if_neg (by rw [hb66]; decide)]
  exact Xj rfl (Xj rfl (Xj rfl (Xj rfl (Xj rfl (Xj rfl (Xj rfl (Xj rfl (Xj rfl (Xj rfl (Xc rfl (Kj66 _ _ _ ⟨s62, _, rfl, (ue (ue (ue rfl rfl) rfl) rfl), Kx58, Bx58_b45, Bx58_b4, Ax58_0⟩)))))))))))
 rintro y66 _ _ ⟨s70, _, rfl, rfl, Ky66, By66_b45, By66_b4, Cy66_63⟩
 refine dn (cd rfl (fun h73 => ?_) (fun h73 => ?_))
 ·
  refine sk (bl (rg (Xt fa59_1 rfl (Yb By66_b45 u57 rfl (Xt fa59_1 rfl (Yb By66_b45 u57 rfl (Yl Cy66_63.rd u57 rfl (Xc rfl (slO Cy66_63 u57 z25 rfl rfl rfl rfl rfl rfl rfl (fun v74 A74 => ?_))))))))))
  refine Xt fa59_1 rfl (sv' By66_b45 z57 rfl A74.rd.one rfl (fun s76 p76 B76 => ?_))
  refine dn (ib ?_)
  exact lb ih58 ⟨s76, _, v74, rfl, (ue (ue rfl rfl) rfl), (Ky66.st p76 rfl), (A74.st p76 rfl), B76, (By66_b4.st p76 rfl)⟩
 refine xt rfl (sgb (sr (Xw (es := [(iI a2), vx58_0]) By66_b45 u59 z59 rfl (Xu (vs := [(iI a2), vx58_0]) By66_b4 z59 rfl (Xb rfl (Xb Cy66_63.rd.one Xi)) rfl (fun s81 p81 B81 => ?_)))))
 refine Xc rfl (dn ?_)
 have A83 : OwF kd59 s81 [(iI a2), vx58_0] (Page.mk a2 x58) 46 := (Xo (fun x : Page => (x.Lsn, x.Slots)) (Page.mk a2 x58) (Yg (Xf .i64 a2) (Cy66_63.st p81 rfl)))
 have K86 := Ky66.st p81 rfl
 exact re rfl func96 rfl (r_b B81 u59 rfl z59 rfl (Xs rfl Xe)) rfl ⟨_, rfl, vx58_0, rfl, A83.fo K86 rfl z.l, z.ky K86⟩
def impl_HeapClear.f (a0 : Heap) (a1 : Int) (a2 : Int) (a3 : Int) : Option (Heap × Bool) :=
 ((impl_HeapAt.f a0 a1 a2).bind fun r9 => (if (!r9.2) = true then (some ((Heap.mk ([] : (List Page))), false)) else (if 0 ≤ a1 ∧ a1 < (a0.Pages.length : Int) then ((impl_PageClear.f (at_ a0.Pages a1) a2 a3).bind fun r33 => (if (!r33.2) = true then (some ((Heap.mk ([] : (List Page))), false)) else ((impl_Heap_with.f a0 a1 r33.1).bind fun r54 => (some (r54, true))))) else none)))
def impl_HeapClear.Q (w : World) (F : Nat → Prop) (r : Heap × Bool) (v : Value) (w' : World) : Prop :=
 ∃ (v0 : Value), v = .tuple #[(.agg #[v0]), (.bool r.2)] ∧ FO kd32 w w' [v0] r.1 ∧ Ky [] w w'
theorem impl_HeapClear.calls (a0 : Heap) (a1 : Int) (a2 : Int) (a3 : Int) (w : World) (F : Nat → Prop) (w0_0 : Value) (h0_0 : Yp.rd w [w0_0] a0.Pages F) (r : Heap × Bool) (m : impl_HeapClear.f a0 a1 a2 a3 = some r) :
  Calls prog 69 #[(.agg #[w0_0]), (iI a1), (iI a2), (iI a3)] w (RT (impl_HeapClear.Q w F) r) := by
 obtain ⟨s0, rfl, kp0, z⟩ := Xk w F
 have A0_0 := z.rd h0_0
 refine Xd (args := [(.agg #[w0_0]), (iI a1), (iI a2), (iI a3)]) func69 ntmps69 rfl rfl m ?_
 unfold impl_HeapClear.f
 refine sr (bx' (cs := [w0_0]) 40 rfl rfl (fun b2 s2 p2 B2 => ?_))
 refine al' (cs := [(.slice none 0 0)]) 41 rfl o32 rfl (fun b4 s4 p4 B4 => ?_)
 refine Xc rfl (dn (sq (sr ?_)))
 have A6 := B2.st p4 rfl
 refine Xw (es := [w0_0]) A6 u32 z32 rfl (Xc rfl (Xc rfl ?_))
 have K7 := kp0.st (Xq p2 p4) rfl
 refine cl' rfl func95 rfl (impl_HeapAt.calls a0 a1 a2 s4.w (mm [0] s4) w0_0 (A0_0.kp K7)) ?_
 rintro r9 _ w9 m9 ⟨v9_0, v9_1, v9_2, v9_3, rfl, f9_0, ky9⟩
 obtain ⟨s10, rfl, p10, n10⟩ := nwx s4 w9 42 ky9
 obtain ⟨s11, hw11, p11, hu9_0_0, Au9_0_1, hu9_0_2, Au9_0_3⟩ := ap79 43 (f9_0.c n10) rfl
 rw [hw11]
 refine Xc rfl (Xc (v := (.agg #[(iI r9.1.Xmin), (iI r9.1.Xmax), (iI r9.1.Key.Kind), (iI r9.1.Key.N), v9_0, v9_1, (iI r9.1.Value.Kind), (iI r9.1.Value.N), v9_2, v9_3])) rfl (Xc (v := (.bool r9.2)) rfl (al' (cs := [(iI 0), (iI 0), (iI 0), (iI 0), (.float .f64 0), (.slice none 0 0), (iI 0), (iI 0), (.float .f64 0), (.slice none 0 0)]) 44 rfl o79 rfl (fun b14 s14 p14 B14 => ?_))))
 refine Xu (vs := [(iI r9.1.Xmin), (iI r9.1.Xmax), (iI r9.1.Key.Kind), (iI r9.1.Key.N), v9_0, v9_1, (iI r9.1.Value.Kind), (iI r9.1.Value.N), v9_2, v9_3]) B14 z79 rfl (Xb rfl (Xb rfl (Xb rfl (Xb rfl (Xb (FL.one hu9_0_0) (Xb (Au9_0_1.st p14 rfl).rd.one (Xb rfl (Xb rfl (Xb (FL.one hu9_0_2) (Xb (Au9_0_3.st p14 rfl).rd.one Xi)))))))))) rfl (fun s18 p18 B18 => ?_)
 refine Xc rfl (dn (sr (Xc rfl (Xc rfl (dn (cd rfl (fun h20 => ?_) (fun h20 => ?_)))))))
 ·
  refine sr (bd' (cells := [(.slice none 0 0)]) pl32 o32 rfl rfl ?_)
  refine Xu (vs := [(.slice none 0 0)]) (B4.st (tr4 p10 p11 p14 p18) rfl) z32 rfl (Xb rfl Xi) rfl (fun s22 p22 B22 => ?_)
  refine Xc rfl (dn ?_)
  have A24 : OwF kd32 s22 [(.slice none 0 0)] (Heap.mk ([] : (List Page))) 45 := ow_z _ _ (Xz (fun x : Heap => (x.Pages)) (Heap.mk ([] : (List Page))) (Ya 59 kd59))
  have K26 := K7.st (tr5 p10 p11 p14 p18 p22) rfl
  exact re rfl func69 rfl (r_b B22 u32 rfl z32 rfl (Xs rfl Xe)) rfl ⟨_, rfl, (.slice none 0 0), rfl, A24.fo K26 rfl z.l, z.ky K26⟩
 refine sk (sr (Xt fa32_0 rfl ?_))
 have A27 := A6.st (tr4 p10 p11 p14 p18) rfl
 refine Yb A27 u30 rfl (Xc rfl ?_)
 have K28 := K7.st (tr4 p10 p11 p14 p18) rfl
 refine ix' (A0_0.kp K28) u30 z59 rfl (fun ad30 es30 h0_30 h1_30 he30 ce30 ia30 => ?_)
 obtain ⟨v30_0, rfl, A30_0⟩ := op59 he30
 refine lca ce30 u59 z59 rfl rfl rfl rfl rfl rfl rfl (Xc rfl (Xc rfl (cl' rfl func96 rfl (impl_PageClear.calls (at_ a0.Pages a1) a2 a3 s18.w (mm [0] s18) v30_0 A30_0) ?_)))
 rintro r33 _ w33 m33 ⟨v33_0, rfl, f33_0, ky33⟩
 obtain ⟨s34, rfl, p34, n34⟩ := nwx s18 w33 46 ky33
 refine Xc rfl (Xc (v := (.agg #[(iI r33.1.Lsn), v33_0])) rfl (Xc (v := (.bool r33.2)) rfl (al' (cs := [(iI 0), (.slice none 0 0)]) 47 rfl o59 rfl (fun b36 s36 p36 B36 => ?_))))
 have A38 := (ap59 (f33_0.c n34)).st p36 rfl
 refine Xu (vs := [(iI r33.1.Lsn), v33_0]) B36 z59 rfl (Xb rfl (Xb A38.rd.one Xi)) rfl (fun s39 p39 B39 => ?_)
 refine Xc rfl (dn (sq (sr (Xc rfl (Xc rfl (dn (cd rfl (fun h41 => ?_) (fun h41 => ?_))))))))
 ·
  refine sr (bd' (cells := [(.slice none 0 0)]) pl32 o32 rfl rfl ?_)
  refine Xu (vs := [(.slice none 0 0)]) (B4.st (tr7 p10 p11 p14 p18 p34 p36 p39) rfl) z32 rfl (Xb rfl Xi) rfl (fun s43 p43 B43 => ?_)
  refine Xc rfl (dn ?_)
  have A45 : OwF kd32 s43 [(.slice none 0 0)] (Heap.mk ([] : (List Page))) 48 := ow_z _ _ (Xz (fun x : Heap => (x.Pages)) (Heap.mk ([] : (List Page))) (Ya 59 kd59))
  have K47 := K28.st (tr4 p34 p36 p39 p43) rfl
  exact re rfl func69 rfl (r_b B43 u32 rfl z32 rfl (Xs rfl Xe)) rfl ⟨_, rfl, (.slice none 0 0), rfl, A45.fo K47 rfl z.l, z.ky K47⟩
 refine sk (sr ?_)
 refine Xw (es := [w0_0]) (A27.st (Yi p34 p36 p39) rfl) u32 z32 rfl (Xc rfl (Xw (es := [(iI r33.1.Lsn), v33_0]) B39 u59 z59 rfl ?_))
 have K49 := K28.st (Yi p34 p36 p39) rfl
 have A51 : OwF kd59 s39 [(iI r33.1.Lsn), v33_0] r33.1 46 := (Xo (fun x : Page => (x.Lsn, x.Slots)) r33.1 (Yg (Xf .i64 r33.1.Lsn) (A38.st p39 rfl)))
 obtain ⟨os54, ho54, hn54, hc54⟩ := A51
 refine cl' rfl func66 rfl (impl_Heap_with.calls a0 a1 r33.1 s39.w (mm [0] s39) w0_0 v33_0 (A0_0.kp K49) os54 ho54 hn54 (apart_of hc54 rfl)) ?_
 rintro r54 _ w54 m54 ⟨v54_0, rfl, f54_0, ky54⟩
 obtain ⟨s55, rfl, p55, n55⟩ := nwm 49 hc54 ky54 rfl
 have Au54_0_0 := ap32 (f54_0.m n55)
 refine Xu (vs := [v54_0]) (B4.st (tr8 p10 p11 p14 p18 p34 p36 p39 p55) rfl) z32 rfl (Xb Au54_0_0.rd.one Xi) rfl (fun s58 p58 B58 => ?_)
 refine Xc rfl (dn ?_)
 have A60 : OwF kd32 s58 [v54_0] r54 49 := (Xo (fun x : Heap => (x.Pages)) r54 (Au54_0_0.st p58 rfl))
 have K63 := K49.st (Xq p55 p58) rfl
 exact re rfl func69 rfl (r_b B58 u32 rfl z32 rfl (Xs rfl Xe)) rfl ⟨_, rfl, v54_0, rfl, A60.fo K63 rfl z.l, z.ky K63⟩
def impl_Heap_changed.f (a0 : Heap) (a1 : Record) : Option (Heap × Bool) :=
 (if (a1.Kind == (1 : Int)) = true then ((impl_PageRead.f a1.Data).bind fun r13 => (if (!r13.2) = true then (some ((Heap.mk ([] : (List Page))), false)) else ((impl_Heap_with.f a0 a1.Page (Page.mk a1.Lsn r13.1.Slots)).bind fun r38 => (some (r38, true))))) else (if (a1.Kind == (2 : Int)) = true then ((impl_Heap_put.f a0 a1.Page a1.Slot a1.Data a1.Lsn).bind fun r53 => (some (r53.1, r53.2))) else (if (a1.Kind == (3 : Int)) = true then ((impl_HeapMark.f a0 a1.Page a1.Slot a1.Xid a1.Lsn).bind fun r67 => (some (r67.1, r67.2))) else ((impl_HeapClear.f a0 a1.Page a1.Slot a1.Lsn).bind fun r80 => (some (r80.1, r80.2))))))
def impl_Heap_changed.Q (w : World) (F : Nat → Prop) (r : Heap × Bool) (v : Value) (w' : World) : Prop :=
 ∃ (v0 : Value), v = .tuple #[(.agg #[v0]), (.bool r.2)] ∧ FO kd32 w w' [v0] r.1 ∧ Ky [] w w'
theorem impl_Heap_changed.calls (a0 : Heap) (a1 : Record) (w : World) (F : Nat → Prop) (w0_0 : Value) (w1_0 : Value) (h0_0 : Yp.rd w [w0_0] a0.Pages F) (h1_0 : Yo.rd w [w1_0] a1.Data F) (r : Heap × Bool) (m : impl_Heap_changed.f a0 a1 = some r) :
  Calls prog 36 #[(.agg #[w0_0]), (.agg #[(iI a1.Kind), (iI a1.Lsn), (iI a1.Xid), (iI a1.Page), (iI a1.Slot), w1_0])] w (RT (impl_Heap_changed.Q w F) r) := by
 obtain ⟨s0, rfl, kp0, z⟩ := Xk w F
 have A0_0 := z.rd h0_0
 have A1_0 := z.rd h1_0
 refine Xd (args := [(.agg #[w0_0]), (.agg #[(iI a1.Kind), (iI a1.Lsn), (iI a1.Xid), (iI a1.Page), (iI a1.Slot), w1_0])]) func36 ntmps36 rfl rfl m ?_
 unfold impl_Heap_changed.f
 refine sr (bx' (cs := [w0_0]) 40 rfl rfl (fun b3 s3 p3 B3 => ?_))
 refine bx' (cs := [(iI a1.Kind), (iI a1.Lsn), (iI a1.Xid), (iI a1.Page), (iI a1.Slot), w1_0]) 41 rfl rfl (fun b5 s5 p5 B5 => ?_)
 refine al' (cs := [(.slice none 0 0)]) 42 rfl o32 rfl (fun b7 s7 p7 B7 => ?_)
 refine Xc rfl (dn (sq (sr (Xt fa36_0 rfl ?_))))
 have A9 := B5.st p7 rfl
 refine Yb A9 u3 rfl (dn (bl (sr (Xc rfl (Xc rfl (dn (cd rfl (fun h10 => ?_) (fun h10 => ?_))))))))
 ·
  refine sr (Xt fa36_5 rfl (Yb A9 u25 rfl ?_))
  have K11 := kp0.st (Yi p3 p5 p7) rfl
  refine cl' rfl func65 rfl (impl_PageRead.calls a1.Data s7.w (mm [0] s7) w1_0 (A1_0.kp K11)) ?_
  rintro r13 _ w13 m13 ⟨v13_0, rfl, f13_0, ky13⟩
  obtain ⟨s14, rfl, p14, n14⟩ := nwx s7 w13 43 ky13
  refine Xc rfl (Xc (v := (.agg #[(iI r13.1.Lsn), v13_0])) rfl (Xc (v := (.bool r13.2)) rfl (al' (cs := [(iI 0), (.slice none 0 0)]) 44 rfl o59 rfl (fun b16 s16 p16 B16 => ?_))))
  have A18 := (ap59 (f13_0.c n14)).st p16 rfl
  refine Xu (vs := [(iI r13.1.Lsn), v13_0]) B16 z59 rfl (Xb rfl (Xb A18.rd.one Xi)) rfl (fun s19 p19 B19 => ?_)
  refine Xc rfl (dn (sr (Xt fa36_1 rfl ?_)))
  have A21 := A9.st (Yi p14 p16 p19) rfl
  refine Yb A21 u3 rfl (Xt fa59_0 rfl (sv' B19 z3 rfl rfl rfl (fun s22 p22 B22 => ?_)))
  refine dn (sq (sr (Xc rfl (Xc rfl (dn (cd rfl (fun h24 => ?_) (fun h24 => ?_)))))))
  ·
   refine sr (bd' (cells := [(.slice none 0 0)]) pl32 o32 rfl rfl ?_)
   refine Xu (vs := [(.slice none 0 0)]) (B7.st (tr4 p14 p16 p19 p22) rfl) z32 rfl (Xb rfl Xi) rfl (fun s26 p26 B26 => ?_)
   refine Xc rfl (dn ?_)
   have A28 : OwF kd32 s26 [(.slice none 0 0)] (Heap.mk ([] : (List Page))) 45 := ow_z _ _ (Xz (fun x : Heap => (x.Pages)) (Heap.mk ([] : (List Page))) (Ya 59 kd59))
   have K30 := K11.st (tr5 p14 p16 p19 p22 p26) rfl
   exact re rfl func36 rfl (r_b B26 u32 rfl z32 rfl (Xs rfl Xe)) rfl ⟨_, rfl, (.slice none 0 0), rfl, A28.fo K30 rfl z.l, z.ky K30⟩
  refine sk (sr ?_)
  refine Xw (es := [w0_0]) (B3.st (tr6 p5 p7 p14 p16 p19 p22) rfl) u32 z32 rfl (Xt fa36_3 rfl ?_)
  refine Yb (A21.st p22 rfl) u3 rfl (Xw (es := [(iI a1.Lsn), v13_0]) B22 u59 z59 rfl ?_)
  have K33 := K11.st (tr4 p14 p16 p19 p22) rfl
  have A35 : OwF kd59 s22 [(iI a1.Lsn), v13_0] (Page.mk a1.Lsn r13.1.Slots) 43 := (Xo (fun x : Page => (x.Lsn, x.Slots)) (Page.mk a1.Lsn r13.1.Slots) (Yg (Xf .i64 a1.Lsn) (A18.st (Xq p19 p22) rfl)))
  obtain ⟨os38, ho38, hn38, hc38⟩ := A35
  refine cl' rfl func66 rfl (impl_Heap_with.calls a0 a1.Page (Page.mk a1.Lsn r13.1.Slots) s22.w (mm [0] s22) w0_0 v13_0 (A0_0.kp K33) os38 ho38 hn38 (apart_of hc38 rfl)) ?_
  rintro r38 _ w38 m38 ⟨v38_0, rfl, f38_0, ky38⟩
  obtain ⟨s39, rfl, p39, n39⟩ := nwm 46 hc38 ky38 rfl
  have Au38_0_0 := ap32 (f38_0.m n39)
  refine Xu (vs := [v38_0]) (B7.st (tr5 p14 p16 p19 p22 p39) rfl) z32 rfl (Xb Au38_0_0.rd.one Xi) rfl (fun s42 p42 B42 => ?_)
  refine Xc rfl (dn ?_)
  have A44 : OwF kd32 s42 [v38_0] r38 46 := (Xo (fun x : Heap => (x.Pages)) r38 (Au38_0_0.st p42 rfl))
  have K47 := K33.st (Xq p39 p42) rfl
  exact re rfl func36 rfl (r_b B42 u32 rfl z32 rfl (Xs rfl Xe)) rfl ⟨_, rfl, v38_0, rfl, A44.fo K47 rfl z.l, z.ky K47⟩
 refine sr (Xc rfl (Xc rfl (dn (cd rfl (fun h48 => ?_) (fun h48 => ?_)))))
 ·
  refine sr (Xw (es := [w0_0]) (B3.st (Xq p5 p7) rfl) u32 z32 rfl (Xt fa36_3 rfl (Yb A9 u3 rfl (Xt fa36_4 rfl (Yb A9 u3 rfl (Xt fa36_5 rfl (Yb A9 u25 rfl (Xt fa36_1 rfl (Yb A9 u3 rfl ?_)))))))))
  have K50 := kp0.st (Yi p3 p5 p7) rfl
  refine cl' rfl func67 rfl (impl_Heap_put.calls a0 a1.Page a1.Slot a1.Data a1.Lsn s7.w (mm [0] s7) w0_0 w1_0 (A0_0.kp K50) (A1_0.kp K50)) ?_
  rintro r53 _ w53 m53 ⟨v53_0, rfl, f53_0, ky53⟩
  obtain ⟨s54, rfl, p54, n54⟩ := nwx s7 w53 47 ky53
  have Au53_0_0 := ap32 (f53_0.c n54)
  refine Xc (v := (.agg #[v53_0])) rfl (Xc (v := (.bool r53.2)) rfl ?_)
  refine Xu (vs := [v53_0]) (B7.st p54 rfl) z32 rfl (Xb Au53_0_0.rd.one Xi) rfl (fun s57 p57 B57 => ?_)
  refine Xc rfl (dn ?_)
  have A59 : OwF kd32 s57 [v53_0] r53.1 47 := (Xo (fun x : Heap => (x.Pages)) r53.1 (Au53_0_0.st p57 rfl))
  have K62 := K50.st (Xq p54 p57) rfl
  exact re rfl func36 rfl (r_b B57 u32 rfl z32 rfl (Xs rfl Xe)) rfl ⟨_, rfl, v53_0, rfl, A59.fo K62 rfl z.l, z.ky K62⟩
 refine sr (Xc rfl (Xc rfl (dn (cd rfl (fun h63 => ?_) (fun h63 => ?_)))))
 ·
  refine sr (Xw (es := [w0_0]) (B3.st (Xq p5 p7) rfl) u32 z32 rfl (Xt fa36_3 rfl (Yb A9 u3 rfl (Xt fa36_4 rfl (Yb A9 u3 rfl (Xt fa36_2 rfl (Yb A9 u3 rfl (Xt fa36_1 rfl (Yb A9 u3 rfl ?_)))))))))
  have K65 := kp0.st (Yi p3 p5 p7) rfl
  refine cl' rfl func68 rfl (impl_HeapMark.calls a0 a1.Page a1.Slot a1.Xid a1.Lsn s7.w (mm [0] s7) w0_0 (A0_0.kp K65)) ?_
  rintro r67 _ w67 m67 ⟨v67_0, rfl, f67_0, ky67⟩
  obtain ⟨s68, rfl, p68, n68⟩ := nwx s7 w67 48 ky67
  have Au67_0_0 := ap32 (f67_0.c n68)
  refine Xc (v := (.agg #[v67_0])) rfl (Xc (v := (.bool r67.2)) rfl ?_)
  refine Xu (vs := [v67_0]) (B7.st p68 rfl) z32 rfl (Xb Au67_0_0.rd.one Xi) rfl (fun s71 p71 B71 => ?_)
  refine Xc rfl (dn ?_)
  have A73 : OwF kd32 s71 [v67_0] r67.1 48 := (Xo (fun x : Heap => (x.Pages)) r67.1 (Au67_0_0.st p71 rfl))
  have K76 := K65.st (Xq p68 p71) rfl
  exact re rfl func36 rfl (r_b B71 u32 rfl z32 rfl (Xs rfl Xe)) rfl ⟨_, rfl, v67_0, rfl, A73.fo K76 rfl z.l, z.ky K76⟩
 refine sk (ib (sr ?_))
 refine Xw (es := [w0_0]) (B3.st (Xq p5 p7) rfl) u32 z32 rfl (Xt fa36_3 rfl (Yb A9 u3 rfl (Xt fa36_4 rfl (Yb A9 u3 rfl (Xt fa36_1 rfl (Yb A9 u3 rfl ?_))))))
 have K78 := kp0.st (Yi p3 p5 p7) rfl
 refine cl' rfl func69 rfl (impl_HeapClear.calls a0 a1.Page a1.Slot a1.Lsn s7.w (mm [0] s7) w0_0 (A0_0.kp K78)) ?_
 rintro r80 _ w80 m80 ⟨v80_0, rfl, f80_0, ky80⟩
 obtain ⟨s81, rfl, p81, n81⟩ := nwx s7 w80 49 ky80
 have Au80_0_0 := ap32 (f80_0.c n81)
 refine Xc (v := (.agg #[v80_0])) rfl (Xc (v := (.bool r80.2)) rfl ?_)
 refine Xu (vs := [v80_0]) (B7.st p81 rfl) z32 rfl (Xb Au80_0_0.rd.one Xi) rfl (fun s84 p84 B84 => ?_)
 refine Xc rfl (dn ?_)
 have A86 : OwF kd32 s84 [v80_0] r80.1 49 := (Xo (fun x : Heap => (x.Pages)) r80.1 (Au80_0_0.st p84 rfl))
 have K89 := K78.st (Xq p81 p84) rfl
 exact re rfl func36 rfl (r_b B84 u32 rfl z32 rfl (Xs rfl Xe)) rfl ⟨_, rfl, v80_0, rfl, A86.fo K89 rfl z.l, z.ky K89⟩
def impl_RedoOne.b1 (a1 : Record) (x107 : (List Page)) : Option ((List Page) ⊕ (Heap × Bool)) :=
 (if (decide ((x107.length : Int) ≤ a1.Page)) = true then (if x107.length + ([(Page.mk (0 : Int) ([] : (List (List Int))))]).length ≤ Lim then (some (Sum.inl (x107 ++ [(Page.mk (0 : Int) ([] : (List (List Int))))]))) else none) else ((if 0 ≤ a1.Page ∧ a1.Page < (x107.length : Int) then (if (decide ((at_ x107 a1.Page).Lsn ≥ a1.Lsn)) = true then (some ((Heap.mk x107), true)) else ((impl_Heap_changed.f (Heap.mk x107) a1).bind fun r162 => ((if (!r162.2) = true then (some true) else ((impl_HeapOk.f r162.1).bind fun r173 => (some (!r173)))).bind fun y168 => (if y168 = true then (some ((Heap.mk ([] : (List Page))), false)) else (some (r162.1, true)))))) else none).bind fun o => some (Sum.inr o)))
def impl_RedoOne.b0 (a0 : Heap) (a1 : Record) (x43 : Int × (List Page)) : Option ((Int × (List Page)) ⊕ (Heap × Bool)) :=
 (if (decide (x43.1 < (a0.Pages.length : Int))) = true then (if 0 ≤ x43.1 ∧ x43.1 < (a0.Pages.length : Int) then ((impl_Page_slots.f (at_ a0.Pages x43.1)).bind fun r75 => (if x43.2.length + ([(Page.mk ((at_ a0.Pages x43.1).Lsn) r75)]).length ≤ Lim then (some (Sum.inl ((IntKind.wrap .i64 (x43.1 + (1 : Int))), (x43.2 ++ [(Page.mk ((at_ a0.Pages x43.1).Lsn) r75)])))) else none)) else none) else ((if (a1.Kind == (5 : Int)) = true then (some ((Heap.mk x43.2), true)) else (iter (impl_RedoOne.b1 a1) x43.2)).bind fun o => some (Sum.inr o)))
def impl_RedoOne.f (a0 : Heap) (a1 : Record) : Option (Heap × Bool) :=
 ((impl_HeapOk.f a0).bind fun r12 => ((if (!r12) = true then (some true) else ((impl_RecordOk.f a1).bind fun r22 => (some (!r22)))).bind fun y14 => (if y14 = true then (some ((Heap.mk ([] : (List Page))), false)) else (iter (impl_RedoOne.b0 a0 a1) ((0 : Int), ([] : (List Page)))))))
def impl_RedoOne.Q (w : World) (F : Nat → Prop) (r : Heap × Bool) (v : Value) (w' : World) : Prop :=
 ∃ (v0 : Value), v = .tuple #[(.agg #[v0]), (.bool r.2)] ∧ FO kd32 w w' [v0] r.1 ∧ Ky [] w w'
theorem impl_RedoOne.calls (a0 : Heap) (a1 : Record) (w : World) (F : Nat → Prop) (w0_0 : Value) (w1_0 : Value) (h0_0 : Yp.rd w [w0_0] a0.Pages F) (h1_0 : Yo.rd w [w1_0] a1.Data F) (r : Heap × Bool) (m : impl_RedoOne.f a0 a1 = some r) :
  Calls prog 10 #[(.agg #[w0_0]), (.agg #[(iI a1.Kind), (iI a1.Lsn), (iI a1.Xid), (iI a1.Page), (iI a1.Slot), w1_0])] w (RT (impl_RedoOne.Q w F) r) := by
 obtain ⟨s0, rfl, kp0, z⟩ := Xk w F
 have A0_0 := z.rd h0_0
 have A1_0 := z.rd h1_0
 refine Xd (args := [(.agg #[w0_0]), (.agg #[(iI a1.Kind), (iI a1.Lsn), (iI a1.Xid), (iI a1.Page), (iI a1.Slot), w1_0])]) func10 ntmps10 rfl rfl m ?_
 unfold impl_RedoOne.f
 refine sr (bx' (cs := [w0_0]) 40 rfl rfl (fun b3 s3 p3 B3 => ?_))
 refine bx' (cs := [(iI a1.Kind), (iI a1.Lsn), (iI a1.Xid), (iI a1.Page), (iI a1.Slot), w1_0]) 41 rfl rfl (fun b5 s5 p5 B5 => ?_)
 refine al' (cs := [(.slice none 0 0)]) 42 rfl o32 rfl (fun b7 s7 p7 B7 => ?_)
 refine Xc rfl (dn (sq (sr ?_)))
 have A9 := B3.st (Xq p5 p7) rfl
 refine Xw (es := [w0_0]) A9 u32 z32 rfl ?_
 have K10 := kp0.st (Yi p3 p5 p7) rfl
 refine Ym 43 rfl func33 rfl (impl_HeapOk.calls a0 s7.w (mm [0] s7) w0_0 (A0_0.kp K10)) (fun r12 s13 p13 n13 => ?_)
 refine Xc rfl (Xc rfl (ji [] (fun (y14 : Bool) e w => ∃ (s : St) (e0 : Env), w = s.w ∧ e = upd (upd (upd (upd e0 2 (pB b3)) 3 (pB b5)) 4 (pB b7)) 17 (.bool y14) ∧ Kp s0 s ∧ BlF s b7 32 [(.slice none 0 0)] 42 ∧ BlF s b5 36 [(iI a1.Kind), (iI a1.Lsn), (iI a1.Xid), (iI a1.Page), (iI a1.Slot), w1_0] 41 ∧ BlF s b3 32 [w0_0] 40) (fun Gj14 Kj14 => ?_) ?_))
 ·
  rcases Yn (!r12) with hb14 | hb14
  ·
   refine Xy hb14 ?_
   rw [if_pos hb14]
   refine Xj rfl (Xj rfl (Xj rfl (Xc rfl ?_)))
   exact Kj14 _ _ _ ⟨s13, _, rfl, (ue (ue (ue (ue rfl rfl) rfl) rfl) rfl), (K10.st p13 rfl), (B7.st p13 rfl), (B5.st (Xq p7 p13) rfl), (A9.st p13 rfl)⟩
  refine Xy hb14 ?_
  rw [if_neg (by rw [hb14]; decide)]
  have A19 := B5.st (Xq p7 p13) rfl
  refine Xw (es := [(iI a1.Kind), (iI a1.Lsn), (iI a1.Xid), (iI a1.Page), (iI a1.Slot), w1_0]) A19 u36 z36 rfl ?_
  have K20 := K10.st p13 rfl
  refine Ym 44 rfl func34 rfl (impl_RecordOk.calls a1 s13.w (mm [0] s13) w1_0 (A1_0.kp K20)) (fun r22 s23 p23 n23 => ?_)
  refine Xc rfl (Xc rfl ?_)
  exact Kj14 _ _ _ ⟨s23, _, rfl, (ue (ue (ue (ue rfl rfl) rfl) rfl) rfl), (K20.st p23 rfl), (B7.st (Xq p13 p23) rfl), (A19.st p23 rfl), (A9.st (Xq p13 p23) rfl)⟩
 rintro y14 _ _ ⟨s28, _, rfl, rfl, Ky14, By14_b7, By14_b5, By14_b3⟩
 refine dn (cd rfl (fun h32 => ?_) (fun h32 => ?_))
 ·
  refine sr (bd' (cells := [(.slice none 0 0)]) pl32 o32 rfl rfl (Xu (vs := [(.slice none 0 0)]) By14_b7 z32 rfl (Xb rfl Xi) rfl (fun s33 p33 B33 => ?_)))
  refine Xc rfl (dn ?_)
  have A35 : OwF kd32 s33 [(.slice none 0 0)] (Heap.mk ([] : (List Page))) 45 := ow_z _ _ (Xz (fun x : Heap => (x.Pages)) (Heap.mk ([] : (List Page))) (Ya 59 kd59))
  have K37 := Ky14.st p33 rfl
  exact re rfl func10 rfl (r_b B33 u32 rfl z32 rfl (Xs rfl Xe)) rfl ⟨_, rfl, (.slice none 0 0), rfl, A35.fo K37 rfl z.l, z.ky K37⟩
 refine sk (sr (al' (cs := [(.slice none 0 0)]) 46 rfl o32 rfl (fun b38 s38 p38 B38 => ?_)))
 refine dn (sq (sr (Xt fa32_0 rfl ?_)))
 refine Yb (By14_b3.st p38 rfl) u30 rfl ?_
 have K41 := Ky14.st p38 rfl
 refine Yl (A0_0.kp K41) u30 rfl (Xc rfl (dn (bl ?_)))
 refine lpI (fun (x43 : Int × (List Page)) e w => ∃ (s : St) (e0 : Env) (vx43_0 : Value), w = s.w ∧ e = upd (upd (upd (upd (upd (upd e0 3 (pB b5)) 4 (pB b7)) 6 (pB b38)) 20 w0_0) 21 (iI (a0.Pages.length : Int))) 22 (iI x43.1) ∧ Kp s0 s ∧ OwF Yp s [vx43_0] x43.2 47 ∧ BlF s b38 32 [vx43_0] 46 ∧ BlF s b7 32 [(.slice none 0 0)] 42 ∧ BlF s b5 36 [(iI a1.Kind), (iI a1.Lsn), (iI a1.Xid), (iI a1.Page), (iI a1.Slot), w1_0] 41) ⟨s38, _, (.slice none 0 0), rfl, (ue (ue (ue (ue (ue (ue rfl rfl) rfl) rfl) rfl) rfl) rfl), K41, (Yk 59 kd59 _ 47), B38, (By14_b7.st p38 rfl), (By14_b5.st p38 rfl)⟩ (fun g43 ih43 => ?_)
 rintro x43 _ _ ⟨s46, _, vx43_0, rfl, rfl, Kx43, Ax43_0, Bx43_b38, Bx43_b7, Bx43_b5⟩
 unfold impl_RedoOne.b0
 refine sr (Xc rfl (dn (sq (cd rfl (fun h51 => ?_) (fun h51 => ?_)))))
 ·
  refine sk (sq (bl (sr ?_)))
  refine ix' (A0_0.kp Kx43) u30 z59 rfl (fun ad53 es53 h0_53 h1_53 he53 ce53 ia53 => ?_)
  obtain ⟨v53_0, rfl, A53_0⟩ := op59 he53
  refine lca ce53 u59 z59 rfl rfl rfl rfl rfl rfl rfl (al' (cs := [(iI 0), (.slice none 0 0)]) 48 rfl o59 rfl (fun b56 s56 p56 B56 => ?_))
  have A58 := A53_0.st p56 rfl
  refine Xu (vs := [(iI ((at_ a0.Pages x43.1).Lsn)), v53_0]) B56 z59 rfl (Xb rfl (Xb A58.one Xi)) rfl (fun s59 p59 B59 => ?_)
  refine dn (zdraw [[], [0], [], [2], [], [4], [3, 5], [6], [1, 7, 5], [0, 1, 2, 3, 4, 5, 6, 7, 8], [9, 8, 8, 0, 1, 2, 3, 4, 5, 6, 7, 8]] [some 26, some 27, some 28, some 29, some 30, some 31, some 32, some 33, some 34, some 35, none] [[6], [26], [8], [28], [8], [30], [29, 31], [32], [27, 33], [6], [35, 34]] [0, 1, 2, 3, 4, 5, 6, 7, 8, 9, 10] ⟨by kernel_rfl, by kernel_rfl, by kernel_rfl⟩ (by kernel_rfl) (fun s61 p61 l61 tb61 zd61 => ?_))
  refine Yc 5 [some 29, some 28, some 27, some 26] tb61 (((((zd61.add 0 26 (pB b38) rfl).add 1 27 vx43_0 rfl).add 2 28 (pB b56) rfl).add 3 29 (iI ((at_ a0.Pages x43.1).Lsn)) rfl).add 4 30 (.agg #[(iI ((at_ a0.Pages x43.1).Lsn)), v53_0]) rfl) (Xa (lda_q' (es := [(iI ((at_ a0.Pages x43.1).Lsn)), v53_0]) (B59.st p61 rfl) u59 z59 rfl) rfl (Xa (Xp (B59.st p61 rfl) u3 rfl) rfl (Xa (Xr fa59_0 rfl) rfl (Xa (Xp (Bx43_b38.st (Yi p56 p59 p61) rfl) u30 rfl) rfl (Xa (Xr fa32_0 rfl) rfl Xg))))) (by kernel_rfl) rfl (fun l70 e70 zd70 => ?_)
  refine clO 49 rfl func35 rfl (impl_Page_slots.calls (at_ a0.Pages x43.1) s61.w (mm [0] s61) v53_0 (A58.st (Xq p59 p61) rfl)) (fun r75 v75_0 s76 p76 A75_0 => ?_)
  refine Xl (L' := [3, 2, 1, 0]) (D' := [4, 5]) zd70 rfl (fun zd78 => ?_)
  refine Yc 7 [some 27, some 26] tb61 (zd78.add 6 32 (.agg #[(iI ((at_ a0.Pages x43.1).Lsn)), v75_0]) rfl) (Xa (bd_q (cells := [(iI ((at_ a0.Pages x43.1).Lsn)), v75_0]) pl59 o59 rfl rfl rfl rfl rfl (lfill_pc (pc_c rfl (pc_c (oc A75_0.rd.one) pc_n)) rfl)) rfl (Xa (Xp (B59.st (Xq p61 p76) rfl) u3 rfl) rfl (Xa (Xr fa59_0 rfl) rfl (Xa (Xp (Bx43_b38.st (tr4 p56 p59 p61 p76) rfl) u30 rfl) rfl (Xa (Xr fa32_0 rfl) rfl Xg))))) (by kernel_rfl) rfl (fun l80 e80 zd80 => ?_)
  have A83 : OwF kd59 s76 [(iI ((at_ a0.Pages x43.1).Lsn)), v75_0] (Page.mk ((at_ a0.Pages x43.1).Lsn) r75) 49 := (Xo (fun x : Page => (x.Lsn, x.Slots)) (Page.mk ((at_ a0.Pages x43.1).Lsn) r75) (Yg (Xf .i64 ((at_ a0.Pages x43.1).Lsn)) A75_0))
  refine ltO (K := kd59) (cells := [(iI ((at_ a0.Pages x43.1).Lsn)), v75_0]) [(Page.mk ((at_ a0.Pages x43.1).Lsn) r75)] 49 u30 z59 o59 (lo_one A83) rfl rfl rfl rfl rfl rfl rfl rfl rfl rfl (fun v86 s86 p86 A86 => ?_)
  refine Xl (L' := [1, 0]) (D' := [2, 3, 6, 7, 4, 5]) zd80 rfl (fun zd88 => ?_)
  refine zfin [8, 9, 10] tb61 zd88 (Xa (Xp (Bx43_b38.st (tr5 p56 p59 p61 p76 p86) rfl) u30 rfl) rfl (Xa (Xr fa32_0 rfl) rfl Xg)) (by kernel_rfl) (by decide) (apO sl30 (Ax43_0.st (tr5 p56 p59 p61 p76 p86) rfl) A86 rfl rfl rfl rfl rfl rfl rfl rfl rfl (fun v91 s91 p91 A91 => ?_))
  refine Xt fa32_0 rfl (sv' (Bx43_b38.st (tr6 p56 p59 p61 p76 p86 p91) rfl) z30 rfl A91.rd.one rfl (fun s94 p94 B94 => ?_))
  refine dn (ib (rg (Xc rfl (Xc rfl (dn ?_)))))
  exact lb ih43 ⟨s94, _, v91, rfl, (ue (ue (ue (ue (ue (ue rfl rfl) rfl) rfl) rfl) rfl) rfl), (Kx43.st (tr7 p56 p59 p61 p76 p86 p91 p94) rfl), (A91.st p94 rfl), B94, (Bx43_b7.st (tr7 p56 p59 p61 p76 p86 p91 p94) rfl), (Bx43_b5.st (tr7 p56 p59 p61 p76 p86 p91 p94) rfl)⟩
 refine xt rfl (sgb (sq (sr (Xt fa36_0 rfl (Yb Bx43_b5 u3 rfl (Xc rfl (dn (cd rfl (fun h100 => ?_) (fun h100 => ?_)))))))))
 ·
  refine sr (Xw (es := [vx43_0]) Bx43_b38 u32 z32 rfl (Xu (vs := [vx43_0]) Bx43_b7 z32 rfl (Xb Ax43_0.rd.one Xi) rfl (fun s101 p101 B101 => ?_)))
  refine Xc rfl (dn ?_)
  have A103 : OwF kd32 s101 [vx43_0] (Heap.mk x43.2) 47 := (Xo (fun x : Heap => (x.Pages)) (Heap.mk x43.2) (Ax43_0.st p101 rfl))
  have K106 := Kx43.st p101 rfl
  exact re rfl func10 rfl (r_b B101 u32 rfl z32 rfl (Xs rfl Xe)) rfl ⟨_, rfl, vx43_0, rfl, A103.fo K106 rfl z.l, z.ky K106⟩
 refine sk (sq (bl (lpI (fun (x107 : (List Page)) e w => ∃ (s : St) (e0 : Env) (vx107_0 : Value), w = s.w ∧ e = upd (upd (upd e0 3 (pB b5)) 4 (pB b7)) 6 (pB b38) ∧ Kp s0 s ∧ OwF Yp s [vx107_0] x107 47 ∧ BlF s b38 32 [vx107_0] 46 ∧ BlF s b7 32 [(.slice none 0 0)] 42 ∧ BlF s b5 36 [(iI a1.Kind), (iI a1.Lsn), (iI a1.Xid), (iI a1.Page), (iI a1.Slot), w1_0] 41) ⟨s46, _, vx43_0, rfl, (ue (ue (ue rfl rfl) rfl) rfl), Kx43, Ax43_0, Bx43_b38, Bx43_b7, Bx43_b5⟩ (fun g107 ih107 => ?_))))
 rintro x107 _ _ ⟨s108, _, vx107_0, rfl, rfl, Kx107, Ax107_0, Bx107_b38, Bx107_b7, Bx107_b5⟩
 unfold impl_RedoOne.b1
 refine sq (sr (Xt fa32_0 rfl (Yb Bx107_b38 u30 rfl (Yl Ax107_0.rd u30 rfl (Xt fa36_3 rfl (Yb Bx107_b5 u3 rfl (Xc rfl (dn (cd rfl (fun h113 => ?_) (fun h113 => ?_))))))))))
 ·
  refine sk (bl (rg (Xt fa32_0 rfl (Yb Bx107_b38 u30 rfl (bd' (cells := [(iI 0), (.slice none 0 0)]) pl59 o59 rfl rfl ?_)))))
  have A114 : OwF kd59 s108 [(iI 0), (.slice none 0 0)] (Page.mk (0 : Int) ([] : (List (List Int)))) 52 := ow_z _ _ (Xz (fun x : Page => (x.Lsn, x.Slots)) (Page.mk (0 : Int) ([] : (List (List Int)))) (Xh (Xf .i64 (0 : Int)) (Ya 25 Yo)))
  refine ltO (K := kd59) (cells := [(iI 0), (.slice none 0 0)]) [(Page.mk (0 : Int) ([] : (List (List Int))))] 52 u30 z59 o59 (lo_one A114) rfl rfl rfl rfl rfl rfl rfl rfl rfl rfl (fun v117 s117 p117 A117 => ?_)
  refine apO sl30 (Ax107_0.st p117 rfl) A117 rfl rfl rfl rfl rfl rfl rfl rfl rfl (fun v120 s120 p120 A120 => ?_)
  refine Xt fa32_0 rfl (sv' (Bx107_b38.st (Xq p117 p120) rfl) z30 rfl A120.rd.one rfl (fun s123 p123 B123 => ?_))
  refine dn (ib ?_)
  exact lb ih107 ⟨s123, _, v120, rfl, (ue (ue (ue rfl rfl) rfl) rfl), (Kx107.st (Yi p117 p120 p123) rfl), (A120.st p123 rfl), B123, (Bx107_b7.st (Yi p117 p120 p123) rfl), (Bx107_b5.st (Yi p117 p120 p123) rfl)⟩
 refine xt rfl (sgb (sq (sq (zdraw [[], [0], [], [2], [1, 3], [4], [5], [], [7], [6, 8]] [some 53, some 54, some 55, some 56, some 57, some 58, some 59, some 60, some 61, some 62] [[6], [53], [3], [55], [54, 56], [57], [58], [3], [60], [59, 61]] [0, 1, 2, 3, 4, 5, 6, 7, 8, 9] ⟨by kernel_rfl, by kernel_rfl, by kernel_rfl⟩ (by kernel_rfl) (fun s129 p129 l129 tb129 zd129 => ?_)))))
 have A136 := Ax107_0.st p129 rfl
 refine mg fun hg137 => ?_
 obtain ⟨ad137, es137, he137, ce137, ia137⟩ := ix_e A136.rd rfl hg137.1 hg137.2
 obtain ⟨v137_0, rfl, A137_0⟩ := op59 he137
 refine zfin [9] tb129 (((((((((zd129.add 0 53 (pB b38) rfl).add 1 54 vx107_0 rfl).add 2 55 (pO b5 3) rfl).add 3 56 (iI a1.Page) rfl).add 4 57 (.pointer (some ad137)) rfl).add 5 58 (.pointer (some ad137)) rfl).add 6 59 (iI ((at_ x107 a1.Page).Lsn)) rfl).add 7 60 (pO b5 1) rfl).add 8 61 (iI a1.Lsn) rfl) (Xa (Xp (Bx107_b5.st p129 rfl) u3 rfl) rfl (Xa (Xr fa36_1 rfl) rfl (Xa (lc0_q ce137 u3 rfl rfl rfl rfl rfl rfl rfl rfl) rfl (Xa (Xr fa59_0 rfl) rfl (Xa (ix_q' A136.rd u30 z59 hg137.1 hg137.2 ia137 rfl) rfl (Xa (Xp (Bx107_b5.st p129 rfl) u3 rfl) rfl (Xa (Xr fa36_3 rfl) rfl (Xa (Xp (Bx107_b38.st p129 rfl) u30 rfl) rfl (Xa (Xr fa32_0 rfl) rfl Xg))))))))) (by kernel_rfl) (by decide) (Xc rfl (dn (cd rfl (fun h149 => ?_) (fun h149 => ?_))))
 ·
  refine sr (Xw (es := [vx107_0]) (Bx107_b38.st p129 rfl) u32 z32 rfl (Xu (vs := [vx107_0]) (Bx107_b7.st p129 rfl) z32 rfl (Xb A136.rd.one Xi) rfl (fun s152 p152 B152 => ?_)))
  refine Xc rfl (dn ?_)
  have A154 : OwF kd32 s152 [vx107_0] (Heap.mk x107) 47 := (Xo (fun x : Heap => (x.Pages)) (Heap.mk x107) (A136.st p152 rfl))
  have K157 := Kx107.st (Xq p129 p152) rfl
  exact re rfl func10 rfl (r_b B152 u32 rfl z32 rfl (Xs rfl Xe)) rfl ⟨_, rfl, vx107_0, rfl, A154.fo K157 rfl z.l, z.ky K157⟩
 refine sk (sr ?_)
 have A158 := Bx107_b38.st p129 rfl
 refine Xw (es := [vx107_0]) A158 u32 z32 rfl (Xw (es := [(iI a1.Kind), (iI a1.Lsn), (iI a1.Xid), (iI a1.Page), (iI a1.Slot), w1_0]) (Bx107_b5.st p129 rfl) u36 z36 rfl ?_)
 have K160 := Kx107.st p129 rfl
 refine cl' rfl func36 rfl (impl_Heap_changed.calls (Heap.mk x107) a1 s129.w (mm [47, 0] s129) vx107_0 w1_0 (A136.rd.sub (D := [47, 0]) rfl) ((A1_0.kp K160).sub (D := [47, 0]) rfl)) ?_
 rintro r162 _ w162 m162 ⟨v162_0, rfl, f162_0, ky162⟩
 obtain ⟨s163, rfl, p163, n163⟩ := nwx s129 w162 53 ky162
 have Au162_0_0 := ap32 (f162_0.c n163)
 refine Xc rfl (Xc (v := (.agg #[v162_0])) rfl (Xc (v := (.bool r162.2)) rfl ?_))
 refine Xu (vs := [v162_0]) (A158.st p163 rfl) z32 rfl (Xb Au162_0_0.rd.one Xi) rfl (fun s166 p166 B166 => ?_)
 refine Xc rfl (dn (sq (sr (Xc rfl (Xc rfl (Xc rfl (ji [] (fun (y168 : Bool) e w => ∃ (s : St) (e0 : Env), w = s.w ∧ e = upd (upd (upd e0 4 (pB b7)) 6 (pB b38)) 76 (.bool y168) ∧ Kp s0 s ∧ BlF s b38 32 [v162_0] 46 ∧ BlF s b7 32 [(.slice none 0 0)] 42 ∧ OwF Yp s [v162_0] r162.1.Pages 53) (fun Gj168 Kj168 => ?_) ?_)))))))
 ·
  rcases Yn (!r162.2) with hb168 | hb168
  ·
   refine Xy hb168 ?_
   rw [if_pos hb168]
   refine Xj rfl (Xj rfl (Xj rfl (Xc rfl ?_)))
   exact Kj168 _ _ _ ⟨s166, _, rfl, (ue (ue (ue rfl rfl) rfl) rfl), (K160.st (Xq p163 p166) rfl), B166, (Bx107_b7.st (Yi p129 p163 p166) rfl), (Au162_0_0.st p166 rfl)⟩
  refine Xy hb168 ?_
  rw [if_neg (by rw [hb168]; decide)]
  refine Xw (es := [v162_0]) B166 u32 z32 rfl ?_
  have A172 := Au162_0_0.st p166 rfl
  refine Ym 54 rfl func33 rfl (impl_HeapOk.calls r162.1 s166.w (mm [53] s166) v162_0 A172.rd) (fun r173 s174 p174 n174 => ?_)
  refine Xc rfl (Xc rfl ?_)
  exact Kj168 _ _ _ ⟨s174, _, rfl, (ue (ue (ue rfl rfl) rfl) rfl), (K160.st (Yi p163 p166 p174) rfl), (B166.st p174 rfl), (Bx107_b7.st (tr4 p129 p163 p166 p174) rfl), (A172.st p174 rfl)⟩
 rintro y168 _ _ ⟨s179, _, rfl, rfl, Ky168, By168_b38, By168_b7, Cy168_164⟩
 refine dn (cd rfl (fun h182 => ?_) (fun h182 => ?_))
 ·
  refine sr (bd' (cells := [(.slice none 0 0)]) pl32 o32 rfl rfl (Xu (vs := [(.slice none 0 0)]) By168_b7 z32 rfl (Xb rfl Xi) rfl (fun s183 p183 B183 => ?_)))
  refine Xc rfl (dn ?_)
  have A185 : OwF kd32 s183 [(.slice none 0 0)] (Heap.mk ([] : (List Page))) 55 := ow_z _ _ (Xz (fun x : Heap => (x.Pages)) (Heap.mk ([] : (List Page))) (Ya 59 kd59))
  have K187 := Ky168.st p183 rfl
  exact re rfl func10 rfl (r_b B183 u32 rfl z32 rfl (Xs rfl Xe)) rfl ⟨_, rfl, (.slice none 0 0), rfl, A185.fo K187 rfl z.l, z.ky K187⟩
 refine sk (sr (Xw (es := [v162_0]) By168_b38 u32 z32 rfl (Xu (vs := [v162_0]) By168_b7 z32 rfl (Xb Cy168_164.rd.one Xi) rfl (fun s188 p188 B188 => ?_))))
 refine Xc rfl (dn ?_)
 have A190 : OwF kd32 s188 [v162_0] r162.1 53 := (Xo (fun x : Heap => (x.Pages)) r162.1 (Cy168_164.st p188 rfl))
 have K193 := Ky168.st p188 rfl
 exact re rfl func10 rfl (r_b B188 u32 rfl z32 rfl (Xs rfl Xe)) rfl ⟨_, rfl, v162_0, rfl, A190.fo K193 rfl z.l, z.ky K193⟩
def laws_eqByteS.b0 (a0 : (List Int)) (a1 : (List Int)) (x4 : Int) : Option (Int ⊕ Bool) :=
 (if (decide (x4 < (a0.length : Int))) = true then (if 0 ≤ x4 ∧ x4 < (a0.length : Int) then (if 0 ≤ x4 ∧ x4 < (a1.length : Int) then (if ((at_ a0 x4) != (at_ a1 x4)) = true then (some (Sum.inr false)) else (some (Sum.inl (IntKind.wrap .i64 (x4 + (1 : Int)))))) else none) else none) else ((some true).bind fun o => some (Sum.inr o)))
def laws_eqByteS.f (a0 : (List Int)) (a1 : (List Int)) : Option (Bool) :=
 (if ((a0.length : Int) != (a1.length : Int)) = true then (some false) else (iter (laws_eqByteS.b0 a0 a1) (0 : Int)))
def laws_eqByteS.Q (w : World) (F : Nat → Prop) (r : Bool) (v : Value) (w' : World) : Prop :=
 v = (.bool r) ∧ Ky [] w w'
theorem laws_eqByteS.calls (a0 : (List Int)) (a1 : (List Int)) (w : World) (F : Nat → Prop) (w0_0 : Value) (w1_0 : Value) (h0_0 : Yo.rd w [w0_0] a0 F) (h1_0 : Yo.rd w [w1_0] a1 F) (r : Bool) (m : laws_eqByteS.f a0 a1 = some r) :
  Calls prog 38 #[w0_0, w1_0] w (RT (laws_eqByteS.Q w F) r) := by
 obtain ⟨s0, rfl, kp0, z⟩ := Xk w F
 have A0_0 := z.rd h0_0
 have A1_0 := z.rd h1_0
 refine Xd (args := [w0_0, w1_0]) func38 ntmps38 rfl rfl m ?_
 unfold laws_eqByteS.f
 refine sr (Xc rfl (dn (sq (sr (Xx w0_0 rfl (Yl A0_0 u25 rfl (Xx w1_0 rfl (Yl A1_0 u25 rfl (Xc rfl (dn (cd rfl (fun h3 => ?_) (fun h3 => ?_))))))))))))
 ·
  exact sr (Xc rfl (dn (re rfl func38 rfl (Xs rfl Xe) rfl ⟨_, rfl, rfl, z.ky kp0⟩)))
 refine sk (sq (sr (Xc rfl (dn (bl (lpI (fun (x4 : Int) e w => ∃ (s : St) (e0 : Env), w = s.w ∧ e = upd (upd (upd e0 0 w0_0) 1 w1_0) 5 (iI x4) ∧ Kp s0 s) ⟨s0, _, rfl, (ue (ue (ue rfl rfl) rfl) rfl), kp0⟩ (fun g4 ih4 => ?_)))))))
 rintro x4 _ _ ⟨s5, _, rfl, rfl, Kx4⟩
 unfold laws_eqByteS.b0
 refine sq (sr (Xc rfl (Xx w0_0 rfl ?_)))
 refine Yl (A0_0.kp Kx4) u25 rfl (Xc rfl (dn (cd rfl (fun h7 => ?_) (fun h7 => ?_))))
 ·
  refine sk (sq (bl (sq (zdraw [[], [], [0, 1], [2], [], [], [4, 5], [6], [3, 7]] [some 17, some 18, some 19, some 20, some 21, some 22, some 23, some 24, some 25] [[0], [5], [17, 18], [19], [1], [5], [21, 22], [23], [20, 24]] [0, 1, 2, 3, 4, 5, 6, 7, 8] ⟨by kernel_rfl, by kernel_rfl, by kernel_rfl⟩ (by kernel_rfl) (fun s8 p8 l8 tb8 zd8 => ?_)))))
  have K11 := Kx4.st p8 rfl
  have A12 := A0_0.kp K11
  refine mg fun hg13 => ?_
  obtain ⟨ad13, es13, he13, ce13, ia13⟩ := ix_e A12 rfl hg13.1 hg13.2
  obtain rfl := he13
  have A19 := A1_0.kp K11
  refine mg fun hg20 => ?_
  obtain ⟨ad20, es20, he20, ce20, ia20⟩ := ix_e A19 rfl hg20.1 hg20.2
  obtain rfl := he20
  refine zfin [8] tb8 ((((((((zd8.add 0 17 w0_0 rfl).add 1 18 (iI x4) rfl).add 2 19 (.pointer (some ad13)) rfl).add 3 20 (.int .u8 (at_ a0 x4)) rfl).add 4 21 w1_0 rfl).add 5 22 (iI x4) rfl).add 6 23 (.pointer (some ad20)) rfl).add 7 24 (.int .u8 (at_ a1 x4)) rfl) (Xa (lc0_q ce20 u5 rfl rfl rfl rfl rfl rfl rfl rfl) rfl (Xa (ix_q' A19 u25 z5 hg20.1 hg20.2 ia20 rfl) rfl (Xa (Xm rfl) rfl (Xa (Xn w1_0 rfl) rfl (Xa (lc0_q ce13 u5 rfl rfl rfl rfl rfl rfl rfl rfl) rfl (Xa (ix_q' A12 u25 z5 hg13.1 hg13.2 ia13 rfl) rfl (Xa (Xm rfl) rfl (Xa (Xn w0_0 rfl) rfl Xg)))))))) (by kernel_rfl) (by decide) (Xc rfl (dn (cd rfl (fun h24 => ?_) (fun h24 => ?_))))
  ·
   exact sr (Xc rfl (dn (sgi (re rfl func38 rfl (Xs rfl Xe) rfl ⟨_, rfl, rfl, z.ky K11⟩))))
  exact sk (ib (rg (Xc rfl (Xc rfl (Xc rfl (dn (lb ih4 ⟨s8, _, rfl, (ue (ue (ue rfl rfl) rfl) rfl), K11⟩)))))))
 exact xt rfl (sgb (sr (Xc rfl (dn (re rfl func38 rfl (Xs rfl Xe) rfl ⟨_, rfl, rfl, z.ky Kx4⟩)))))
def laws_eqByteSS.b0 (a0 : (List (List Int))) (a1 : (List (List Int))) (x4 : Int) : Option (Int ⊕ Bool) :=
 (if (decide (x4 < (a0.length : Int))) = true then (if 0 ≤ x4 ∧ x4 < (a0.length : Int) then (if 0 ≤ x4 ∧ x4 < (a1.length : Int) then ((laws_eqByteS.f (at_ a0 x4) (at_ a1 x4)).bind fun r26 => (if (!r26) = true then (some (Sum.inr false)) else (some (Sum.inl (IntKind.wrap .i64 (x4 + (1 : Int))))))) else none) else none) else ((some true).bind fun o => some (Sum.inr o)))
def laws_eqByteSS.f (a0 : (List (List Int))) (a1 : (List (List Int))) : Option (Bool) :=
 (if ((a0.length : Int) != (a1.length : Int)) = true then (some false) else (iter (laws_eqByteSS.b0 a0 a1) (0 : Int)))
def laws_eqByteSS.Q (w : World) (F : Nat → Prop) (r : Bool) (v : Value) (w' : World) : Prop :=
 v = (.bool r) ∧ Ky [] w w'
theorem laws_eqByteSS.calls (a0 : (List (List Int))) (a1 : (List (List Int))) (w : World) (F : Nat → Prop) (w0_0 : Value) (w1_0 : Value) (h0_0 : (Kd.sl 25 Yo).rd w [w0_0] a0 F) (h1_0 : (Kd.sl 25 Yo).rd w [w1_0] a1 F) (r : Bool) (m : laws_eqByteSS.f a0 a1 = some r) :
  Calls prog 97 #[w0_0, w1_0] w (RT (laws_eqByteSS.Q w F) r) := by
 obtain ⟨s0, rfl, kp0, z⟩ := Xk w F
 have A0_0 := z.rd h0_0
 have A1_0 := z.rd h1_0
 refine Xd (args := [w0_0, w1_0]) func97 ntmps97 rfl rfl m ?_
 unfold laws_eqByteSS.f
 refine sr (Xc rfl (dn (sq (sr (Xx w0_0 rfl (Yl A0_0 u57 rfl (Xx w1_0 rfl (Yl A1_0 u57 rfl (Xc rfl (dn (cd rfl (fun h3 => ?_) (fun h3 => ?_))))))))))))
 ·
  exact sr (Xc rfl (dn (re rfl func97 rfl (Xs rfl Xe) rfl ⟨_, rfl, rfl, z.ky kp0⟩)))
 refine sk (sq (sr (Xc rfl (dn (bl (lpI (fun (x4 : Int) e w => ∃ (s : St) (e0 : Env), w = s.w ∧ e = upd (upd (upd e0 0 w0_0) 1 w1_0) 5 (iI x4) ∧ Kp s0 s) ⟨s0, _, rfl, (ue (ue (ue rfl rfl) rfl) rfl), kp0⟩ (fun g4 ih4 => ?_)))))))
 rintro x4 _ _ ⟨s5, _, rfl, rfl, Kx4⟩
 unfold laws_eqByteSS.b0
 refine sq (sr (Xc rfl (Xx w0_0 rfl ?_)))
 refine Yl (A0_0.kp Kx4) u57 rfl (Xc rfl (dn (cd rfl (fun h7 => ?_) (fun h7 => ?_))))
 ·
  refine sk (sq (bl (sq (zdraw [[], [], [0, 1], [2], [], [], [4, 5], [6], [3, 7], [8]] [some 17, some 18, some 19, some 20, some 21, some 22, some 23, some 24, some 25, some 26] [[0], [5], [17, 18], [19], [1], [5], [21, 22], [23], [20, 24], [25]] [0, 1, 2, 3, 4, 5, 6, 7, 8, 9] ⟨by kernel_rfl, by kernel_rfl, by kernel_rfl⟩ (by kernel_rfl) (fun s8 p8 l8 tb8 zd8 => ?_)))))
  have K11 := Kx4.st p8 rfl
  have A12 := A0_0.kp K11
  refine mg fun hg13 => ?_
  obtain ⟨ad13, es13, he13, ce13, ia13⟩ := ix_e A12 rfl hg13.1 hg13.2
  obtain ⟨v13, rfl, he13'⟩ := he13
  have A13 : RdF Yo s8 [v13] (at_ a0 x4) [0] := ⟨v13, rfl, he13'⟩
  have A20 := A1_0.kp K11
  refine mg fun hg21 => ?_
  obtain ⟨ad21, es21, he21, ce21, ia21⟩ := ix_e A20 rfl hg21.1 hg21.2
  obtain ⟨v21, rfl, he21'⟩ := he21
  have A21 : RdF Yo s8 [v21] (at_ a1 x4) [0] := ⟨v21, rfl, he21'⟩
  refine zfin [8, 9] tb8 ((((((((zd8.add 0 17 w0_0 rfl).add 1 18 (iI x4) rfl).add 2 19 (.pointer (some ad13)) rfl).add 3 20 v13 rfl).add 4 21 w1_0 rfl).add 5 22 (iI x4) rfl).add 6 23 (.pointer (some ad21)) rfl).add 7 24 v21 rfl) (Xa (lc0_q ce21 u25 rfl rfl rfl rfl rfl rfl rfl rfl) rfl (Xa (ix_q' A20 u57 z25 hg21.1 hg21.2 ia21 rfl) rfl (Xa (Xm rfl) rfl (Xa (Xn w1_0 rfl) rfl (Xa (lc0_q ce13 u25 rfl rfl rfl rfl rfl rfl rfl rfl) rfl (Xa (ix_q' A12 u57 z25 hg13.1 hg13.2 ia13 rfl) rfl (Xa (Xm rfl) rfl (Xa (Xn w0_0 rfl) rfl Xg)))))))) (by kernel_rfl) (by decide) (Ym 40 rfl func38 rfl (laws_eqByteS.calls (at_ a0 x4) (at_ a1 x4) s8.w (mm [0] s8) v13 v21 A13 A21) (fun r26 s27 p27 n27 => ?_))
  refine Xc rfl (dn (cd rfl (fun h28 => ?_) (fun h28 => ?_)))
  ·
   refine sr (Xc rfl (dn (sgi ?_)))
   exact re rfl func97 rfl (Xs rfl Xe) rfl ⟨_, rfl, rfl, z.ky (K11.st p27 rfl)⟩
  refine sk (ib (rg (Xc rfl (Xc rfl (Xc rfl (dn ?_))))))
  exact lb ih4 ⟨s27, _, rfl, (ue (ue (ue rfl rfl) rfl) rfl), (K11.st p27 rfl)⟩
 exact xt rfl (sgb (sr (Xc rfl (dn (re rfl func97 rfl (Xs rfl Xe) rfl ⟨_, rfl, rfl, z.ky Kx4⟩)))))
def laws_eqPage.f (a0 : Page) (a1 : Page) : Option (Bool) :=
 (if (a0.Lsn != a1.Lsn) = true then (some false) else ((laws_eqByteSS.f a0.Slots a1.Slots).bind fun r13 => (if (!r13) = true then (some false) else (some true))))
def laws_eqPage.Q (w : World) (F : Nat → Prop) (r : Bool) (v : Value) (w' : World) : Prop :=
 v = (.bool r) ∧ Ky [] w w'
theorem laws_eqPage.calls (a0 : Page) (a1 : Page) (w : World) (F : Nat → Prop) (w0_0 : Value) (w1_0 : Value) (h0_0 : (Kd.sl 25 Yo).rd w [w0_0] a0.Slots F) (h1_0 : (Kd.sl 25 Yo).rd w [w1_0] a1.Slots F) (r : Bool) (m : laws_eqPage.f a0 a1 = some r) :
  Calls prog 70 #[(.agg #[(iI a0.Lsn), w0_0]), (.agg #[(iI a1.Lsn), w1_0])] w (RT (laws_eqPage.Q w F) r) := by
 obtain ⟨s0, rfl, kp0, z⟩ := Xk w F
 refine Xd (args := [(.agg #[(iI a0.Lsn), w0_0]), (.agg #[(iI a1.Lsn), w1_0])]) func70 ntmps70 rfl rfl m ?_
 unfold laws_eqPage.f
 refine sr (bx' (cs := [(iI a0.Lsn), w0_0]) 40 rfl rfl (fun b3 s3 p3 B3 => ?_))
 refine bx' (cs := [(iI a1.Lsn), w1_0]) 41 rfl rfl (fun b5 s5 p5 B5 => ?_)
 refine Xc rfl (dn (sq (sr (Xt fa59_0 rfl ?_))))
 have A7 := B3.st p5 rfl
 refine Yb A7 u3 rfl (Xt fa59_0 rfl (Yb B5 u3 rfl (Xc rfl (dn (cd rfl (fun h8 => ?_) (fun h8 => ?_))))))
 ·
  refine sr (Xc rfl (dn ?_))
  exact re rfl func70 rfl (Xs rfl Xe) rfl ⟨_, rfl, rfl, z.ky (kp0.st (Xq p3 p5) rfl)⟩
 refine sk (sq (sr (Xt fa59_1 rfl (Yb A7 u57 rfl (Xt fa59_1 rfl (Yb B5 u57 rfl ?_))))))
 have K10 := kp0.st (Xq p3 p5) rfl
 refine Ym 42 rfl func97 rfl (laws_eqByteSS.calls a0.Slots a1.Slots s5.w (mm [0] s5) w0_0 w1_0 ((z.rd h0_0).kp K10) ((z.rd h1_0).kp K10)) (fun r13 s14 p14 n14 => ?_)
 refine Xc rfl (dn (cd rfl (fun h15 => ?_) (fun h15 => ?_)))
 ·
  refine sr (Xc rfl (dn ?_))
  exact re rfl func70 rfl (Xs rfl Xe) rfl ⟨_, rfl, rfl, z.ky (K10.st p14 rfl)⟩
 refine sk (sr (Xc rfl (dn ?_)))
 exact re rfl func70 rfl (Xs rfl Xe) rfl ⟨_, rfl, rfl, z.ky (K10.st p14 rfl)⟩
def laws_eqPageS.b0 (a0 : (List Page)) (a1 : (List Page)) (x4 : Int) : Option (Int ⊕ Bool) :=
 (if (decide (x4 < (a0.length : Int))) = true then (if 0 ≤ x4 ∧ x4 < (a0.length : Int) then (if 0 ≤ x4 ∧ x4 < (a1.length : Int) then ((laws_eqPage.f (at_ a0 x4) (at_ a1 x4)).bind fun r26 => (if (!r26) = true then (some (Sum.inr false)) else (some (Sum.inl (IntKind.wrap .i64 (x4 + (1 : Int))))))) else none) else none) else ((some true).bind fun o => some (Sum.inr o)))
def laws_eqPageS.f (a0 : (List Page)) (a1 : (List Page)) : Option (Bool) :=
 (if ((a0.length : Int) != (a1.length : Int)) = true then (some false) else (iter (laws_eqPageS.b0 a0 a1) (0 : Int)))
def laws_eqPageS.Q (w : World) (F : Nat → Prop) (r : Bool) (v : Value) (w' : World) : Prop :=
 v = (.bool r) ∧ Ky [] w w'
theorem laws_eqPageS.calls (a0 : (List Page)) (a1 : (List Page)) (w : World) (F : Nat → Prop) (w0_0 : Value) (w1_0 : Value) (h0_0 : Yp.rd w [w0_0] a0 F) (h1_0 : Yp.rd w [w1_0] a1 F) (r : Bool) (m : laws_eqPageS.f a0 a1 = some r) :
  Calls prog 37 #[w0_0, w1_0] w (RT (laws_eqPageS.Q w F) r) := by
 obtain ⟨s0, rfl, kp0, z⟩ := Xk w F
 have A0_0 := z.rd h0_0
 have A1_0 := z.rd h1_0
 refine Xd (args := [w0_0, w1_0]) func37 ntmps37 rfl rfl m ?_
 unfold laws_eqPageS.f
 refine sr (Xc rfl (dn (sq (sr (Xx w0_0 rfl (Yl A0_0 u30 rfl (Xx w1_0 rfl (Yl A1_0 u30 rfl (Xc rfl (dn (cd rfl (fun h3 => ?_) (fun h3 => ?_))))))))))))
 ·
  exact sr (Xc rfl (dn (re rfl func37 rfl (Xs rfl Xe) rfl ⟨_, rfl, rfl, z.ky kp0⟩)))
 refine sk (sq (sr (Xc rfl (dn (bl (lpI (fun (x4 : Int) e w => ∃ (s : St) (e0 : Env), w = s.w ∧ e = upd (upd (upd e0 0 w0_0) 1 w1_0) 5 (iI x4) ∧ Kp s0 s) ⟨s0, _, rfl, (ue (ue (ue rfl rfl) rfl) rfl), kp0⟩ (fun g4 ih4 => ?_)))))))
 rintro x4 _ _ ⟨s5, _, rfl, rfl, Kx4⟩
 unfold laws_eqPageS.b0
 refine sq (sr (Xc rfl (Xx w0_0 rfl ?_)))
 refine Yl (A0_0.kp Kx4) u30 rfl (Xc rfl (dn (cd rfl (fun h7 => ?_) (fun h7 => ?_))))
 ·
  refine sk (sq (bl (sq (zdraw [[], [], [0, 1], [2], [], [], [4, 5], [6], [3, 7], [8]] [some 17, some 18, some 19, some 20, some 21, some 22, some 23, some 24, some 25, some 26] [[0], [5], [17, 18], [19], [1], [5], [21, 22], [23], [20, 24], [25]] [0, 1, 2, 3, 4, 5, 6, 7, 8, 9] ⟨by kernel_rfl, by kernel_rfl, by kernel_rfl⟩ (by kernel_rfl) (fun s8 p8 l8 tb8 zd8 => ?_)))))
  have K11 := Kx4.st p8 rfl
  have A12 := A0_0.kp K11
  refine mg fun hg13 => ?_
  obtain ⟨ad13, es13, he13, ce13, ia13⟩ := ix_e A12 rfl hg13.1 hg13.2
  obtain ⟨v13_0, rfl, A13_0⟩ := op59 he13
  have A20 := A1_0.kp K11
  refine mg fun hg21 => ?_
  obtain ⟨ad21, es21, he21, ce21, ia21⟩ := ix_e A20 rfl hg21.1 hg21.2
  obtain ⟨v21_0, rfl, A21_0⟩ := op59 he21
  refine zfin [8, 9] tb8 ((((((((zd8.add 0 17 w0_0 rfl).add 1 18 (iI x4) rfl).add 2 19 (.pointer (some ad13)) rfl).add 3 20 (.agg #[(iI ((at_ a0 x4).Lsn)), v13_0]) rfl).add 4 21 w1_0 rfl).add 5 22 (iI x4) rfl).add 6 23 (.pointer (some ad21)) rfl).add 7 24 (.agg #[(iI ((at_ a1 x4).Lsn)), v21_0]) rfl) (Xa (lca_q ce21 u59 z59 rfl rfl rfl rfl rfl rfl rfl) rfl (Xa (ix_q' A20 u30 z59 hg21.1 hg21.2 ia21 rfl) rfl (Xa (Xm rfl) rfl (Xa (Xn w1_0 rfl) rfl (Xa (lca_q ce13 u59 z59 rfl rfl rfl rfl rfl rfl rfl) rfl (Xa (ix_q' A12 u30 z59 hg13.1 hg13.2 ia13 rfl) rfl (Xa (Xm rfl) rfl (Xa (Xn w0_0 rfl) rfl Xg)))))))) (by kernel_rfl) (by decide) (Ym 40 rfl func70 rfl (laws_eqPage.calls (at_ a0 x4) (at_ a1 x4) s8.w (mm [0] s8) v13_0 v21_0 A13_0 A21_0) (fun r26 s27 p27 n27 => ?_))
  refine Xc rfl (dn (cd rfl (fun h28 => ?_) (fun h28 => ?_)))
  ·
   refine sr (Xc rfl (dn (sgi ?_)))
   exact re rfl func37 rfl (Xs rfl Xe) rfl ⟨_, rfl, rfl, z.ky (K11.st p27 rfl)⟩
  refine sk (ib (rg (Xc rfl (Xc rfl (Xc rfl (dn ?_))))))
  exact lb ih4 ⟨s27, _, rfl, (ue (ue (ue rfl rfl) rfl) rfl), (K11.st p27 rfl)⟩
 exact xt rfl (sgb (sr (Xc rfl (dn (re rfl func37 rfl (Xs rfl Xe) rfl ⟨_, rfl, rfl, z.ky Kx4⟩)))))
def laws_eqHeap.f (a0 : Heap) (a1 : Heap) : Option (Bool) :=
 ((laws_eqPageS.f a0.Pages a1.Pages).bind fun r11 => (if (!r11) = true then (some false) else (some true)))
def laws_eqHeap.Q (w : World) (F : Nat → Prop) (r : Bool) (v : Value) (w' : World) : Prop :=
 v = (.bool r) ∧ Ky [] w w'
theorem laws_eqHeap.calls (a0 : Heap) (a1 : Heap) (w : World) (F : Nat → Prop) (w0_0 : Value) (w1_0 : Value) (h0_0 : Yp.rd w [w0_0] a0.Pages F) (h1_0 : Yp.rd w [w1_0] a1.Pages F) (r : Bool) (m : laws_eqHeap.f a0 a1 = some r) :
  Calls prog 11 #[(.agg #[w0_0]), (.agg #[w1_0])] w (RT (laws_eqHeap.Q w F) r) := by
 obtain ⟨s0, rfl, kp0, z⟩ := Xk w F
 refine Xd (args := [(.agg #[w0_0]), (.agg #[w1_0])]) func11 ntmps11 rfl rfl m ?_
 unfold laws_eqHeap.f
 refine sr (bx' (cs := [w0_0]) 40 rfl rfl (fun b3 s3 p3 B3 => ?_))
 refine bx' (cs := [w1_0]) 41 rfl rfl (fun b5 s5 p5 B5 => ?_)
 refine Xc rfl (dn (sq (sr (Xt fa32_0 rfl ?_))))
 refine Yb (B3.st p5 rfl) u30 rfl (Xt fa32_0 rfl (Yb B5 u30 rfl ?_))
 have K8 := kp0.st (Xq p3 p5) rfl
 refine Ym 42 rfl func37 rfl (laws_eqPageS.calls a0.Pages a1.Pages s5.w (mm [0] s5) w0_0 w1_0 ((z.rd h0_0).kp K8) ((z.rd h1_0).kp K8)) (fun r11 s12 p12 n12 => ?_)
 refine Xc rfl (dn (cd rfl (fun h13 => ?_) (fun h13 => ?_)))
 ·
  refine sr (Xc rfl (dn ?_))
  exact re rfl func11 rfl (Xs rfl Xe) rfl ⟨_, rfl, rfl, z.ky (K8.st p12 rfl)⟩
 refine sk (sr (Xc rfl (dn ?_)))
 exact re rfl func11 rfl (Xs rfl Xe) rfl ⟨_, rfl, rfl, z.ky (K8.st p12 rfl)⟩
def laws_eqRecord.f (a0 : Record) (a1 : Record) : Option (Bool) :=
 (if (a0.Kind != a1.Kind) = true then (some false) else (if (a0.Lsn != a1.Lsn) = true then (some false) else (if (a0.Xid != a1.Xid) = true then (some false) else (if (a0.Page != a1.Page) = true then (some false) else (if (a0.Slot != a1.Slot) = true then (some false) else ((laws_eqByteS.f a0.Data a1.Data).bind fun r21 => (if (!r21) = true then (some false) else (some true))))))))
def laws_eqRecord.Q (w : World) (F : Nat → Prop) (r : Bool) (v : Value) (w' : World) : Prop :=
 v = (.bool r) ∧ Ky [] w w'
theorem laws_eqRecord.calls (a0 : Record) (a1 : Record) (w : World) (F : Nat → Prop) (w0_0 : Value) (w1_0 : Value) (h0_0 : Yo.rd w [w0_0] a0.Data F) (h1_0 : Yo.rd w [w1_0] a1.Data F) (r : Bool) (m : laws_eqRecord.f a0 a1 = some r) :
  Calls prog 12 #[(.agg #[(iI a0.Kind), (iI a0.Lsn), (iI a0.Xid), (iI a0.Page), (iI a0.Slot), w0_0]), (.agg #[(iI a1.Kind), (iI a1.Lsn), (iI a1.Xid), (iI a1.Page), (iI a1.Slot), w1_0])] w (RT (laws_eqRecord.Q w F) r) := by
 obtain ⟨s0, rfl, kp0, z⟩ := Xk w F
 refine Xd (args := [(.agg #[(iI a0.Kind), (iI a0.Lsn), (iI a0.Xid), (iI a0.Page), (iI a0.Slot), w0_0]), (.agg #[(iI a1.Kind), (iI a1.Lsn), (iI a1.Xid), (iI a1.Page), (iI a1.Slot), w1_0])]) func12 ntmps12 rfl rfl m ?_
 unfold laws_eqRecord.f
 refine sr (bx' (cs := [(iI a0.Kind), (iI a0.Lsn), (iI a0.Xid), (iI a0.Page), (iI a0.Slot), w0_0]) 40 rfl rfl (fun b3 s3 p3 B3 => ?_))
 refine bx' (cs := [(iI a1.Kind), (iI a1.Lsn), (iI a1.Xid), (iI a1.Page), (iI a1.Slot), w1_0]) 41 rfl rfl (fun b5 s5 p5 B5 => ?_)
 refine Xc rfl (dn (sq (sr (Xt fa36_0 rfl ?_))))
 have A7 := B3.st p5 rfl
 refine Yb A7 u3 rfl (Xt fa36_0 rfl (Yb B5 u3 rfl (Xc rfl (dn (cd rfl (fun h8 => ?_) (fun h8 => ?_))))))
 ·
  refine sr (Xc rfl (dn ?_))
  exact re rfl func12 rfl (Xs rfl Xe) rfl ⟨_, rfl, rfl, z.ky (kp0.st (Xq p3 p5) rfl)⟩
 refine sk (sq (sr (Xt fa36_1 rfl (Yb A7 u3 rfl (Xt fa36_1 rfl (Yb B5 u3 rfl (Xc rfl (dn (cd rfl (fun h10 => ?_) (fun h10 => ?_))))))))))
 ·
  refine sr (Xc rfl (dn ?_))
  exact re rfl func12 rfl (Xs rfl Xe) rfl ⟨_, rfl, rfl, z.ky (kp0.st (Xq p3 p5) rfl)⟩
 refine sk (sq (sr (Xt fa36_2 rfl (Yb A7 u3 rfl (Xt fa36_2 rfl (Yb B5 u3 rfl (Xc rfl (dn (cd rfl (fun h12 => ?_) (fun h12 => ?_))))))))))
 ·
  refine sr (Xc rfl (dn ?_))
  exact re rfl func12 rfl (Xs rfl Xe) rfl ⟨_, rfl, rfl, z.ky (kp0.st (Xq p3 p5) rfl)⟩
 refine sk (sq (sr (Xt fa36_3 rfl (Yb A7 u3 rfl (Xt fa36_3 rfl (Yb B5 u3 rfl (Xc rfl (dn (cd rfl (fun h14 => ?_) (fun h14 => ?_))))))))))
 ·
  refine sr (Xc rfl (dn ?_))
  exact re rfl func12 rfl (Xs rfl Xe) rfl ⟨_, rfl, rfl, z.ky (kp0.st (Xq p3 p5) rfl)⟩
 refine sk (sq (sr (Xt fa36_4 rfl (Yb A7 u3 rfl (Xt fa36_4 rfl (Yb B5 u3 rfl (Xc rfl (dn (cd rfl (fun h16 => ?_) (fun h16 => ?_))))))))))
 ·
  refine sr (Xc rfl (dn ?_))
  exact re rfl func12 rfl (Xs rfl Xe) rfl ⟨_, rfl, rfl, z.ky (kp0.st (Xq p3 p5) rfl)⟩
 refine sk (sq (sr (Xt fa36_5 rfl (Yb A7 u25 rfl (Xt fa36_5 rfl (Yb B5 u25 rfl ?_))))))
 have K18 := kp0.st (Xq p3 p5) rfl
 refine Ym 42 rfl func38 rfl (laws_eqByteS.calls a0.Data a1.Data s5.w (mm [0] s5) w0_0 w1_0 ((z.rd h0_0).kp K18) ((z.rd h1_0).kp K18)) (fun r21 s22 p22 n22 => ?_)
 refine Xc rfl (dn (cd rfl (fun h23 => ?_) (fun h23 => ?_)))
 ·
  refine sr (Xc rfl (dn ?_))
  exact re rfl func12 rfl (Xs rfl Xe) rfl ⟨_, rfl, rfl, z.ky (K18.st p22 rfl)⟩
 refine sk (sr (Xc rfl (dn ?_)))
 exact re rfl func12 rfl (Xs rfl Xe) rfl ⟨_, rfl, rfl, z.ky (K18.st p22 rfl)⟩
def laws_markByteS.b0  (x2 : (List Int) × Int × Int) : Option (((List Int) × Int × Int) ⊕ (Int × (List Int))) :=
 (if (decide (x2.2.2 < (x2.1.length : Int))) = true then (if 0 ≤ x2.2.2 ∧ x2.2.2 < (x2.1.length : Int) then (some (Sum.inl ((x2.1.set (x2.2.2).toNat (IntKind.wrap .u8 x2.2.1)), (IntKind.wrap .i64 (x2.2.1 + (1 : Int))), (IntKind.wrap .i64 (x2.2.2 + (1 : Int)))))) else none) else ((some (x2.2.1, x2.1)).bind fun o => some (Sum.inr o)))
def laws_markByteS.f (a0 : (List Int)) (a1 : Int) : Option (Int × (List Int)) :=
 (iter laws_markByteS.b0 (a0, a1, (0 : Int)))
def laws_markByteS.Q (w : World) (F : Nat → Prop) (os : List Nat) (w0_0 : Value) (r : Int × (List Int)) (v : Value) (w' : World) : Prop :=
 v = (iI r.1) ∧ FW Yo os w w' [w0_0] r.2 ∧ Ky os w w'
theorem laws_markByteS.calls (a0 : (List Int)) (a1 : Int) (w : World) (F : Nat → Prop) (w0_0 : Value) (os : List Nat) (h0_0 : Yo.ow w [w0_0] a0 os) (hn : os.Nodup) (hF : ∀ b, F b → b ∉ os) (r : Int × (List Int)) (m : laws_markByteS.f a0 a1 = some r) :
  Calls prog 40 #[w0_0, (iI a1)] w (RT (laws_markByteS.Q w F os w0_0) r) := by
 obtain ⟨s0, rfl, kp0, z⟩ := start1 w F os hF
 refine Xd (args := [w0_0, (iI a1)]) func40 ntmps40 rfl rfl m ?_
 unfold laws_markByteS.f
 refine sr (Xc rfl (dn (sq (sr (Xc rfl (dn (bl (lpI (fun (x2 : (List Int) × Int × Int) e w => ∃ (s : St) (e0 : Env), w = s.w ∧ e = upd (upd (upd e0 0 w0_0) 1 (iI x2.2.1)) 5 (iI x2.2.2) ∧ Kp s0 s ∧ OwF Yo s [w0_0] x2.1 2) ⟨s0, _, rfl, (ue (ue (ue rfl rfl) rfl) rfl), kp0, (z.ow h0_0 hn)⟩ (fun g2 ih2 => ?_)))))))))
 rintro x2 _ _ ⟨s3, _, rfl, rfl, Kx2, Ax2_0⟩
 unfold laws_markByteS.b0
 refine sq (sr (Xc rfl (Xx w0_0 rfl (Yl Ax2_0.rd u25 rfl (Xc rfl (dn (cd rfl (fun h5 => ?_) (fun h5 => ?_))))))))
 ·
  refine sk (sq (bl (sr (Xx w0_0 rfl (Xc rfl (Xc rfl (cv' u5 u3 rfl (ix' Ax2_0.rd u25 z5 rfl (fun ad6 es6 h0_6 h1_6 he6 ce6 ia6 => ?_)))))))))
  obtain rfl := he6
  refine so (x' := (IntKind.wrap .u8 x2.2.1)) Ax2_0 ia6 h0_6 h1_6 cs_flat z5 rfl rfl rfl rfl rfl rfl (fun s8 p8 A8 => ?_)
  refine dn (rg (Xc rfl (Xc rfl (Xc rfl (dn (ib (rg (Xc rfl (Xc rfl (Xc rfl (dn ?_)))))))))))
  exact lb ih2 ⟨s8, _, rfl, (ue (ue (ue rfl rfl) rfl) rfl), (Kx2.st p8 rfl), A8⟩
 exact xt rfl (sgb (sr (Xc rfl (Xc rfl (dn (re rfl func40 rfl (Xs rfl Xe) rfl ⟨_, rfl, rfl, z.fw Kx2 Ax2_0, z.ky Kx2⟩))))))
def laws_markByteSS.b0  (x2 : (List (List Int)) × Int × Int) : Option (((List (List Int)) × Int × Int) ⊕ (Int × (List (List Int)))) :=
 (if (decide (x2.2.2 < (x2.1.length : Int))) = true then (if 0 ≤ x2.2.2 ∧ x2.2.2 < (x2.1.length : Int) then ((laws_markByteS.f (at_ x2.1 x2.2.2) x2.2.1).bind fun r9 => (some (Sum.inl ((x2.1.set (x2.2.2).toNat r9.2), r9.1, (IntKind.wrap .i64 (x2.2.2 + (1 : Int))))))) else none) else ((some (x2.2.1, x2.1)).bind fun o => some (Sum.inr o)))
def laws_markByteSS.f (a0 : (List (List Int))) (a1 : Int) : Option (Int × (List (List Int))) :=
 (iter laws_markByteSS.b0 (a0, a1, (0 : Int)))
def laws_markByteSS.Q (w : World) (F : Nat → Prop) (os : List Nat) (w0_0 : Value) (r : Int × (List (List Int))) (v : Value) (w' : World) : Prop :=
 v = (iI r.1) ∧ FW (Kd.sl 25 Yo) os w w' [w0_0] r.2 ∧ Ky os w w'
theorem laws_markByteSS.calls (a0 : (List (List Int))) (a1 : Int) (w : World) (F : Nat → Prop) (w0_0 : Value) (os : List Nat) (h0_0 : (Kd.sl 25 Yo).ow w [w0_0] a0 os) (hn : os.Nodup) (hF : ∀ b, F b → b ∉ os) (r : Int × (List (List Int))) (m : laws_markByteSS.f a0 a1 = some r) :
  Calls prog 71 #[w0_0, (iI a1)] w (RT (laws_markByteSS.Q w F os w0_0) r) := by
 obtain ⟨s0, rfl, kp0, z⟩ := start1 w F os hF
 refine Xd (args := [w0_0, (iI a1)]) func71 ntmps71 rfl rfl m ?_
 unfold laws_markByteSS.f
 refine sr (Xc rfl (dn (sq (sr (Xc rfl (dn (bl (lpI (fun (x2 : (List (List Int)) × Int × Int) e w => ∃ (s : St) (e0 : Env), w = s.w ∧ e = upd (upd (upd e0 0 w0_0) 1 (iI x2.2.1)) 5 (iI x2.2.2) ∧ Kp s0 s ∧ OwF (Kd.sl 25 Yo) s [w0_0] x2.1 2) ⟨s0, _, rfl, (ue (ue (ue rfl rfl) rfl) rfl), kp0, (z.ow h0_0 hn)⟩ (fun g2 ih2 => ?_)))))))))
 rintro x2 _ _ ⟨s3, _, rfl, rfl, Kx2, Ax2_0⟩
 unfold laws_markByteSS.b0
 refine sq (sr (Xc rfl (Xx w0_0 rfl (Yl Ax2_0.rd u57 rfl (Xc rfl (dn (cd rfl (fun h5 => ?_) (fun h5 => ?_))))))))
 ·
  refine sk (sq (bl (rg (Xx w0_0 rfl (Xc rfl (ix' Ax2_0.rd u57 z25 rfl (fun ad6 es6 h0_6 h1_6 he6 ce6 ia6 => ?_)))))))
  obtain ⟨v6, rfl, he6'⟩ := he6
  have A6 : RdF Yo s3 [v6] (at_ x2.1 x2.2.2) [2] := ⟨v6, rfl, he6'⟩
  refine lc0' ce6 u25 rfl (Xc rfl ?_)
  obtain ⟨os9, ho9, hn9, hc9, put9⟩ := focus ln_sl Ax2_0 h0_6 h1_6 ia6 ce6 rfl rfl
  refine cl' rfl func40 rfl (laws_markByteS.calls (at_ x2.1 x2.2.2) x2.2.1 s3.w (mm [] s3) v6 os9 ho9 hn9 (apart_of hc9 rfl)) ?_
  rintro r9 _ w9 m9 ⟨rfl, w9_, ky9⟩
  obtain ⟨s10, rfl, p10, A10⟩ := put9 w9 _ 40 ky9 w9_
  refine Xc rfl (dn (ib (rg (Xc rfl (Xc rfl (Xc rfl (dn ?_)))))))
  exact lb ih2 ⟨s10, _, rfl, (ue (ue (ue rfl rfl) rfl) rfl), (Kx2.st p10 rfl), A10⟩
 exact xt rfl (sgb (sr (Xc rfl (Xc rfl (dn (re rfl func71 rfl (Xs rfl Xe) rfl ⟨_, rfl, rfl, z.fw Kx2 Ax2_0, z.ky Kx2⟩))))))
def laws_markPageS.b0  (x2 : (List Page) × Int × Int) : Option (((List Page) × Int × Int) ⊕ (Int × (List Page))) :=
 (if (decide (x2.2.2 < (x2.1.length : Int))) = true then (if 0 ≤ x2.2.2 ∧ x2.2.2 < (x2.1.length : Int) then (if 0 ≤ x2.2.2 ∧ x2.2.2 < ((x2.1.set (x2.2.2).toNat (Page.mk x2.2.1 (at_ x2.1 x2.2.2).Slots)).length : Int) then ((laws_markByteSS.f ((at_ (x2.1.set (x2.2.2).toNat (Page.mk x2.2.1 (at_ x2.1 x2.2.2).Slots)) x2.2.2).Slots) (IntKind.wrap .i64 (x2.2.1 + (1 : Int)))).bind fun r14 => ((some ((x2.1.set (x2.2.2).toNat (Page.mk x2.2.1 (at_ x2.1 x2.2.2).Slots)).set (x2.2.2).toNat (Page.mk (at_ (x2.1.set (x2.2.2).toNat (Page.mk x2.2.1 (at_ x2.1 x2.2.2).Slots)) x2.2.2).Lsn r14.2))).bind fun y17 => (some (Sum.inl (y17, r14.1, (IntKind.wrap .i64 (x2.2.2 + (1 : Int)))))))) else none) else none) else ((some (x2.2.1, x2.1)).bind fun o => some (Sum.inr o)))
def laws_markPageS.f (a0 : (List Page)) (a1 : Int) : Option (Int × (List Page)) :=
 (iter laws_markPageS.b0 (a0, a1, (0 : Int)))
def laws_markPageS.Q (w : World) (F : Nat → Prop) (os : List Nat) (w0_0 : Value) (r : Int × (List Page)) (v : Value) (w' : World) : Prop :=
 v = (iI r.1) ∧ FW Yp os w w' [w0_0] r.2 ∧ Ky os w w'
theorem laws_markPageS.calls (a0 : (List Page)) (a1 : Int) (w : World) (F : Nat → Prop) (w0_0 : Value) (os : List Nat) (h0_0 : Yp.ow w [w0_0] a0 os) (hn : os.Nodup) (hF : ∀ b, F b → b ∉ os) (r : Int × (List Page)) (m : laws_markPageS.f a0 a1 = some r) :
  Calls prog 39 #[w0_0, (iI a1)] w (RT (laws_markPageS.Q w F os w0_0) r) := by
 obtain ⟨s0, rfl, kp0, z⟩ := start1 w F os hF
 refine Xd (args := [w0_0, (iI a1)]) func39 ntmps39 rfl rfl m ?_
 unfold laws_markPageS.f
 refine sr (Xc rfl (dn (sq (sr (Xc rfl (dn (bl (lpI (fun (x2 : (List Page) × Int × Int) e w => ∃ (s : St) (e0 : Env), w = s.w ∧ e = upd (upd (upd e0 0 w0_0) 1 (iI x2.2.1)) 5 (iI x2.2.2) ∧ Kp s0 s ∧ OwF Yp s [w0_0] x2.1 2) ⟨s0, _, rfl, (ue (ue (ue rfl rfl) rfl) rfl), kp0, (z.ow h0_0 hn)⟩ (fun g2 ih2 => ?_)))))))))
 rintro x2 _ _ ⟨s3, _, rfl, rfl, Kx2, Ax2_0⟩
 unfold laws_markPageS.b0
 refine sq (sr (Xc rfl (Xx w0_0 rfl (Yl Ax2_0.rd u30 rfl (Xc rfl (dn (cd rfl (fun h5 => ?_) (fun h5 => ?_))))))))
 ·
  refine sk (sq (bl (sr (Xx w0_0 rfl (Xc rfl (Xc rfl (ix' Ax2_0.rd u30 z59 rfl (fun ad6 es6 h0_6 h1_6 he6 ce6 ia6 => ?_))))))))
  obtain ⟨v6_0, rfl, A6_0⟩ := op59 he6
  refine Xt fa59_0 rfl (so (x' := (Page.mk x2.2.1 (at_ x2.1 x2.2.2).Slots)) Ax2_0 ia6 h0_6 h1_6 (cs_iso (cs_left cs_flat)) z3 rfl rfl rfl rfl rfl rfl (fun s9 p9 A9 => ?_))
  refine dn (sr (Xc rfl (Xc rfl (Xc rfl (dn (rg (Xx w0_0 rfl (Xc rfl (ix' A9.rd u30 z59 rfl (fun ad11 es11 h0_11 h1_11 he11 ce11 ia11 => ?_))))))))))
  obtain ⟨v11_0, rfl, A11_0⟩ := op59 he11
  refine Xt fa59_1 rfl (lc ce11 u57 rfl rfl rfl rfl rfl rfl rfl rfl (Xc rfl ?_))
  obtain ⟨os14, ho14, hn14, hc14, put14⟩ := focus (ln_iso (fun x : Page => (x.Lsn, x.Slots)) (fun x => x.Slots) (fun x y => (Page.mk x.Lsn y)) (ln_right ln_sl) (fun _ => rfl) (fun _ _ => rfl)) A9 h0_11 h1_11 ia11 ce11 rfl rfl
  refine cl' rfl func71 rfl (laws_markByteSS.calls ((at_ (x2.1.set (x2.2.2).toNat (Page.mk x2.2.1 (at_ x2.1 x2.2.2).Slots)) x2.2.2).Slots) (IntKind.wrap .i64 (x2.2.1 + (1 : Int))) s9.w (mm [] s9) v11_0 os14 ho14 hn14 (apart_of hc14 rfl)) ?_
  rintro r14 _ w14 m14 ⟨rfl, w14_, ky14⟩
  obtain ⟨s15, rfl, p15, A15⟩ := put14 w14 _ 40 ky14 w14_
  refine nb (fun y17 h17 => ?_)
  have A17 : OwF Yp s15 [w0_0] y17 2 := by rw [h17]; exact A15
  refine Xc rfl (dn (ib (rg (Xc rfl (Xc rfl (Xc rfl (dn ?_)))))))
  exact lb ih2 ⟨s15, _, rfl, (ue (ue (ue rfl rfl) rfl) rfl), (Kx2.st (Xq p9 p15) rfl), A17⟩
 exact xt rfl (sgb (sr (Xc rfl (Xc rfl (dn (re rfl func39 rfl (Xs rfl Xe) rfl ⟨_, rfl, rfl, z.fw Kx2 Ax2_0, z.ky Kx2⟩))))))
def laws_markHeap.f (a0 : Heap) (a1 : Int) : Option (Int × (List Page)) :=
 ((laws_markPageS.f a0.Pages a1).bind fun r4 => (some (r4.1, r4.2)))
def laws_markHeap.Q (w : World) (F : Nat → Prop) (os : List Nat) (w0_0 : Value) (r : Int × (List Page)) (v : Value) (w' : World) : Prop :=
 v = (iI r.1) ∧ FW Yp os w w' [w0_0] r.2 ∧ Ky os w w'
theorem laws_markHeap.calls (a0 : Heap) (a1 : Int) (w : World) (F : Nat → Prop) (w0_0 : Value) (os : List Nat) (h0_0 : Yp.ow w [w0_0] a0.Pages os) (hn : os.Nodup) (hF : ∀ b, F b → b ∉ os) (r : Int × (List Page)) (m : laws_markHeap.f a0 a1 = some r) :
  Calls prog 13 #[(.agg #[w0_0]), (iI a1)] w (RT (laws_markHeap.Q w F os w0_0) r) := by
 obtain ⟨s0, rfl, kp0, z⟩ := start1 w F os hF
 refine Xd (args := [(.agg #[w0_0]), (iI a1)]) func13 ntmps13 rfl rfl m ?_
 unfold laws_markHeap.f
 refine sr (bx' (cs := [w0_0]) 40 rfl rfl (fun b2 s2 p2 B2 => ?_))
 refine Xc rfl (dn (sr (Xt fa32_0 rfl (Yb B2 u30 rfl (Xc rfl ?_)))))
 obtain ⟨os4, ho4, hn4, hc4⟩ := (z.ow h0_0 hn).st p2 rfl
 refine cl' rfl func39 rfl (laws_markPageS.calls a0.Pages a1 s2.w (mm [] s2) w0_0 os4 ho4 hn4 (apart_of hc4 rfl)) ?_
 rintro r4 _ w4 m4 ⟨rfl, w4_, ky4⟩
 obtain ⟨s6, rfl, p6, A6⟩ := nwo 41 hc4 ky4 w4_
 refine Xc rfl (dn (sr (Xc rfl (Xc rfl (dn ?_)))))
 have K8 := kp0.st (Xq p2 p6) rfl
 exact re rfl func13 rfl (Xs rfl Xe) rfl ⟨_, rfl, rfl, z.fw K8 A6, z.ky K8⟩
def laws_heldByteS.b0 (a0 : (List Int)) (x2 : Int × Int) : Option ((Int × Int) ⊕ Int) :=
 (if (decide (x2.2 < (a0.length : Int))) = true then (if 0 ≤ x2.2 ∧ x2.2 < (a0.length : Int) then (if ((at_ a0 x2.2) != (IntKind.wrap .u8 x2.1)) = true then (some (Sum.inr (-1 : Int))) else (some (Sum.inl ((IntKind.wrap .i64 (x2.1 + (1 : Int))), (IntKind.wrap .i64 (x2.2 + (1 : Int))))))) else none) else ((some x2.1).bind fun o => some (Sum.inr o)))
def laws_heldByteS.f (a0 : (List Int)) (a1 : Int) : Option (Int) :=
 (iter (laws_heldByteS.b0 a0) (a1, (0 : Int)))
def laws_heldByteS.Q (w : World) (F : Nat → Prop) (r : Int) (v : Value) (w' : World) : Prop :=
 v = (iI r) ∧ Ky [] w w'
theorem laws_heldByteS.calls (a0 : (List Int)) (a1 : Int) (w : World) (F : Nat → Prop) (w0_0 : Value) (h0_0 : Yo.rd w [w0_0] a0 F) (r : Int) (m : laws_heldByteS.f a0 a1 = some r) :
  Calls prog 98 #[w0_0, (iI a1)] w (RT (laws_heldByteS.Q w F) r) := by
 obtain ⟨s0, rfl, kp0, z⟩ := Xk w F
 refine Xd (args := [w0_0, (iI a1)]) func98 ntmps98 rfl rfl m ?_
 unfold laws_heldByteS.f
 refine sr (Xc rfl (dn (sq (sr (Xc rfl (dn (bl (lpI (fun (x2 : Int × Int) e w => ∃ (s : St) (e0 : Env), w = s.w ∧ e = upd (upd (upd e0 0 w0_0) 1 (iI x2.1)) 5 (iI x2.2) ∧ Kp s0 s) ⟨s0, _, rfl, (ue (ue (ue rfl rfl) rfl) rfl), kp0⟩ (fun g2 ih2 => ?_)))))))))
 rintro x2 _ _ ⟨s3, _, rfl, rfl, Kx2⟩
 unfold laws_heldByteS.b0
 refine sq (sr (Xc rfl (Xx w0_0 rfl ?_)))
 have A4 := (z.rd h0_0).kp Kx2
 refine Yl A4 u25 rfl (Xc rfl (dn (cd rfl (fun h5 => ?_) (fun h5 => ?_))))
 ·
  refine sk (sq (bl (sq (sr (Xx w0_0 rfl (Xc rfl (ix' A4 u25 z5 rfl (fun ad6 es6 h0_6 h1_6 he6 ce6 ia6 => ?_))))))))
  obtain rfl := he6
  refine lc0' ce6 u5 rfl (Xc rfl (cv' u5 u3 rfl (Xc rfl (dn (cd rfl (fun h8 => ?_) (fun h8 => ?_))))))
  ·
   exact sr (Xc rfl (dn (sgi (re rfl func98 rfl (Xs rfl Xe) rfl ⟨_, rfl, rfl, z.ky Kx2⟩))))
  exact sk (rg (Xc rfl (Xc rfl (Xc rfl (dn (ib (rg (Xc rfl (Xc rfl (Xc rfl (dn (lb ih2 ⟨s3, _, rfl, (ue (ue (ue rfl rfl) rfl) rfl), Kx2⟩))))))))))))
 exact xt rfl (sgb (sr (Xc rfl (Xc rfl (dn (re rfl func98 rfl (Xs rfl Xe) rfl ⟨_, rfl, rfl, z.ky Kx2⟩))))))
def laws_heldByteSS.b0 (a0 : (List (List Int))) (x2 : Int × Int) : Option ((Int × Int) ⊕ Int) :=
 (if (decide (x2.2 < (a0.length : Int))) = true then (if 0 ≤ x2.2 ∧ x2.2 < (a0.length : Int) then ((laws_heldByteS.f (at_ a0 x2.2) x2.1).bind fun r9 => (if (decide (r9 < (0 : Int))) = true then (some (Sum.inr (-1 : Int))) else (some (Sum.inl (r9, (IntKind.wrap .i64 (x2.2 + (1 : Int)))))))) else none) else ((some x2.1).bind fun o => some (Sum.inr o)))
def laws_heldByteSS.f (a0 : (List (List Int))) (a1 : Int) : Option (Int) :=
 (iter (laws_heldByteSS.b0 a0) (a1, (0 : Int)))
def laws_heldByteSS.Q (w : World) (F : Nat → Prop) (r : Int) (v : Value) (w' : World) : Prop :=
 v = (iI r) ∧ Ky [] w w'
theorem laws_heldByteSS.calls (a0 : (List (List Int))) (a1 : Int) (w : World) (F : Nat → Prop) (w0_0 : Value) (h0_0 : (Kd.sl 25 Yo).rd w [w0_0] a0 F) (r : Int) (m : laws_heldByteSS.f a0 a1 = some r) :
  Calls prog 72 #[w0_0, (iI a1)] w (RT (laws_heldByteSS.Q w F) r) := by
 obtain ⟨s0, rfl, kp0, z⟩ := Xk w F
 refine Xd (args := [w0_0, (iI a1)]) func72 ntmps72 rfl rfl m ?_
 unfold laws_heldByteSS.f
 refine sr (Xc rfl (dn (sq (sr (Xc rfl (dn (bl (lpI (fun (x2 : Int × Int) e w => ∃ (s : St) (e0 : Env), w = s.w ∧ e = upd (upd (upd e0 0 w0_0) 1 (iI x2.1)) 5 (iI x2.2) ∧ Kp s0 s) ⟨s0, _, rfl, (ue (ue (ue rfl rfl) rfl) rfl), kp0⟩ (fun g2 ih2 => ?_)))))))))
 rintro x2 _ _ ⟨s3, _, rfl, rfl, Kx2⟩
 unfold laws_heldByteSS.b0
 refine sq (sr (Xc rfl (Xx w0_0 rfl ?_)))
 have A4 := (z.rd h0_0).kp Kx2
 refine Yl A4 u57 rfl (Xc rfl (dn (cd rfl (fun h5 => ?_) (fun h5 => ?_))))
 ·
  refine sk (sq (bl (sr (Xx w0_0 rfl (Xc rfl (ix' A4 u57 z25 rfl (fun ad6 es6 h0_6 h1_6 he6 ce6 ia6 => ?_)))))))
  obtain ⟨v6, rfl, he6'⟩ := he6
  have A6 : RdF Yo s3 [v6] (at_ a0 x2.2) [0] := ⟨v6, rfl, he6'⟩
  refine lc0' ce6 u25 rfl (Xc rfl (Ym 40 rfl func98 rfl (laws_heldByteS.calls (at_ a0 x2.2) x2.1 s3.w (mm [0] s3) v6 A6) (fun r9 s10 p10 n10 => ?_)))
  refine Xc rfl (dn (sr (Xc rfl (Xc rfl (dn (cd rfl (fun h11 => ?_) (fun h11 => ?_)))))))
  ·
   refine sr (Xc rfl (dn (sgi ?_)))
   exact re rfl func72 rfl (Xs rfl Xe) rfl ⟨_, rfl, rfl, z.ky (Kx2.st p10 rfl)⟩
  refine sk (ib (rg (Xc rfl (Xc rfl (Xc rfl (dn ?_))))))
  exact lb ih2 ⟨s10, _, rfl, (ue (ue (ue rfl rfl) rfl) rfl), (Kx2.st p10 rfl)⟩
 exact xt rfl (sgb (sr (Xc rfl (Xc rfl (dn (re rfl func72 rfl (Xs rfl Xe) rfl ⟨_, rfl, rfl, z.ky Kx2⟩))))))
def laws_heldPageS.b0 (a0 : (List Page)) (x2 : Int × Int) : Option ((Int × Int) ⊕ Int) :=
 (if (decide (x2.2 < (a0.length : Int))) = true then (if 0 ≤ x2.2 ∧ x2.2 < (a0.length : Int) then (if ((at_ a0 x2.2).Lsn != x2.1) = true then (some (Sum.inr (-1 : Int))) else (if 0 ≤ x2.2 ∧ x2.2 < (a0.length : Int) then ((laws_heldByteSS.f ((at_ a0 x2.2).Slots) (IntKind.wrap .i64 (x2.1 + (1 : Int)))).bind fun r13 => (if (decide (r13 < (0 : Int))) = true then (some (Sum.inr (-1 : Int))) else (some (Sum.inl (r13, (IntKind.wrap .i64 (x2.2 + (1 : Int)))))))) else none)) else none) else ((some x2.1).bind fun o => some (Sum.inr o)))
def laws_heldPageS.f (a0 : (List Page)) (a1 : Int) : Option (Int) :=
 (iter (laws_heldPageS.b0 a0) (a1, (0 : Int)))
def laws_heldPageS.Q (w : World) (F : Nat → Prop) (r : Int) (v : Value) (w' : World) : Prop :=
 v = (iI r) ∧ Ky [] w w'
theorem laws_heldPageS.calls (a0 : (List Page)) (a1 : Int) (w : World) (F : Nat → Prop) (w0_0 : Value) (h0_0 : Yp.rd w [w0_0] a0 F) (r : Int) (m : laws_heldPageS.f a0 a1 = some r) :
  Calls prog 41 #[w0_0, (iI a1)] w (RT (laws_heldPageS.Q w F) r) := by
 obtain ⟨s0, rfl, kp0, z⟩ := Xk w F
 refine Xd (args := [w0_0, (iI a1)]) func41 ntmps41 rfl rfl m ?_
 unfold laws_heldPageS.f
 refine sr (Xc rfl (dn (sq (sr (Xc rfl (dn (bl (lpI (fun (x2 : Int × Int) e w => ∃ (s : St) (e0 : Env), w = s.w ∧ e = upd (upd (upd e0 0 w0_0) 1 (iI x2.1)) 5 (iI x2.2) ∧ Kp s0 s) ⟨s0, _, rfl, (ue (ue (ue rfl rfl) rfl) rfl), kp0⟩ (fun g2 ih2 => ?_)))))))))
 rintro x2 _ _ ⟨s3, _, rfl, rfl, Kx2⟩
 unfold laws_heldPageS.b0
 refine sq (sr (Xc rfl (Xx w0_0 rfl ?_)))
 have A4 := (z.rd h0_0).kp Kx2
 refine Yl A4 u30 rfl (Xc rfl (dn (cd rfl (fun h5 => ?_) (fun h5 => ?_))))
 ·
  refine sk (sq (bl (sq (sr (Xx w0_0 rfl (Xc rfl (ix' A4 u30 z59 rfl (fun ad6 es6 h0_6 h1_6 he6 ce6 ia6 => ?_))))))))
  obtain ⟨v6_0, rfl, A6_0⟩ := op59 he6
  refine Xt fa59_0 rfl (lc0' ce6 u3 rfl (Xc rfl (Xc rfl (dn (cd rfl (fun h9 => ?_) (fun h9 => ?_))))))
  ·
   exact sr (Xc rfl (dn (sgi (re rfl func41 rfl (Xs rfl Xe) rfl ⟨_, rfl, rfl, z.ky Kx2⟩))))
  refine sk (sr (Xc rfl (Xc rfl (Xc rfl (dn (sr (Xx w0_0 rfl (Xc rfl (ix' A4 u30 z59 rfl (fun ad10 es10 h0_10 h1_10 he10 ce10 ia10 => ?_))))))))))
  obtain ⟨v10_0, rfl, A10_0⟩ := op59 he10
  refine Xt fa59_1 rfl (lc ce10 u57 rfl rfl rfl rfl rfl rfl rfl rfl (Xc rfl (Ym 40 rfl func72 rfl (laws_heldByteSS.calls ((at_ a0 x2.2).Slots) (IntKind.wrap .i64 (x2.1 + (1 : Int))) s3.w (mm [0] s3) v10_0 A10_0) (fun r13 s14 p14 n14 => ?_))))
  refine Xc rfl (dn (sr (Xc rfl (Xc rfl (dn (cd rfl (fun h15 => ?_) (fun h15 => ?_)))))))
  ·
   refine sr (Xc rfl (dn (sgi ?_)))
   exact re rfl func41 rfl (Xs rfl Xe) rfl ⟨_, rfl, rfl, z.ky (Kx2.st p14 rfl)⟩
  refine sk (ib (rg (Xc rfl (Xc rfl (Xc rfl (dn ?_))))))
  exact lb ih2 ⟨s14, _, rfl, (ue (ue (ue rfl rfl) rfl) rfl), (Kx2.st p14 rfl)⟩
 exact xt rfl (sgb (sr (Xc rfl (Xc rfl (dn (re rfl func41 rfl (Xs rfl Xe) rfl ⟨_, rfl, rfl, z.ky Kx2⟩))))))
def laws_heldHeap.f (a0 : Heap) (a1 : Int) : Option (Int) :=
 ((laws_heldPageS.f a0.Pages a1).bind fun r6 => (if (decide (r6 < (0 : Int))) = true then (some (-1 : Int)) else (some r6)))
def laws_heldHeap.Q (w : World) (F : Nat → Prop) (r : Int) (v : Value) (w' : World) : Prop :=
 v = (iI r) ∧ Ky [] w w'
theorem laws_heldHeap.calls (a0 : Heap) (a1 : Int) (w : World) (F : Nat → Prop) (w0_0 : Value) (h0_0 : Yp.rd w [w0_0] a0.Pages F) (r : Int) (m : laws_heldHeap.f a0 a1 = some r) :
  Calls prog 15 #[(.agg #[w0_0]), (iI a1)] w (RT (laws_heldHeap.Q w F) r) := by
 obtain ⟨s0, rfl, kp0, z⟩ := Xk w F
 refine Xd (args := [(.agg #[w0_0]), (iI a1)]) func15 ntmps15 rfl rfl m ?_
 unfold laws_heldHeap.f
 refine sr (bx' (cs := [w0_0]) 40 rfl rfl (fun b2 s2 p2 B2 => ?_))
 refine Xc rfl (dn (sr (Xt fa32_0 rfl (Yb B2 u30 rfl (Xc rfl ?_)))))
 have K4 := kp0.st p2 rfl
 refine Ym 41 rfl func41 rfl (laws_heldPageS.calls a0.Pages a1 s2.w (mm [0] s2) w0_0 ((z.rd h0_0).kp K4)) (fun r6 s7 p7 n7 => ?_)
 refine Xc rfl (dn (sq (sr (Xc rfl (Xc rfl (dn (cd rfl (fun h8 => ?_) (fun h8 => ?_))))))))
 ·
  refine sr (Xc rfl (dn ?_))
  exact re rfl func15 rfl (Xs rfl Xe) rfl ⟨_, rfl, rfl, z.ky (K4.st p7 rfl)⟩
 refine sk (sr (Xc rfl (Xc rfl (dn ?_))))
 exact re rfl func15 rfl (Xs rfl Xe) rfl ⟨_, rfl, rfl, z.ky (K4.st p7 rfl)⟩
def laws_szRecordS.b0 (a0 : (List Record)) (x3 : Int × Int) : Option ((Int × Int) ⊕ Int) :=
 (if (decide (x3.2 < (a0.length : Int))) = true then (if 0 ≤ x3.2 ∧ x3.2 < (a0.length : Int) then ((laws_szRecord.f (at_ a0 x3.2) x3.1).bind fun r10 => (if (decide (r10 < (0 : Int))) = true then (some (Sum.inr (-1 : Int))) else (some (Sum.inl (r10, (IntKind.wrap .i64 (x3.2 + (1 : Int)))))))) else none) else ((some x3.1).bind fun o => some (Sum.inr o)))
def laws_szRecordS.f (a0 : (List Record)) (a1 : Int) : Option (Int) :=
 (if (decide ((IntKind.wrap .i64 (a1 - (a0.length : Int))) < (0 : Int))) = true then (some (-1 : Int)) else (iter (laws_szRecordS.b0 a0) ((IntKind.wrap .i64 (a1 - (a0.length : Int))), (0 : Int))))
def laws_szRecordS.Q (w : World) (F : Nat → Prop) (r : Int) (v : Value) (w' : World) : Prop :=
 v = (iI r) ∧ Ky [] w w'
theorem laws_szRecordS.calls (a0 : (List Record)) (a1 : Int) (w : World) (F : Nat → Prop) (w0_0 : Value) (h0_0 : (Kd.sl 27 kd27).rd w [w0_0] a0 F) (r : Int) (m : laws_szRecordS.f a0 a1 = some r) :
  Calls prog 16 #[w0_0, (iI a1)] w (RT (laws_szRecordS.Q w F) r) := by
 obtain ⟨s0, rfl, kp0, z⟩ := Xk w F
 have A0_0 := z.rd h0_0
 refine Xd (args := [w0_0, (iI a1)]) func16 ntmps16 rfl rfl m ?_
 unfold laws_szRecordS.f
 refine sr (Xc rfl (dn (sr (Xc rfl (Xx w0_0 rfl (Yl A0_0 u43 rfl (Xc rfl (Xc rfl (dn (sq (sr (Xc rfl (Xc rfl (dn ?_))))))))))))))
 refine cd rfl (fun h2 => ?_) (fun h2 => ?_)
 ·
  exact sr (Xc rfl (dn (re rfl func16 rfl (Xs rfl Xe) rfl ⟨_, rfl, rfl, z.ky kp0⟩)))
 refine sk (sq (sr (Xc rfl (dn (bl (lpI (fun (x3 : Int × Int) e w => ∃ (s : St) (e0 : Env), w = s.w ∧ e = upd (upd (upd e0 0 w0_0) 1 (iI x3.1)) 5 (iI x3.2) ∧ Kp s0 s) ⟨s0, _, rfl, (ue (ue (ue rfl rfl) rfl) rfl), kp0⟩ (fun g3 ih3 => ?_)))))))
 rintro x3 _ _ ⟨s4, _, rfl, rfl, Kx3⟩
 unfold laws_szRecordS.b0
 refine sq (sr (Xc rfl (Xx w0_0 rfl ?_)))
 have A5 := A0_0.kp Kx3
 refine Yl A5 u43 rfl (Xc rfl (dn (cd rfl (fun h6 => ?_) (fun h6 => ?_))))
 ·
  refine sk (sq (bl (sr (Xx w0_0 rfl (Xc rfl (ix' A5 u43 z27 rfl (fun ad7 es7 h0_7 h1_7 he7 ce7 ia7 => ?_)))))))
  obtain ⟨v7_0, rfl, A7_0⟩ := op27 he7
  refine lca ce7 u27 z27 rfl rfl rfl rfl rfl rfl rfl (Xc rfl (Ym 40 rfl func6 rfl (laws_szRecord.calls (at_ a0 x3.2) x3.1 s4.w (mm [0] s4) v7_0 A7_0) (fun r10 s11 p11 n11 => ?_)))
  refine Xc rfl (dn (sr (Xc rfl (Xc rfl (dn (cd rfl (fun h12 => ?_) (fun h12 => ?_)))))))
  ·
   refine sr (Xc rfl (dn (sgi ?_)))
   exact re rfl func16 rfl (Xs rfl Xe) rfl ⟨_, rfl, rfl, z.ky (Kx3.st p11 rfl)⟩
  refine sk (ib (rg (Xc rfl (Xc rfl (Xc rfl (dn ?_))))))
  exact lb ih3 ⟨s11, _, rfl, (ue (ue (ue rfl rfl) rfl) rfl), (Kx3.st p11 rfl)⟩
 exact xt rfl (sgb (sr (Xc rfl (Xc rfl (dn (re rfl func16 rfl (Xs rfl Xe) rfl ⟨_, rfl, rfl, z.ky Kx3⟩))))))
def laws_toRecordS.b0 (a0 : (List Record)) (x4 : (List Record) × Int) : Option (((List Record) × Int) ⊕ (List Record)) :=
 (if (decide (x4.2 < (a0.length : Int))) = true then (if 0 ≤ x4.2 ∧ x4.2 < (a0.length : Int) then ((laws_toRecord.f (at_ a0 x4.2)).bind fun r13 => (if 0 ≤ x4.2 ∧ x4.2 < (x4.1.length : Int) then (some (Sum.inl ((x4.1.set (x4.2).toNat r13), (IntKind.wrap .i64 (x4.2 + (1 : Int)))))) else none)) else none) else ((some x4.1).bind fun o => some (Sum.inr o)))
def laws_toRecordS.f (a0 : (List Record)) : Option ((List Record)) :=
 (if 0 ≤ (a0.length : Int) ∧ (a0.length : Int) ≤ (Lim : Int) then (iter (laws_toRecordS.b0 a0) ((List.replicate ((a0.length : Int)).toNat (Record.mk (0 : Int) (0 : Int) (0 : Int) (0 : Int) (0 : Int) ([] : (List Int)))), (0 : Int))) else none)
def laws_toRecordS.Q (w : World) (F : Nat → Prop) (r : (List Record)) (v : Value) (w' : World) : Prop :=
 FO Yr w w' [v] r ∧ Ky [] w w'
theorem laws_toRecordS.calls (a0 : (List Record)) (w : World) (F : Nat → Prop) (w0_0 : Value) (h0_0 : (Kd.sl 27 kd27).rd w [w0_0] a0 F) (r : (List Record)) (m : laws_toRecordS.f a0 = some r) :
  Calls prog 18 #[w0_0] w (RT (laws_toRecordS.Q w F) r) := by
 obtain ⟨s0, rfl, kp0, z⟩ := Xk w F
 have A0_0 := z.rd h0_0
 refine Xd (args := [w0_0]) func18 ntmps18 rfl rfl m ?_
 unfold laws_toRecordS.f
 refine sr (Xc rfl (dn (sr (Xx w0_0 rfl (Yl A0_0 u43 rfl (mk (x0 := (Record.mk (0 : Int) (0 : Int) (0 : Int) (0 : Int) (0 : Int) ([] : (List Int)))) (K := kd36) 40 sl47 o36 (fun _ => ⟨_, _, [], [], rfl, rfl, ⟨rfl, rfl⟩, ⟨_, _, [], [], rfl, rfl, ⟨rfl, rfl⟩, ⟨_, _, [], [], rfl, rfl, ⟨rfl, rfl⟩, ⟨_, _, [], [], rfl, rfl, ⟨rfl, rfl⟩, ⟨_, _, [], [], rfl, rfl, ⟨rfl, rfl⟩, ⟨_, rfl, [], [], [], rfl, ⟨by simp, .inl ⟨rfl, rfl, rfl⟩⟩, ⟨rfl, rfl⟩⟩⟩⟩⟩⟩⟩) rfl rfl rfl rfl rfl rfl rfl (fun v2 s2 p2 A2 => ?_)))))))
 refine Yd v2 rfl (dn (sq (sr (Xc rfl (dn (bl ?_))))))
 refine lpI (fun (x4 : (List Record) × Int) e w => ∃ (s : St) (e0 : Env), w = s.w ∧ e = upd (upd (upd e0 0 w0_0) 3 v2) 4 (iI x4.2) ∧ Kp s0 s ∧ OwF Yr s [v2] x4.1 40) ⟨s2, _, rfl, (ue (ue (ue rfl rfl) rfl) rfl), (kp0.st p2 rfl), A2⟩ (fun g4 ih4 => ?_)
 rintro x4 _ _ ⟨s6, _, rfl, rfl, Kx4, Ax4_0⟩
 unfold laws_toRecordS.b0
 refine sq (sr (Xc rfl (Xx w0_0 rfl ?_)))
 have A8 := A0_0.kp Kx4
 refine Yl A8 u43 rfl (Xc rfl (dn (cd rfl (fun h9 => ?_) (fun h9 => ?_))))
 ·
  refine sk (sq (bl (rg (Xx v2 rfl (Xc rfl (Xx w0_0 rfl (Xc rfl (ix' A8 u43 z27 rfl (fun ad10 es10 h0_10 h1_10 he10 ce10 ia10 => ?_)))))))))
  obtain ⟨v10_0, rfl, A10_0⟩ := op27 he10
  refine lca ce10 u27 z27 rfl rfl rfl rfl rfl rfl rfl (cl' rfl func9 rfl (laws_toRecord.calls (at_ a0 x4.2) s6.w (mm [0] s6) v10_0 A10_0) ?_)
  rintro r13 _ w13 m13 ⟨v13_0, rfl, f13_0, ky13⟩
  obtain ⟨s14, rfl, p14, n14⟩ := nwx s6 w13 41 ky13
  have A16 := Ax4_0.st p14 rfl
  refine ix' A16.rd u47 z36 rfl (fun ad17 es17 h0_17 h1_17 he17 ce17 ia17 => ?_)
  obtain ⟨v17_0, rfl, A17_0⟩ := op36 he17
  have A20 : OwF kd36 s14 [(iI r13.Kind), (iI r13.Lsn), (iI r13.Xid), (iI r13.Page), (iI r13.Slot), v13_0] r13 41 := (Xo (fun x : Record => (x.Kind, x.Lsn, x.Xid, x.Page, x.Slot, x.Data)) r13 (Yg (Xf .i64 r13.Kind) (Yg (Xf .i64 r13.Lsn) (Yg (Xf .i64 r13.Xid) (Yg (Xf .i64 r13.Page) (Yg (Xf .i64 r13.Slot) (ap36 (f13_0.c n14))))))))
  refine som (x' := r13) A16 ia17 h0_17 h1_17 A20 rfl rfl z36 rfl rfl rfl rfl rfl rfl (fun s22 p22 A22 => ?_)
  refine dn (ib (rg (Xc rfl (Xc rfl (Xc rfl (dn ?_))))))
  exact lb ih4 ⟨s22, _, rfl, (ue (ue (ue rfl rfl) rfl) rfl), (Kx4.st (Xq p14 p22) rfl), A22⟩
 exact xt rfl (sgb (sr (Xx v2 rfl (Yd v2 rfl (dn (re rfl func18 rfl (Xs rfl Xe) rfl ⟨_, rfl, Ax4_0.fo Kx4 rfl z.l, z.ky Kx4⟩))))))
def spec_RedoAll.b0 (a1 : (List Record)) (x30 : Int × (List Page)) : Option ((Int × (List Page)) ⊕ (Heap × Int)) :=
 (if (decide (x30.1 < (a1.length : Int))) = true then (if 0 ≤ x30.1 ∧ x30.1 < (a1.length : Int) then (((spec_RedoOne.f (Heap.mk x30.2) (at_ a1 x30.1)).bind fun r57 => (some (r57.1.Pages, r57.2))).bind fun y52 => (if (!y52.2) = true then (some (Sum.inr ((Heap.mk x30.2), x30.1))) else (some (Sum.inl ((IntKind.wrap .i64 (x30.1 + (1 : Int))), y52.1))))) else none) else ((some ((Heap.mk x30.2), (a1.length : Int))).bind fun o => some (Sum.inr o)))
def spec_RedoAll.f (a0 : Heap) (a1 : (List Record)) : Option (Heap × Int) :=
 ((spec_HeapOk.f a0).bind fun r10 => (if (!r10) = true then (some ((Heap.mk ([] : (List Page))), (0 : Int))) else ((spec_l10copy.f a0).bind fun r22 => (iter (spec_RedoAll.b0 a1) ((0 : Int), r22.Pages)))))
def spec_RedoAll.Q (w : World) (F : Nat → Prop) (r : Heap × Int) (v : Value) (w' : World) : Prop :=
 ∃ (v0 : Value), v = .tuple #[(.agg #[v0]), (iI r.2)] ∧ FO kd32 w w' [v0] r.1 ∧ Ky [] w w'
theorem spec_RedoAll.calls (a0 : Heap) (a1 : (List Record)) (w : World) (F : Nat → Prop) (w0_0 : Value) (w1_0 : Value) (h0_0 : Yp.rd w [w0_0] a0.Pages F) (h1_0 : Yr.rd w [w1_0] a1 F) (r : Heap × Int) (m : spec_RedoAll.f a0 a1 = some r) :
  Calls prog 17 #[(.agg #[w0_0]), w1_0] w (RT (spec_RedoAll.Q w F) r) := by
 obtain ⟨s0, rfl, kp0, z⟩ := Xk w F
 have A0_0 := z.rd h0_0
 have A1_0 := z.rd h1_0
 refine Xd (args := [(.agg #[w0_0]), w1_0]) func17 ntmps17 rfl rfl m ?_
 unfold spec_RedoAll.f
 refine sr (bx' (cs := [w0_0]) 40 rfl rfl (fun b3 s3 p3 B3 => ?_))
 refine al' (cs := [(.slice none 0 0)]) 41 rfl o32 rfl (fun b5 s5 p5 B5 => ?_)
 refine Xc rfl (dn (sq (sr ?_)))
 have A7 := B3.st p5 rfl
 refine Xw (es := [w0_0]) A7 u32 z32 rfl ?_
 have K8 := kp0.st (Xq p3 p5) rfl
 refine Ym 42 rfl func24 rfl (spec_HeapOk.calls a0 s5.w (mm [0] s5) w0_0 (A0_0.kp K8)) (fun r10 s11 p11 n11 => ?_)
 refine Xc rfl (dn (cd rfl (fun h12 => ?_) (fun h12 => ?_)))
 ·
  refine sr (bd' (cells := [(.slice none 0 0)]) pl32 o32 rfl rfl ?_)
  refine Xu (vs := [(.slice none 0 0)]) (B5.st p11 rfl) z32 rfl (Xb rfl Xi) rfl (fun s14 p14 B14 => ?_)
  refine Xc rfl (dn ?_)
  have A16 : OwF kd32 s14 [(.slice none 0 0)] (Heap.mk ([] : (List Page))) 43 := ow_z _ _ (Xz (fun x : Heap => (x.Pages)) (Heap.mk ([] : (List Page))) (Ya 59 kd59))
  have K18 := K8.st (Xq p11 p14) rfl
  exact re rfl func17 rfl (r_b B14 u32 rfl z32 rfl (Xs rfl Xe)) rfl ⟨_, rfl, (.slice none 0 0), rfl, A16.fo K18 rfl z.l, z.ky K18⟩
 refine sk (sr ?_)
 refine Xw (es := [w0_0]) (A7.st p11 rfl) u32 z32 rfl ?_
 have K20 := K8.st p11 rfl
 refine cl' rfl func26 rfl (spec_l10copy.calls a0 s11.w (mm [0] s11) w0_0 (A0_0.kp K20)) ?_
 rintro r22 _ w22 m22 ⟨v22_0, rfl, f22_0, ky22⟩
 obtain ⟨s23, rfl, p23, n23⟩ := nwx s11 w22 44 ky22
 refine al' (cs := [(.slice none 0 0)]) 45 rfl o32 rfl (fun b25 s25 p25 B25 => ?_)
 have A27 := (ap32 (f22_0.c n23)).st p25 rfl
 refine Xu (vs := [v22_0]) B25 z32 rfl (Xb A27.rd.one Xi) rfl (fun s28 p28 B28 => ?_)
 refine dn (sq (sr (Xc rfl (dn (bl ?_)))))
 refine lpI (fun (x30 : Int × (List Page)) e w => ∃ (s : St) (e0 : Env) (vx30_0 : Value), w = s.w ∧ e = upd (upd (upd (upd e0 1 w1_0) 4 (pB b5)) 6 (pB b25)) 7 (iI x30.1) ∧ Kp s0 s ∧ OwF Yp s [vx30_0] x30.2 44 ∧ BlF s b25 32 [vx30_0] 45 ∧ BlF s b5 32 [(.slice none 0 0)] 41) ⟨s28, _, v22_0, rfl, (ue (ue (ue (ue rfl rfl) rfl) rfl) rfl), (K20.st (Yi p23 p25 p28) rfl), (A27.st p28 rfl), B28, (B5.st (tr4 p11 p23 p25 p28) rfl)⟩ (fun g30 ih30 => ?_)
 rintro x30 _ _ ⟨s34, _, vx30_0, rfl, rfl, Kx30, Ax30_0, Bx30_b25, Bx30_b5⟩
 unfold spec_RedoAll.b0
 refine sq (sr (Xc rfl (Xx w1_0 rfl ?_)))
 have A38 := A1_0.kp Kx30
 refine Yl A38 u47 rfl (Xc rfl (dn (cd rfl (fun h39 => ?_) (fun h39 => ?_))))
 ·
  refine sk (sq (bl (sq (zdraw [[], [], [], [1, 2], [3], [0, 4], [5], [6], [6], [], [9, 7, 5, 0, 1, 2, 3, 4, 5, 6, 7, 9], [8, 10, 0, 1, 2, 3, 4, 5, 6, 7, 8, 9, 10]] [some 23, some 24, some 25, some 26, some 27, some 28, some 22, some 29, some 30, some 8, none, some 9] [[6], [1], [7], [24, 25], [26], [23, 27], [28], [22], [22], [], [8, 29], [30]] [0, 1, 2, 3, 4, 5, 6, 7, 10, 8, 9, 11] ⟨by kernel_rfl, by kernel_rfl, by kernel_rfl⟩ (by kernel_rfl) (fun s40 p40 l40 tb40 zd40 => ?_)))))
  have K45 := Kx30.st p40 rfl
  have A46 := A1_0.kp K45
  refine mg fun hg47 => ?_
  obtain ⟨ad47, es47, he47, ce47, ia47⟩ := ix_e A46 rfl hg47.1 hg47.2
  obtain ⟨v47_0, rfl, A47_0⟩ := op36 he47
  refine ji [11] (fun (y52 : (List Page) × Bool) e w => ∃ (s : St) (e0 : Env) (vy52_0 : Value) (by52_0 : Nat), w = s.w ∧ e = upd (upd (upd (upd (upd (upd e0 1 w1_0) 4 (pB b5)) 6 (pB b25)) 7 (iI x30.1)) 8 (pB by52_0)) 30 (.bool y52.2) ∧ Kp s0 s ∧ OwF Yp s [vy52_0] y52.1 46 ∧ BlF s b25 32 [vx30_0] 45 ∧ BlF s b5 32 [(.slice none 0 0)] 41 ∧ BlF s by52_0 32 [vy52_0] 47 ∧ OwF Yp s [vx30_0] x30.2 44) (fun Gj52 Kj52 => ?_) ?_
  ·
   refine zstep2 5 9 [] [some 27, some 26, some 25, some 24, some 23] tb40 (((((zd40.add 0 23 (.agg #[vx30_0]) rfl).add 1 24 w1_0 rfl).add 2 25 (iI x30.1) rfl).add 3 26 (.pointer (some ad47)) rfl).add 4 27 (.agg #[(iI ((at_ a1 x30.1).Kind)), (iI ((at_ a1 x30.1).Lsn)), (iI ((at_ a1 x30.1).Xid)), (iI ((at_ a1 x30.1).Page)), (iI ((at_ a1 x30.1).Slot)), v47_0]) rfl) (Xa (lca_q ce47 u36 z36 rfl rfl rfl rfl rfl rfl rfl) rfl (Xa (ix_q' A46 u47 z36 hg47.1 hg47.2 ia47 rfl) rfl (Xa (Xm rfl) rfl (Xa (Xn w1_0 rfl) rfl (Xa (lda_q' (es := [vx30_0]) (Bx30_b25.st p40 rfl) u32 z32 rfl) rfl Xg))))) (by kernel_rfl) (by kernel_rfl) (fun l53 e53 zd53 => ?_) (fun l54 e54 zd54 => ?_)
   ·
    have A56 := Ax30_0.st p40 rfl
    refine cl' rfl func7 rfl (spec_RedoOne.calls (Heap.mk x30.2) (at_ a1 x30.1) s40.w (mm [44, 0] s40) vx30_0 v47_0 (A56.rd.sub (D := [44, 0]) rfl) (A47_0.sub (D := [44, 0]) rfl)) ?_
    rintro r57 _ w57 m57 ⟨v57_0, rfl, f57_0, ky57⟩
    obtain ⟨s58, rfl, p58, n58⟩ := nwx s40 w57 48 ky57
    refine Xl (L' := []) (D' := [1, 2, 3, 0, 4, 5]) zd53 rfl (fun zd60 => ?_)
    refine Yc 9 [some 30, some 29, some 22] tb40 (((zd60.add 6 22 (.tuple #[(.agg #[v57_0]), (.bool r57.2)]) rfl).add 7 29 (.agg #[v57_0]) rfl).add 8 30 (.bool r57.2) rfl) (Xa (Xm (v := (.bool r57.2)) rfl) rfl (Xa (Xm (v := (.agg #[v57_0])) rfl) rfl (Xa (Xm rfl) rfl Xg))) (by kernel_rfl) rfl (fun l64 e64 zd64 => ?_)
    refine al' (cs := [(.slice none 0 0)]) 49 rfl o32 rfl (fun b65 s65 p65 B65 => ?_)
    refine Xl (L' := [8, 7, 6]) (D' := [9, 1, 2, 3, 0, 4, 5]) zd64 rfl (fun zd67 => ?_)
    refine Yc 10 [some 30] tb40 zd67 (Xa (Xm (v := (.bool r57.2)) rfl) rfl (Xa (Xm (v := (.agg #[v57_0])) rfl) rfl (Xa (Xm rfl) rfl Xg))) (by kernel_rfl) rfl (fun l68 e68 zd68 => ?_)
    have A69 := (ap32 (f57_0.c n58)).st p65 rfl
    refine Xu (vs := [v57_0]) B65 z32 rfl (Xb A69.rd.one Xi) rfl (fun s70 p70 B70 => ?_)
    refine zdone0 (L' := [8]) (D' := [7, 6, 7, 10, 9, 1, 2, 3, 0, 4, 5]) zd68 rfl rfl rfl (fun zd72 => ?_)
    refine zfin [11] tb40 zd72 (Xa (Xm (v := (.bool r57.2)) rfl) rfl Xg) (by kernel_rfl) (by decide) ?_
    obtain ⟨s73, hw73, p73, D73⟩ := BlF.rc B70 47 rfl
    rw [hw73]
    obtain ⟨s76, hw76, p76, A76⟩ := (A69.st (Xq p70 p73) rfl).rc 46 rfl
    rw [hw76]
    exact Kj52 _ _ _ ⟨s76, _, v57_0, b65, rfl, (ue (ue (ue (ue (ue (ue rfl rfl) rfl) rfl) rfl) rfl) rfl), (K45.st (tr5 p58 p65 p70 p73 p76) rfl), A76, (Bx30_b25.st (tr6 p40 p58 p65 p70 p73 p76) rfl), (Bx30_b5.st (tr6 p40 p58 p65 p70 p73 p76) rfl), (D73.st p76 rfl), (A56.st (tr5 p58 p65 p70 p73 p76) rfl)⟩
   refine al' (cs := [(.slice none 0 0)]) 50 rfl o32 rfl (fun b82 s82 p82 B82 => ?_)
   refine Xl (L' := [4, 3, 2, 1, 0]) (D' := [9]) zd54 rfl (fun zd84 => ?_)
   have K87 := K45.st p82 rfl
   refine Yc 5 [] tb40 zd84 (Xa (lca_q (ce47.st p82 rfl rfl) u36 z36 rfl rfl rfl rfl rfl rfl rfl) rfl (Xa (ix_q' (A1_0.kp K87) u47 z36 hg47.1 hg47.2 ia47 rfl) rfl (Xa (Xm rfl) rfl (Xa (Xn w1_0 rfl) rfl (Xa (lda_q' (es := [vx30_0]) (Bx30_b25.st (Xq p40 p82) rfl) u32 z32 rfl) rfl Xg))))) (by kernel_rfl) rfl (fun l85 e85 zd85 => ?_)
   have A90 := Ax30_0.st (Xq p40 p82) rfl
   refine cl' rfl func7 rfl (spec_RedoOne.calls (Heap.mk x30.2) (at_ a1 x30.1) s82.w (mm [44, 0] s82) vx30_0 v47_0 (A90.rd.sub (D := [44, 0]) rfl) ((A47_0.st p82 rfl).sub (D := [44, 0]) rfl)) ?_
   rintro r92 _ w92 m92 ⟨v92_0, rfl, f92_0, ky92⟩
   obtain ⟨s93, rfl, p93, n93⟩ := nwx s82 w92 51 ky92
   have Au92_0_0 := ap32 (f92_0.c n93)
   refine Xl (L' := []) (D' := [1, 2, 3, 0, 4, 5, 9]) zd85 rfl (fun zd95 => ?_)
   refine Yc 10 [some 30] tb40 (((zd95.add 6 22 (.tuple #[(.agg #[v92_0]), (.bool r92.2)]) rfl).add 7 29 (.agg #[v92_0]) rfl).add 8 30 (.bool r92.2) rfl) (Xa (Xm (v := (.bool r92.2)) rfl) rfl (Xa (Xm (v := (.agg #[v92_0])) rfl) rfl (Xa (Xm rfl) rfl Xg))) (by kernel_rfl) rfl (fun l99 e99 zd99 => ?_)
   refine Xu (vs := [v92_0]) (B82.st p93 rfl) z32 rfl (Xb Au92_0_0.rd.one Xi) rfl (fun s101 p101 B101 => ?_)
   refine zdone0 (L' := [8]) (D' := [7, 6, 7, 10, 1, 2, 3, 0, 4, 5, 9]) zd99 rfl rfl rfl (fun zd103 => ?_)
   refine zfin [11] tb40 zd103 (Xa (Xm (v := (.bool r92.2)) rfl) rfl Xg) (by kernel_rfl) (by decide) ?_
   obtain ⟨s104, hw104, p104, D104⟩ := BlF.rc B101 47 rfl
   rw [hw104]
   obtain ⟨s107, hw107, p107, A107⟩ := (Au92_0_0.st (Xq p101 p104) rfl).rc 46 rfl
   rw [hw107]
   exact Kj52 _ _ _ ⟨s107, _, v92_0, b82, rfl, (ue (ue (ue (ue (ue (ue rfl rfl) rfl) rfl) rfl) rfl) rfl), (K87.st (tr4 p93 p101 p104 p107) rfl), A107, (Bx30_b25.st (tr6 p40 p82 p93 p101 p104 p107) rfl), (Bx30_b5.st (tr6 p40 p82 p93 p101 p104 p107) rfl), (D104.st p107 rfl), (A90.st (tr4 p93 p101 p104 p107) rfl)⟩
  rintro y52 _ _ ⟨s113, _, vy52_0, by52_0, rfl, rfl, Ky52, Ay52_0, By52_b25, By52_b5, Dy52_0, Cy52_35⟩
  refine Xc rfl (dn (sq (sr (Xc rfl (Xc rfl (dn (cd rfl (fun h118 => ?_) (fun h118 => ?_))))))))
  ·
   refine sr (Xw (es := [vx30_0]) By52_b25 u32 z32 rfl (Xc rfl (Xu (vs := [vx30_0]) By52_b5 z32 rfl (Xb Cy52_35.rd.one Xi) rfl (fun s119 p119 B119 => ?_))))
   refine Xc rfl (dn (sgi ?_))
   have A121 : OwF kd32 s119 [vx30_0] (Heap.mk x30.2) 44 := (Xo (fun x : Heap => (x.Pages)) (Heap.mk x30.2) (Cy52_35.st p119 rfl))
   have K124 := Ky52.st p119 rfl
   exact re rfl func17 rfl (r_b B119 u32 rfl z32 rfl (Xs rfl Xe)) rfl ⟨_, rfl, vx30_0, rfl, A121.fo K124 rfl z.l, z.ky K124⟩
  refine sk (rg (Xw (es := [vy52_0]) Dy52_0 u32 z32 rfl (Xu (vs := [vy52_0]) By52_b25 z32 rfl (Xb Ay52_0.rd.one Xi) rfl (fun s125 p125 B125 => ?_))))
  refine dn (ib (rg (Xc rfl (Xc rfl (Xc rfl (dn ?_))))))
  obtain ⟨s128, hw128, p128, A128⟩ := (Ay52_0.st p125 rfl).rc 44 rfl
  rw [hw128]
  exact lb ih30 ⟨s128, _, vy52_0, rfl, (ue (ue (ue (ue rfl rfl) rfl) rfl) rfl), (Ky52.st (Xq p125 p128) rfl), A128, (B125.st p128 rfl), (By52_b5.st (Xq p125 p128) rfl)⟩
 refine xt rfl (sgb (sr (Xw (es := [vx30_0]) Bx30_b25 u32 z32 rfl (Xx w1_0 rfl (Yl A38 u47 rfl (Xu (vs := [vx30_0]) Bx30_b5 z32 rfl (Xb Ax30_0.rd.one Xi) rfl (fun s132 p132 B132 => ?_)))))))
 refine Xc rfl (dn ?_)
 have A134 : OwF kd32 s132 [vx30_0] (Heap.mk x30.2) 44 := (Xo (fun x : Heap => (x.Pages)) (Heap.mk x30.2) (Ax30_0.st p132 rfl))
 have K137 := Kx30.st p132 rfl
 exact re rfl func17 rfl (r_b B132 u32 rfl z32 rfl (Xs rfl Xe)) rfl ⟨_, rfl, vx30_0, rfl, A134.fo K137 rfl z.l, z.ky K137⟩
def impl_RedoAll.b1 (a1 : (List Record)) (x81 : Int × (List Page)) : Option ((Int × (List Page)) ⊕ (Heap × Int)) :=
 (if (decide (x81.1 < (a1.length : Int))) = true then (if 0 ≤ x81.1 ∧ x81.1 < (a1.length : Int) then ((impl_RedoOne.f (Heap.mk x81.2) (at_ a1 x81.1)).bind fun r99 => (if (!r99.2) = true then (some (Sum.inr ((Heap.mk x81.2), x81.1))) else (some (Sum.inl ((IntKind.wrap .i64 (x81.1 + (1 : Int))), r99.1.Pages))))) else none) else ((some ((Heap.mk x81.2), (a1.length : Int))).bind fun o => some (Sum.inr o)))
def impl_RedoAll.b0 (a0 : Heap) (a1 : (List Record)) (x26 : Int × (List Page)) : Option ((Int × (List Page)) ⊕ (Heap × Int)) :=
 (if (decide (x26.1 < (a0.Pages.length : Int))) = true then (if 0 ≤ x26.1 ∧ x26.1 < (a0.Pages.length : Int) then ((impl_Page_slots.f (at_ a0.Pages x26.1)).bind fun r56 => (if x26.2.length + ([(Page.mk ((at_ a0.Pages x26.1).Lsn) r56)]).length ≤ Lim then (some (Sum.inl ((IntKind.wrap .i64 (x26.1 + (1 : Int))), (x26.2 ++ [(Page.mk ((at_ a0.Pages x26.1).Lsn) r56)])))) else none)) else none) else ((iter (impl_RedoAll.b1 a1) ((0 : Int), x26.2)).bind fun o => some (Sum.inr o)))
def impl_RedoAll.f (a0 : Heap) (a1 : (List Record)) : Option (Heap × Int) :=
 ((impl_HeapOk.f a0).bind fun r10 => (if (!r10) = true then (some ((Heap.mk ([] : (List Page))), (0 : Int))) else (iter (impl_RedoAll.b0 a0 a1) ((0 : Int), ([] : (List Page))))))
def impl_RedoAll.Q (w : World) (F : Nat → Prop) (r : Heap × Int) (v : Value) (w' : World) : Prop :=
 ∃ (v0 : Value), v = .tuple #[(.agg #[v0]), (iI r.2)] ∧ FO kd32 w w' [v0] r.1 ∧ Ky [] w w'
theorem impl_RedoAll.calls (a0 : Heap) (a1 : (List Record)) (w : World) (F : Nat → Prop) (w0_0 : Value) (w1_0 : Value) (h0_0 : Yp.rd w [w0_0] a0.Pages F) (h1_0 : Yr.rd w [w1_0] a1 F) (r : Heap × Int) (m : impl_RedoAll.f a0 a1 = some r) :
  Calls prog 19 #[(.agg #[w0_0]), w1_0] w (RT (impl_RedoAll.Q w F) r) := by
 obtain ⟨s0, rfl, kp0, z⟩ := Xk w F
 have A0_0 := z.rd h0_0
 have A1_0 := z.rd h1_0
 refine Xd (args := [(.agg #[w0_0]), w1_0]) func19 ntmps19 rfl rfl m ?_
 unfold impl_RedoAll.f
 refine sr (bx' (cs := [w0_0]) 40 rfl rfl (fun b3 s3 p3 B3 => ?_))
 refine al' (cs := [(.slice none 0 0)]) 41 rfl o32 rfl (fun b5 s5 p5 B5 => ?_)
 refine Xc rfl (dn (sq (sr ?_)))
 have A7 := B3.st p5 rfl
 refine Xw (es := [w0_0]) A7 u32 z32 rfl ?_
 have K8 := kp0.st (Xq p3 p5) rfl
 refine Ym 42 rfl func33 rfl (impl_HeapOk.calls a0 s5.w (mm [0] s5) w0_0 (A0_0.kp K8)) (fun r10 s11 p11 n11 => ?_)
 refine Xc rfl (dn (cd rfl (fun h12 => ?_) (fun h12 => ?_)))
 ·
  refine sr (bd' (cells := [(.slice none 0 0)]) pl32 o32 rfl rfl ?_)
  refine Xu (vs := [(.slice none 0 0)]) (B5.st p11 rfl) z32 rfl (Xb rfl Xi) rfl (fun s14 p14 B14 => ?_)
  refine Xc rfl (dn ?_)
  have A16 : OwF kd32 s14 [(.slice none 0 0)] (Heap.mk ([] : (List Page))) 43 := ow_z _ _ (Xz (fun x : Heap => (x.Pages)) (Heap.mk ([] : (List Page))) (Ya 59 kd59))
  have K18 := K8.st (Xq p11 p14) rfl
  exact re rfl func19 rfl (r_b B14 u32 rfl z32 rfl (Xs rfl Xe)) rfl ⟨_, rfl, (.slice none 0 0), rfl, A16.fo K18 rfl z.l, z.ky K18⟩
 refine sk (sr (bd' (cells := [(.slice none 0 0)]) pl32 o32 rfl rfl (al' (cs := [(.slice none 0 0)]) 44 rfl o32 rfl (fun b19 s19 p19 B19 => ?_))))
 refine Xu (vs := [(.slice none 0 0)]) B19 z32 rfl (Xb rfl Xi) rfl (fun s21 p21 B21 => ?_)
 refine dn (sq (sr (Xt fa32_0 rfl ?_)))
 refine Yb (A7.st (Yi p11 p19 p21) rfl) u30 rfl ?_
 have K24 := K8.st (Yi p11 p19 p21) rfl
 refine Yl (A0_0.kp K24) u30 rfl (Xc rfl (dn (bl ?_)))
 refine lpI (fun (x26 : Int × (List Page)) e w => ∃ (s : St) (e0 : Env) (vx26_0 : Value), w = s.w ∧ e = upd (upd (upd (upd (upd (upd e0 1 w1_0) 4 (pB b5)) 6 (pB b19)) 19 w0_0) 20 (iI (a0.Pages.length : Int))) 21 (iI x26.1) ∧ Kp s0 s ∧ OwF Yp s [vx26_0] x26.2 45 ∧ BlF s b19 32 [vx26_0] 44 ∧ BlF s b5 32 [(.slice none 0 0)] 41) ⟨s21, _, (.slice none 0 0), rfl, (ue (ue (ue (ue (ue (ue rfl rfl) rfl) rfl) rfl) rfl) rfl), K24, (Yk 59 kd59 _ 45), B21, (B5.st (Yi p11 p19 p21) rfl)⟩ (fun g26 ih26 => ?_)
 rintro x26 _ _ ⟨s28, _, vx26_0, rfl, rfl, Kx26, Ax26_0, Bx26_b19, Bx26_b5⟩
 unfold impl_RedoAll.b0
 refine sr (Xc rfl (dn (sq (cd rfl (fun h32 => ?_) (fun h32 => ?_)))))
 ·
  refine sk (sq (bl (sr ?_)))
  refine ix' (A0_0.kp Kx26) u30 z59 rfl (fun ad34 es34 h0_34 h1_34 he34 ce34 ia34 => ?_)
  obtain ⟨v34_0, rfl, A34_0⟩ := op59 he34
  refine lca ce34 u59 z59 rfl rfl rfl rfl rfl rfl rfl (al' (cs := [(iI 0), (.slice none 0 0)]) 46 rfl o59 rfl (fun b37 s37 p37 B37 => ?_))
  have A39 := A34_0.st p37 rfl
  refine Xu (vs := [(iI ((at_ a0.Pages x26.1).Lsn)), v34_0]) B37 z59 rfl (Xb rfl (Xb A39.one Xi)) rfl (fun s40 p40 B40 => ?_)
  refine dn (zdraw [[], [0], [], [2], [], [4], [3, 5], [6], [1, 7, 5], [0, 1, 2, 3, 4, 5, 6, 7, 8], [9, 8, 8, 0, 1, 2, 3, 4, 5, 6, 7, 8]] [some 25, some 26, some 27, some 28, some 29, some 30, some 31, some 32, some 33, some 34, none] [[6], [25], [8], [27], [8], [29], [28, 30], [31], [26, 32], [6], [34, 33]] [0, 1, 2, 3, 4, 5, 6, 7, 8, 9, 10] ⟨by kernel_rfl, by kernel_rfl, by kernel_rfl⟩ (by kernel_rfl) (fun s42 p42 l42 tb42 zd42 => ?_))
  refine Yc 5 [some 28, some 27, some 26, some 25] tb42 (((((zd42.add 0 25 (pB b19) rfl).add 1 26 vx26_0 rfl).add 2 27 (pB b37) rfl).add 3 28 (iI ((at_ a0.Pages x26.1).Lsn)) rfl).add 4 29 (.agg #[(iI ((at_ a0.Pages x26.1).Lsn)), v34_0]) rfl) (Xa (lda_q' (es := [(iI ((at_ a0.Pages x26.1).Lsn)), v34_0]) (B40.st p42 rfl) u59 z59 rfl) rfl (Xa (Xp (B40.st p42 rfl) u3 rfl) rfl (Xa (Xr fa59_0 rfl) rfl (Xa (Xp (Bx26_b19.st (Yi p37 p40 p42) rfl) u30 rfl) rfl (Xa (Xr fa32_0 rfl) rfl Xg))))) (by kernel_rfl) rfl (fun l51 e51 zd51 => ?_)
  refine clO 47 rfl func35 rfl (impl_Page_slots.calls (at_ a0.Pages x26.1) s42.w (mm [0] s42) v34_0 (A39.st (Xq p40 p42) rfl)) (fun r56 v56_0 s57 p57 A56_0 => ?_)
  refine Xl (L' := [3, 2, 1, 0]) (D' := [4, 5]) zd51 rfl (fun zd59 => ?_)
  refine Yc 7 [some 26, some 25] tb42 (zd59.add 6 31 (.agg #[(iI ((at_ a0.Pages x26.1).Lsn)), v56_0]) rfl) (Xa (bd_q (cells := [(iI ((at_ a0.Pages x26.1).Lsn)), v56_0]) pl59 o59 rfl rfl rfl rfl rfl (lfill_pc (pc_c rfl (pc_c (oc A56_0.rd.one) pc_n)) rfl)) rfl (Xa (Xp (B40.st (Xq p42 p57) rfl) u3 rfl) rfl (Xa (Xr fa59_0 rfl) rfl (Xa (Xp (Bx26_b19.st (tr4 p37 p40 p42 p57) rfl) u30 rfl) rfl (Xa (Xr fa32_0 rfl) rfl Xg))))) (by kernel_rfl) rfl (fun l61 e61 zd61 => ?_)
  have A64 : OwF kd59 s57 [(iI ((at_ a0.Pages x26.1).Lsn)), v56_0] (Page.mk ((at_ a0.Pages x26.1).Lsn) r56) 47 := (Xo (fun x : Page => (x.Lsn, x.Slots)) (Page.mk ((at_ a0.Pages x26.1).Lsn) r56) (Yg (Xf .i64 ((at_ a0.Pages x26.1).Lsn)) A56_0))
  refine ltO (K := kd59) (cells := [(iI ((at_ a0.Pages x26.1).Lsn)), v56_0]) [(Page.mk ((at_ a0.Pages x26.1).Lsn) r56)] 47 u30 z59 o59 (lo_one A64) rfl rfl rfl rfl rfl rfl rfl rfl rfl rfl (fun v67 s67 p67 A67 => ?_)
  refine Xl (L' := [1, 0]) (D' := [2, 3, 6, 7, 4, 5]) zd61 rfl (fun zd69 => ?_)
  refine zfin [8, 9, 10] tb42 zd69 (Xa (Xp (Bx26_b19.st (tr5 p37 p40 p42 p57 p67) rfl) u30 rfl) rfl (Xa (Xr fa32_0 rfl) rfl Xg)) (by kernel_rfl) (by decide) (apO sl30 (Ax26_0.st (tr5 p37 p40 p42 p57 p67) rfl) A67 rfl rfl rfl rfl rfl rfl rfl rfl rfl (fun v72 s72 p72 A72 => ?_))
  refine Xt fa32_0 rfl (sv' (Bx26_b19.st (tr6 p37 p40 p42 p57 p67 p72) rfl) z30 rfl A72.rd.one rfl (fun s75 p75 B75 => ?_))
  refine dn (ib (rg (Xc rfl (Xc rfl (dn ?_)))))
  exact lb ih26 ⟨s75, _, v72, rfl, (ue (ue (ue (ue (ue (ue rfl rfl) rfl) rfl) rfl) rfl) rfl), (Kx26.st (tr7 p37 p40 p42 p57 p67 p72 p75) rfl), (A72.st p75 rfl), B75, (Bx26_b5.st (tr7 p37 p40 p42 p57 p67 p72 p75) rfl)⟩
 refine xt rfl (sgb (sq (sr (Xx w1_0 rfl ?_))))
 refine Yl (A1_0.kp Kx26) u47 rfl (Xc rfl (dn (bl (lpI (fun (x81 : Int × (List Page)) e w => ∃ (s : St) (e0 : Env) (vx81_0 : Value), w = s.w ∧ e = upd (upd (upd (upd (upd (upd e0 1 w1_0) 4 (pB b5)) 6 (pB b19)) 36 w1_0) 37 (iI (a1.length : Int))) 38 (iI x81.1) ∧ Kp s0 s ∧ OwF Yp s [vx81_0] x81.2 45 ∧ BlF s b19 32 [vx81_0] 44 ∧ BlF s b5 32 [(.slice none 0 0)] 41) ⟨s28, _, vx26_0, rfl, (ue (ue (ue (ue (ue (ue rfl rfl) rfl) rfl) rfl) rfl) rfl), Kx26, Ax26_0, Bx26_b19, Bx26_b5⟩ (fun g81 ih81 => ?_)))))
 rintro x81 _ _ ⟨s82, _, vx81_0, rfl, rfl, Kx81, Ax81_0, Bx81_b19, Bx81_b5⟩
 unfold impl_RedoAll.b1
 refine sr (Xc rfl (dn (sq (cd rfl (fun h86 => ?_) (fun h86 => ?_)))))
 ·
  refine sk (sq (bl (sr (Xc rfl ?_))))
  refine ix' (A1_0.kp Kx81) u47 z36 rfl (fun ad88 es88 h0_88 h1_88 he88 ce88 ia88 => ?_)
  obtain ⟨v88_0, rfl, A88_0⟩ := op36 he88
  refine lca ce88 u36 z36 rfl rfl rfl rfl rfl rfl rfl (al' (cs := [(iI 0), (iI 0), (iI 0), (iI 0), (iI 0), (.slice none 0 0)]) 49 rfl o36 rfl (fun b91 s91 p91 B91 => ?_))
  refine Xc rfl ?_
  have A93 := A88_0.st p91 rfl
  refine Xu (vs := [(iI ((at_ a1 x81.1).Kind)), (iI ((at_ a1 x81.1).Lsn)), (iI ((at_ a1 x81.1).Xid)), (iI ((at_ a1 x81.1).Page)), (iI ((at_ a1 x81.1).Slot)), v88_0]) B91 z36 rfl (Xb rfl (Xb rfl (Xb rfl (Xb rfl (Xb rfl (Xb A93.one Xi)))))) rfl (fun s94 p94 B94 => ?_)
  refine dn (sr ?_)
  have A96 := Bx81_b19.st (Xq p91 p94) rfl
  refine Xw (es := [vx81_0]) A96 u32 z32 rfl (Xw (es := [(iI ((at_ a1 x81.1).Kind)), (iI ((at_ a1 x81.1).Lsn)), (iI ((at_ a1 x81.1).Xid)), (iI ((at_ a1 x81.1).Page)), (iI ((at_ a1 x81.1).Slot)), v88_0]) B94 u36 z36 rfl ?_)
  have A97 := Ax81_0.st (Xq p91 p94) rfl
  refine cl' rfl func10 rfl (impl_RedoOne.calls (Heap.mk x81.2) (at_ a1 x81.1) s94.w (mm [45, 0] s94) vx81_0 v88_0 (A97.rd.sub (D := [45, 0]) rfl) ((A93.st p94 rfl).sub (D := [45, 0]) rfl)) ?_
  rintro r99 _ w99 m99 ⟨v99_0, rfl, f99_0, ky99⟩
  obtain ⟨s100, rfl, p100, n100⟩ := nwx s94 w99 50 ky99
  refine Xc rfl (Xc (v := (.agg #[v99_0])) rfl (Xc (v := (.bool r99.2)) rfl (al' (cs := [(.slice none 0 0)]) 51 rfl o32 rfl (fun b102 s102 p102 B102 => ?_))))
  have A104 := (ap32 (f99_0.c n100)).st p102 rfl
  refine Xu (vs := [v99_0]) B102 z32 rfl (Xb A104.rd.one Xi) rfl (fun s105 p105 B105 => ?_)
  refine Xc rfl (dn (sq (sr (Xc rfl (Xc rfl (dn (cd rfl (fun h107 => ?_) (fun h107 => ?_))))))))
  ·
   refine sr (Xw (es := [vx81_0]) (A96.st (Yi p100 p102 p105) rfl) u32 z32 rfl (Xc rfl ?_))
   have A110 := A97.st (Yi p100 p102 p105) rfl
   refine Xu (vs := [vx81_0]) (Bx81_b5.st (tr5 p91 p94 p100 p102 p105) rfl) z32 rfl (Xb A110.rd.one Xi) rfl (fun s111 p111 B111 => ?_)
   refine Xc rfl (dn (sgi ?_))
   have A113 : OwF kd32 s111 [vx81_0] (Heap.mk x81.2) 45 := (Xo (fun x : Heap => (x.Pages)) (Heap.mk x81.2) (A110.st p111 rfl))
   have K116 := Kx81.st (tr6 p91 p94 p100 p102 p105 p111) rfl
   exact re rfl func19 rfl (r_b B111 u32 rfl z32 rfl (Xs rfl Xe)) rfl ⟨_, rfl, vx81_0, rfl, A113.fo K116 rfl z.l, z.ky K116⟩
  refine sk (rg (Xw (es := [v99_0]) B105 u32 z32 rfl ?_))
  have A118 := A104.st p105 rfl
  refine Xu (vs := [v99_0]) (A96.st (Yi p100 p102 p105) rfl) z32 rfl (Xb A118.rd.one Xi) rfl (fun s119 p119 B119 => ?_)
  refine dn (ib (rg (Xc rfl (Xc rfl (dn ?_)))))
  obtain ⟨s122, hw122, p122, A122⟩ := (A118.st p119 rfl).rc 45 rfl
  rw [hw122]
  exact lb ih81 ⟨s122, _, v99_0, rfl, (ue (ue (ue (ue (ue (ue rfl rfl) rfl) rfl) rfl) rfl) rfl), (Kx81.st (tr7 p91 p94 p100 p102 p105 p119 p122) rfl), A122, (B119.st p122 rfl), (Bx81_b5.st (tr7 p91 p94 p100 p102 p105 p119 p122) rfl)⟩
 refine xt rfl (sgb (sr (Xw (es := [vx81_0]) Bx81_b19 u32 z32 rfl (Xx w1_0 rfl ?_))))
 refine Yl (A1_0.kp Kx81) u47 rfl (Xu (vs := [vx81_0]) Bx81_b5 z32 rfl (Xb Ax81_0.rd.one Xi) rfl (fun s127 p127 B127 => ?_))
 refine Xc rfl (dn ?_)
 have A129 : OwF kd32 s127 [vx81_0] (Heap.mk x81.2) 45 := (Xo (fun x : Heap => (x.Pages)) (Heap.mk x81.2) (Ax81_0.st p127 rfl))
 have K132 := Kx81.st p127 rfl
 exact re rfl func19 rfl (r_b B127 u32 rfl z32 rfl (Xs rfl Xe)) rfl ⟨_, rfl, vx81_0, rfl, A129.fo K132 rfl z.l, z.ky K132⟩
def laws_eqRecordS.b0 (a0 : (List Record)) (a1 : (List Record)) (x4 : Int) : Option (Int ⊕ Bool) :=
 (if (decide (x4 < (a0.length : Int))) = true then (if 0 ≤ x4 ∧ x4 < (a0.length : Int) then (if 0 ≤ x4 ∧ x4 < (a1.length : Int) then ((laws_eqRecord.f (at_ a0 x4) (at_ a1 x4)).bind fun r26 => (if (!r26) = true then (some (Sum.inr false)) else (some (Sum.inl (IntKind.wrap .i64 (x4 + (1 : Int))))))) else none) else none) else ((some true).bind fun o => some (Sum.inr o)))
def laws_eqRecordS.f (a0 : (List Record)) (a1 : (List Record)) : Option (Bool) :=
 (if ((a0.length : Int) != (a1.length : Int)) = true then (some false) else (iter (laws_eqRecordS.b0 a0 a1) (0 : Int)))
def laws_eqRecordS.Q (w : World) (F : Nat → Prop) (r : Bool) (v : Value) (w' : World) : Prop :=
 v = (.bool r) ∧ Ky [] w w'
theorem laws_eqRecordS.calls (a0 : (List Record)) (a1 : (List Record)) (w : World) (F : Nat → Prop) (w0_0 : Value) (w1_0 : Value) (h0_0 : Yr.rd w [w0_0] a0 F) (h1_0 : Yr.rd w [w1_0] a1 F) (r : Bool) (m : laws_eqRecordS.f a0 a1 = some r) :
  Calls prog 20 #[w0_0, w1_0] w (RT (laws_eqRecordS.Q w F) r) := by
 obtain ⟨s0, rfl, kp0, z⟩ := Xk w F
 have A0_0 := z.rd h0_0
 have A1_0 := z.rd h1_0
 refine Xd (args := [w0_0, w1_0]) func20 ntmps20 rfl rfl m ?_
 unfold laws_eqRecordS.f
 refine sr (Xc rfl (dn (sq (sr (Xx w0_0 rfl (Yl A0_0 u47 rfl (Xx w1_0 rfl (Yl A1_0 u47 rfl (Xc rfl (dn (cd rfl (fun h3 => ?_) (fun h3 => ?_))))))))))))
 ·
  exact sr (Xc rfl (dn (re rfl func20 rfl (Xs rfl Xe) rfl ⟨_, rfl, rfl, z.ky kp0⟩)))
 refine sk (sq (sr (Xc rfl (dn (bl (lpI (fun (x4 : Int) e w => ∃ (s : St) (e0 : Env), w = s.w ∧ e = upd (upd (upd e0 0 w0_0) 1 w1_0) 5 (iI x4) ∧ Kp s0 s) ⟨s0, _, rfl, (ue (ue (ue rfl rfl) rfl) rfl), kp0⟩ (fun g4 ih4 => ?_)))))))
 rintro x4 _ _ ⟨s5, _, rfl, rfl, Kx4⟩
 unfold laws_eqRecordS.b0
 refine sq (sr (Xc rfl (Xx w0_0 rfl ?_)))
 refine Yl (A0_0.kp Kx4) u47 rfl (Xc rfl (dn (cd rfl (fun h7 => ?_) (fun h7 => ?_))))
 ·
  refine sk (sq (bl (sq (zdraw [[], [], [0, 1], [2], [], [], [4, 5], [6], [3, 7], [8]] [some 17, some 18, some 19, some 20, some 21, some 22, some 23, some 24, some 25, some 26] [[0], [5], [17, 18], [19], [1], [5], [21, 22], [23], [20, 24], [25]] [0, 1, 2, 3, 4, 5, 6, 7, 8, 9] ⟨by kernel_rfl, by kernel_rfl, by kernel_rfl⟩ (by kernel_rfl) (fun s8 p8 l8 tb8 zd8 => ?_)))))
  have K11 := Kx4.st p8 rfl
  have A12 := A0_0.kp K11
  refine mg fun hg13 => ?_
  obtain ⟨ad13, es13, he13, ce13, ia13⟩ := ix_e A12 rfl hg13.1 hg13.2
  obtain ⟨v13_0, rfl, A13_0⟩ := op36 he13
  have A20 := A1_0.kp K11
  refine mg fun hg21 => ?_
  obtain ⟨ad21, es21, he21, ce21, ia21⟩ := ix_e A20 rfl hg21.1 hg21.2
  obtain ⟨v21_0, rfl, A21_0⟩ := op36 he21
  refine zfin [8, 9] tb8 ((((((((zd8.add 0 17 w0_0 rfl).add 1 18 (iI x4) rfl).add 2 19 (.pointer (some ad13)) rfl).add 3 20 (.agg #[(iI ((at_ a0 x4).Kind)), (iI ((at_ a0 x4).Lsn)), (iI ((at_ a0 x4).Xid)), (iI ((at_ a0 x4).Page)), (iI ((at_ a0 x4).Slot)), v13_0]) rfl).add 4 21 w1_0 rfl).add 5 22 (iI x4) rfl).add 6 23 (.pointer (some ad21)) rfl).add 7 24 (.agg #[(iI ((at_ a1 x4).Kind)), (iI ((at_ a1 x4).Lsn)), (iI ((at_ a1 x4).Xid)), (iI ((at_ a1 x4).Page)), (iI ((at_ a1 x4).Slot)), v21_0]) rfl) (Xa (lca_q ce21 u36 z36 rfl rfl rfl rfl rfl rfl rfl) rfl (Xa (ix_q' A20 u47 z36 hg21.1 hg21.2 ia21 rfl) rfl (Xa (Xm rfl) rfl (Xa (Xn w1_0 rfl) rfl (Xa (lca_q ce13 u36 z36 rfl rfl rfl rfl rfl rfl rfl) rfl (Xa (ix_q' A12 u47 z36 hg13.1 hg13.2 ia13 rfl) rfl (Xa (Xm rfl) rfl (Xa (Xn w0_0 rfl) rfl Xg)))))))) (by kernel_rfl) (by decide) (Ym 40 rfl func12 rfl (laws_eqRecord.calls (at_ a0 x4) (at_ a1 x4) s8.w (mm [0] s8) v13_0 v21_0 A13_0 A21_0) (fun r26 s27 p27 n27 => ?_))
  refine Xc rfl (dn (cd rfl (fun h28 => ?_) (fun h28 => ?_)))
  ·
   refine sr (Xc rfl (dn (sgi ?_)))
   exact re rfl func20 rfl (Xs rfl Xe) rfl ⟨_, rfl, rfl, z.ky (K11.st p27 rfl)⟩
  refine sk (ib (rg (Xc rfl (Xc rfl (Xc rfl (dn ?_))))))
  exact lb ih4 ⟨s27, _, rfl, (ue (ue (ue rfl rfl) rfl) rfl), (K11.st p27 rfl)⟩
 exact xt rfl (sgb (sr (Xc rfl (dn (re rfl func20 rfl (Xs rfl Xe) rfl ⟨_, rfl, rfl, z.ky Kx4⟩)))))
def laws_markRecordS.b0  (x2 : (List Record) × Int × Int) : Option (((List Record) × Int × Int) ⊕ (Int × (List Record))) :=
 (if (decide (x2.2.2 < (x2.1.length : Int))) = true then (if 0 ≤ x2.2.2 ∧ x2.2.2 < (x2.1.length : Int) then ((some (x2.1.set (x2.2.2).toNat (Record.mk x2.2.1 (at_ x2.1 x2.2.2).Lsn (at_ x2.1 x2.2.2).Xid (at_ x2.1 x2.2.2).Page (at_ x2.1 x2.2.2).Slot (at_ x2.1 x2.2.2).Data))).bind fun y11 => (if 0 ≤ x2.2.2 ∧ x2.2.2 < (y11.length : Int) then ((some (y11.set (x2.2.2).toNat (Record.mk (at_ y11 x2.2.2).Kind (IntKind.wrap .i64 (x2.2.1 + (1 : Int))) (at_ y11 x2.2.2).Xid (at_ y11 x2.2.2).Page (at_ y11 x2.2.2).Slot (at_ y11 x2.2.2).Data))).bind fun y17 => (if 0 ≤ x2.2.2 ∧ x2.2.2 < (y17.length : Int) then ((some (y17.set (x2.2.2).toNat (Record.mk (at_ y17 x2.2.2).Kind (at_ y17 x2.2.2).Lsn (IntKind.wrap .i64 ((IntKind.wrap .i64 (x2.2.1 + (1 : Int))) + (1 : Int))) (at_ y17 x2.2.2).Page (at_ y17 x2.2.2).Slot (at_ y17 x2.2.2).Data))).bind fun y23 => (if 0 ≤ x2.2.2 ∧ x2.2.2 < (y23.length : Int) then ((some (y23.set (x2.2.2).toNat (Record.mk (at_ y23 x2.2.2).Kind (at_ y23 x2.2.2).Lsn (at_ y23 x2.2.2).Xid (IntKind.wrap .i64 ((IntKind.wrap .i64 ((IntKind.wrap .i64 (x2.2.1 + (1 : Int))) + (1 : Int))) + (1 : Int))) (at_ y23 x2.2.2).Slot (at_ y23 x2.2.2).Data))).bind fun y29 => (if 0 ≤ x2.2.2 ∧ x2.2.2 < (y29.length : Int) then ((some (y29.set (x2.2.2).toNat (Record.mk (at_ y29 x2.2.2).Kind (at_ y29 x2.2.2).Lsn (at_ y29 x2.2.2).Xid (at_ y29 x2.2.2).Page (IntKind.wrap .i64 ((IntKind.wrap .i64 ((IntKind.wrap .i64 ((IntKind.wrap .i64 (x2.2.1 + (1 : Int))) + (1 : Int))) + (1 : Int))) + (1 : Int))) (at_ y29 x2.2.2).Data))).bind fun y35 => (if 0 ≤ x2.2.2 ∧ x2.2.2 < (y35.length : Int) then ((laws_markByteS.f ((at_ y35 x2.2.2).Data) (IntKind.wrap .i64 ((IntKind.wrap .i64 ((IntKind.wrap .i64 ((IntKind.wrap .i64 ((IntKind.wrap .i64 (x2.2.1 + (1 : Int))) + (1 : Int))) + (1 : Int))) + (1 : Int))) + (1 : Int)))).bind fun r39 => ((some (y35.set (x2.2.2).toNat (Record.mk (at_ y35 x2.2.2).Kind (at_ y35 x2.2.2).Lsn (at_ y35 x2.2.2).Xid (at_ y35 x2.2.2).Page (at_ y35 x2.2.2).Slot r39.2))).bind fun y42 => (some (Sum.inl (y42, r39.1, (IntKind.wrap .i64 (x2.2.2 + (1 : Int)))))))) else none)) else none)) else none)) else none)) else none)) else none) else ((some (x2.2.1, x2.1)).bind fun o => some (Sum.inr o)))
def laws_markRecordS.f (a0 : (List Record)) (a1 : Int) : Option (Int × (List Record)) :=
 (iter laws_markRecordS.b0 (a0, a1, (0 : Int)))
def laws_markRecordS.Q (w : World) (F : Nat → Prop) (os : List Nat) (w0_0 : Value) (r : Int × (List Record)) (v : Value) (w' : World) : Prop :=
 v = (iI r.1) ∧ FW Yr os w w' [w0_0] r.2 ∧ Ky os w w'
theorem laws_markRecordS.calls (a0 : (List Record)) (a1 : Int) (w : World) (F : Nat → Prop) (w0_0 : Value) (os : List Nat) (h0_0 : Yr.ow w [w0_0] a0 os) (hn : os.Nodup) (hF : ∀ b, F b → b ∉ os) (r : Int × (List Record)) (m : laws_markRecordS.f a0 a1 = some r) :
  Calls prog 21 #[w0_0, (iI a1)] w (RT (laws_markRecordS.Q w F os w0_0) r) := by
 obtain ⟨s0, rfl, kp0, z⟩ := start1 w F os hF
 refine Xd (args := [w0_0, (iI a1)]) func21 ntmps21 rfl rfl m ?_
 unfold laws_markRecordS.f
 refine sr (Xc rfl (dn (sq (sr (Xc rfl (dn (bl (lpI (fun (x2 : (List Record) × Int × Int) e w => ∃ (s : St) (e0 : Env), w = s.w ∧ e = upd (upd (upd e0 0 w0_0) 1 (iI x2.2.1)) 5 (iI x2.2.2) ∧ Kp s0 s ∧ OwF Yr s [w0_0] x2.1 2) ⟨s0, _, rfl, (ue (ue (ue rfl rfl) rfl) rfl), kp0, (z.ow h0_0 hn)⟩ (fun g2 ih2 => ?_)))))))))
 rintro x2 _ _ ⟨s3, _, rfl, rfl, Kx2, Ax2_0⟩
 unfold laws_markRecordS.b0
 refine sq (sr (Xc rfl (Xx w0_0 rfl (Yl Ax2_0.rd u47 rfl (Xc rfl (dn (cd rfl (fun h5 => ?_) (fun h5 => ?_))))))))
 ·
  refine sk (sq (bl (sr (Xx w0_0 rfl (Xc rfl (Xc rfl (ix' Ax2_0.rd u47 z36 rfl (fun ad6 es6 h0_6 h1_6 he6 ce6 ia6 => ?_))))))))
  obtain ⟨v6_0, rfl, A6_0⟩ := op36 he6
  refine Xt fa36_0 rfl (so (x' := (Record.mk x2.2.1 (at_ x2.1 x2.2.2).Lsn (at_ x2.1 x2.2.2).Xid (at_ x2.1 x2.2.2).Page (at_ x2.1 x2.2.2).Slot (at_ x2.1 x2.2.2).Data)) Ax2_0 ia6 h0_6 h1_6 (cs_iso (cs_left cs_flat)) z3 rfl rfl rfl rfl rfl rfl (fun s9 p9 A9 => ?_))
  refine nb (fun y11 h11 => ?_)
  have A11 : OwF Yr s9 [w0_0] y11 2 := by rw [h11]; exact A9
  refine dn (sr (Xc rfl (Xc rfl (Xc rfl (dn (sr (Xx w0_0 rfl (Xc rfl (Xc rfl (ix' A11.rd u47 z36 rfl (fun ad12 es12 h0_12 h1_12 he12 ce12 ia12 => ?_)))))))))))
  obtain ⟨v12_0, rfl, A12_0⟩ := op36 he12
  refine Xt fa36_1 rfl (so (x' := (Record.mk (at_ y11 x2.2.2).Kind (IntKind.wrap .i64 (x2.2.1 + (1 : Int))) (at_ y11 x2.2.2).Xid (at_ y11 x2.2.2).Page (at_ y11 x2.2.2).Slot (at_ y11 x2.2.2).Data)) A11 ia12 h0_12 h1_12 (cs_iso (cs_right (cs_left cs_flat))) z3 rfl rfl rfl rfl rfl rfl (fun s15 p15 A15 => ?_))
  refine nb (fun y17 h17 => ?_)
  have A17 : OwF Yr s15 [w0_0] y17 2 := by rw [h17]; exact A15
  refine dn (sr (Xc rfl (Xc rfl (Xc rfl (dn (sr (Xx w0_0 rfl (Xc rfl (Xc rfl (ix' A17.rd u47 z36 rfl (fun ad18 es18 h0_18 h1_18 he18 ce18 ia18 => ?_)))))))))))
  obtain ⟨v18_0, rfl, A18_0⟩ := op36 he18
  refine Xt fa36_2 rfl (so (x' := (Record.mk (at_ y17 x2.2.2).Kind (at_ y17 x2.2.2).Lsn (IntKind.wrap .i64 ((IntKind.wrap .i64 (x2.2.1 + (1 : Int))) + (1 : Int))) (at_ y17 x2.2.2).Page (at_ y17 x2.2.2).Slot (at_ y17 x2.2.2).Data)) A17 ia18 h0_18 h1_18 (cs_iso (cs_right (cs_right (cs_left cs_flat)))) z3 rfl rfl rfl rfl rfl rfl (fun s21 p21 A21 => ?_))
  refine nb (fun y23 h23 => ?_)
  have A23 : OwF Yr s21 [w0_0] y23 2 := by rw [h23]; exact A21
  refine dn (sr (Xc rfl (Xc rfl (Xc rfl (dn (sr (Xx w0_0 rfl (Xc rfl (Xc rfl (ix' A23.rd u47 z36 rfl (fun ad24 es24 h0_24 h1_24 he24 ce24 ia24 => ?_)))))))))))
  obtain ⟨v24_0, rfl, A24_0⟩ := op36 he24
  refine Xt fa36_3 rfl (so (x' := (Record.mk (at_ y23 x2.2.2).Kind (at_ y23 x2.2.2).Lsn (at_ y23 x2.2.2).Xid (IntKind.wrap .i64 ((IntKind.wrap .i64 ((IntKind.wrap .i64 (x2.2.1 + (1 : Int))) + (1 : Int))) + (1 : Int))) (at_ y23 x2.2.2).Slot (at_ y23 x2.2.2).Data)) A23 ia24 h0_24 h1_24 (cs_iso (cs_right (cs_right (cs_right (cs_left cs_flat))))) z3 rfl rfl rfl rfl rfl rfl (fun s27 p27 A27 => ?_))
  refine nb (fun y29 h29 => ?_)
  have A29 : OwF Yr s27 [w0_0] y29 2 := by rw [h29]; exact A27
  refine dn (sr (Xc rfl (Xc rfl (Xc rfl (dn (sr (Xx w0_0 rfl (Xc rfl (Xc rfl (ix' A29.rd u47 z36 rfl (fun ad30 es30 h0_30 h1_30 he30 ce30 ia30 => ?_)))))))))))
  obtain ⟨v30_0, rfl, A30_0⟩ := op36 he30
  refine Xt fa36_4 rfl (so (x' := (Record.mk (at_ y29 x2.2.2).Kind (at_ y29 x2.2.2).Lsn (at_ y29 x2.2.2).Xid (at_ y29 x2.2.2).Page (IntKind.wrap .i64 ((IntKind.wrap .i64 ((IntKind.wrap .i64 ((IntKind.wrap .i64 (x2.2.1 + (1 : Int))) + (1 : Int))) + (1 : Int))) + (1 : Int))) (at_ y29 x2.2.2).Data)) A29 ia30 h0_30 h1_30 (cs_iso (cs_right (cs_right (cs_right (cs_right (cs_left cs_flat)))))) z3 rfl rfl rfl rfl rfl rfl (fun s33 p33 A33 => ?_))
  refine nb (fun y35 h35 => ?_)
  have A35 : OwF Yr s33 [w0_0] y35 2 := by rw [h35]; exact A33
  refine dn (sr (Xc rfl (Xc rfl (Xc rfl (dn (rg (Xx w0_0 rfl (Xc rfl (ix' A35.rd u47 z36 rfl (fun ad36 es36 h0_36 h1_36 he36 ce36 ia36 => ?_))))))))))
  obtain ⟨v36_0, rfl, A36_0⟩ := op36 he36
  refine Xt fa36_5 rfl (lc ce36 u25 rfl rfl rfl rfl rfl rfl rfl rfl (Xc rfl ?_))
  obtain ⟨os39, ho39, hn39, hc39, put39⟩ := focus (ln_iso (fun x : Record => (x.Kind, x.Lsn, x.Xid, x.Page, x.Slot, x.Data)) (fun x => x.Data) (fun x y => (Record.mk x.Kind x.Lsn x.Xid x.Page x.Slot y)) (ln_right (ln_right (ln_right (ln_right (ln_right ln_sl))))) (fun _ => rfl) (fun _ _ => rfl)) A35 h0_36 h1_36 ia36 ce36 rfl rfl
  refine cl' rfl func40 rfl (laws_markByteS.calls ((at_ y35 x2.2.2).Data) (IntKind.wrap .i64 ((IntKind.wrap .i64 ((IntKind.wrap .i64 ((IntKind.wrap .i64 ((IntKind.wrap .i64 (x2.2.1 + (1 : Int))) + (1 : Int))) + (1 : Int))) + (1 : Int))) + (1 : Int))) s33.w (mm [] s33) v36_0 os39 ho39 hn39 (apart_of hc39 rfl)) ?_
  rintro r39 _ w39 m39 ⟨rfl, w39_, ky39⟩
  obtain ⟨s40, rfl, p40, A40⟩ := put39 w39 _ 40 ky39 w39_
  refine nb (fun y42 h42 => ?_)
  have A42 : OwF Yr s40 [w0_0] y42 2 := by rw [h42]; exact A40
  refine Xc rfl (dn (ib (rg (Xc rfl (Xc rfl (Xc rfl (dn ?_)))))))
  exact lb ih2 ⟨s40, _, rfl, (ue (ue (ue rfl rfl) rfl) rfl), (Kx2.st (tr6 p9 p15 p21 p27 p33 p40) rfl), A42⟩
 exact xt rfl (sgb (sr (Xc rfl (Xc rfl (dn (re rfl func21 rfl (Xs rfl Xe) rfl ⟨_, rfl, rfl, z.fw Kx2 Ax2_0, z.ky Kx2⟩))))))
def laws_FnExactRedoAll.f (a0 : Heap) (a1 : (List Record)) : Option (Bool) :=
 ((laws_szHeap.f a0 (1048576 : Int)).bind fun r7 => (if (decide (r7 < (0 : Int))) = true then (some true) else ((laws_szRecordS.f a1 r7).bind fun r13 => (if (decide (r13 < (0 : Int))) = true then (some true) else ((laws_toHeap.f a0).bind fun r20 => ((laws_toRecordS.f a1).bind fun r25 => ((spec_RedoAll.f r20 r25).bind fun r29 => ((laws_toHeap.f a0).bind fun r40 => ((laws_toRecordS.f a1).bind fun r50 => ((impl_RedoAll.f r40 r50).bind fun r55 => ((laws_eqHeap.f r55.1 r29.1).bind fun r66 => (if ((!r66) || (r55.2 != r29.2)) = true then (some false) else ((laws_toHeap.f a0).bind fun r81 => ((laws_eqHeap.f r40 r81).bind fun r87 => (if (!r87) = true then (some false) else ((laws_toRecordS.f a1).bind fun r93 => ((laws_eqRecordS.f r50 r93).bind fun r97 => (if (!r97) = true then (some false) else ((laws_markHeap.f r40 (1 : Int)).bind fun r102 => ((laws_markRecordS.f r50 r102.1).bind fun r106 => ((if (decide (r106.1 < (0 : Int))) = true then (some true) else ((laws_eqHeap.f r55.1 r29.1).bind fun r121 => (some (!r121)))).bind fun y110 => (if (y110 || (r55.2 != r29.2)) = true then (some false) else ((laws_markHeap.f r55.1 (1 : Int)).bind fun r135 => ((laws_heldHeap.f (Heap.mk r135.2) (1 : Int)).bind fun r139 => (if (decide (r139 < (0 : Int))) = true then (some false) else (if (r139 != r135.1) = true then (some false) else ((laws_toHeap.f a0).bind fun r148 => ((laws_toRecordS.f a1).bind fun r153 => ((impl_RedoAll.f r148 r153).bind fun r157 => ((laws_eqHeap.f r157.1 r29.1).bind fun r168 => (if ((!r168) || (r157.2 != r29.2)) = true then (some false) else ((laws_heldHeap.f (Heap.mk r135.2) (1 : Int)).bind fun r175 => (if (decide (r175 < (0 : Int))) = true then (some false) else (if (r175 != r135.1) = true then (some false) else (some true)))))))))))))))))))))))))))))))))))
def laws_FnExactRedoAll.Q (w : World) (F : Nat → Prop) (r : Bool) (v : Value) (w' : World) : Prop :=
 v = (.bool r) ∧ Ky [] w w'
theorem laws_FnExactRedoAll.calls (a0 : Heap) (a1 : (List Record)) (w : World) (F : Nat → Prop) (w0_0 : Value) (w1_0 : Value) (h0_0 : (Kd.sl 73 kd73).rd w [w0_0] a0.Pages F) (h1_0 : (Kd.sl 27 kd27).rd w [w1_0] a1 F) (r : Bool) (m : laws_FnExactRedoAll.f a0 a1 = some r) :
  Calls prog 4 #[(.agg #[w0_0]), w1_0] w (RT (laws_FnExactRedoAll.Q w F) r) := by
 obtain ⟨s0, rfl, kp0, z⟩ := Xk w F
 have A0_0 := z.rd h0_0
 have A1_0 := z.rd h1_0
 refine Xd (args := [(.agg #[w0_0]), w1_0]) func4 ntmps4 rfl rfl m ?_
 unfold laws_FnExactRedoAll.f
 refine sr (bx' (cs := [w0_0]) 40 rfl rfl (fun b3 s3 p3 B3 => ?_))
 refine Xc rfl (dn (sr (Xc rfl (dn (sr (Xw (es := [w0_0]) B3 u24 z24 rfl (Xc rfl ?_)))))))
 have K5 := kp0.st p3 rfl
 refine Ym 41 rfl func5 rfl (laws_szHeap.calls a0 (1048576 : Int) s3.w (mm [0] s3) w0_0 (A0_0.kp K5)) (fun r7 s8 p8 n8 => ?_)
 refine Xc rfl (dn (sq (sr (Xc rfl (Xc rfl (dn (cd rfl (fun h9 => ?_) (fun h9 => ?_))))))))
 ·
  refine sr (Xc rfl (dn ?_))
  exact re rfl func4 rfl (Xs rfl Xe) rfl ⟨_, rfl, rfl, z.ky (K5.st p8 rfl)⟩
 refine sk (sr (Xx w1_0 rfl (Xc rfl ?_)))
 have K11 := K5.st p8 rfl
 refine Ym 42 rfl func16 rfl (laws_szRecordS.calls a1 r7 s8.w (mm [0] s8) w1_0 (A1_0.kp K11)) (fun r13 s14 p14 n14 => ?_)
 refine Xc rfl (dn (sq (sr (Xc rfl (Xc rfl (dn (cd rfl (fun h15 => ?_) (fun h15 => ?_))))))))
 ·
  refine sr (Xc rfl (dn ?_))
  exact re rfl func4 rfl (Xs rfl Xe) rfl ⟨_, rfl, rfl, z.ky (K11.st p14 rfl)⟩
 refine sk (sr ?_)
 have A17 := B3.st (Xq p8 p14) rfl
 refine Xw (es := [w0_0]) A17 u24 z24 rfl ?_
 have K18 := K11.st p14 rfl
 refine cl' rfl func8 rfl (laws_toHeap.calls a0 s14.w (mm [0] s14) w0_0 (A0_0.kp K18)) ?_
 rintro r20 _ w20 m20 ⟨v20_0, rfl, f20_0, ky20⟩
 obtain ⟨s21, rfl, p21, n21⟩ := nwx s14 w20 43 ky20
 refine Xx w1_0 rfl ?_
 have K23 := K18.st p21 rfl
 refine clO 44 rfl func18 rfl (laws_toRecordS.calls a1 s21.w (mm [0] s21) w1_0 (A1_0.kp K23)) (fun r25 v25_0 s26 p26 A25_0 => ?_)
 refine cl' rfl func17 rfl (spec_RedoAll.calls r20 r25 s26.w (mm [43, 44] s26) v20_0 v25_0 (((ap32 (f20_0.c n21)).st p26 rfl).rd.sub (D := [43, 44]) rfl) (A25_0.rd.sub (D := [43, 44]) rfl)) ?_
 rintro r29 _ w29 m29 ⟨v29_0, rfl, f29_0, ky29⟩
 obtain ⟨s30, rfl, p30, n30⟩ := nwx s26 w29 45 ky29
 refine Xc rfl (Xc (v := (.agg #[v29_0])) rfl (Xc (v := (iI r29.2)) rfl (al' (cs := [(.slice none 0 0)]) 46 rfl o32 rfl (fun b32 s32 p32 B32 => ?_))))
 have A34 := (ap32 (f29_0.c n30)).st p32 rfl
 refine Xu (vs := [v29_0]) B32 z32 rfl (Xb A34.rd.one Xi) rfl (fun s35 p35 B35 => ?_)
 refine Xc rfl (dn (sr ?_))
 have A37 := A17.st (tr5 p21 p26 p30 p32 p35) rfl
 refine Xw (es := [w0_0]) A37 u24 z24 rfl ?_
 have K38 := K23.st (tr4 p26 p30 p32 p35) rfl
 refine cl' rfl func8 rfl (laws_toHeap.calls a0 s35.w (mm [0] s35) w0_0 (A0_0.kp K38)) ?_
 rintro r40 _ w40 m40 ⟨v40_0, rfl, f40_0, ky40⟩
 obtain ⟨s41, rfl, p41, n41⟩ := nwx s35 w40 47 ky40
 refine al' (cs := [(.slice none 0 0)]) 48 rfl o32 rfl (fun b43 s43 p43 B43 => ?_)
 have A45 := (ap32 (f40_0.c n41)).st p43 rfl
 refine Xu (vs := [v40_0]) B43 z32 rfl (Xb A45.rd.one Xi) rfl (fun s46 p46 B46 => ?_)
 refine dn (sr (Xx w1_0 rfl ?_))
 have K48 := K38.st (Yi p41 p43 p46) rfl
 refine clO 49 rfl func18 rfl (laws_toRecordS.calls a1 s46.w (mm [0] s46) w1_0 (A1_0.kp K48)) (fun r50 v50_0 s51 p51 A50_0 => ?_)
 refine Yd v50_0 rfl (dn (sr ?_))
 have A53 := B46.st p51 rfl
 refine Xw (es := [v40_0]) A53 u32 z32 rfl (Xx v50_0 rfl ?_)
 have A54 := A45.st (Xq p46 p51) rfl
 refine cl' rfl func19 rfl (impl_RedoAll.calls r40 r50 s51.w (mm [47, 49] s51) v40_0 v50_0 (A54.rd.sub (D := [47, 49]) rfl) (A50_0.rd.sub (D := [47, 49]) rfl)) ?_
 rintro r55 _ w55 m55 ⟨v55_0, rfl, f55_0, ky55⟩
 obtain ⟨s56, rfl, p56, n56⟩ := nwx s51 w55 50 ky55
 refine Xc rfl (Xc (v := (.agg #[v55_0])) rfl (Xc (v := (iI r55.2)) rfl (al' (cs := [(.slice none 0 0)]) 51 rfl o32 rfl (fun b58 s58 p58 B58 => ?_))))
 have A60 := (ap32 (f55_0.c n56)).st p58 rfl
 refine Xu (vs := [v55_0]) B58 z32 rfl (Xb A60.rd.one Xi) rfl (fun s61 p61 B61 => ?_)
 refine Xc rfl (dn (sq (sr (Xw (es := [v55_0]) B61 u32 z32 rfl ?_))))
 have A63 := B35.st (tr7 p41 p43 p46 p51 p56 p58 p61) rfl
 refine Xw (es := [v29_0]) A63 u32 z32 rfl ?_
 have A64 := A60.st p61 rfl
 have A65 := A34.st (tr8 p35 p41 p43 p46 p51 p56 p58 p61) rfl
 refine Ym 52 rfl func11 rfl (laws_eqHeap.calls r55.1 r29.1 s61.w (mm [50, 45] s61) v55_0 v29_0 (A64.rd.sub (D := [50, 45]) rfl) (A65.rd.sub (D := [50, 45]) rfl)) (fun r66 s67 p67 n67 => ?_)
 refine Xc rfl (Xc rfl (jy [49, 50, 51, 52, 53] [] 53 (.bool ((!r66) || (r55.2 != r29.2))) rfl (fun Kg68 => ?_) (fun j68 => ?_)))
 ·
  rcases Yn (!r66) with hb68 | hb68
  ·
   exact Xy hb68 (Xj rfl (Xj rfl (Xj rfl (Xc rfl (Kg68 _ (Ag.put ((Ag.put ((Ag.put ((Ag.put (Ag.base rfl) rfl)) rfl)) rfl)) rfl) (by rw [hb68]; rfl))))))
  exact Xy hb68 (Xc rfl (Xc rfl (Xc rfl (Xc rfl (Kg68 _ (Ag.put ((Ag.put ((Ag.put ((Ag.put (Ag.base rfl) rfl)) rfl)) rfl)) rfl) (by rw [hb68]; rfl))))))
 refine dn (cd rfl (fun h69 => ?_) (fun h69 => ?_))
 ·
  refine sr (Xc rfl (dn ?_))
  exact re rfl func4 rfl (Xs rfl Xe) rfl ⟨_, rfl, rfl, z.ky (K48.st (tr5 p51 p56 p58 p61 p67) rfl)⟩
 refine sk (sq (sq (zdraw [[], [], [1], [0, 2, 2], [3]] [some 54, some 55, some 56, some 57, some 58] [[8], [2], [55], [54, 56], [57]] [0, 1, 2, 3, 4] ⟨by kernel_rfl, by kernel_rfl, by kernel_rfl⟩ (by kernel_rfl) (fun s71 p71 l71 tb71 zd71 => ?_))))
 refine Yc 2 [some 54] tb71 ((zd71.add 0 54 (.agg #[v40_0]) rfl).add 1 55 (.agg #[w0_0]) rfl) (Xa (lda_q' (es := [w0_0]) (A37.st (tr9 p41 p43 p46 p51 p56 p58 p61 p67 p71) rfl) u24 z24 rfl) rfl (Xa (lda_q' (es := [v40_0]) (A53.st (tr5 p56 p58 p61 p67 p71) rfl) u32 z32 rfl) rfl Xg)) (by kernel_rfl) rfl (fun l76 e76 zd76 => ?_)
 have K79 := K48.st (tr6 p51 p56 p58 p61 p67 p71) rfl
 refine cl' rfl func8 rfl (laws_toHeap.calls a0 s71.w (mm [0] s71) w0_0 (A0_0.kp K79)) ?_
 rintro r81 _ w81 m81 ⟨v81_0, rfl, f81_0, ky81⟩
 obtain ⟨s82, rfl, p82, n82⟩ := nwx s71 w81 53 ky81
 refine Xl (L' := [0]) (D' := [1, 2]) zd76 rfl (fun zd84 => ?_)
 refine zfin [3, 4] tb71 zd84 (Xa (lda_q' (es := [v40_0]) (A53.st (tr6 p56 p58 p61 p67 p71 p82) rfl) u32 z32 rfl) rfl Xg) (by kernel_rfl) (by decide) ?_
 have A86 := A54.st (tr6 p56 p58 p61 p67 p71 p82) rfl
 refine Ym 54 rfl func11 rfl (laws_eqHeap.calls r40 r81 s82.w (mm [47, 53] s82) v40_0 v81_0 (A86.rd.sub (D := [47, 53]) rfl) ((ap32 (f81_0.c n82)).rd.sub (D := [47, 53]) rfl)) (fun r87 s88 p88 n88 => ?_)
 refine Xc rfl (dn (cd rfl (fun h89 => ?_) (fun h89 => ?_)))
 ·
  refine sr (Xc rfl (dn ?_))
  exact re rfl func4 rfl (Xs rfl Xe) rfl ⟨_, rfl, rfl, z.ky (K79.st (Xq p82 p88) rfl)⟩
 refine sk (sq (sr (Xx v50_0 rfl (Xx w1_0 rfl ?_))))
 have K91 := K79.st (Xq p82 p88) rfl
 refine clO 55 rfl func18 rfl (laws_toRecordS.calls a1 s88.w (mm [0] s88) w1_0 (A1_0.kp K91)) (fun r93 v93_0 s94 p94 A93_0 => ?_)
 have A96 := A50_0.st (tr8 p56 p58 p61 p67 p71 p82 p88 p94) rfl
 refine Ym 56 rfl func20 rfl (laws_eqRecordS.calls r50 r93 s94.w (mm [49, 55] s94) v50_0 v93_0 (A96.rd.sub (D := [49, 55]) rfl) (A93_0.rd.sub (D := [49, 55]) rfl)) (fun r97 s98 p98 n98 => ?_)
 refine Xc rfl (dn (cd rfl (fun h99 => ?_) (fun h99 => ?_)))
 ·
  refine sr (Xc rfl (dn ?_))
  exact re rfl func4 rfl (Xs rfl Xe) rfl ⟨_, rfl, rfl, z.ky (K91.st (Xq p94 p98) rfl)⟩
 refine sk (sr (Xc rfl (dn (sr ?_))))
 refine Xw (es := [v40_0]) (A53.st (tr9 p56 p58 p61 p67 p71 p82 p88 p94 p98) rfl) u32 z32 rfl (Xc rfl ?_)
 obtain ⟨os102, ho102, hn102, hc102⟩ := A86.st (Yi p88 p94 p98) rfl
 refine cl' rfl func13 rfl (laws_markHeap.calls r40 (1 : Int) s98.w (mm [] s98) v40_0 os102 ho102 hn102 (apart_of hc102 rfl)) ?_
 rintro r102 _ w102 m102 ⟨rfl, w102_, ky102⟩
 obtain ⟨s104, rfl, p104, A104⟩ := nwo 57 hc102 ky102 w102_
 refine Xc rfl (dn (sr (Xx v50_0 rfl (Xc rfl ?_))))
 obtain ⟨os106, ho106, hn106, hc106⟩ := A96.st (Xq p98 p104) rfl
 refine cl' rfl func21 rfl (laws_markRecordS.calls r50 r102.1 s104.w (mm [] s104) v50_0 os106 ho106 hn106 (apart_of hc106 rfl)) ?_
 rintro r106 _ w106 m106 ⟨rfl, w106_, ky106⟩
 obtain ⟨s108, rfl, p108, A108⟩ := nwo 58 hc106 ky106 w106_
 refine Xc rfl (dn (sq (sr (Xc rfl (Xc rfl (Xc rfl (ji [8, 9, 10, 11, 12] (fun (y110 : Bool) e w => ∃ (s : St) (e0 : Env), w = s.w ∧ e = upd (upd (upd (upd (upd (upd (upd e0 1 w1_0) 2 (pB b3)) 6 (pB b32)) 7 (iI r29.2)) 10 (pB b58)) 11 (iI r55.2)) 77 (.bool y110) ∧ Kp s0 s ∧ BlF s b58 32 [v55_0] 51 ∧ BlF s b32 32 [v29_0] 46 ∧ BlF s b3 24 [w0_0] 40 ∧ OwF Yp s [v55_0] r55.1.Pages 50 ∧ OwF Yp s [v29_0] r29.1.Pages 45) (fun Gj110 Kj110 => ?_) ?_)))))))
 ·
  rcases Yn (decide (r106.1 < (0 : Int))) with hb110 | hb110
  ·
   refine Xy hb110 ?_
   rw [if_pos hb110]
   refine Xj rfl (Xj rfl (Xj rfl (Xj rfl (Xc rfl ?_))))
   exact Kj110 _ _ _ ⟨s108, _, rfl, (ue (ue (ue (ue (ue (ue (ue rfl rfl) rfl) rfl) rfl) rfl) rfl) rfl), (K91.st (tr4 p94 p98 p104 p108) rfl), (B61.st (tr8 p67 p71 p82 p88 p94 p98 p104 p108) rfl), (A63.st (tr8 p67 p71 p82 p88 p94 p98 p104 p108) rfl), (A37.st (tr4 (tr12 p41 p43 p46 p51 p56 p58 p61 p67 p71 p82 p88 p94) p98 p104 p108) rfl), (A64.st (tr8 p67 p71 p82 p88 p94 p98 p104 p108) rfl), (A65.st (tr8 p67 p71 p82 p88 p94 p98 p104 p108) rfl)⟩
  refine Xy hb110 ?_
  rw [if_neg (by rw [hb110]; decide)]
  have A117 := B61.st (tr8 p67 p71 p82 p88 p94 p98 p104 p108) rfl
  refine Xw (es := [v55_0]) A117 u32 z32 rfl ?_
  have A118 := A63.st (tr8 p67 p71 p82 p88 p94 p98 p104 p108) rfl
  refine Xw (es := [v29_0]) A118 u32 z32 rfl ?_
  have A119 := A64.st (tr8 p67 p71 p82 p88 p94 p98 p104 p108) rfl
  have A120 := A65.st (tr8 p67 p71 p82 p88 p94 p98 p104 p108) rfl
  refine Ym 59 rfl func11 rfl (laws_eqHeap.calls r55.1 r29.1 s108.w (mm [50, 45] s108) v55_0 v29_0 (A119.rd.sub (D := [50, 45]) rfl) (A120.rd.sub (D := [50, 45]) rfl)) (fun r121 s122 p122 n122 => ?_)
  refine Xc rfl (Xc rfl ?_)
  exact Kj110 _ _ _ ⟨s122, _, rfl, (ue (ue (ue (ue (ue (ue (ue rfl rfl) rfl) rfl) rfl) rfl) rfl) rfl), (K91.st (tr5 p94 p98 p104 p108 p122) rfl), (A117.st p122 rfl), (A118.st p122 rfl), (A37.st (tr5 (tr12 p41 p43 p46 p51 p56 p58 p61 p67 p71 p82 p88 p94) p98 p104 p108 p122) rfl), (A119.st p122 rfl), (A120.st p122 rfl)⟩
 rintro y110 _ _ ⟨s129, _, rfl, rfl, Ky110, By110_b58, By110_b32, By110_b3, Cy110_57, Cy110_31⟩
 refine Xc rfl (jy [78, 79, 80, 81, 82] [] 82 (.bool (y110 || (r55.2 != r29.2))) rfl (fun Kg133 => ?_) (fun j133 => ?_))
 ·
  rcases Yn y110 with hb133 | hb133
  ·
   exact Xy hb133 (Xj rfl (Xj rfl (Xj rfl (Xc rfl (Kg133 _ (Ag.put ((Ag.put ((Ag.put ((Ag.put (Ag.base rfl) rfl)) rfl)) rfl)) rfl) (by rw [hb133]; rfl))))))
  exact Xy hb133 (Xc rfl (Xc rfl (Xc rfl (Xc rfl (Kg133 _ (Ag.put ((Ag.put ((Ag.put ((Ag.put (Ag.base rfl) rfl)) rfl)) rfl)) rfl) (by rw [hb133]; rfl))))))
 refine dn (cd rfl (fun h134 => ?_) (fun h134 => ?_))
 ·
  exact sr (Xc rfl (dn (re rfl func4 rfl (Xs rfl Xe) rfl ⟨_, rfl, rfl, z.ky Ky110⟩)))
 refine sk (sr (Xc rfl (dn (sr (Xw (es := [v55_0]) By110_b58 u32 z32 rfl (Xc rfl ?_))))))
 obtain ⟨os135, ho135, hn135, hc135⟩ := Cy110_57
 refine cl' rfl func13 rfl (laws_markHeap.calls r55.1 (1 : Int) s129.w (mm [] s129) v55_0 os135 ho135 hn135 (apart_of hc135 rfl)) ?_
 rintro r135 _ w135 m135 ⟨rfl, w135_, ky135⟩
 obtain ⟨s136, rfl, p136, A136⟩ := nwo 60 hc135 ky135 w135_
 refine Xc rfl (dn (sr (Xc rfl (dn (sr ?_)))))
 have A138 := By110_b58.st p136 rfl
 refine Xw (es := [v55_0]) A138 u32 z32 rfl (Xc rfl (Ym 61 rfl func15 rfl (laws_heldHeap.calls (Heap.mk r135.2) (1 : Int) s136.w (mm [50] s136) v55_0 A136.rd) (fun r139 s140 p140 n140 => ?_)))
 refine Xc rfl (dn (sq (sr (Xc rfl (Xc rfl (dn (cd rfl (fun h141 => ?_) (fun h141 => ?_))))))))
 ·
  refine sr (Xc rfl (dn ?_))
  exact re rfl func4 rfl (Xs rfl Xe) rfl ⟨_, rfl, rfl, z.ky (Ky110.st (Xq p136 p140) rfl)⟩
 refine sk (sq (sr (Xc rfl (Xc rfl (Xc rfl (dn (cd rfl (fun h143 => ?_) (fun h143 => ?_))))))))
 ·
  refine sr (Xc rfl (dn ?_))
  exact re rfl func4 rfl (Xs rfl Xe) rfl ⟨_, rfl, rfl, z.ky (Ky110.st (Xq p136 p140) rfl)⟩
 refine sk (sr ?_)
 refine Xw (es := [w0_0]) (By110_b3.st (Xq p136 p140) rfl) u24 z24 rfl ?_
 have K146 := Ky110.st (Xq p136 p140) rfl
 refine cl' rfl func8 rfl (laws_toHeap.calls a0 s140.w (mm [0] s140) w0_0 (A0_0.kp K146)) ?_
 rintro r148 _ w148 m148 ⟨v148_0, rfl, f148_0, ky148⟩
 obtain ⟨s149, rfl, p149, n149⟩ := nwx s140 w148 62 ky148
 refine Xx w1_0 rfl ?_
 have K151 := K146.st p149 rfl
 refine clO 63 rfl func18 rfl (laws_toRecordS.calls a1 s149.w (mm [0] s149) w1_0 (A1_0.kp K151)) (fun r153 v153_0 s154 p154 A153_0 => ?_)
 refine cl' rfl func19 rfl (impl_RedoAll.calls r148 r153 s154.w (mm [62, 63] s154) v148_0 v153_0 (((ap32 (f148_0.c n149)).st p154 rfl).rd.sub (D := [62, 63]) rfl) (A153_0.rd.sub (D := [62, 63]) rfl)) ?_
 rintro r157 _ w157 m157 ⟨v157_0, rfl, f157_0, ky157⟩
 obtain ⟨s158, rfl, p158, n158⟩ := nwx s154 w157 64 ky157
 refine Xc rfl (Xc (v := (.agg #[v157_0])) rfl (Xc (v := (iI r157.2)) rfl (al' (cs := [(.slice none 0 0)]) 65 rfl o32 rfl (fun b160 s160 p160 B160 => ?_))))
 have A162 := (ap32 (f157_0.c n158)).st p160 rfl
 refine Xu (vs := [v157_0]) B160 z32 rfl (Xb A162.rd.one Xi) rfl (fun s163 p163 B163 => ?_)
 refine Xc rfl (dn (sq (sr (Xw (es := [v157_0]) B163 u32 z32 rfl ?_))))
 refine Xw (es := [v29_0]) (By110_b32.st (tr7 p136 p140 p149 p154 p158 p160 p163) rfl) u32 z32 rfl (Ym 66 rfl func11 rfl (laws_eqHeap.calls r157.1 r29.1 s163.w (mm [64, 45] s163) v157_0 v29_0 ((A162.st p163 rfl).rd.sub (D := [64, 45]) rfl) ((Cy110_31.st (tr7 p136 p140 p149 p154 p158 p160 p163) rfl).rd.sub (D := [64, 45]) rfl)) (fun r168 s169 p169 n169 => ?_))
 refine Xc rfl (Xc rfl (jy [106, 107, 108, 109, 110] [] 110 (.bool ((!r168) || (r157.2 != r29.2))) rfl (fun Kg170 => ?_) (fun j170 => ?_)))
 ·
  rcases Yn (!r168) with hb170 | hb170
  ·
   exact Xy hb170 (Xj rfl (Xj rfl (Xj rfl (Xc rfl (Kg170 _ (Ag.put ((Ag.put ((Ag.put ((Ag.put (Ag.base rfl) rfl)) rfl)) rfl)) rfl) (by rw [hb170]; rfl))))))
  exact Xy hb170 (Xc rfl (Xc rfl (Xc rfl (Xc rfl (Kg170 _ (Ag.put ((Ag.put ((Ag.put ((Ag.put (Ag.base rfl) rfl)) rfl)) rfl)) rfl) (by rw [hb170]; rfl))))))
 refine dn (cd rfl (fun h171 => ?_) (fun h171 => ?_))
 ·
  refine sr (Xc rfl (dn ?_))
  exact re rfl func4 rfl (Xs rfl Xe) rfl ⟨_, rfl, rfl, z.ky (K151.st (tr5 p154 p158 p160 p163 p169) rfl)⟩
 refine sk (sr (Xc rfl (dn (sr ?_))))
 refine Xw (es := [v55_0]) (A138.st (tr7 p140 p149 p154 p158 p160 p163 p169) rfl) u32 z32 rfl (Xc rfl ?_)
 refine Ym 67 rfl func15 rfl (laws_heldHeap.calls (Heap.mk r135.2) (1 : Int) s169.w (mm [50] s169) v55_0 (A136.st (tr7 p140 p149 p154 p158 p160 p163 p169) rfl).rd) (fun r175 s176 p176 n176 => ?_)
 refine Xc rfl (dn (sq (sr (Xc rfl (Xc rfl (dn (cd rfl (fun h177 => ?_) (fun h177 => ?_))))))))
 ·
  refine sr (Xc rfl (dn ?_))
  exact re rfl func4 rfl (Xs rfl Xe) rfl ⟨_, rfl, rfl, z.ky (K151.st (tr6 p154 p158 p160 p163 p169 p176) rfl)⟩
 refine sk (sq (sr (Xc rfl (Xc rfl (Xc rfl (dn (cd rfl (fun h179 => ?_) (fun h179 => ?_))))))))
 ·
  refine sr (Xc rfl (dn ?_))
  exact re rfl func4 rfl (Xs rfl Xe) rfl ⟨_, rfl, rfl, z.ky (K151.st (tr6 p154 p158 p160 p163 p169 p176) rfl)⟩
 refine sk (sr (Xc rfl (dn ?_)))
 exact re rfl func4 rfl (Xs rfl Xe) rfl ⟨_, rfl, rfl, z.ky (K151.st (tr6 p154 p158 p160 p163 p169 p176) rfl)⟩
end Go.Proofs.YtkkpplnhcpjmgaaGreat
